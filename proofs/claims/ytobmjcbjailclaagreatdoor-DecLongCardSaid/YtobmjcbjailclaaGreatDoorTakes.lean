/- The program's 'takes' by its contract: a product taken away in place. Condition: sizes. -/
import Derived.Test.YtobmjcbjailclaaGreatDoorGuess
namespace Go.Proofs.YtobmjcbjailclaaGreatDoor
set_option maxRecDepth 100000
open Go.RowKit

/-- Two worlds that are the same but for one block. -/
def Apart (g : Nat) (w w' : World) : Prop := Below g w w' ∧ w'.heap.size = w.heap.size ∧ ∀ k, k ≠ g → w'.heap[k]? = w.heap[k]?

section
variable {g : Nat} {w w' w'' : World}
theorem Apart.refl (g : Nat) (w : World) : Apart g w w := ⟨Below.refl _ _, rfl, fun _ _ => rfl⟩
theorem Apart.trans (h : Apart g w w') (h' : Apart g w' w'') : Apart g w w'' := ⟨h.1.trans h'.1, h'.2.1.trans h.2.1, fun k hk => (h'.2.2 k hk).trans (h.2.2 k hk)⟩
theorem Apart.drew (h : Apart g w w') : Apart g w w'.drew := ⟨h.1.drew, h.2.1, h.2.2⟩
theorem Apart.put (h : Apart g w w') (i : Nat) (u : Value) : Apart g w (w'.setCell ⟨g, i, none⟩ u) :=
  ⟨h.1.setCell (Nat.le_refl _) u, by simpa [World.setCell] using h.2.1, fun k hk => (Below.heap_setCell w' ⟨g, i, none⟩ u k hk).trans (h.2.2 k hk)⟩
theorem Apart.lb {h : Nat} {t : TypeId} {x : List Nat} (ha : Apart g w w') (hl : Lb w h t x) (hne : h ≠ g) : Lb w' h t x := (ha.2.2 h hne).trans hl
theorem Apart.cell (ha : Apart g w w') {p : Addr} (hp : p.block ≠ g) : w'.cell? p = w.cell? p := by
  have := ha.2.2 p.block hp
  unfold World.cell?
  rw [this]
theorem Apart.below {B : Nat} (h : Apart g w w') (hB : B ≤ g) : Below B w w' := h.1.mono hB
end

/-- What 'takes' leaves. -/
def TakePost (g : Nat) (xs : List Nat) (P Q D q : Nat) (w : World) (e : Ending) (w' : World) : Prop :=
  ∃ ys, e = .returned (.bool (decide (Q < q))) ∧ Dig ys ∧ ys.length = xs.length ∧ val ys + P * (Q * D) = val xs ∧ Lb w' g 43 ys ∧ Apart g w w'

set_option maxHeartbeats 3200000 in
theorem takes_any (g h i c n : Nat) (xs b : List Nat) (Q q : Nat) (w : World) (hdx : Dig xs) (hdb : Dig b) (hn : b.length = n) (hi : i + n < xs.length) (hc : n + 1 ≤ c) (hgh : h ≠ g)
    (hx : Lb w g 43 xs) (hb : Lb w h 43 b) (hn2 : n ≤ 90000) (hq : q < 4294967296) (hQ1 : Q ≤ q) (hQ2 : q ≤ Q + 1) (hz : Bare xs (i + (n + 1)))
    (hv1 : 4294967296 ^ i * (Q * val b) ≤ val xs) (hv2 : val xs < 4294967296 ^ i * ((Q + 1) * val b)) :
    Calls Tryz.prog 135 #[.slice (some ⟨g, i, none⟩) (n + 1 : Nat) c, .slice (some ⟨h, 0, none⟩) n n, .int .u64 (q : Int)] w (TakePost g xs (4294967296 ^ i) Q (val b) q w) := by
  have HV1 := Lib.hid hv1
  have HV2 := Lib.hid hv2
  have hcap : n + 1 ≤ 90001 := by omega
  clear hv1 hv2
  go_enter Tryz.func135, Tryz.ntmps135
  go_wp2_with fail
  go_loopw [7, 8, 16] (fun a o r wr => ∃ (k cy bw : Nat) (cs : List Nat), k ≤ n ∧ r = .int .i64 (k : Nat) ∧ a = .int .u64 (cy : Nat) ∧ o = .int .u32 (bw : Nat) ∧ cy < 4294967296 ∧ bw ≤ 1 ∧ Dig cs ∧ Hid (cs.length = xs.length) ∧ Hid (TakeAt b xs cs q i cy bw k) ∧ Bare cs (i + (n + 1)) ∧ Lb wr g 43 cs ∧ Apart g w wr)
    (fun _ _ r _ => n - (intOf r).toNat)
  case atStart => exact ⟨0, 0, 0, xs, Nat.zero_le _, rfl, rfl, rfl, by omega, by omega, hdx, rfl, takeAt_zero _ _ _ _, hz, hx, Apart.refl _ _⟩
  case round =>
    obtain ⟨k, cy, bw, cs, hk, rfl, rfl, rfl, hcy, hbw, hdc, HL, HT, hbare, hB, ha⟩ := hrel
    have hkl : i + n < cs.length := by have := HL.out; omega
    by_cases hlt : k < n
    · have hkb : k < b.length := by omega
      have b1 := hdb.at hkb
      have hcb := (ha.lb hb hgh).cell k hkb
      have hik : i + k < cs.length := by omega
      have hx1 := hdc.at hik
      have hcc := hB.cell (i + k) hik
      have hfr := hB.free (i + k)
      have hcar := take_carry hcy hq b1
      have HS := takeAt_step hdc hik hbw (t := cy + q * b[k]) (by rw [getD_in0 hkb]) HT.out
      rw [getD_in0 hik] at HS
      obtain ⟨m, hm0⟩ : ∃ z, q * b[k] = z := ⟨_, rfl⟩
      rw [hm0] at HS hcar
      have hmI : (q : Int) * ((b[k] : Nat) : Int) = (m : Int) := by rw [← hm0]; exact (Int.natCast_mul _ _).symm
      obtain ⟨t, ht0⟩ : ∃ z, cy + m = z := ⟨_, rfl⟩
      have htI : (cy : Int) + (m : Int) = (t : Int) := by omega
      rw [ht0] at HS hcar
      obtain ⟨lo, hlo⟩ : ∃ z, t % 4294967296 = z := ⟨_, rfl⟩
      obtain ⟨hi2, hhi⟩ : ∃ z, t / 4294967296 = z := ⟨_, rfl⟩
      have hloI : (t : Int) % 4294967296 = (lo : Int) := by omega
      have hhiI : (t : Int) / 4294967296 = (hi2 : Int) := by omega
      have hlo2 : lo < 4294967296 := by omega
      have hhi2 : hi2 < 4294967296 := by omega
      have hml : m < 18446744073709551616 := by omega
      have htl : t < 18446744073709551616 := by omega
      rw [hlo, hhi] at HS
      have S := Lib.hid (fun w : World => sub32_any cs[i + k] lo bw w hx1 hlo2 hbw)
      have hyl : (cs[i + k] + 8589934592 - lo - bw) % 4294967296 < 4294967296 := Nat.mod_lt _ (by omega)
      have hd2 := hdc.set (i + k) _ hyl
      have hB2 := hB.put (i + k) ((cs[i + k] + 8589934592 - lo - bw) % 4294967296)
      have ha2 := ha.put (i + k) (.int .u32 (((cs[i + k] + 8589934592 - lo - bw) % 4294967296 : Nat) : Int))
      have hbare2 : Bare (cs.set (i + k) ((cs[i + k] + 8589934592 - lo - bw) % 4294967296)) (i + (n + 1)) := hbare.set (by omega)
      have HL2 : Hid ((cs.set (i + k) ((cs[i + k] + 8589934592 - lo - bw) % 4294967296)).length = xs.length) := by have := HL.out; show _ = _; rw [List.length_set]; exact this
      have hq2 : (if cs[i + k] < lo + bw then 1 else 0) ≤ 1 := by split <;> omega
      generalize cs.set (i + k) ((cs[i + k] + 8589934592 - lo - bw) % 4294967296) = cs2 at *
      generalize cs[i + k] = x at *
      generalize b[k] = v at *
      generalize (x + 8589934592 - lo - bw) % 4294967296 = d at *
      generalize (if x < lo + bw then 1 else 0) = r at *
      have HS2 := Lib.hid HS
      clear hdc HL HT hbare hB ha hkl hm0 ht0 hlo hhi hcar HS hx hdx hz
      have hki : (k : Int) < (n : Int) := by omega
      go_wp2_with fail
      refine (S.out _).mono ?_
      rintro e w3 ⟨rfl, rfl⟩
      clear S
      go_wp2_with fail
      go_roundw
      case rel => exact ⟨k + 1, hi2, r, cs2, by omega, by go_num, rfl, rfl, hhi2, hq2, hd2, HL2, HS2, hbare2, hB2, ha2⟩
      case measure => simp [intOf]; omega
    · obtain rfl : k = n := by omega
      have hik : i + k < cs.length := by omega
      have hx1 := hdc.at hik
      have hcc := hB.cell (i + k) hik
      have hfr := hB.free (i + k)
      have HS := takeAt_step hdc hik hbw (t := cy) (by rw [getD_out0 (by omega)]; rfl) HT.out
      rw [getD_in0 hik, Nat.mod_eq_of_lt hcy, Nat.div_eq_of_lt hcy] at HS
      have hyl : (cs[i + k] + 8589934592 - cy - bw) % 4294967296 < 4294967296 := Nat.mod_lt _ (by omega)
      have hd2 := hdc.set (i + k) _ hyl
      have hB2 := hB.put (i + k) ((cs[i + k] + 8589934592 - cy - bw) % 4294967296)
      have ha2 := ha.put (i + k) (.int .u32 (((cs[i + k] + 8589934592 - cy - bw) % 4294967296 : Nat) : Int))
      have hbare2 : Bare (cs.set (i + k) ((cs[i + k] + 8589934592 - cy - bw) % 4294967296)) (i + (k + 1)) := hbare.set (by omega)
      have HL2 : Hid ((cs.set (i + k) ((cs[i + k] + 8589934592 - cy - bw) % 4294967296)).length = xs.length) := by have := HL.out; show _ = _; rw [List.length_set]; exact this
      have S0 := fun w : World => sub32_any cs[i + k] cy bw w hx1 hcy hbw
      have hcyI : (cy : Int) % 4294967296 = (cy : Int) := by omega
      by_cases hov : cs[i + k] < cy + bw
      · rw [if_pos hov] at HS
        simp only [if_pos hov] at S0
        have S : Hid (∀ w : World, Calls Tryz.prog 92 #[.int .u32 ((cs[i + k] : Nat) : Int), .int .u32 (cy : Int), .int .u32 (bw : Int)] w fun e w' => e = .returned (.tuple #[.int .u32 (((cs[i + k] + 8589934592 - cy - bw) % 4294967296 : Nat) : Int), .int .u32 1]) ∧ w = w') := fun w => S0 w
        generalize cs.set (i + k) ((cs[i + k] + 8589934592 - cy - bw) % 4294967296) = cs2 at *
        generalize cs[i + k] = x at *
        generalize (x + 8589934592 - cy - bw) % 4294967296 = d at *
        have HS2 := Lib.hid HS
        clear hdc HL HT hbare hB ha HS hx hdx hz S0
        go_wp2_with fail
        refine (S.out _).mono ?_
        rintro e w3 ⟨rfl, rfl⟩
        clear S
        go_wp2_with fail
        clear hcc hfr hcyI hov hx1 hyl hcy hbw
        go_loopw [11, 64] (fun o r wr => ∃ (j m : Nat) (c3 : List Nat), j ≤ k ∧ r = .int .i64 (j : Nat) ∧ o = .int .u32 (m : Nat) ∧ m ≤ 1 ∧ Dig c3 ∧ Hid (c3.length = xs.length) ∧ Hid (GiveAt b cs2 c3 i m j) ∧ Bare c3 (i + (k + 1)) ∧ Lb wr g 43 c3 ∧ Apart g w wr)
          (fun _ r _ => k - (intOf r).toNat)
        case atStart => exact ⟨0, 0, cs2, Nat.zero_le _, rfl, rfl, by omega, hd2, HL2, giveAt_zero _ _ _, hbare2, hB2, ha2⟩
        case round =>
          obtain ⟨j, m, c3, hj, rfl, rfl, hm, hdc, HL, HT, hbare, hB, ha⟩ := hrel
          have hkl : i + k < c3.length := by have := HL.out; omega
          by_cases hlt : j < k
          · have hkb : j < b.length := by omega
            have b1 := hdb.at hkb
            have hcb := (ha.lb hb hgh).cell j hkb
            have hik2 : i + j < c3.length := by omega
            have hx1 := hdc.at hik2
            have hcc := hB.cell (i + j) hik2
            have hfr := hB.free (i + j)
            have HS := giveAt_step hik2 HT.out
            rw [getD_in0 hik2, getD_in0 hkb] at HS
            have S := Lib.hid (fun w : World => add32_any c3[i + j] b[j] m w hx1 b1 hm)
            obtain ⟨sm, hsm⟩ : ∃ z, c3[i + j] + b[j] + m = z := ⟨_, rfl⟩
            rw [hsm] at HS S
            have hyl : sm % 4294967296 < 4294967296 := Nat.mod_lt _ (by omega)
            have hm2 : sm / 4294967296 ≤ 1 := by omega
            have hd3 := hdc.set (i + j) _ hyl
            have hB3 := hB.put (i + j) (sm % 4294967296)
            have ha3 := ha.put (i + j) (.int .u32 ((sm % 4294967296 : Nat) : Int))
            have hbare3 : Bare (c3.set (i + j) (sm % 4294967296)) (i + (k + 1)) := hbare.set (by omega)
            have HL3 : Hid ((c3.set (i + j) (sm % 4294967296)).length = xs.length) := by have := HL.out; show _ = _; rw [List.length_set]; exact this
            generalize c3.set (i + j) (sm % 4294967296) = c4 at *
            generalize c3[i + j] = x2 at *
            generalize b[j] = v at *
            generalize sm % 4294967296 = y at *
            generalize sm / 4294967296 = m3 at *
            have HS3 := Lib.hid HS
            clear hdc HL HT hbare hB ha hkl HS hsm hd2 HL2 hbare2 hB2 ha2
            have hki : (j : Int) < (k : Int) := by omega
            go_wp2_with fail
            refine (S.out _).mono ?_
            rintro e w3 ⟨rfl, rfl⟩
            clear S
            go_wp2_with fail
            go_roundw
            case rel => exact ⟨j + 1, m3, c4, by omega, by go_num, rfl, hm2, hd3, HL3, HS3, hbare3, hB3, ha3⟩
            case measure => simp [intOf]; omega
          · obtain rfl : j = k := by omega
            have hx1 := hdc.at hkl
            have hcc := hB.cell (i + j) hkl
            have hfr := hB.free (i + j)
            have HS := giveAt_step hkl HT.out
            rw [getD_in0 hkl, getD_out0 (by omega : b.length ≤ j), Nat.add_zero] at HS
            obtain ⟨sm, hsm⟩ : ∃ z, c3[i + j] + m = z := ⟨_, rfl⟩
            have hsI : ((c3[i + j] : Nat) : Int) + (m : Int) = (sm : Int) := by omega
            rw [hsm] at HS
            have hyl : sm % 4294967296 < 4294967296 := Nat.mod_lt _ (by omega)
            have hm2 : sm / 4294967296 ≤ 1 := by omega
            have hd3 := hdc.set (i + j) _ hyl
            have hB3 := hB.put (i + j) (sm % 4294967296)
            have ha3 := ha.put (i + j) (.int .u32 ((sm % 4294967296 : Nat) : Int))
            have hbare3 : Bare (c3.set (i + j) (sm % 4294967296)) (i + (j + 1)) := hbare.set (by omega)
            have HL3 : Hid ((c3.set (i + j) (sm % 4294967296)).length = xs.length) := by have := HL.out; show _ = _; rw [List.length_set]; exact this
            generalize c3.set (i + j) (sm % 4294967296) = c4 at *
            generalize c3[i + j] = x2 at *
            have hbl : b.length = j := hn
            have hover := takeAt_over (b := b) (by exact hd2) (by rw [hbl]; exact hbare2) (by rw [hbl]; exact HS2.out)
            have hqQ : q = Q + 1 := by
              have h1 : 4294967296 ^ i * (Q * val b) < 4294967296 ^ i * (q * val b) := by have := HV1.out; omega
              have h2 := Nat.lt_of_mul_lt_mul_left h1
              have h3 := Nat.lt_of_mul_lt_mul_right h2
              omega
            have hfin := giveAt_end (b := b) hd3 (by rw [hbl]; exact hbare3) (by rw [hbl]; exact HS2.out) (by rw [hbl]; exact HS) (by omega) (by rw [hqQ]; exact HV1.out) hm2
            rw [hqQ] at hfin
            have HFIN := Lib.hid hfin
            generalize hy : sm % 4294967296 = y at *
            have hyI : (sm : Int) % 4294967296 = (y : Int) := by omega
            clear hy
            clear hdc HL HT hbare hB ha hkl HS hsm hd2 HL2 hbare2 hB2 ha2 hfin hover HS2
            go_wp2_with fail
            go_ret
            exact ⟨c4, by rw [decide_eq_true (by omega)]; rfl, hd3, HL3.out, HFIN.out, hB3, ha3⟩
      · rw [if_neg hov] at HS
        simp only [if_neg hov] at S0
        have S : Hid (∀ w : World, Calls Tryz.prog 92 #[.int .u32 ((cs[i + k] : Nat) : Int), .int .u32 (cy : Int), .int .u32 (bw : Int)] w fun e w' => e = .returned (.tuple #[.int .u32 (((cs[i + k] + 8589934592 - cy - bw) % 4294967296 : Nat) : Int), .int .u32 0]) ∧ w = w') := fun w => S0 w
        generalize cs.set (i + k) ((cs[i + k] + 8589934592 - cy - bw) % 4294967296) = cs2 at *
        generalize cs[i + k] = x at *
        generalize (x + 8589934592 - cy - bw) % 4294967296 = d at *
        have hfit := takeAt_fits (by omega) HS
        have hqQ : q = Q := by
          have h1 : 4294967296 ^ i * (q * val b) < 4294967296 ^ i * ((Q + 1) * val b) := by have := HV2.out; omega
          have h2 := Nat.lt_of_mul_lt_mul_left h1
          have h3 := Nat.lt_of_mul_lt_mul_right h2
          omega
        subst hqQ
        have HFIT := Lib.hid hfit
        clear hdc HL HT hbare hB ha HS hx hdx hz S0 hfit
        go_wp2_with fail
        refine (S.out _).mono ?_
        rintro e w3 ⟨rfl, rfl⟩
        clear S
        go_wp2_with fail
        go_ret
        exact ⟨cs2, by rw [decide_eq_false (by omega)]; rfl, hd2, HL2.out, HFIT.out, hB2, ha2⟩
end Go.Proofs.YtobmjcbjailclaaGreatDoor
