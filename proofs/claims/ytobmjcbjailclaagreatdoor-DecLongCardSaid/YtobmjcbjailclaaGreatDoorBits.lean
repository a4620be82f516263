/- 'bits.Len32', 'Bits' and the reference's 'Bits' by their contracts. Condition: a bound on lengths. -/
import Derived.Test.YtobmjcbjailclaaGreatDoorRefShiftL
import Derived.Lib.BitFns
import Derived.Outline
namespace Go.Proofs.YtobmjcbjailclaaGreatDoor
set_option maxRecDepth 100000
open Go.RowKit

theorem tab_at (i : Int) (h0 : 0 ≤ i) (h1 : i ≤ 255) (h : i.toNat < Lib.len8tab.size) : ((Lib.len8tab[i.toNat]'h).toNat : Int) = (Lib.bitLen i.toNat : Int) ∧ Lib.bitLen i.toNat ≤ 8 := by
  refine ⟨?_, Lib.bitLen_le8' i h0 h1⟩
  have e := Lib.len8_of i h0 h1
  unfold Lib.len8 at e
  rw [getElem?_pos Lib.len8tab i.toNat h] at e
  exact e

theorem wrap_small (z : Int) (h0 : 0 ≤ z) (h1 : z ≤ 100000) : wrap64 z = z := by
  unfold wrap64
  omega

set_option maxHeartbeats 4000000 in
set_option maxRecDepth 100000 in
theorem len32_any (x : Int) (w : World) (h0 : 0 ≤ x) (h1 : x ≤ 4294967295) :
    Calls Tryz.prog 93 #[.int .u32 x] w fun e w' => e = .returned (.int .i64 (Lib.bitLen x.toNat)) ∧ w = w' := by
  have sz : (Lib.len8tab.size : Int) = 256 := by rw [Lib.len8tab_size]; rfl
  have sn := Lib.len8tab_size
  go_enter Tryz.func93, Tryz.ntmps93
  go_wp2
  all_goals (go_ret; refine ⟨congrArg Ending.returned (congrArg (Value.int IntKind.i64) ?_), rfl⟩)
  all_goals first
    | (have q := tab_at (x / 65536 / 256) (by omega) (by omega) (by rw [sn]; omega)
       rw [q.1]
       have l := q.2
       have e : (x / 65536 / 256).toNat = x.toNat / 16777216 := by omega
       have s := Lib.bitLen_shift24 x.toNat (by omega) (by omega)
       clear q
       rw [e] at l ⊢
       generalize Lib.bitLen (x.toNat / 16777216) = L1 at *
       rw [wrap_small (L1 : Int) (by omega) (by omega), wrap_small _ (by omega) (by omega)]
       omega)
    | (have q := tab_at (x / 65536) (by omega) (by omega) (by rw [sn]; omega)
       rw [q.1]
       have l := q.2
       have e : (x / 65536).toNat = x.toNat / 65536 := by omega
       have s := Lib.bitLen_shift16 x.toNat (by omega) (by omega)
       clear q
       rw [e] at l ⊢
       generalize Lib.bitLen (x.toNat / 65536) = L1 at *
       rw [wrap_small (L1 : Int) (by omega) (by omega), wrap_small _ (by omega) (by omega)]
       omega)
    | (have q := tab_at (x / 256) (by omega) (by omega) (by rw [sn]; omega)
       rw [q.1]
       have l := q.2
       have e : (x / 256).toNat = x.toNat / 256 := by omega
       have s := Lib.bitLen_shift8 x.toNat (by omega) (by omega)
       clear q
       rw [e] at l ⊢
       generalize Lib.bitLen (x.toNat / 256) = L1 at *
       rw [wrap_small (L1 : Int) (by omega) (by omega), wrap_small _ (by omega) (by omega)]
       omega)
    | (have q := tab_at (x) (by omega) (by omega) (by rw [sn]; omega)
       rw [q.1]
       have l := q.2
       clear q
       generalize Lib.bitLen (x.toNat) = L1 at *
       rw [wrap_small (L1 : Int) (by omega) (by omega), wrap_small _ (by omega) (by omega)])

/-- How many bits a number takes. -/
def bl (n : Nat) : Nat := if h : n = 0 then 0 else 1 + bl (n / 2)
termination_by n
decreasing_by omega

theorem bl_zero : bl 0 = 0 := by rw [bl]; rfl
theorem bl_pos {n : Nat} (h : n ≠ 0) : bl n = 1 + bl (n / 2) := by rw [bl, dif_neg h]

theorem bl_shift : ∀ (k n : Nat), n / 2 ^ k ≠ 0 → bl n = k + bl (n / 2 ^ k)
  | 0, n, _ => by rw [Nat.pow_zero, Nat.div_one, Nat.zero_add]
  | k + 1, n, h => by
    have e : n / 2 ^ (k + 1) = n / 2 / 2 ^ k := by rw [Nat.div_div_eq_div_mul, Nat.pow_succ, Nat.mul_comm]
    rw [e] at h ⊢
    have h0 : n ≠ 0 := by
      intro h1
      subst h1
      exact h (by simp)
    rw [bl_pos h0, bl_shift k (n / 2) h]
    omega

theorem bl_lib (n : Nat) : n < 2 ^ 64 → Lib.bitLen n = bl n := by
  induction n using Nat.strongRecOn with
  | _ n ih =>
    intro h
    by_cases h0 : n = 0
    · subst h0; rw [bl_zero]; rfl
    · rw [Lib.bitLen_half n h0 h, bl_pos h0, ih (n / 2) (by omega) (by omega)]

/-- The last limb, and what lies before it. -/
theorem bl_val {p : List Nat} {k : Nat} (hd : Dig p) (hk : p.length = k + 1) (hc : p.getD k 0 ≠ 0) : bl (val p) = 32 * k + bl (p.getD k 0) := by
  have e := val_take_getD p k
  rw [List.take_of_length_le (by omega)] at e
  have h1 := val_lt (hd.take k)
  rw [List.length_take, Nat.min_eq_left (by omega)] at h1
  have p1 : 0 < 4294967296 ^ k := Nat.pow_pos (by omega)
  have e2 : val p / 2 ^ (32 * k) = p.getD k 0 := by
    rw [← base_pow, e, Nat.add_mul_div_left _ _ p1, Nat.div_eq_of_lt h1, Nat.zero_add]
  rw [bl_shift (32 * k) (val p) (by rw [e2]; exact hc), e2]

theorem lim_last {v k : Nat} (h : (lim v).length = k + 1) : (lim v).getD k 0 ≠ 0 := by
  have hc := canon_lim v
  have hne : lim v ≠ [] := by intro h0; rw [h0] at h; simp at h
  have := hc ((lim v).getLast hne) ((lim v).dropLast) (List.dropLast_concat_getLast hne).symm
  rw [List.getD_eq_getElem?_getD, List.getElem?_eq_getElem (by omega)]
  rw [List.getLast_eq_getElem] at this
  have e : (lim v).length - 1 = k := by omega
  simp only [e] at this
  exact this

set_option maxHeartbeats 800000 in
theorem bits_any (v : Value) (x : List Nat) (w : World) (hd : Dig x) (h : Nt w 0 w.heap.size v x) (hl : x.length ≤ 100000) :
    Calls Tryz.prog 55 #[v] w fun e w' => e = .returned (.int .i64 ((bl (val x) : Nat) : Int)) ∧ w = w' := by
  have hxl := limBd' hd _ hl
  have hdp := dig_lim (val x)
  have vx := val_lim (val x)
  have hlast : ∀ k, (lim (val x)).length = k + 1 → (lim (val x)).getD k 0 ≠ 0 := fun k hk => lim_last hk
  have HLast := Lib.hid hlast
  have VX := Lib.hid vx
  clear hlast vx
  go_enter Tryz.func55, Tryz.ntmps55
  go_wp2_with fail
  refine (trim_any _ x _ _ _ hd h).mono ?_
  rintro e w1 ⟨v1, rfl, h1, rfl⟩
  generalize lim (val x) = p at *
  obtain ⟨A, c, rfl, hc, hm, _, hx⟩ := h1
  by_cases h0 : p.length = 0
  · have e1 : bl (val x) = 0 := by
      rw [← VX.out]
      obtain rfl := List.eq_nil_of_length_eq_zero h0
      rw [show val [] = 0 from rfl]
      exact bl_zero
    have E1 := Lib.hid e1
    clear e1
    go_wp2
    go_ret
    exact ⟨by rw [E1.out]; rfl, rfl⟩
  · obtain ⟨k, hk⟩ : ∃ k, p.length = k + 1 := ⟨p.length - 1, by omega⟩
    have e1 := bl_val hdp hk (HLast.out k hk)
    rw [VX.out] at e1
    obtain ⟨b, off, rfl, _, hbl, hcell⟩ := hx (by omega)
    have hca := hcell k (by omega)
    have b1 := hdp.at (show k < p.length by omega)
    have hgk : p.getD k 0 = p[k] := getD_at (by omega)
    rw [hgk] at e1
    clear hgk
    generalize p[k] = y at *
    have e2 := bl_lib y (by omega)
    have h8 : bl y ≤ 32 := by rw [← e2]; exact Lib.bitLen_le y 32 (by omega) (by omega)
    have hlen := len32_any (y : Int) w (by omega) (by omega)
    rw [Int.toNat_natCast, e2] at hlen
    have HLEN := Lib.hid hlen
    have E1 := Lib.hid e1
    have hk1 : (p.length : Int) - 1 = (k : Int) := by omega
    have hk2 : ¬ p.length = 0 := h0
    have hk3 : (k : Int) < (p.length : Int) := by omega
    have hk4 : k ≤ 100000 := by omega
    clear e1 e2 hlen hcell hx HLast hk
    generalize bl y = L1 at *
    go_wp2_with fail
    refine HLEN.out.mono ?_
    rintro e w2 ⟨rfl, rfl⟩
    go_wp2
    go_ret
    exact ⟨by rw [E1.out]; rfl, rfl⟩
end Go.Proofs.YtobmjcbjailclaaGreatDoor
