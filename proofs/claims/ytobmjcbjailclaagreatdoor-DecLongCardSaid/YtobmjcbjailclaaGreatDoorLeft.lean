/- 'left' by its contract. Condition: a bound on lengths; a shift below 32. -/
import Derived.Test.YtobmjcbjailclaaGreatDoorRefSub
import Derived.Test.YtobmjcbjailclaaGreatDoorNums
namespace Go.Proofs.YtobmjcbjailclaaGreatDoor
set_option maxRecDepth 100000
open Go.RowKit

def LeftPost (a : List Nat) (s n : Nat) (w : World) (e : Ending) (w' : World) : Prop :=
  ∃ c, e = .returned (.slice (some ⟨w.heap.size, 0, none⟩) n n) ∧ Lb w' w.heap.size 43 c ∧ c.length = n ∧ Dig c ∧ val c = val a * 2 ^ s ∧ Below w.heap.size w w'

theorem leftAt_set {a c : List Nat} {s h k d : Nat} (hl : LeftAt a c s h k) : LeftAt a (c.set k d) s h k := by
  unfold LeftAt at hl ⊢
  rw [List.take_set_of_le (Nat.le_refl _)]
  exact hl

set_option maxHeartbeats 3200000 in
theorem left_any (v : Value) (a : List Nat) (s n : Nat) (w : World) (hd : Dig a) (h : Nt w 0 w.heap.size v a) (hl : a.length ≤ 100000) (hs : s ≤ 31) (hn1 : a.length ≤ n) (hn2 : n ≤ a.length + 1) (hf : n = a.length → val a * 2 ^ s < 4294967296 ^ a.length) :
    Calls Tryz.prog 133 #[v, .int .u64 (s : Int), .int .i64 (n : Int)] w (LeftPost a s n w) := by
  obtain ⟨A, c, rfl, hc, hm, _, hx⟩ := h
  have hmk := make_limbs n (n : Int) rfl (by omega)
  have HF := Lib.hid hf
  clear hf
  go_enter Tryz.func133, Tryz.ntmps133
  go_wp2_with fail
  go_loopw [8, 9, 10, 15] (fun _ _ _ i wr => ∃ (k h : Nat) (cs : List Nat), k ≤ a.length ∧ i = .int .i64 (k : Nat) ∧ Dig cs ∧ Hid (cs.length = n) ∧ LeftAt a cs s h k ∧ Hid (k < n → cs.getD k 0 = h) ∧ Bare cs (k + 1) ∧ Lb wr w.heap.size 43 cs ∧ Below w.heap.size w wr)
    (fun _ _ _ i _ => a.length - (intOf i).toNat)
  case atStart => exact ⟨0, 0, _, Nat.zero_le _, rfl, dig_zeros _, List.length_replicate, leftAt_zero _ _ _, fun _ => bare_zeros n 0 0 (Nat.le_refl _), bare_zeros _ _, Lb.made w _ _, (Below.refl _ _).alloc (Nat.le_refl _) _⟩
  case round =>
    obtain ⟨k, h, cs, hk, rfl, hdc, HL, hs0, HC, hbare, hB, hb⟩ := hrel
    have hcl : n ≤ cs.length ∧ cs.length ≤ n := by have := HL.out; omega
    by_cases hlt : k < a.length
    · have b1 := hd.at hlt
      obtain ⟨ba, oa, rfl, _, hba, hcella⟩ := hx (by omega)
      have hca := (hb.cell (p := ⟨ba, oa + k, none⟩) hba).trans (hcella k hlt)
      have hkn : k < cs.length := by omega
      have HS := leftAt_step hd hs hs0 hkn
      rw [getD_at hlt] at HS
      have hp := shl_parts b1 hs
      have hcc := hB.cell k hkn
      have hck : cs[k] = h := by have := HC.out (by omega); rw [getD_at hkn] at this; exact this
      rw [hck] at hcc
      have hfr := hB.free k
      clear hcella hmk
      have hhs := hs0.2
      have hTW := two_pow_le hs
      generalize a[k] = v at *
      have W : IntKind.u64.wrap ((v : Int) * 2 ^ s) = ((v * 2 ^ s : Nat) : Int) := by
        have e : ((v * 2 ^ s : Nat) : Int) = (v : Int) * 2 ^ s := by rw [Int.natCast_mul, Int.natCast_pow]; rfl
        rw [← e]
        have := hp.1
        exact IntWalk.u64_in _ (by omega)
      obtain ⟨m, hm0⟩ : ∃ m, v * 2 ^ s = m := ⟨_, rfl⟩
      rw [hm0] at W HS hp
      clear hm0
      have hmb := hp.2.1
      have hor : bits BinOp.or IntKind.u32 (h : Int) ((m : Int) % 4294967296) = ((h ||| m % 4294967296 : Nat) : Int) := by
        have e : (m : Int) % 4294967296 = ((m % 4294967296 : Nat) : Int) := by omega
        rw [e]
        exact u32_or_nat _ _ (by omega) (Nat.mod_lt _ (by omega))
      have hhi : (m : Int) / 4294967296 % 4294967296 = ((m / 4294967296 : Nat) : Int) := by omega
      have hd1 := hdc.set k (h ||| m % 4294967296) HS.2
      have hB1 := hB.put k (h ||| m % 4294967296)
      have hb1 : Below w.heap.size w (wr.setCell ⟨w.heap.size, k, none⟩ (.int .u32 ((h ||| m % 4294967296 : Nat) : Int))) := hb.setCell (Nat.le_refl _) _
      have HL1 : Hid ((cs.set k (h ||| m % 4294967296)).length = n) := by have := HL.out; show _ = _; rw [List.length_set]; exact this
      have hba1 : Bare (cs.set k (h ||| m % 4294967296)) (k + 1) := hbare.set (Nat.lt_succ_self k)
      have hS1 := HS.1
      have hdor := HS.2
      clear hdc HL hbare hB hb HC hck hs0 HS hp hx
      generalize cs.set k (h ||| m % 4294967296) = c1 at *
      clear hcl hkn
      have hcl : n ≤ c1.length ∧ c1.length ≤ n := by have := HL1.out; omega
      generalize (h ||| m % 4294967296) = d at *
      by_cases hnn : k + 1 < n
      · have hI : (k : Int) + 1 < (n : Int) := by omega
        have hc2 := hB1.cell (k + 1) (by omega)
        have hf2 := hB1.free (k + 1)
        have hd2 := hd1.set (k + 1) (m / 4294967296) (by omega)
        have hB2 := hB1.put (k + 1) (m / 4294967296)
        have hb2 := hb1.setCell (p := ⟨w.heap.size, k + 1, none⟩) (Nat.le_refl _) (.int .u32 ((m / 4294967296 : Nat) : Int))
        have HL2 : Hid ((c1.set (k + 1) (m / 4294967296)).length = n) := by have := HL1.out; show _ = _; rw [List.length_set]; exact this
        have HC2 : Hid (k + 1 < n → (c1.set (k + 1) (m / 4294967296)).getD (k + 1) 0 = m / 4294967296) := fun _ => getD_set_same (by omega)
        have hba2 : Bare (c1.set (k + 1) (m / 4294967296)) (k + 1 + 1) := (hba1.more (Nat.le_succ _)).set (Nat.lt_succ_self _)
        have hS2 := leftAt_set (d := m / 4294967296) hS1
        clear hd1 hB1 hb1 HL1 hba1 hS1
        generalize c1.set (k + 1) (m / 4294967296) = c2 at *
        generalize c1[k + 1] = old at *
        go_wp2
        go_roundw
        case rel => exact ⟨k + 1, m / 4294967296, c2, by omega, by go_num, hd2, HL2, hS2, HC2, hba2, hB2, hb2⟩
        case measure => simp [intOf]; omega
      · have hI : ¬ (k : Int) + 1 < (n : Int) := by omega
        have HC2 : Hid (k + 1 < n → c1.getD (k + 1) 0 = m / 4294967296) := fun hx => absurd hx hnn
        have hba2 : Bare c1 (k + 1 + 1) := hba1.more (Nat.le_succ _)
        clear hba1
        go_wp2
        go_roundw
        case rel => exact ⟨k + 1, m / 4294967296, c1, by omega, by go_num, hd1, HL1, hS1, HC2, hba2, hB1, hb1⟩
        case measure => simp [intOf]; omega
    · obtain rfl : k = a.length := by omega
      have hv : val cs = val a * 2 ^ s := by
        by_cases hn : n = a.length
        · exact leftAt_fit hs0 (by have := HL.out; omega) (HF.out hn)
        · exact leftAt_end hs0 (by have := HL.out; omega) hbare (HC.out (by omega))
      have HV := Lib.hid hv
      clear hv hs0 HC hbare hx hmk hcl
      go_wp2
      go_ret
      exact ⟨cs, rfl, hB, HL.out, hdc, HV.out, hb⟩
end Go.Proofs.YtobmjcbjailclaaGreatDoor
