/- 'NatShifts' returns true at any row of limbs and any whole number. No condition. -/
import Derived.Test.YtgbpaibggpgniaaLawLaws
import Derived.Test.YtgbpaibggpgniaaShiftAny
namespace Go.Proofs.Ytgbpaibggpgniaa
open Go.RowKit

theorem pow_len (k : Nat) : (lim (2 ^ k)).length ≤ k + 1 := by
  induction k with
  | zero => rw [Nat.pow_zero, lim_one (by omega) (by omega)]; exact Nat.le_refl _
  | succ k ih =>
    rw [Nat.pow_succ]
    exact lim_mul_len (x := lim (2 ^ k)) (y := [2]) (dig_lim _) (dig_one (by omega)) (val_lim _).symm (by simp [val]) ih (Nat.le_refl _)

theorem shiftN_left (v m : Nat) (h : m ≤ 200) : shiftN v (m : Int) = v * 2 ^ m := by
  unfold shiftN
  have e : held12 (m : Int) = (m : Int) := by unfold held12; omega
  rw [e, if_neg (by omega), Int.toNat_natCast]

theorem shiftN_right (v m : Nat) (h : m ≤ 200) : shiftN (v * 2 ^ m) (-(m : Int)) = v := by
  unfold shiftN
  have e : held12 (-(m : Int)) = -(m : Int) := by unfold held12; omega
  rw [e]
  by_cases h0 : m = 0
  · subst h0; simp
  · rw [if_pos (by omega), Int.neg_neg, Int.toNat_natCast, Nat.mul_div_cancel _ (Nat.two_pow_pos m)]

set_option maxHeartbeats 3200000 in
theorem lawShifts_any (u : Value) (a : List Nat) (n : Int) (w : World) (da : Dig a) (ha : Nt w 0 w.heap.size u a) :
    Calls Try.prog 4 #[u, .int .i64 n] w fun e w' => e = .returned (.bool true) ∧ Below w.heap.size w w' := by
  obtain ⟨A1, c1, rfl, m1⟩ := nt_len ha
  by_cases la : a.length ≤ 20
  · by_cases hn0 : n < 0
    · go_enter Try.func4, Try.ntmps4
      go_wp2
      go_ret
      exact ⟨rfl, Below.refl _ _⟩
    by_cases hn1 : (200 : Int) < n
    · go_enter Try.func4, Try.ntmps4
      go_wp2
      go_ret
      exact ⟨rfl, Below.refl _ _⟩
    obtain ⟨m, rfl⟩ : ∃ m : Nat, n = (m : Int) := ⟨n.toNat, by omega⟩
    have hm : m ≤ 200 := by omega
    go_enter Try.func4, Try.ntmps4
    go_wp2_with fail
    have hn1' := nt_laid w 27 [1] (by simp)
    have e1 : (lv [1]).toArray = #[Value.int .u32 1] := rfl
    rw [e1] at hn1'
    obtain ⟨h1, hb0⟩ := hn1'
    clear e1
    replace ha := ha.after hb0
    generalize w.alloc (.cells #[Value.int .u32 1] 27) = w0 at *
    go_loopw [5, 6] (fun o i wr => ∃ (k : Nat), k ≤ m ∧ i = .int .i64 (k : Nat) ∧ Nt wr 0 wr.heap.size o (lim (2 ^ k)) ∧ Below w0.heap.size w0 wr)
      (fun _ i _ => m - (intOf i).toNat)
    case atStart => exact ⟨0, Nat.zero_le _, rfl, by rw [Nat.pow_zero, lim_one (by omega) (by omega)]; exact h1, Below.refl _ _⟩
    case round =>
      obtain ⟨k, hk, rfl, ho, hb⟩ := hrel
      obtain ⟨A2, c2, rfl, m2⟩ := nt_len ho
      by_cases hlt : k < m
      · have hl2 := nt_laid wr 27 [2] (by simp)
        have e1 : (lv [2]).toArray = #[Value.int .u32 2] := rfl
        rw [e1] at hl2
        obtain ⟨h2, hb1⟩ := hl2
        clear e1
        have ho2 := ho.after hb1
        have hpl := pow_len k
        have hm1 := refMul_any _ _ _ _ _ (dig_lim _) (dig_one (by omega)) ho2 h2 (by omega) (by simp)
        have e2 : val (lim (2 ^ k)) * val [2] = 2 ^ (k + 1) := by rw [val_lim, Nat.pow_succ]; simp [val]
        rw [e2] at hm1
        have HM := Lib.hid hm1
        clear e2 hm1 ho ho2 h2 h1 ha da hb0
        generalize lim (2 ^ k) = o2 at *
        go_wp2_with fail
        refine HM.out.mono ?_
        rintro e w2 ⟨v2, rfl, h3, hb2⟩
        have hb3 := hb.trans ((hb1.trans (hb2.mono hb1.size)).mono hb.size)
        have h4 := h3.low (Nat.zero_le _)
        clear h3 hb2 hb1 HM hb
        go_wp2
        go_roundw
        case rel => exact ⟨k + 1, by omega, by go_num, h4, hb3⟩
        case measure => simp [intOf]; omega
      · obtain rfl : k = m := by omega
        replace ha := ha.after hb
        have hB := hb0.trans (hb.mono hb0.size)
        have hpl := pow_len k
        have SL : Hid (shiftN (val a) (k : Int) = val a * 2 ^ k) := shiftN_left _ _ hm
        have SR : Hid (shiftN (val (lim (val a * 2 ^ k))) (-(k : Int)) = val a) := by show _ = _; rw [val_lim]; exact shiftN_right _ _ hm
        have PV : Hid (val a * val (lim (2 ^ k)) = val a * 2 ^ k) := by show _ = _; rw [val_lim]
        have hxl : (lim (val a * 2 ^ k)).length ≤ 20 + (k + 1) := lim_mul_len (x := a) (y := lim (2 ^ k)) da (dig_lim _) rfl (val_lim _).symm la hpl
        clear hb hb0 h1
        generalize hp2 : lim (2 ^ k) = o2 at *
        have P2 := Lib.hid hp2
        have hdo : Dig o2 := by rw [← hp2]; exact dig_lim _
        clear hp2
        go_wp2_with fail
        refine (shift_any _ a _ _ da ha (by omega)).mono ?_
        rintro e w2 ⟨v2, rfl, x1', hb⟩
        have x1 := x1'.low (Nat.zero_le _)
        clear x1'
        replace ha := ha.after hb
        replace ho := ho.after hb
        replace hB := hB.trans (hb.mono hB.size)
        clear hb
        rw [SL.out] at x1
        go_wp2_with fail
        refine (mul_any _ _ _ _ _ da hdo ha ho (by omega) (by omega)).mono ?_
        rintro e w3 ⟨v3, rfl, y1', hb⟩
        have y1 := y1'.low (Nat.zero_le _)
        clear y1'
        replace ha := ha.after hb
        replace ho := ho.after hb
        replace x1 := x1.after hb
        replace hB := hB.trans (hb.mono hB.size)
        clear hb
        rw [PV.out] at y1
        go_wp2_with fail
        refine (limbs_any _ _ _ _ _ x1 y1).mono ?_
        rintro e w4 ⟨rfl, hb⟩
        rw [eqb_rfl]
        replace ha := ha.after hb
        replace ho := ho.after hb
        replace x1 := x1.after hb
        replace y1 := y1.after hb
        replace hB := hB.trans (hb.mono hB.size)
        clear hb
        clear y1 ho
        go_wp2_with fail
        refine (shift_any _ _ _ _ (dig_lim _) x1 (by omega)).mono ?_
        rintro e w5 ⟨v5, rfl, z1', hb⟩
        have z1 := z1'.low (Nat.zero_le _)
        clear z1'
        replace ha := ha.after hb
        replace x1 := x1.after hb
        replace hB := hB.trans (hb.mono hB.size)
        clear hb
        rw [SR.out] at z1
        clear x1
        go_wp2_with fail
        refine (refTrim_any _ a _ da ha (by omega)).mono ?_
        rintro e w6 ⟨v6, rfl, t1', hb⟩
        have t1 := t1'.low (Nat.zero_le _)
        clear t1'
        replace ha := ha.after hb
        replace z1 := z1.after hb
        replace hB := hB.trans (hb.mono hB.size)
        clear hb
        go_wp2_with fail
        refine (limbs_any _ _ _ _ _ z1 t1).mono ?_
        rintro e w7 ⟨rfl, hb⟩
        rw [eqb_rfl]
        replace ha := ha.after hb
        replace z1 := z1.after hb
        replace t1 := t1.after hb
        replace hB := hB.trans (hb.mono hB.size)
        clear hb
        clear z1 t1
        go_wp2_with fail
        refine (known_any _).mono ?_
        rintro e w8 ⟨rfl, hb⟩
        replace ha := ha.after hb
        replace hB := hB.trans (hb.mono hB.size)
        clear hb
        go_wp2_with fail
        go_ret
        exact ⟨rfl, hB⟩
  · have hgt : (20 : Int) < (a.length : Int) := by omega
    go_enter Try.func4, Try.ntmps4
    go_wp2
    go_ret
    exact ⟨rfl, Below.refl _ _⟩
end Go.Proofs.Ytgbpaibggpgniaa
