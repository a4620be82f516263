/- 'NatBack' returns true at any rows of limbs. No condition. -/
import Derived.Test.YtgbpaibggpgniaaLawLaws
import Derived.Test.YtgbpaibggpgniaaDivs
namespace Go.Proofs.Ytgbpaibggpgniaa
open Go.RowKit

theorem cb_lim (n : Nat) : cb (lim n) = true := (cb_iff _).2 (canon_lim n)
theorem nt_nil_len {w : World} {L B : Nat} {v : Value} (h : Nt w L B v []) : ∃ A c, v = .slice A 0 c := by
  obtain ⟨A, c, rfl, _⟩ := h
  exact ⟨A, c, rfl⟩

set_option maxHeartbeats 3200000 in
theorem lawBackZero_any (u v : Value) (a b : List Nat) (w : World) (da : Dig a) (db : Dig b) (ha : Nt w 0 w.heap.size u a) (hb_ : Nt w 0 w.heap.size v b) (la : a.length ≤ 40) (lb : b.length ≤ 40) (h0 : val b = 0) :
    Calls Try.prog 7 #[u, v] w fun e w' => e = .returned (.bool true) ∧ Below w.heap.size w w' := by
  obtain ⟨A1, c1, rfl, m1⟩ := nt_len ha
  obtain ⟨A2, c2, rfl, m2⟩ := nt_len hb_
  have e1 : lim (val a / val b) = [] := by rw [h0, Nat.div_zero]; exact lim_zero
  have e2 : lim (remN (val a) (val b)) = [] := by unfold remN; rw [if_pos h0]; exact lim_zero
  have e3 : decide (val b ≠ 0) = false := by rw [h0]; rfl
  have e4 : lim (val b) = [] := by rw [h0]; exact lim_zero
  have hdiv := div_any _ _ a b w da db ha hb_ (by omega) (by omega)
  rw [e1, e2, e3] at hdiv
  have HDIV := Lib.hid hdiv
  have E4 := Lib.hid e4
  clear hdiv e1 e2 e3 e4 h0 ha
  go_enter Try.func7, Try.ntmps7
  have hB : Below w.heap.size w w := Below.refl _ _
  go_wp2_with fail
  refine HDIV.out.mono ?_
  rintro e w1 ⟨v1, y1, rfl, d1, r1, hb⟩
  obtain ⟨A3, c3, rfl⟩ := nt_nil_len d1
  obtain ⟨A4, c4, rfl⟩ := nt_nil_len r1
  replace hb_ := hb_.after hb
  replace hB := hB.trans (hb.mono hB.size)
  clear hb HDIV d1 r1
  go_wp2_with fail
  refine (refTrim_any _ b _ db hb_ (by omega)).mono ?_
  rintro e w2 ⟨v2, rfl, h2, hb⟩
  rw [E4.out] at h2
  obtain ⟨A5, c5, rfl⟩ := nt_nil_len h2
  replace hB := hB.trans (hb.mono hB.size)
  clear hb h2 hb_
  go_wp2_with fail
  refine (known_any _).mono ?_
  rintro e w3 ⟨rfl, hb⟩
  replace hB := hB.trans (hb.mono hB.size)
  go_wp2_with fail
  go_ret
  exact ⟨rfl, hB⟩

set_option maxHeartbeats 3200000 in
theorem lawBackSome_any (u v : Value) (a b : List Nat) (w : World) (da : Dig a) (db : Dig b) (ha : Nt w 0 w.heap.size u a) (hb_ : Nt w 0 w.heap.size v b) (la : a.length ≤ 40) (lb : b.length ≤ 40) (h0 : val b ≠ 0) :
    Calls Try.prog 7 #[u, v] w fun e w' => e = .returned (.bool true) ∧ Below w.heap.size w w' := by
  obtain ⟨A1, c1, rfl, m1⟩ := nt_len ha
  obtain ⟨A2, c2, rfl, m2⟩ := nt_len hb_
  have e2 : remN (val a) (val b) = val a % val b := by unfold remN; rw [if_neg h0]
  have e3 : decide (val b ≠ 0) = true := decide_eq_true h0
  have hdiv := div_any _ _ a b w da db ha hb_ (by omega) (by omega)
  rw [e2, e3] at hdiv
  have HDIV := Lib.hid hdiv
  have dq := dig_lim (val a / val b)
  have dr := dig_lim (val a % val b)
  have lq : (lim (val a / val b)).length ≤ 40 := lim_length_le (Nat.lt_of_le_of_lt (Nat.div_le_self _ _) (Nat.lt_of_lt_of_le (val_lt da) (Nat.pow_le_pow_right (by omega) la)))
  have lr : (lim (val a % val b)).length ≤ 40 := lim_length_le (Nat.lt_of_le_of_lt (Nat.mod_le _ _) (Nat.lt_of_lt_of_le (val_lt da) (Nat.pow_le_pow_right (by omega) la)))
  have lm : (lim (val (lim (val a / val b)) * val b)).length ≤ 80 := lim_mul_len dq db rfl rfl lq lb
  have C1 : Hid (cmpN (val (lim (val a % val b))) (val b) = -1) := by
    show _ = _
    rw [val_lim]
    exact cmpN_lt (Nat.mod_lt _ (by omega))
  have P1 : Hid (val (lim (val (lim (val a / val b)) * val b)) + val (lim (val a % val b)) = val a) := by
    show _ = _
    rw [val_lim, val_lim, val_lim]
    exact Nat.div_add_mod' _ _
  have C2 : Hid (cmpN (val (lim (val a))) (val a) = 0) := cmpN_eq (val_lim _)
  have dp := dig_lim (val (lim (val a / val b)) * val b)
  have ds := dig_lim (val a)
  have ls : (lim (val a)).length ≤ 40 := lim_length_le (Nat.lt_of_lt_of_le (val_lt da) (Nat.pow_le_pow_right (by omega) la))
  have B1 := Lib.hid (cb_lim (val a / val b))
  have B2 := Lib.hid (cb_lim (val a % val b))
  clear hdiv e2 e3 h0
  generalize lim (val a / val b) = q at *
  generalize lim (val a % val b) = r at *
  generalize hp : lim (val q * val b) = p at *
  have HP := Lib.hid hp
  clear hp
  go_enter Try.func7, Try.ntmps7
  have hB : Below w.heap.size w w := Below.refl _ _
  go_wp2_with fail
  refine HDIV.out.mono ?_
  rintro e w1 ⟨v1, y1, rfl, d1', r1', hb⟩
  have d1 := d1'.low (Nat.zero_le _)
  clear d1'
  have r1 := r1'.low (Nat.zero_le _)
  clear r1'
  replace ha := ha.after hb
  replace hb_ := hb_.after hb
  replace hB := hB.trans (hb.mono hB.size)
  clear hb
  clear HDIV
  go_wp2_with fail
  refine (refCmp_any _ _ r b _ dr db r1 hb_ (by omega) (by omega)).mono ?_
  rintro e w2 ⟨rfl, hb⟩
  rw [C1.out]
  replace ha := ha.after hb
  replace hb_ := hb_.after hb
  replace d1 := d1.after hb
  replace r1 := r1.after hb
  replace hB := hB.trans (hb.mono hB.size)
  clear hb
  go_wp2_with fail
  refine (refMul_any _ _ _ _ _ dq db d1 hb_ (by omega) (by omega)).mono ?_
  rintro e w3 ⟨v3, rfl, s1', hb⟩
  have s1 := s1'.low (Nat.zero_le _)
  clear s1'
  replace ha := ha.after hb
  replace hb_ := hb_.after hb
  replace d1 := d1.after hb
  replace r1 := r1.after hb
  replace hB := hB.trans (hb.mono hB.size)
  clear hb
  rw [HP.out] at s1
  go_wp2_with fail
  refine (refAdd_any _ _ _ _ _ dp dr s1 r1 (by omega) (by omega)).mono ?_
  rintro e w4 ⟨v4, rfl, s2', hb⟩
  rw [P1.out] at s2'
  have s2 := s2'.low (Nat.zero_le _)
  clear s2'
  replace ha := ha.after hb
  replace hb_ := hb_.after hb
  replace d1 := d1.after hb
  replace r1 := r1.after hb
  replace s1 := s1.after hb
  replace hB := hB.trans (hb.mono hB.size)
  clear hb
  go_wp2_with fail
  refine (refCmp_any _ _ (lim (val a)) a _ ds da s2 ha (by omega) (by omega)).mono ?_
  rintro e w5 ⟨rfl, hb⟩
  rw [C2.out]
  replace ha := ha.after hb
  replace hb_ := hb_.after hb
  replace d1 := d1.after hb
  replace r1 := r1.after hb
  replace s1 := s1.after hb
  replace s2 := s2.after hb
  replace hB := hB.trans (hb.mono hB.size)
  clear hb
  go_wp2_with fail
  refine (is_any _ q _ _ _ d1).mono ?_
  rintro e w9 ⟨rfl, rfl⟩
  rw [B1.out]
  go_wp2_with fail
  refine (is_any _ r _ _ _ r1).mono ?_
  rintro e w9 ⟨rfl, rfl⟩
  rw [B2.out]
  clear s1 s2
  go_wp2_with fail
  refine (known_any _).mono ?_
  rintro e w6 ⟨rfl, hb⟩
  replace ha := ha.after hb
  replace hb_ := hb_.after hb
  replace d1 := d1.after hb
  replace r1 := r1.after hb
  replace hB := hB.trans (hb.mono hB.size)
  clear hb
  go_wp2_with fail
  go_ret
  exact ⟨rfl, hB⟩

set_option maxHeartbeats 3200000 in
theorem lawBack_any (u v : Value) (a b : List Nat) (w : World) (da : Dig a) (db : Dig b) (ha : Nt w 0 w.heap.size u a) (hb_ : Nt w 0 w.heap.size v b) :
    Calls Try.prog 7 #[u, v] w fun e w' => e = .returned (.bool true) ∧ Below w.heap.size w w' := by
  by_cases la : a.length ≤ 40
  · by_cases lb : b.length ≤ 40
    · by_cases h0 : val b = 0
      · exact lawBackZero_any u v a b w da db ha hb_ la lb h0
      · exact lawBackSome_any u v a b w da db ha hb_ la lb h0
    · obtain ⟨A1, c1, rfl, m1⟩ := nt_len ha
      obtain ⟨A2, c2, rfl, m2⟩ := nt_len hb_
      have hgt : (40 : Int) < (b.length : Int) := by omega
      go_enter Try.func7, Try.ntmps7
      go_wp2
      go_ret
      exact ⟨rfl, Below.refl _ _⟩
  · obtain ⟨A1, c1, rfl, m1⟩ := nt_len ha
    obtain ⟨A2, c2, rfl, m2⟩ := nt_len hb_
    have hgt : (40 : Int) < (a.length : Int) := by omega
    go_enter Try.func7, Try.ntmps7
    go_wp2
    go_ret
    exact ⟨rfl, Below.refl _ _⟩
end Go.Proofs.Ytgbpaibggpgniaa
