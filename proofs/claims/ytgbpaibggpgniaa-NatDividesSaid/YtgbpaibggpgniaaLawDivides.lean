/- 'NatDivides' returns true at any rows of limbs. No condition. -/
import Derived.Test.YtgbpaibggpgniaaLawLaws
import Derived.Test.YtgbpaibggpgniaaDivs
namespace Go.Proofs.Ytgbpaibggpgniaa
open Go.RowKit

set_option maxHeartbeats 3200000 in
theorem lawDivides_any (u v : Value) (a b : List Nat) (w : World) (da : Dig a) (db : Dig b) (ha : Nt w 0 w.heap.size u a) (hb_ : Nt w 0 w.heap.size v b) :
    Calls Try.prog 8 #[u, v] w fun e w' => e = .returned (.bool true) ∧ Below w.heap.size w w' := by
  obtain ⟨A1, c1, rfl, m1⟩ := nt_len ha
  obtain ⟨A2, c2, rfl, m2⟩ := nt_len hb_
  by_cases la : a.length ≤ 8
  · by_cases lb : b.length ≤ 8
    · obtain ⟨bo, hbo⟩ : ∃ bo, decide (val b ≠ 0) = bo := ⟨_, rfl⟩
      have BO := Lib.hid hbo
      clear hbo
      have hbb : (bo == bo) = true := beq_self_eq_true bo
      go_enter Try.func8, Try.ntmps8
      have hB : Below w.heap.size w w := Below.refl _ _
      go_wp2_with fail
      refine (div_any _ _ a b _ da db ha hb_ (by omega) (by omega)).mono ?_
      rintro e w1 ⟨v1, y1, rfl, d1', r1', hb⟩
      rw [BO.out]
      have d1 := d1'.low (Nat.zero_le _)
      clear d1'
      have r1 := r1'.low (Nat.zero_le _)
      clear r1'
      replace ha := ha.after hb
      replace hb_ := hb_.after hb
      replace hB := hB.trans (hb.mono hB.size)
      clear hb
      go_wp2_with fail
      refine (refDiv_any _ _ a b _ da db ha hb_ (by omega) (by omega)).mono ?_
      rintro e w2 ⟨v2, y2, rfl, d2', r2', hb⟩
      rw [BO.out]
      have d2 := d2'.low (Nat.zero_le _)
      clear d2'
      have r2 := r2'.low (Nat.zero_le _)
      clear r2'
      replace ha := ha.after hb
      replace hb_ := hb_.after hb
      replace d1 := d1.after hb
      replace r1 := r1.after hb
      replace hB := hB.trans (hb.mono hB.size)
      clear hb
      go_wp2_with fail
      refine (limbs_any _ _ _ _ _ d1 d2).mono ?_
      rintro e w3 ⟨rfl, hb⟩
      rw [eqb_rfl]
      replace ha := ha.after hb
      replace hb_ := hb_.after hb
      replace d1 := d1.after hb
      replace r1 := r1.after hb
      replace d2 := d2.after hb
      replace r2 := r2.after hb
      replace hB := hB.trans (hb.mono hB.size)
      clear hb
      clear d1 d2
      go_wp2_with fail
      refine (limbs_any _ _ _ _ _ r1 r2).mono ?_
      rintro e w4 ⟨rfl, hb⟩
      rw [eqb_rfl]
      replace ha := ha.after hb
      replace hb_ := hb_.after hb
      replace r1 := r1.after hb
      replace r2 := r2.after hb
      replace hB := hB.trans (hb.mono hB.size)
      clear hb
      clear r1 r2
      go_wp2_with fail
      refine (gcd_any _ _ _ _ _ da db ha hb_ (by omega) (by omega)).mono ?_
      rintro e w5 ⟨v5, rfl, s1', hb⟩
      have s1 := s1'.low (Nat.zero_le _)
      clear s1'
      replace ha := ha.after hb
      replace hb_ := hb_.after hb
      replace hB := hB.trans (hb.mono hB.size)
      clear hb
      go_wp2_with fail
      refine (refGcd_any _ _ _ _ _ da db ha hb_ (by omega) (by omega)).mono ?_
      rintro e w6 ⟨v6, rfl, s2', hb⟩
      have s2 := s2'.low (Nat.zero_le _)
      clear s2'
      replace ha := ha.after hb
      replace hb_ := hb_.after hb
      replace s1 := s1.after hb
      replace hB := hB.trans (hb.mono hB.size)
      clear hb
      go_wp2_with fail
      refine (limbs_any _ _ _ _ _ s1 s2).mono ?_
      rintro e w7 ⟨rfl, hb⟩
      rw [eqb_rfl]
      replace ha := ha.after hb
      replace hb_ := hb_.after hb
      replace s1 := s1.after hb
      replace s2 := s2.after hb
      replace hB := hB.trans (hb.mono hB.size)
      clear hb
      clear s1 s2
      go_wp2_with fail
      refine (known_any _).mono ?_
      rintro e w8 ⟨rfl, hb⟩
      replace ha := ha.after hb
      replace hb_ := hb_.after hb
      replace hB := hB.trans (hb.mono hB.size)
      clear hb
      go_wp2_with fail
      go_ret
      exact ⟨rfl, hB⟩
    · have hgt : (8 : Int) < (b.length : Int) := by omega
      go_enter Try.func8, Try.ntmps8
      go_wp2
      go_ret
      exact ⟨rfl, Below.refl _ _⟩
  · have hgt : (8 : Int) < (a.length : Int) := by omega
    go_enter Try.func8, Try.ntmps8
    go_wp2
    go_ret
    exact ⟨rfl, Below.refl _ _⟩
end Go.Proofs.Ytgbpaibggpgniaa
