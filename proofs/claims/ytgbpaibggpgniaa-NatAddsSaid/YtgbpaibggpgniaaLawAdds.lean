/- 'NatAdds' returns true at any rows of limbs. No condition. -/
import Derived.Test.YtgbpaibggpgniaaLawLaws
import Derived.Test.YtgbpaibggpgniaaRefSub
import Derived.Test.YtgbpaibggpgniaaAdds
namespace Go.Proofs.Ytgbpaibggpgniaa
open Go.RowKit

set_option maxHeartbeats 3200000 in
theorem lawAdds_any (u v : Value) (a b : List Nat) (w : World) (da : Dig a) (db : Dig b) (ha : Nt w 0 w.heap.size u a) (hb_ : Nt w 0 w.heap.size v b) :
    Calls Try.prog 5 #[u, v] w fun e w' => e = .returned (.bool true) ∧ Below w.heap.size w w' := by
  obtain ⟨A1, c1, rfl, m1⟩ := nt_len ha
  obtain ⟨A2, c2, rfl, m2⟩ := nt_len hb_
  by_cases la : a.length ≤ 20
  · by_cases lb : b.length ≤ 20
    · generalize hbo : decide (val b ≤ val a) = bo at *
      have BO := Lib.hid hbo
      clear hbo
      have hbb : (bo == bo) = true := beq_self_eq_true bo
      generalize hcz : cmpN (val a) (val b) = cz at *
      have CZ := Lib.hid hcz
      clear hcz
      have hcc : (cz == cz) = true := beq_self_eq_true cz
      go_enter Try.func5, Try.ntmps5
      have hB : Below w.heap.size w w := Below.refl _ _
      go_wp2_with fail
      refine (sub_any _ _ a b _ da db ha hb_ (by omega) (by omega)).mono ?_
      rintro e w1 ⟨v1, rfl, d1', hb⟩
      rw [BO.out]
      have d1 := d1'.low (Nat.zero_le _)
      clear d1'
      replace ha := ha.after hb
      replace hb_ := hb_.after hb
      replace hB := hB.trans (hb.mono hB.size)
      clear hb
      go_wp2_with fail
      refine (refSub_any _ _ a b _ da db ha hb_ (by omega) (by omega)).mono ?_
      rintro e w2 ⟨v2, rfl, d2', hb⟩
      rw [BO.out]
      have d2 := d2'.low (Nat.zero_le _)
      clear d2'
      replace ha := ha.after hb
      replace hb_ := hb_.after hb
      replace d1 := d1.after hb
      replace hB := hB.trans (hb.mono hB.size)
      clear hb
      go_wp2_with fail
      refine (add_any _ _ _ _ _ da db ha hb_ (by omega) (by omega)).mono ?_
      rintro e w3 ⟨v3, rfl, s1', hb⟩
      have s1 := s1'.low (Nat.zero_le _)
      clear s1'
      replace ha := ha.after hb
      replace hb_ := hb_.after hb
      replace d1 := d1.after hb
      replace d2 := d2.after hb
      replace hB := hB.trans (hb.mono hB.size)
      clear hb
      go_wp2_with fail
      refine (refAdd_any _ _ _ _ _ da db ha hb_ (by omega) (by omega)).mono ?_
      rintro e w4 ⟨v4, rfl, s2', hb⟩
      have s2 := s2'.low (Nat.zero_le _)
      clear s2'
      replace ha := ha.after hb
      replace hb_ := hb_.after hb
      replace d1 := d1.after hb
      replace d2 := d2.after hb
      replace s1 := s1.after hb
      replace hB := hB.trans (hb.mono hB.size)
      clear hb
      go_wp2_with fail
      refine (limbs_any _ _ _ _ _ s1 s2).mono ?_
      rintro e w5 ⟨rfl, hb⟩
      rw [eqb_rfl]
      replace ha := ha.after hb
      replace hb_ := hb_.after hb
      replace d1 := d1.after hb
      replace d2 := d2.after hb
      replace s1 := s1.after hb
      replace s2 := s2.after hb
      replace hB := hB.trans (hb.mono hB.size)
      clear hb
      clear s1 s2
      go_wp2_with fail
      refine (limbs_any _ _ _ _ _ d1 d2).mono ?_
      rintro e w6 ⟨rfl, hb⟩
      rw [eqb_rfl]
      replace ha := ha.after hb
      replace hb_ := hb_.after hb
      replace d1 := d1.after hb
      replace d2 := d2.after hb
      replace hB := hB.trans (hb.mono hB.size)
      clear hb
      clear d1 d2
      go_wp2_with fail
      refine (mul_any _ _ _ _ _ da db ha hb_ (by omega) (by omega)).mono ?_
      rintro e w7 ⟨v7, rfl, s1', hb⟩
      have s1 := s1'.low (Nat.zero_le _)
      clear s1'
      replace ha := ha.after hb
      replace hb_ := hb_.after hb
      replace hB := hB.trans (hb.mono hB.size)
      clear hb
      go_wp2_with fail
      refine (refMul_any _ _ _ _ _ da db ha hb_ (by omega) (by omega)).mono ?_
      rintro e w8 ⟨v8, rfl, s2', hb⟩
      have s2 := s2'.low (Nat.zero_le _)
      clear s2'
      replace ha := ha.after hb
      replace hb_ := hb_.after hb
      replace s1 := s1.after hb
      replace hB := hB.trans (hb.mono hB.size)
      clear hb
      go_wp2_with fail
      refine (limbs_any _ _ _ _ _ s1 s2).mono ?_
      rintro e w9 ⟨rfl, hb⟩
      rw [eqb_rfl]
      replace ha := ha.after hb
      replace hb_ := hb_.after hb
      replace s1 := s1.after hb
      replace s2 := s2.after hb
      replace hB := hB.trans (hb.mono hB.size)
      clear hb
      clear s1 s2
      go_wp2_with fail
      refine (cmp_any _ _ a b _ da db ha hb_ (by omega) (by omega)).mono ?_
      rintro e w10 ⟨rfl, hb⟩
      rw [CZ.out]
      replace ha := ha.after hb
      replace hb_ := hb_.after hb
      replace hB := hB.trans (hb.mono hB.size)
      clear hb
      go_wp2_with fail
      refine (refCmp_any _ _ a b _ da db ha hb_ (by omega) (by omega)).mono ?_
      rintro e w11 ⟨rfl, hb⟩
      rw [CZ.out]
      replace ha := ha.after hb
      replace hb_ := hb_.after hb
      replace hB := hB.trans (hb.mono hB.size)
      clear hb
      go_wp2_with fail
      refine (known_any _).mono ?_
      rintro e w12 ⟨rfl, hb⟩
      replace ha := ha.after hb
      replace hb_ := hb_.after hb
      replace hB := hB.trans (hb.mono hB.size)
      clear hb
      go_wp2_with fail
      go_ret
      exact ⟨rfl, hB⟩
    · have hgt : (20 : Int) < (b.length : Int) := by omega
      go_enter Try.func5, Try.ntmps5
      go_wp2
      go_ret
      exact ⟨rfl, Below.refl _ _⟩
  · have hgt : (20 : Int) < (a.length : Int) := by omega
    go_enter Try.func5, Try.ntmps5
    go_wp2
    go_ret
    exact ⟨rfl, Below.refl _ _⟩
end Go.Proofs.Ytgbpaibggpgniaa
