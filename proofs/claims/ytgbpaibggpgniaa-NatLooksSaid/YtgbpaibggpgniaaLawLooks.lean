/- 'NatLooks' returns true at any row of limbs, any number of 64 bits and any whole number. No condition. -/
import Derived.Test.YtgbpaibggpgniaaLawLaws
import Derived.Test.YtgbpaibggpgniaaShiftAny
import Derived.Test.YtgbpaibggpgniaaRefShift
import Derived.Test.YtgbpaibggpgniaaOfs
import Derived.Test.YtgbpaibggpgniaaRefTo
import Derived.Test.YtgbpaibggpgniaaRefBits
import Derived.OpenShut
namespace Go.Proofs.Ytgbpaibggpgniaa
open Go.RowKit

theorem cb_len {x : List Nat} (hd : Dig x) : (cb x == ((x.length : Int) == ((lim (val x)).length : Int))) = true := by
  rw [beq_cast]
  by_cases hc : Canon x
  · rw [lim_val hd hc, beq_self_eq_true, (cb_iff x).2 hc]
    rfl
  · have h1 : cb x = false := by
      cases h : cb x
      · rfl
      · exact absurd ((cb_iff x).1 h) hc
    have h2 : (x.length == (lim (val x)).length) = false := by
      rw [beq_eq_false_iff_ne]
      intro h
      refine hc ?_
      have := val_inj hd (dig_lim _) h (val_lim _).symm
      rw [this]
      exact canon_lim _
    rw [h1, h2]
    rfl

set_option maxHeartbeats 3200000 in
theorem lawLooks_any (u : Value) (a : List Nat) (m : Nat) (n : Int) (w : World) (da : Dig a) (ha : Nt w 0 w.heap.size u a) (hm : m < 18446744073709551616) :
    Calls Try.prog 6 #[u, .int .u64 (m : Int), .int .i64 n] w fun e w' => e = .returned (.bool true) ∧ Below w.heap.size w w' := by
  obtain ⟨A1, c1, rfl, m1⟩ := nt_len ha
  by_cases la : a.length ≤ 20
  · generalize hbo : decide (val a < 18446744073709551616) = bo at *
    have BO := Lib.hid hbo
    clear hbo
    have hbb : (bo == bo) = true := beq_self_eq_true bo
    generalize htz : ((toN (val a) : Nat) : Int) = tz at *
    have TZ := Lib.hid htz
    clear htz
    have htt : (tz == tz) = true := beq_self_eq_true tz
    generalize hbz : ((bl (val a) : Nat) : Int) = bz at *
    have BZ := Lib.hid hbz
    clear hbz
    have hzz : (bz == bz) = true := beq_self_eq_true bz
    have hcb := cb_len da
    generalize hcc : cb a = ca at *
    have CA := Lib.hid hcc
    clear hcc
    have hdl := dig_lim (val a)
    have hll := lim_val_length a da
    go_enter Try.func6, Try.ntmps6
    have hB : Below w.heap.size w w := Below.refl _ _
    go_wp2_with fail
    refine (refTrim_any _ a _ da ha (by omega)).mono ?_
    rintro e w1 ⟨v1, rfl, t1', hb⟩
    have t1 := t1'.low (Nat.zero_le _)
    clear t1'
    replace ha := ha.after hb
    replace hB := hB.trans (hb.mono hB.size)
    clear hb
    obtain ⟨A2, c2, rfl, m2⟩ := nt_len t1
    go_wp2_with fail
    refine (to_any _ a _ da ha).mono ?_
    rintro e w2 ⟨rfl, rfl⟩
    rw [TZ.out, BO.out]
    go_wp2_with fail
    refine (refTo_any _ a _ da ha (by omega)).mono ?_
    rintro e w3 ⟨rfl, hb⟩
    rw [TZ.out, BO.out]
    replace ha := ha.after hb
    replace t1 := t1.after hb
    replace hB := hB.trans (hb.mono hB.size)
    clear hb
    go_wp2_with fail
    refine (Trim_any _ a _ da ha (by omega)).mono ?_
    rintro e w4 ⟨v4, rfl, t2', hb⟩
    have t2 := t2'.low (Nat.zero_le _)
    clear t2'
    replace ha := ha.after hb
    replace t1 := t1.after hb
    replace hB := hB.trans (hb.mono hB.size)
    clear hb
    go_wp2_with fail
    refine (limbs_any _ _ _ _ _ t2 t1).mono ?_
    rintro e w5 ⟨rfl, hb⟩
    rw [eqb_rfl]
    replace ha := ha.after hb
    replace t1 := t1.after hb
    replace t2 := t2.after hb
    replace hB := hB.trans (hb.mono hB.size)
    clear hb
    clear t2
    go_wp2_with fail
    refine (is_any _ a _ _ _ ha).mono ?_
    rintro e w6 ⟨rfl, rfl⟩
    rw [CA.out]
    go_wp2_with fail
    refine (bits_any _ a _ da ha (by omega)).mono ?_
    rintro e w7 ⟨rfl, rfl⟩
    rw [BZ.out]
    go_wp2_with fail
    refine (refBits_any _ a _ da ha (by omega)).mono ?_
    rintro e w8 ⟨rfl, hb⟩
    rw [BZ.out]
    replace ha := ha.after hb
    replace t1 := t1.after hb
    replace hB := hB.trans (hb.mono hB.size)
    clear hb
    go_wp2_with fail
    refine (of_any m _ hm).mono ?_
    rintro e w9 ⟨v9, rfl, s1', hb⟩
    have s1 := s1'.low (Nat.zero_le _)
    clear s1'
    replace ha := ha.after hb
    replace t1 := t1.after hb
    replace hB := hB.trans (hb.mono hB.size)
    clear hb
    go_wp2_with fail
    refine (refOf_any m _ hm).mono ?_
    rintro e w10 ⟨v10, rfl, s2', hb⟩
    have s2 := s2'.low (Nat.zero_le _)
    clear s2'
    replace ha := ha.after hb
    replace t1 := t1.after hb
    replace s1 := s1.after hb
    replace hB := hB.trans (hb.mono hB.size)
    clear hb
    go_wp2_with fail
    refine (limbs_any _ _ _ _ _ s1 s2).mono ?_
    rintro e w11 ⟨rfl, hb⟩
    rw [eqb_rfl]
    replace ha := ha.after hb
    replace t1 := t1.after hb
    replace s1 := s1.after hb
    replace s2 := s2.after hb
    replace hB := hB.trans (hb.mono hB.size)
    clear hb
    clear s1 s2
    go_wp2_with fail
    refine (shift_any _ a n _ da ha (by omega)).mono ?_
    rintro e w12 ⟨v12, rfl, s1', hb⟩
    have s1 := s1'.low (Nat.zero_le _)
    clear s1'
    replace ha := ha.after hb
    replace t1 := t1.after hb
    replace hB := hB.trans (hb.mono hB.size)
    clear hb
    go_wp2_with fail
    refine (refShift_any _ a n _ da ha (by omega)).mono ?_
    rintro e w13 ⟨v13, rfl, s2', hb⟩
    have s2 := s2'.low (Nat.zero_le _)
    clear s2'
    replace ha := ha.after hb
    replace t1 := t1.after hb
    replace s1 := s1.after hb
    replace hB := hB.trans (hb.mono hB.size)
    clear hb
    go_wp2_with fail
    refine (limbs_any _ _ _ _ _ s1 s2).mono ?_
    rintro e w14 ⟨rfl, hb⟩
    rw [eqb_rfl]
    replace ha := ha.after hb
    replace t1 := t1.after hb
    replace s1 := s1.after hb
    replace s2 := s2.after hb
    replace hB := hB.trans (hb.mono hB.size)
    clear hb
    clear s1 s2
    go_wp2_with fail
    refine (known_any _).mono ?_
    rintro e w15 ⟨rfl, hb⟩
    replace ha := ha.after hb
    replace t1 := t1.after hb
    replace hB := hB.trans (hb.mono hB.size)
    clear hb
    go_wp2_with fail
    go_ret
    exact ⟨rfl, hB⟩
  · have hgt : (20 : Int) < (a.length : Int) := by omega
    go_enter Try.func6, Try.ntmps6
    go_wp2
    go_ret
    exact ⟨rfl, Below.refl _ _⟩

theorem lawLooks_int (u : Value) (a : List Nat) (z n : Int) (w : World) (hz : (Lit.int .u64 z).wf = true) (da : Dig a) (ha : Nt w 0 w.heap.size u a) :
    Calls Try.prog 6 #[u, .int .u64 z, .int .i64 n] w fun e w' => e = .returned (.bool true) ∧ Below w.heap.size w w' := by
  have h : 0 ≤ z ∧ z < 18446744073709551616 := by
    have := Go.bounds_u64 hz
    omega
  obtain ⟨m, rfl⟩ : ∃ m : Nat, z = (m : Int) := ⟨z.toNat, by omega⟩
  exact lawLooks_any u a m n w da ha (by omega)
end Go.Proofs.Ytgbpaibggpgniaa
