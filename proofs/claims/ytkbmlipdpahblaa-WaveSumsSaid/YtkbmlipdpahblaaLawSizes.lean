/- 'WaveSizes' returns true at any two numbers of two whole parts. No condition. -/
import Derived.Test.YtkbmlipdpahblaaTurn
import Derived.Lib.Hide
namespace Go.Proofs.Ytkbmlipdpahblaa
open Go.RowKit

/-- A product of two numbers of two whole parts. -/
theorem cmul_is {a b c d : Nat} {A B C D : Int} (ha : Is a A) (hb : Is b B) (hc : Is c C) (hd : Is d D)
    (h1 : (A * C).natAbs < 2 ^ 53) (h2 : (B * D).natAbs < 2 ^ 53) (h3 : (A * D).natAbs < 2 ^ 53) (h4 : (B * C).natAbs < 2 ^ 53)
    (h5 : (A * C - B * D).natAbs < 2 ^ 53) (h6 : (A * D + B * C).natAbs < 2 ^ 53) :
    ∃ re im, cMulBits a b c d = some (re, im) ∧ Is re (A * C - B * D) ∧ Is im (A * D + B * C) := by
  obtain ⟨r1, e1, i1⟩ := mul_is ha hc h1
  obtain ⟨r2, e2, i2⟩ := mul_is hb hd h2
  obtain ⟨r3, e3, i3⟩ := sub_is i1 i2 h5
  obtain ⟨r4, e4, i4⟩ := mul_is ha hd h3
  obtain ⟨r5, e5, i5⟩ := mul_is hb hc h4
  obtain ⟨r6, e6, i6⟩ := sum_is i4 i5 h6
  refine ⟨r3, r6, ?_, i3, i6⟩
  unfold cMulBits
  simp [e1, e2, e3, e4, e5, e6]

theorem zero_is : Is 0 0 := by
  have := is_of_int 0 (by decide)
  exact this

theorem one_is : Is 4607182418800017408 1 := by
  have h := is_of_int 1 (by decide)
  have e : floatOfInt .f64 1 = 4607182418800017408 := by decide +kernel
  rw [e] at h
  exact h

theorem neg_is {b : Nat} {B : Int} (hb : Is b B) (h : B.natAbs < 2 ^ 53) : ∃ r, floatBits .sub .f64 0 b = some r ∧ Is r (-B) := by
  obtain ⟨r, e, i⟩ := sub_is zero_is hb (by omega)
  exact ⟨r, e, by have : (0 : Int) - B = -B := by omega
                  rw [← this]; exact i⟩

/-- A product of two numbers whose sizes are bounded is bounded. -/
theorem mul_bd {x y m n : Int} (hx : -m ≤ x ∧ x ≤ m) (hy : -n ≤ y ∧ y ≤ n) : -(m * n) ≤ x * y ∧ x * y ≤ m * n := by
  have h1 : x.natAbs ≤ m.natAbs := by omega
  have h2 : y.natAbs ≤ n.natAbs := by omega
  have h3 := Nat.mul_le_mul h1 h2
  rw [← Int.natAbs_mul, ← Int.natAbs_mul] at h3
  have h4 : 0 ≤ m * n := Int.mul_nonneg (by omega) (by omega)
  omega

/-- The size of a number: what 'Size' needs of the bits. -/
theorem size_is {a b : Nat} {A B M : Int} (ha : Is a A) (hb : Is b B) (hA : -M ≤ A ∧ A ≤ M) (hB : -M ≤ B ∧ B ≤ M) (hM : M * M ≤ 4000000000000000) (hM0 : M ≤ 100000000) :
    ∃ im re im2, floatBits .sub .f64 0 b = some im ∧ cMulBits a b a im = some (re, im2) ∧ Is im (-B) ∧ Is re (A * A + B * B) ∧ Is im2 0 := by
  obtain ⟨im, e1, i1⟩ := neg_is hb (by omega)
  have hN : -M ≤ -B ∧ -B ≤ M := by omega
  have q1 := mul_bd hA hA
  have q2 := mul_bd hB hN
  have q3 := mul_bd hA hN
  have q4 := mul_bd hB hA
  obtain ⟨re, im2, e2, i2, i3⟩ := cmul_is ha hb ha i1 (by omega) (by omega) (by omega) (by omega) (by omega) (by omega)
  refine ⟨im, re, im2, e1, e2, i1, ?_, ?_⟩
  · have : A * A - B * -B = A * A + B * B := by rw [Int.mul_neg]; omega
    rw [← this]; exact i2
  · have : A * -B + B * A = 0 := by rw [Int.mul_neg, Int.mul_comm B A]; omega
    rw [← this]; exact i3

theorem tmod_bd' (z : Int) : -4095 ≤ z.tmod 4096 ∧ z.tmod 4096 ≤ 4095 := by
  have h1 : (z.tmod 4096).natAbs < 4096 := by rw [Int.natAbs_tmod]; exact Nat.mod_lt _ (by decide)
  omega

theorem norms (A B C D : Int) : (A * C - B * D) * (A * C - B * D) + (A * D + B * C) * (A * D + B * C) = (A * A + B * B) * (C * C + D * D) := by grind

set_option maxHeartbeats 1600000 in
theorem lawSizes_any (a1 a2 b1 b2 : Int) (w : World) :
    Calls Try.prog 6 #[.agg #[.int .i64 a1, .int .i64 a2], .agg #[.int .i64 b1, .int .i64 b2]] w fun e w' => e = .returned (.bool true) ∧ Below w.heap.size w w' := by
  have hA := tmod_bd' a1
  have hB := tmod_bd' a2
  have hC := tmod_bd' b1
  have hD := tmod_bd' b2
  have iA := is_of_int (a1.tmod 4096) (by omega)
  have iB := is_of_int (a2.tmod 4096) (by omega)
  have iC := is_of_int (b1.tmod 4096) (by omega)
  have iD := is_of_int (b2.tmod 4096) (by omega)
  have q1 := mul_bd hA hC
  have q2 := mul_bd hB hD
  have q3 := mul_bd hA hD
  have q4 := mul_bd hB hC
  have q5 := mul_bd hA hA
  have q6 := mul_bd hB hB
  have q7 := mul_bd hC hC
  have q8 := mul_bd hD hD
  obtain ⟨pr, pi, eP, iP, iQ⟩ := cmul_is iA iB iC iD (by omega) (by omega) (by omega) (by omega) (by omega) (by omega)
  obtain ⟨qr, qi, eQ, jP, jQ⟩ := cmul_is iC iD iA iB (by rw [Int.mul_comm]; omega) (by rw [Int.mul_comm]; omega) (by rw [Int.mul_comm]; omega) (by rw [Int.mul_comm]; omega) (by rw [Int.mul_comm, Int.mul_comm (b2.tmod 4096)]; omega) (by rw [Int.mul_comm, Int.mul_comm (b2.tmod 4096)]; omega)
  obtain ⟨zm, zr, zi, eZ1, eZ2, kZm, kZr, kZi⟩ := size_is (M := 40000000) iP iQ (by omega) (by omega) (by decide) (by decide)
  obtain ⟨xm, xr, xi, eX1, eX2, kXm, kXr, kXi⟩ := size_is (M := 4095) iA iB hA hB (by decide) (by decide)
  obtain ⟨ym, yr, yi, eY1, eY2, kYm, kYr, kYi⟩ := size_is (M := 4095) iC iD hC hD (by decide) (by decide)
  have q9 := mul_bd (x := a1.tmod 4096 * a1.tmod 4096 + a2.tmod 4096 * a2.tmod 4096) (y := b1.tmod 4096 * b1.tmod 4096 + b2.tmod 4096 * b2.tmod 4096) (m := 33538050) (n := 33538050) (by omega) (by omega)
  obtain ⟨m, eM, iM⟩ := mul_is kXr kYr (by omega)
  have o1 := eq_is kZr iM (norms _ _ _ _)
  have o2 := eq_is iP jP (by rw [Int.mul_comm (a1.tmod 4096), Int.mul_comm (a2.tmod 4096)])
  have o3 := eq_is iQ jQ (by rw [Int.mul_comm (a1.tmod 4096), Int.mul_comm (a2.tmod 4096)]; omega)
  have o4 := eq_is kXr kXr rfl
  have o5 := eq_is kXi zero_is rfl
  have hm := fun w => run_float_arith (P := Try.prog) w .mul 28 .f64 xr yr m eM
  clear iA iB iC iD q1 q2 q3 q4 q5 q6 q7 q8 q9 iP iQ jP jQ kZm kZr kZi kXm kXr kXi kYm kYr kYi iM eM hA hB hC hD
  unfold fl at *
  have HP := Lib.hid eP
  have HQ := Lib.hid eQ
  have HZ1 := Lib.hid eZ1
  have HZ2 := Lib.hid eZ2
  have HX1 := Lib.hid eX1
  have HX2 := Lib.hid eX2
  have HY1 := Lib.hid eY1
  have HY2 := Lib.hid eY2
  clear eP eQ eZ1 eZ2 eX1 eX2 eY1 eY2
  go_enter Try.func6, Try.ntmps6
  go_wp2_with fail
  refine (gauss_any _ _ _).mono ?_
  rintro e w1 ⟨rfl, hb1⟩
  unfold fl
  have hB2 := (Blk.new (w.alloc (.cells #[.int .i64 a1, .int .i64 a2] 34)) 34 #[.int .i64 b1, .int .i64 b2]).below hb1 (by simp)
  have esz : (w.alloc (.cells #[.int .i64 a1, .int .i64 a2] 34)).heap.size = w.heap.size + 1 := by simp
  rw [esz] at hB2
  have c0 : w1.cell? ⟨w.heap.size + 1, 0, none⟩ = some (.int .i64 b1) := hB2.cell 0
  have c1 : w1.cell? ⟨w.heap.size + 1, 1, none⟩ = some (.int .i64 b2) := hB2.cell 1
  have hb : Below w.heap.size w w1 := (((Below.refl _ _).alloc (Nat.le_refl _) _).alloc (by simp) _).trans (hb1.mono (by simp; omega))
  clear hb1 hB2 esz
  go_wp2_with fail
  refine (gauss_any _ _ _).mono ?_
  rintro e w2 ⟨rfl, hb2⟩
  unfold fl
  replace hb := hb.trans (hb2.mono hb.size)
  clear c0 c1 hb2
  go_wp2_with fail
  refine (mul_any _ _ _ _ _ _ _ HP.out).mono ?_
  rintro e w3 ⟨rfl, rfl⟩
  go_wp2_with fail
  refine (size_any _ _ _ _ _ _ HZ1.out HZ2.out).mono ?_
  rintro e w3 ⟨rfl, rfl⟩
  go_wp2_with fail
  refine (size_any _ _ _ _ _ _ HX1.out HX2.out).mono ?_
  rintro e w3 ⟨rfl, rfl⟩
  go_wp2_with fail
  refine (size_any _ _ _ _ _ _ HY1.out HY2.out).mono ?_
  rintro e w3 ⟨rfl, rfl⟩
  go_wp2_with fail
  refine (mul_any _ _ _ _ _ _ _ HQ.out).mono ?_
  rintro e w3 ⟨rfl, rfl⟩
  go_wp2_with fail
  refine (back_any _ _ _ _ HX1.out).mono ?_
  rintro e w3 ⟨rfl, rfl⟩
  go_wp2_with fail
  refine (mul_any _ _ _ _ _ _ _ HX2.out).mono ?_
  rintro e w3 ⟨rfl, rfl⟩
  go_wp2_with fail
  refine (size_any _ _ _ _ _ _ HX1.out HX2.out).mono ?_
  rintro e w3 ⟨rfl, rfl⟩
  go_wp2_with fail
  refine (known_any _).mono ?_
  rintro e w3 ⟨rfl, hb3⟩
  go_wp2_with fail
  go_ret
  exact ⟨rfl, hb.trans (hb3.mono hb.size)⟩
end Go.Proofs.Ytkbmlipdpahblaa
