/- 'WaveMuls' returns true at any two numbers of two whole parts. No condition. -/
import Derived.Test.YtkbmlipdpahblaaLawTurns
import Derived.Test.YtkbmlipdpahblaaLawSizes
namespace Go.Proofs.Ytkbmlipdpahblaa
open Go.RowKit
attribute [local go_sem ↓] Go.wp_at_zero Go.wp_at_succ

/-- The reference's product, where nothing wraps. -/
theorem refMul_any (a b c d : Int) (w : World) (ha : -1000000000000000000 ≤ a * c ∧ a * c ≤ 1000000000000000000) (hb : -1000000000000000000 ≤ b * d ∧ b * d ≤ 1000000000000000000)
    (hc : -1000000000000000000 ≤ a * d ∧ a * d ≤ 1000000000000000000) (hd : -1000000000000000000 ≤ b * c ∧ b * c ≤ 1000000000000000000) :
    Calls Try.prog 16 #[.agg #[.int .i64 a, .int .i64 b], .agg #[.int .i64 c, .int .i64 d]] w fun e w' => e = .returned (.agg #[.int .i64 (a * c - b * d), .int .i64 (a * d + b * c)]) ∧ Below w.heap.size w w' := by
  go_enter Try.func16, Try.ntmps16
  go_wp2
  refine bodyPost_ret (v := .agg #[.int .i64 (a * c - b * d), .int .i64 (a * d + b * c)]) ?_ rfl ⟨rfl, ?_⟩
  · simp [results, Try.results16, go_sem]
  · exact (((Below.refl _ _).alloc (Nat.le_refl _) _).alloc (by simp) _).alloc (by simp; omega) _

theorem two_keep {w w0 W W' : World} {g h : Nat} {x0 x1 x2 x3 : Value} (hg : g < w0.heap.size) (hh : h < w0.heap.size)
    (k : w0.heap.size ≤ W.heap.size ∧ Below w.heap.size w W ∧ W.cell? ⟨g, 0, none⟩ = some x0 ∧ W.cell? ⟨g, 1, none⟩ = some x1 ∧ W.cell? ⟨h, 0, none⟩ = some x2 ∧ W.cell? ⟨h, 1, none⟩ = some x3) (hb : Below W.heap.size W W') :
    w0.heap.size ≤ W'.heap.size ∧ Below w.heap.size w W' ∧ W'.cell? ⟨g, 0, none⟩ = some x0 ∧ W'.cell? ⟨g, 1, none⟩ = some x1 ∧ W'.cell? ⟨h, 0, none⟩ = some x2 ∧ W'.cell? ⟨h, 1, none⟩ = some x3 := by
  obtain ⟨h1, h2, c0, c1, c2, c3⟩ := k
  have hg' : g < W.heap.size := by omega
  have hh' : h < W.heap.size := by omega
  exact ⟨Nat.le_trans h1 hb.size, h2.trans (hb.mono h2.size), (hb.cell (p := ⟨g, 0, none⟩) hg').trans c0, (hb.cell (p := ⟨g, 1, none⟩) hg').trans c1, (hb.cell (p := ⟨h, 0, none⟩) hh').trans c2, (hb.cell (p := ⟨h, 1, none⟩) hh').trans c3⟩

theorem fl_eq_of {r : Nat} {x y : Int} (h : Is r x) (e : x = y) (hy : y.natAbs < 2 ^ 53) : (FloatKind.f64.format.order r (floatOfInt .f64 y) == some .eq) = true := eq_is h (is_of_int y hy) e

set_option maxHeartbeats 4000000 in
theorem lawMuls_any (a1 a2 b1 b2 : Int) (w : World) :
    Calls Try.prog 5 #[.agg #[.int .i64 a1, .int .i64 a2], .agg #[.int .i64 b1, .int .i64 b2]] w fun e w' => e = .returned (.bool true) ∧ Below w.heap.size w w' := by
  have hA := tmod_bd a1
  have hB := tmod_bd a2
  have hC := tmod_bd b1
  have hD := tmod_bd b2
  have q1 := mul_bd hA hC
  have q2 := mul_bd hB hD
  have q3 := mul_bd hA hD
  have q4 := mul_bd hB hC
  have q5 := mul_bd hA hA
  have q6 := mul_bd hB hB
  have iA := is_of_int (a1.tmod 1048576) (by omega)
  have iB := is_of_int (a2.tmod 1048576) (by omega)
  have iC := is_of_int (b1.tmod 1048576) (by omega)
  have iD := is_of_int (b2.tmod 1048576) (by omega)
  go_enter Try.func5, Try.ntmps5
  go_wp2_with fail
  have hX := (Blk.new w 34 #[.int .i64 (a1.tmod 1048576), .int .i64 (a2.tmod 1048576)]).alloc (.cells #[.int .i64 (b1.tmod 1048576), .int .i64 (b2.tmod 1048576)] 34)
  have hY := Blk.new (w.alloc (.cells #[.int .i64 (a1.tmod 1048576), .int .i64 (a2.tmod 1048576)] 34)) 34 #[.int .i64 (b1.tmod 1048576), .int .i64 (b2.tmod 1048576)]
  have esz : (w.alloc (.cells #[.int .i64 (a1.tmod 1048576), .int .i64 (a2.tmod 1048576)] 34)).heap.size = w.heap.size + 1 := by simp
  rw [esz] at hY
  have hb : Below w.heap.size w ((w.alloc (.cells #[.int .i64 (a1.tmod 1048576), .int .i64 (a2.tmod 1048576)] 34)).alloc (.cells #[.int .i64 (b1.tmod 1048576), .int .i64 (b2.tmod 1048576)] 34)) :=
    ((Below.refl _ _).alloc (Nat.le_refl _) _).alloc (by simp) _
  generalize (w.alloc (.cells #[.int .i64 (a1.tmod 1048576), .int .i64 (a2.tmod 1048576)] 34)).alloc (.cells #[.int .i64 (b1.tmod 1048576), .int .i64 (b2.tmod 1048576)] 34) = w0 at *
  clear esz
  generalize a1.tmod 1048576 = A at *
  generalize a2.tmod 1048576 = B at *
  generalize b1.tmod 1048576 = C at *
  generalize b2.tmod 1048576 = D at *
  obtain ⟨pr, pi, eP, iP, iQ⟩ := cmul_is iA iB iC iD (by omega) (by omega) (by omega) (by omega) (by omega) (by omega)
  obtain ⟨xm, xr, xi, eX1, eX2, kXm, kXr, kXi⟩ := size_is (M := 1048575) iA iB hA hB (by decide) (by decide)
  have o1 := fl_eq_of iP rfl (by omega)
  have o2 := fl_eq_of iQ rfl (by omega)
  have o3 := fl_eq_of iA rfl (by omega)
  have o4 := fl_eq_of kXm rfl (by omega)
  have o5 := fl_eq_of kXr rfl (by omega)
  have s1 : IntKind.i64.wrap (A * A) = A * A := IntWalk.i64_in _ (by omega)
  have s2 : IntKind.i64.wrap (B * B) = B * B := IntWalk.i64_in _ (by omega)
  have s3 : IntKind.i64.wrap (A * A + B * B) = A * A + B * B := IntWalk.i64_in _ (by omega)
  have s4 : IntKind.i64.wrap (-B) = -B := IntWalk.i64_in _ (by omega)
  clear iA iB iC iD iP iQ kXm kXr kXi
  have HP := Lib.hid eP
  have HX1 := Lib.hid eX1
  have HX2 := Lib.hid eX2
  clear eP eX1 eX2
  have hlx := hX.lt
  have hly := hY.lt
  have hsz := hb.size
  go_region_held3 (fun W => w0.heap.size ≤ W.heap.size ∧ Below w.heap.size w W ∧
      W.cell? ⟨w.heap.size, 0, none⟩ = some (.int .i64 A) ∧ W.cell? ⟨w.heap.size, 1, none⟩ = some (.int .i64 B) ∧ W.cell? ⟨w.heap.size + 1, 0, none⟩ = some (.int .i64 C) ∧ W.cell? ⟨w.heap.size + 1, 1, none⟩ = some (.int .i64 D))
    (first | assumption | exact two_keep hlx hly (by assumption) (by assumption) | exact ⟨Nat.le_refl _, hb.drew, hX.cell 0, hX.cell 1, hY.cell 0, hY.cell 1⟩)
    (first
      | (go_at_call 15; refine (gauss_any _ _ _).mono ?_; rintro e w' ⟨rfl, hbb⟩; unfold fl)
      | (go_at_call 14; refine (mul_any _ _ _ _ _ _ _ HP.out).mono ?_; rintro e w' ⟨rfl, rfl⟩)
      | (go_at_call 16; refine (refMul_any _ _ _ _ _ ?_ ?_ ?_ ?_).mono ?_; omega; omega; omega; omega; rintro e w' ⟨rfl, hbb⟩)
      | (go_at_call 17; refine (back_any _ _ _ _ HX1.out).mono ?_; rintro e w' ⟨rfl, rfl⟩)
      | (go_at_call 18; refine (size_any _ _ _ _ _ _ HX1.out HX2.out).mono ?_; rintro e w' ⟨rfl, rfl⟩)
      | (go_at_call 13; refine (known_any _).mono ?_; rintro e w' ⟨rfl, hbb⟩))
  all_goals clear o1 o2 o3 o4 o5 s1 s2 s3 s4
  all_goals go_wp2
  all_goals go_ret
  all_goals exact ⟨rfl, (by assumption : _ ∧ _ ∧ _ ∧ _ ∧ _ ∧ _).2.1⟩
end Go.Proofs.Ytkbmlipdpahblaa
