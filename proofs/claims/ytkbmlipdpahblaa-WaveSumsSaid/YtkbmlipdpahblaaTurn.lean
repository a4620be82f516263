/- 'Turn', 'Mul', 'Back', 'Size', 'gauss', 'known' by their contracts. Condition: whole numbers, small enough. -/
import Derived.Test.YtkbmlipdpahblaaFourths
import Derived.Test.YtkbmlipdpahblaaFlo
import Derived.WalkLawsBesides
namespace Go.Proofs.Ytkbmlipdpahblaa
open Go.RowKit

/-- The bits of a whole number. -/
def fl (n : Int) : Nat := floatOfInt .f64 n

def turnRe (l : List Int) : Int := quarter 0 l - quarter 2 l
def turnIm (l : List Int) : Int := quarter 1 l - quarter 3 l

set_option maxHeartbeats 800000 in
theorem turn_any (v : Value) (l : List Int) (w : World) (h : Rd w w.heap.size v (l.map (Value.int .i64))) (hl : l.length ≤ 300) (hs : Small 1048575 l) :
    Calls Try.prog 11 #[v] w fun e w' => e = .returned (.complex .f64 (fl (turnRe l)) (fl (turnIm l))) ∧ Below w.heap.size w w' := by
  have b0 := quarter_bd l hs hl 0
  have b1 := quarter_bd l hs hl 1
  have b2 := quarter_bd l hs hl 2
  have b3 := quarter_bd l hs hl 3
  go_enter Try.func11, Try.ntmps11
  go_wp2_with fail
  refine (fourths_any v l _ h hl hs).mono ?_
  rintro e w1 ⟨rfl, hb⟩
  clear h
  unfold fourCells
  go_wp2
  go_ret
  exact ⟨rfl, hb.alloc hb.size _⟩

theorem mul_any (a b c d re im : Nat) (w : World) (h : cMulBits a b c d = some (re, im)) :
    Calls Try.prog 14 #[.complex .f64 a b, .complex .f64 c d] w fun e w' => e = .returned (.complex .f64 re im) ∧ w = w' := by
  have hr := fun w => run_complex_mul (P := Try.prog) w 26 a b c d re im h
  clear h
  go_enter Try.func14, Try.ntmps14
  go_wp2
  go_ret
  exact ⟨rfl, rfl⟩

theorem back_any (a b im : Nat) (w : World) (h : floatBits .sub .f64 0 b = some im) :
    Calls Try.prog 17 #[.complex .f64 a b] w fun e w' => e = .returned (.complex .f64 a im) ∧ w = w' := by
  have hr := fun w => run_float_arith (P := Try.prog) w .sub 28 .f64 0 b im h
  clear h
  go_enter Try.func17, Try.ntmps17
  go_wp2
  go_ret
  exact ⟨rfl, rfl⟩

theorem size_any (a b im re im2 : Nat) (w : World) (h : floatBits .sub .f64 0 b = some im) (h2 : cMulBits a b a im = some (re, im2)) :
    Calls Try.prog 18 #[.complex .f64 a b] w fun e w' => e = .returned (.float .f64 re) ∧ w = w' := by
  go_enter Try.func18, Try.ntmps18
  go_wp2_with fail
  refine (back_any a b im _ h).mono ?_
  rintro e w1 ⟨rfl, rfl⟩
  go_wp2_with fail
  refine (mul_any a b a im re im2 _ h2).mono ?_
  rintro e w1 ⟨rfl, rfl⟩
  go_wp2_with fail
  go_ret
  exact ⟨rfl, rfl⟩

theorem gauss_any (a b : Int) (w : World) :
    Calls Try.prog 15 #[.agg #[.int .i64 a, .int .i64 b]] w fun e w' => e = .returned (.complex .f64 (fl a) (fl b)) ∧ Below w.heap.size w w' := by
  go_enter Try.func15, Try.ntmps15
  go_wp2
  go_ret
  exact ⟨rfl, (Below.refl _ _).alloc (Nat.le_refl _) _⟩

theorem known_any (w : World) :
    Calls Try.prog 13 #[] w fun e w' => e = .returned (.bool true) ∧ Below w.heap.size w w' := by
  have hb : Blk (w.alloc (.cells #[.int .i64 1, .int .i64 1, .int .i64 1, .int .i64 1, .int .i64 1] 3)) w.heap.size 3 #[.int .i64 1, .int .i64 1, .int .i64 1, .int .i64 1, .int .i64 1] := Blk.new _ _ _
  have hd := hb.reads (n := 5) (by decide) (by decide)
  have e1 : (FloatKind.f64.format.order (fl (turnRe [1, 1, 1, 1, 1])) 4607182418800017408 == some .eq) = true := by decide +kernel
  have e2 : (FloatKind.f64.format.order (fl (turnIm [1, 1, 1, 1, 1])) 0 == some .eq) = true := by decide +kernel
  go_enter Try.func13, Try.ntmps13
  go_wp2_with fail
  refine (turn_any _ [1, 1, 1, 1, 1] _ hd (by decide) (by intro z hz; simp at hz; omega)).mono ?_
  rintro e w1 ⟨rfl, hb⟩
  go_wp2_with fail
  go_ret
  refine ⟨?_, ((Below.refl _ _).alloc (Nat.le_refl _) _).trans (hb.mono (by simp))⟩
  rfl
end Go.Proofs.Ytkbmlipdpahblaa
