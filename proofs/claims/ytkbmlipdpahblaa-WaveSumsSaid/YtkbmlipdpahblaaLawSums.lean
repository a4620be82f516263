/- 'WaveSums' returns true at any whole numbers. No condition. -/
import Derived.Test.YtkbmlipdpahblaaLawPolys
namespace Go.Proofs.Ytkbmlipdpahblaa
open Go.RowKit
attribute [local go_sem ↓] Go.wp_at_zero Go.wp_at_succ

set_option maxHeartbeats 6000000 in
theorem lawSums_any (v : Value) (l : List Int) (w : World) (h : Rd w w.heap.size v (l.map (Value.int .i64))) :
    Calls Try.prog 8 #[v] w fun e w' => e = .returned (.bool true) ∧ Below w.heap.size w w' := by
  have h' := h
  obtain ⟨A, c, rfl, hc, hm, _, hx⟩ := h'
  have hll : (l.map (Value.int .i64)).length = l.length := List.length_map _
  rw [hll] at hc hx h ⊢
  clear hll hx
  unfold maxLen at hm
  by_cases hl : l.length ≤ 100
  · have hs := hold_small l
    have hL : (hold l).length ≤ 100 := by rw [hold_length]; omega
    have b0 := quarter_bd _ hs (by omega) 0
    have b1 := quarter_bd _ hs (by omega) 1
    have b2 := quarter_bd _ hs (by omega) 2
    have b3 := quarter_bd _ hs (by omega) 3
    have G1 : ∃ X Y, Good 4607182418800017408 0 X Y (hold l) := ⟨_, _, good_one (hold l)⟩
    have G2 : ∃ X Y, Good 13830554455654793216 0 X Y (hold l) := ⟨_, _, good_neg (hold l)⟩
    have G3 : ∃ X Y, Good 0 13830554455654793216 X Y (hold l) := ⟨_, _, good_ni (hold l)⟩
    have r1 := pb_is (good_one (hold l)) (by omega) hs (hold l).length (Nat.le_refl _)
    have r2 := pb_is (good_neg (hold l)) (by omega) hs (hold l).length (Nat.le_refl _)
    have r3 := pb_is (good_ni (hold l)) (by omega) hs (hold l).length (Nat.le_refl _)
    have e1 := sm_one (hold l) (hold l).length (Nat.le_refl _)
    have e2 := sm_neg (hold l) (hold l).length (Nat.le_refl _)
    have e3 := sm_ni (hold l) (hold l).length (Nat.le_refl _)
    rw [List.take_length] at e1 e2 e3
    rw [e1] at r1
    rw [e2] at r2
    rw [e3] at r3
    have it := is_of_int (turnIm (hold l)) (by unfold turnIm; omega)
    obtain ⟨nb, eB, iB⟩ := neg_is it (by unfold turnIm; omega)
    have o1 := fl_eq_of r1.1 rfl (by omega)
    have o2 := eq_is r1.2.1 zero_is rfl
    have o3 := fl_eq_of r2.1 rfl (by omega)
    have o4 := eq_is r2.2.1 zero_is rfl
    have o5 := fl_eq_of (y := turnRe (hold l)) r3.1 rfl (by unfold turnRe; omega)
    have o6 := eq_is r3.2.1 iB (by unfold turnIm; omega)
    have s1 : IntKind.i64.wrap (quarter 0 (hold l) + quarter 1 (hold l)) = quarter 0 (hold l) + quarter 1 (hold l) := IntWalk.i64_in _ (by omega)
    have s2 : IntKind.i64.wrap (quarter 0 (hold l) + quarter 1 (hold l) + quarter 2 (hold l)) = quarter 0 (hold l) + quarter 1 (hold l) + quarter 2 (hold l) := IntWalk.i64_in _ (by omega)
    have s3 : IntKind.i64.wrap (quarter 0 (hold l) + quarter 1 (hold l) + quarter 2 (hold l) + quarter 3 (hold l)) = quarter 0 (hold l) + quarter 1 (hold l) + quarter 2 (hold l) + quarter 3 (hold l) := IntWalk.i64_in _ (by omega)
    have s4 : IntKind.i64.wrap (quarter 0 (hold l) - quarter 1 (hold l)) = quarter 0 (hold l) - quarter 1 (hold l) := IntWalk.i64_in _ (by omega)
    have s5 : IntKind.i64.wrap (quarter 0 (hold l) - quarter 1 (hold l) + quarter 2 (hold l)) = quarter 0 (hold l) - quarter 1 (hold l) + quarter 2 (hold l) := IntWalk.i64_in _ (by omega)
    have s6 : IntKind.i64.wrap (quarter 0 (hold l) - quarter 1 (hold l) + quarter 2 (hold l) - quarter 3 (hold l)) = quarter 0 (hold l) - quarter 1 (hold l) + quarter 2 (hold l) - quarter 3 (hold l) := IntWalk.i64_in _ (by omega)
    have HG1 := Lib.hid G1
    have HG2 := Lib.hid G2
    have HG3 := Lib.hid G3
    have HB := Lib.hid eB
    clear G1 G2 G3 r1 r2 r3 e1 e2 e3 it eB iB b0 b1 b2 b3
    have S1 := Lib.hid (And.intro s1 (And.intro s2 (And.intro s3 (And.intro s4 (And.intro s5 s6)))))
    clear s1 s2 s3 s4 s5 s6
    go_enter Try.func8, Try.ntmps8
    go_wp2_with fail
    refine (held_any _ l _ h (by omega)).mono ?_
    rintro e w1 ⟨u, rfl, hr1, hb1⟩
    go_wp2_with fail
    refine (refFourths_any _ _ _ hr1 (by omega) hs).mono ?_
    rintro e w2 ⟨rfl, hb2⟩
    unfold fourCells
    have hr2 := hr1.after hb2
    have hb := hb1.trans (hb2.mono hb1.size)
    clear hr1 hb1 hb2 h
    go_wp2_with fail
    obtain ⟨w3, hw3⟩ : ∃ w3, w3 = w2.alloc (.cells #[.int .i64 (quarter 0 (hold l)), .int .i64 (quarter 1 (hold l)), .int .i64 (quarter 2 (hold l)), .int .i64 (quarter 3 (hold l))] 24) := ⟨_, rfl⟩
    have hB3 : Blk w3 w2.heap.size 24 #[.int .i64 (quarter 0 (hold l)), .int .i64 (quarter 1 (hold l)), .int .i64 (quarter 2 (hold l)), .int .i64 (quarter 3 (hold l))] := by rw [hw3]; exact Blk.new _ _ _
    have hr3 : Rd w3 w2.heap.size u ((hold l).map (Value.int .i64)) := by rw [hw3]; exact hr2.alloc (Nat.le_refl _) _
    have hb3 : Below w.heap.size w w3 := by rw [hw3]; exact hb.alloc hb.size _
    have hlt := hB3.lt
    rw [← hw3]
    clear hw3
    generalize w2.heap.size = g at *
    generalize hold l = m at *
    obtain ⟨s1, s2, s3, s4, s5, s6⟩ := S1.out
    clear S1
    unfold fl at *
    go_region_held3 (fun W => Rd W w3.heap.size u (m.map (Value.int .i64)) ∧ w3.heap.size ≤ W.heap.size ∧ g < w3.heap.size ∧ Below w.heap.size w W ∧ w.heap.size ≤ w3.heap.size ∧
        W.cell? ⟨g, 0, none⟩ = some (.int .i64 (quarter 0 m)) ∧ W.cell? ⟨g, 1, none⟩ = some (.int .i64 (quarter 1 m)) ∧ W.cell? ⟨g, 2, none⟩ = some (.int .i64 (quarter 2 m)) ∧ W.cell? ⟨g, 3, none⟩ = some (.int .i64 (quarter 3 m)))
      (first | assumption | exact four_keep (by assumption) (by assumption) | exact ⟨hr3.up (by omega), Nat.le_refl _, hlt, hb3.drew, hb3.size, hB3.cell 0, hB3.cell 1, hB3.cell 2, hB3.cell 3⟩)
      (first
        | (go_at_call 19; refine (poly_any _ _ _ m _ w3.heap.size ?_ (And.left (by assumption)) (by omega) hs).mono ?_; (first | exact HG1.out | exact HG2.out | exact HG3.out); rintro e w' ⟨rfl, rfl⟩)
        | (go_at_call 11; refine (turn_any _ m _ (Rd.up (And.left (by assumption)) (And.left (And.right (by assumption)))) (by omega) hs).mono ?_; rintro e w' ⟨rfl, hbb⟩; unfold fl)
        | (go_at_call 17; refine (back_any _ _ _ _ HB.out).mono ?_; rintro e w' ⟨rfl, rfl⟩)
        | (go_at_call 13; refine (known_any _).mono ?_; rintro e w' ⟨rfl, hbb⟩))
    all_goals clear o1 o2 o3 o4 o5 o6 s1 s2 s3 s4 s5 s6
    all_goals go_wp2
    all_goals go_ret
    all_goals exact ⟨rfl, (by assumption : _ ∧ _ ∧ _ ∧ _ ∧ _).2.2.2.1⟩
  · have hgt : (100 : Int) < (l.length : Int) := by omega
    go_enter Try.func8, Try.ntmps8
    go_wp2
    go_ret
    exact ⟨rfl, Below.refl _ _⟩
end Go.Proofs.Ytkbmlipdpahblaa
