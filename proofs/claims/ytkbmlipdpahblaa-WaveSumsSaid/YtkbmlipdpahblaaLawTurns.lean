/- 'WaveTurns' returns true at any whole numbers. No condition. -/
import Derived.Test.YtkbmlipdpahblaaTurn
import Derived.Test.YtkbmlipdpahblaaHeld
import Derived.Deep.RegionHeld3
import Derived.Deep.DrawnRows
namespace Go.Proofs.Ytkbmlipdpahblaa
open Go.RowKit
attribute [local go_sem ↓] Go.wp_at_zero Go.wp_at_succ

theorem tmod_bd (z : Int) : -1048575 ≤ z.tmod 1048576 ∧ z.tmod 1048576 ≤ 1048575 := by
  have h1 : (z.tmod 1048576).natAbs < 1048576 := by rw [Int.natAbs_tmod]; exact Nat.mod_lt _ (by decide)
  omega

theorem hold_small (l : List Int) : Small 1048575 (hold l) := by
  intro z hz
  unfold hold at hz
  obtain ⟨y, _, rfl⟩ := List.mem_map.1 hz
  exact tmod_bd y

theorem hold_length (l : List Int) : (hold l).length = l.length := by unfold hold; rw [List.length_map]

/-- What stays while calls make memory: a slice that is read; a block of four cells. -/
theorem four_keep {B g : Nat} {u : Value} {xs : List Value} {x0 x1 x2 x3 : Value} {w W W' : World}
    (h : Rd W B u xs ∧ B ≤ W.heap.size ∧ g < B ∧ Below w.heap.size w W ∧ w.heap.size ≤ B ∧ W.cell? ⟨g, 0, none⟩ = some x0 ∧ W.cell? ⟨g, 1, none⟩ = some x1 ∧ W.cell? ⟨g, 2, none⟩ = some x2 ∧ W.cell? ⟨g, 3, none⟩ = some x3) (hb : Below W.heap.size W W') :
    Rd W' B u xs ∧ B ≤ W'.heap.size ∧ g < B ∧ Below w.heap.size w W' ∧ w.heap.size ≤ B ∧ W'.cell? ⟨g, 0, none⟩ = some x0 ∧ W'.cell? ⟨g, 1, none⟩ = some x1 ∧ W'.cell? ⟨g, 2, none⟩ = some x2 ∧ W'.cell? ⟨g, 3, none⟩ = some x3 := by
  obtain ⟨h1, h2, h3, h4, h5, c0, c1, c2, c3⟩ := h
  have hg : g < W.heap.size := by omega
  exact ⟨h1.below hb h2, Nat.le_trans h2 hb.size, h3, h4.trans (hb.mono (by omega)), h5, (hb.cell (p := ⟨g, 0, none⟩) hg).trans c0, (hb.cell (p := ⟨g, 1, none⟩) hg).trans c1, (hb.cell (p := ⟨g, 2, none⟩) hg).trans c2, (hb.cell (p := ⟨g, 3, none⟩) hg).trans c3⟩

theorem four_eq (a b c d : Int) (w : World) : (Op.equalIn 10000 24 (.agg #[.int .i64 a, .int .i64 b, .int .i64 c, .int .i64 d]) (.agg #[.int .i64 a, .int .i64 b, .int .i64 c, .int .i64 d])).run Try.prog w = .ok true w := by
  show (Op.equalIn (9999 + 1) 24 _ _).run Try.prog w = _
  unfold Op.equalIn
  have h3 := fun (a b : Int) (w : World) => run_equalIn_int (P := Try.prog) w 9998 3 .i64 .i64 a b Try.underlying3
  simp [run_underlying Try.underlying24, List.range'_succ, part, h3]

theorem fl_eq (a : Int) (h : a.natAbs < 2 ^ 53) : (FloatKind.f64.format.order (fl a) (fl a) == some .eq) = true := eq_is (is_of_int a h) (is_of_int a h) rfl

set_option maxHeartbeats 1600000 in
theorem lawTurns_any (v : Value) (l : List Int) (w : World) (h : Rd w w.heap.size v (l.map (Value.int .i64))) :
    Calls Try.prog 3 #[v] w fun e w' => e = .returned (.bool true) ∧ Below w.heap.size w w' := by
  have h' := h
  obtain ⟨A, c, rfl, hc, hm, _, hx⟩ := h'
  have hll : (l.map (Value.int .i64)).length = l.length := List.length_map _
  rw [hll] at hc hx h ⊢
  clear hll
  unfold maxLen at hm
  by_cases hl : l.length ≤ 200
  · have hs := hold_small l
    have hL : (hold l).length ≤ 300 := by rw [hold_length]; omega
    have b0 := quarter_bd _ hs hL 0
    have b1 := quarter_bd _ hs hL 1
    have b2 := quarter_bd _ hs hL 2
    have b3 := quarter_bd _ hs hL 3
    clear hx
    go_enter Try.func3, Try.ntmps3
    go_wp2_with fail
    refine (held_any _ l _ h hl).mono ?_
    rintro e w1 ⟨m, rfl, hr1, hb1⟩
    go_wp2_with fail
    refine (refFourths_any _ _ _ hr1 hL hs).mono ?_
    rintro e w2 ⟨rfl, hb2⟩
    unfold fourCells
    have hr2 := hr1.after hb2
    have hb := hb1.trans (hb2.mono hb1.size)
    clear hr1 hb1 hb2 h
    go_wp2_with fail
    obtain ⟨w3, hw3⟩ : ∃ w3, w3 = w2.alloc (.cells #[.int .i64 (quarter 0 (hold l)), .int .i64 (quarter 1 (hold l)), .int .i64 (quarter 2 (hold l)), .int .i64 (quarter 3 (hold l))] 24) := ⟨_, rfl⟩
    have hB3 : Blk w3 w2.heap.size 24 #[.int .i64 (quarter 0 (hold l)), .int .i64 (quarter 1 (hold l)), .int .i64 (quarter 2 (hold l)), .int .i64 (quarter 3 (hold l))] := by rw [hw3]; exact Blk.new _ _ _
    have hr3 : Rd w3 w2.heap.size m ((hold l).map (Value.int .i64)) := by rw [hw3]; exact hr2.alloc (Nat.le_refl _) _
    have hb3 : Below w.heap.size w w3 := by rw [hw3]; exact hb.alloc hb.size _
    have hlt := hB3.lt
    rw [← hw3]
    clear hw3
    generalize w2.heap.size = g at *
    have e1 := fl_eq (turnRe (hold l)) (by unfold turnRe; omega)
    have e2 := fl_eq (turnIm (hold l)) (by unfold turnIm; omega)
    unfold turnRe fl at e1
    unfold turnIm fl at e2
    have s1 : IntKind.i64.wrap (quarter 0 (hold l) - quarter 2 (hold l)) = quarter 0 (hold l) - quarter 2 (hold l) := IntWalk.i64_in _ (by omega)
    have s2 : IntKind.i64.wrap (quarter 1 (hold l) - quarter 3 (hold l)) = quarter 1 (hold l) - quarter 3 (hold l) := IntWalk.i64_in _ (by omega)
    have q4 := four_eq (quarter 0 (hold l)) (quarter 1 (hold l)) (quarter 2 (hold l)) (quarter 3 (hold l))
    go_region_held3 (fun W => Rd W w3.heap.size m ((hold l).map (Value.int .i64)) ∧ w3.heap.size ≤ W.heap.size ∧ g < w3.heap.size ∧ Below w.heap.size w W ∧ w.heap.size ≤ w3.heap.size ∧
        W.cell? ⟨g, 0, none⟩ = some (.int .i64 (quarter 0 (hold l))) ∧ W.cell? ⟨g, 1, none⟩ = some (.int .i64 (quarter 1 (hold l))) ∧ W.cell? ⟨g, 2, none⟩ = some (.int .i64 (quarter 2 (hold l))) ∧ W.cell? ⟨g, 3, none⟩ = some (.int .i64 (quarter 3 (hold l))))
      (first | assumption | exact four_keep (by assumption) (by assumption) | exact ⟨hr3.up (by omega), Nat.le_refl _, hlt, hb3.drew, hb3.size, hB3.cell 0, hB3.cell 1, hB3.cell 2, hB3.cell 3⟩)
      (first
        | (go_at_call 11; refine (turn_any _ (hold l) _ ?_ hL hs).mono ?_; exact Rd.up (And.left (by assumption)) (And.left (And.right (by assumption))); rintro e w' ⟨rfl, hbb⟩; unfold turnRe turnIm fl)
        | (go_at_call 12; refine (fourths_any _ (hold l) _ ?_ hL hs).mono ?_; exact Rd.up (And.left (by assumption)) (And.left (And.right (by assumption))); rintro e w' ⟨rfl, hbb⟩; unfold fourCells)
        | (go_at_call 13; refine (known_any _).mono ?_; rintro e w' ⟨rfl, hbb⟩))
    all_goals clear e1 e2 s1 s2 q4 hs hL b0 b1 b2 b3
    all_goals go_wp2
    all_goals go_ret
    all_goals exact ⟨rfl, (by assumption : _ ∧ _ ∧ _ ∧ _ ∧ _).2.2.2.1⟩
  · have hgt : (200 : Int) < (l.length : Int) := by omega
    go_enter Try.func3, Try.ntmps3
    go_wp2
    go_ret
    exact ⟨rfl, Below.refl _ _⟩
end Go.Proofs.Ytkbmlipdpahblaa
