/- 'WavePolys' and 'WaveSums' return true at any whole numbers. No condition. -/
import Derived.Test.YtkbmlipdpahblaaPolyWalk
namespace Go.Proofs.Ytkbmlipdpahblaa
open Go.RowKit
attribute [local go_sem ↓] Go.wp_at_zero Go.wp_at_succ

theorem tmod_four (z : Int) : -3 ≤ z.tmod 4 ∧ z.tmod 4 ≤ 3 := by
  have h1 : (z.tmod 4).natAbs < 4 := by rw [Int.natAbs_tmod]; exact Nat.mod_lt _ (by decide)
  omega

theorem i_is : Is 4607182418800017408 1 := one_is
theorem ni_is : Is 13830554455654793216 (-1) := by
  have h := is_of_int (-1) (by decide)
  have e : floatOfInt .f64 (-1) = 13830554455654793216 := by decide +kernel
  rw [e] at h
  exact h

theorem good_i (l : List Int) : Good 0 4607182418800017408 0 1 l := ⟨zero_is, one_is, by omega, by omega, fun k _ => pw_unit 0 1 (by simp) k⟩
theorem good_ni (l : List Int) : Good 0 13830554455654793216 0 (-1) l := ⟨zero_is, ni_is, by omega, by omega, fun k _ => pw_unit 0 (-1) (by simp) k⟩
theorem good_one (l : List Int) : Good 4607182418800017408 0 1 0 l := ⟨one_is, zero_is, by omega, by omega, fun k _ => pw_unit 1 0 (by simp) k⟩
theorem good_neg (l : List Int) : Good 13830554455654793216 0 (-1) 0 l := ⟨ni_is, zero_is, by omega, by omega, fun k _ => pw_unit (-1) 0 (by simp) k⟩

theorem pair_keep {w w0 W W' : World} {B g : Nat} {u : Value} {xs : List Value} {x0 x1 : Value} (hg : g < w0.heap.size) (hB : B ≤ w0.heap.size)
    (k : Rd W B u xs ∧ w0.heap.size ≤ W.heap.size ∧ Below w.heap.size w W ∧ W.cell? ⟨g, 0, none⟩ = some x0 ∧ W.cell? ⟨g, 1, none⟩ = some x1) (hb : Below W.heap.size W W') :
    Rd W' B u xs ∧ w0.heap.size ≤ W'.heap.size ∧ Below w.heap.size w W' ∧ W'.cell? ⟨g, 0, none⟩ = some x0 ∧ W'.cell? ⟨g, 1, none⟩ = some x1 := by
  obtain ⟨h0, h1, h2, c0, c1⟩ := k
  have hg' : g < W.heap.size := by omega
  exact ⟨h0.below hb (by omega), Nat.le_trans h1 hb.size, h2.trans (hb.mono h2.size), (hb.cell (p := ⟨g, 0, none⟩) hg').trans c0, (hb.cell (p := ⟨g, 1, none⟩) hg').trans c1⟩

set_option maxHeartbeats 4000000 in
theorem lawPolys_any (a1 a2 : Int) (v : Value) (l : List Int) (w : World) (h : Rd w w.heap.size v (l.map (Value.int .i64))) :
    Calls Try.prog 7 #[.agg #[.int .i64 a1, .int .i64 a2], v] w fun e w' => e = .returned (.bool true) ∧ Below w.heap.size w w' := by
  have h' := h
  obtain ⟨A, c, rfl, hc, hm, _, hx⟩ := h'
  have hll : (l.map (Value.int .i64)).length = l.length := List.length_map _
  rw [hll] at hc hx h ⊢
  clear hll hx
  unfold maxLen at hm
  by_cases hl : l.length ≤ 12
  · have hs := hold_small l
    have hL : (hold l).length ≤ 12 := by rw [hold_length]; omega
    have bX := tmod_four a1
    have bY := tmod_four a2
    have hX := is_of_int (a1.tmod 4) (by omega)
    have hY := is_of_int (a2.tmod 4) (by omega)
    have hp : ∀ k, k ≤ (hold l).length → (-34012224 ≤ (pw (a1.tmod 4) (a2.tmod 4) k).1 ∧ (pw (a1.tmod 4) (a2.tmod 4) k).1 ≤ 34012224) ∧ (-34012224 ≤ (pw (a1.tmod 4) (a2.tmod 4) k).2 ∧ (pw (a1.tmod 4) (a2.tmod 4) k).2 ≤ 34012224) :=
      fun k hk => pw_bd _ _ bX bY k (by omega)
    have G1 : ∃ X Y, Good (floatOfInt .f64 (a1.tmod 4)) (floatOfInt .f64 (a2.tmod 4)) X Y (hold l) := ⟨_, _, hX, hY, bX, bY, hp⟩
    have G2 : ∃ X Y, Good 0 4607182418800017408 X Y (hold l) := ⟨_, _, good_i (hold l)⟩
    have hsb := sm_bd (a1.tmod 4) (a2.tmod 4) (hold l) hs hp (hold l).length (Nat.le_refl _)
    have r1 := pb_is (ar := floatOfInt .f64 (a1.tmod 4)) (ai := floatOfInt .f64 (a2.tmod 4)) ⟨hX, hY, bX, bY, hp⟩ (by omega) hs (hold l).length (Nat.le_refl _)
    have r2 := pb_is (good_i (hold l)) (by omega) hs (hold l).length (Nat.le_refl _)
    have e2 := sm_i (hold l) (hold l).length (Nat.le_refl _)
    rw [List.take_length] at e2
    rw [e2] at r2
    have b0 := quarter_bd _ hs (by omega) 0
    have b1 := quarter_bd _ hs (by omega) 1
    have b2 := quarter_bd _ hs (by omega) 2
    have b3 := quarter_bd _ hs (by omega) 3
    have o1 := fl_eq_of r1.1 rfl (by omega)
    have o2 := fl_eq_of r1.2.1 rfl (by omega)
    have o3 := fl_eq_of (y := turnRe (hold l)) r2.1 rfl (by unfold turnRe; omega)
    have o4 := fl_eq_of (y := turnIm (hold l)) r2.2.1 rfl (by unfold turnIm; omega)
    have Hp := Lib.hid hp
    have HG1 := Lib.hid G1
    have HG2 := Lib.hid G2
    clear hp G1 G2 r1 r2 e2 hX hY hsb b0 b1 b2 b3
    go_enter Try.func7, Try.ntmps7
    go_wp2_with fail
    have hX := Blk.new w 34 #[.int .i64 (a1.tmod 4), .int .i64 (a2.tmod 4)]
    have hr := h.alloc (Nat.le_refl _) (.cells #[.int .i64 (a1.tmod 4), .int .i64 (a2.tmod 4)] 34)
    have hb := (Below.refl w.heap.size w).alloc (Nat.le_refl _) (.cells #[.int .i64 (a1.tmod 4), .int .i64 (a2.tmod 4)] 34)
    generalize w.alloc (.cells #[.int .i64 (a1.tmod 4), .int .i64 (a2.tmod 4)] 34) = w0 at *
    generalize a1.tmod 4 = X at *
    generalize a2.tmod 4 = Y at *
    refine (held_any _ l _ (hr.up hb.size) (by omega)).mono ?_
    rintro e w1 ⟨u, rfl, hr1, hb1⟩
    replace hX := hX.below hb1 hX.lt
    replace hb := hb.trans (hb1.mono hb.size)
    clear hb1 hr h
    generalize hold l = m at *
    have hlx := hX.lt
    go_wp2_with fail
    unfold fl at *
    go_region_held3 (fun W => Rd W w1.heap.size u (m.map (Value.int .i64)) ∧ w1.heap.size ≤ W.heap.size ∧ Below w.heap.size w W ∧ W.cell? ⟨w.heap.size, 0, none⟩ = some (.int .i64 X) ∧ W.cell? ⟨w.heap.size, 1, none⟩ = some (.int .i64 Y))
      (first | assumption | exact pair_keep hlx (Nat.le_refl _) (by assumption) (by assumption) | exact ⟨hr1, Nat.le_refl _, hb.drew, hX.cell 0, hX.cell 1⟩)
      (first
        | (go_at_call 15; refine (gauss_any _ _ _).mono ?_; rintro e w' ⟨rfl, hbb⟩; unfold fl)
        | (go_at_call 19; refine (poly_any _ _ _ m _ w1.heap.size ?_ (And.left (by assumption)) (by omega) hs).mono ?_; (first | exact HG1.out | exact HG2.out); rintro e w' ⟨rfl, rfl⟩)
        | (go_at_call 20; refine (refPoly_any _ _ _ m _ (Rd.up (And.left (by assumption)) (And.left (And.right (by assumption)))) (by omega) hs bX bY Hp.out).mono ?_; rintro e w' ⟨rfl, hbb⟩)
        | (go_at_call 11; refine (turn_any _ m _ (Rd.up (And.left (by assumption)) (And.left (And.right (by assumption)))) (by omega) hs).mono ?_; rintro e w' ⟨rfl, hbb⟩; unfold fl)
        | (go_at_call 13; refine (known_any _).mono ?_; rintro e w' ⟨rfl, hbb⟩))
    all_goals clear o1 o2 o3 o4
    all_goals go_wp2
    all_goals go_ret
    all_goals exact ⟨rfl, (by assumption : _ ∧ _ ∧ _ ∧ _ ∧ _).2.2.1⟩
  · have hgt : (12 : Int) < (l.length : Int) := by omega
    go_enter Try.func7, Try.ntmps7
    go_wp2
    go_ret
    exact ⟨rfl, (Below.refl _ _).alloc (Nat.le_refl _) _⟩
end Go.Proofs.Ytkbmlipdpahblaa
