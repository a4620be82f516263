/- 'WaveShifts' returns true at any whole numbers. No condition. -/
import Derived.Test.YtkbmlipdpahblaaLawTurns
import Derived.Test.YtkbmlipdpahblaaLawSizes
namespace Go.Proofs.Ytkbmlipdpahblaa
open Go.RowKit

theorem cons_map (z : Int) (l : List Int) : [Value.int .i64 z] ++ l.map (Value.int .i64) = (z :: l).map (Value.int .i64) := rfl
theorem cons4_map (a b c d : Int) (l : List Int) : [Value.int .i64 a, Value.int .i64 b, Value.int .i64 c, Value.int .i64 d] ++ l.map (Value.int .i64) = (a :: b :: c :: d :: l).map (Value.int .i64) := rfl

theorem small_zero {l : List Int} (h : Small 1048575 l) : Small 1048575 (0 :: l) := by
  intro z hz
  rcases List.mem_cons.1 hz with rfl | hz
  · omega
  · exact h z hz

theorem one_cells (l : List Int) : ∀ u ∈ l.map (Value.int .i64), u.oneCell' = true := by
  intro u hu
  obtain ⟨z, _, rfl⟩ := List.mem_map.1 hu
  rfl

set_option maxHeartbeats 1600000 in
theorem lawShifts_any (v : Value) (l : List Int) (w : World) (h : Rd w w.heap.size v (l.map (Value.int .i64))) :
    Calls Try.prog 4 #[v] w fun e w' => e = .returned (.bool true) ∧ Below w.heap.size w w' := by
  have h' := h
  obtain ⟨A, c, rfl, hc, hm, _, hx⟩ := h'
  have hll : (l.map (Value.int .i64)).length = l.length := List.length_map _
  rw [hll] at hc hx h ⊢
  clear hll
  unfold maxLen at hm
  by_cases hl : l.length ≤ 100
  · obtain ⟨i0, hi, hz0, hz1, hz2⟩ := info_parts Try.infoInt
    have hs := hold_small l
    have hL : (hold l).length ≤ 100 := by rw [hold_length]; omega
    have hs1 := small_zero hs
    have hs4 := small_zero (small_zero (small_zero hs1))
    have hL1 : (0 :: hold l).length ≤ 300 := by simp only [List.length_cons]; omega
    have hL4 : (0 :: 0 :: 0 :: 0 :: hold l).length ≤ 300 := by simp only [List.length_cons]; omega
    have b0 := quarter_bd _ hs (by omega) 0
    have b1 := quarter_bd _ hs (by omega) 1
    have b2 := quarter_bd _ hs (by omega) 2
    have b3 := quarter_bd _ hs (by omega) 3
    have tr : turnRe (0 :: hold l) = -(turnIm (hold l)) := by simp only [turnRe, turnIm, quarter]; try omega
    have ti : turnIm (0 :: hold l) = turnRe (hold l) := by simp only [turnRe, turnIm, quarter]; try omega
    have fr : turnRe (0 :: 0 :: 0 :: 0 :: hold l) = turnRe (hold l) := by simp only [turnRe, quarter]; try omega
    have fi : turnIm (0 :: 0 :: 0 :: 0 :: hold l) = turnIm (hold l) := by simp only [turnIm, quarter]; try omega
    have ir := is_of_int (turnRe (hold l)) (by unfold turnRe; omega)
    have ii := is_of_int (turnIm (hold l)) (by unfold turnIm; omega)
    obtain ⟨mr, mi, eM, iM, iN⟩ := cmul_is zero_is one_is ir ii (by simp) (by unfold turnIm; omega) (by simp) (by unfold turnRe; omega) (by unfold turnIm; omega) (by unfold turnRe; omega)
    have o1 := eq_is (is_of_int (turnRe (0 :: hold l)) (by rw [tr]; unfold turnIm; omega)) iM (by omega)
    have o2 := eq_is (is_of_int (turnIm (0 :: hold l)) (by rw [ti]; unfold turnRe; omega)) iN (by omega)
    have o3 := eq_is (is_of_int (turnRe (0 :: 0 :: 0 :: 0 :: hold l)) (by rw [fr]; unfold turnRe; omega)) ir fr
    have o4 := eq_is (is_of_int (turnIm (0 :: 0 :: 0 :: 0 :: hold l)) (by rw [fi]; unfold turnIm; omega)) ii fi
    have qq : fourCells (0 :: hold l) = #[.int .i64 (quarter 3 (hold l)), .int .i64 (quarter 0 (hold l)), .int .i64 (quarter 1 (hold l)), .int .i64 (quarter 2 (hold l))] := by simp [fourCells, quarter]
    have HM := Lib.hid eM
    clear eM tr ti fr fi ir ii iM iN hx b0 b1 b2 b3
    generalize hm0 : hold l = m at *
    have hm1 := Lib.hid hm0
    clear hm0
    have Q := Lib.hid qq
    clear qq
    go_enter Try.func4, Try.ntmps4
    go_wp2_with fail
    refine (held_any _ l _ h (by omega)).mono ?_
    rintro e w1 ⟨u, rfl, hr1, hb1⟩
    rw [hm1.out] at hr1
    clear hm1
    have hlen : (m.map (Value.int .i64)).length = m.length := List.length_map _
    have hlen' := Lib.hid hlen
    clear hlen
    go_wp2_with (at_builtin; refine wpList_append_rd rfl _ _ 22 rfl w1.heap.size 3 i0 (.int .i64 0) 8 Try.underlying22 hi hz0 hz1 hz2 rfl _ _ _ rfl (World.ownsRow_lit w1 #[.int .i64 0] 1 (Nat.le_refl _) (by decide) rfl) w1.heap.size _ _ rfl (hr1.alloc (Nat.le_refl _) _) (one_cells m) ?c1 ?c2 ?c3 ?_)
    case c1 => rw [hlen'.out]; unfold maxLen; omega
    case c2 => rw [hlen'.out]; omega
    case c3 => simp
    intro u1 w2 hown1 hg1
    have hr2 : Rd w2 w2.heap.size u1 ((0 :: m).map (Value.int .i64)) := Rd.of_own hown1
    have hb2 : Below w1.heap.size w1 w2 := ((Below.refl _ _).alloc (Nat.le_refl _) _).grown hg1 (by simp) (fun k hk => by simp [Value.ownBlock] at hk; omega)
    clear hown1 hg1
    replace hr1 := hr1.after hb2
    replace hb1 := hb1.trans (hb2.mono hb1.size)
    clear hb2
    go_wp2_with (at_builtin; refine wpList_append_rd rfl _ _ 22 rfl w2.heap.size 3 i0 (.int .i64 0) 8 Try.underlying22 hi hz0 hz1 hz2 rfl _ _ _ rfl (World.ownsRow_lit w2 #[.int .i64 0, .int .i64 0, .int .i64 0, .int .i64 0] 4 (Nat.le_refl _) (by decide) rfl) w2.heap.size _ _ rfl (hr1.alloc (Nat.le_refl _) _) (one_cells m) ?d1 ?d2 ?d3 ?_)
    case d1 => rw [hlen'.out]; unfold maxLen; omega
    case d2 => rw [hlen'.out]; omega
    case d3 => simp
    intro u4 w3 hown1 hg1
    have hr4 : Rd w3 w3.heap.size u4 ((0 :: 0 :: 0 :: 0 :: m).map (Value.int .i64)) := Rd.of_own hown1
    have hb2 : Below w2.heap.size w2 w3 := ((Below.refl _ _).alloc (Nat.le_refl _) _).grown hg1 (by simp) (fun k hk => by simp [Value.ownBlock] at hk; omega)
    clear hown1 hg1
    replace hr1 := hr1.after hb2
    replace hr2 := hr2.after hb2
    replace hb1 := hb1.trans (hb2.mono hb1.size)
    clear hb2 hi hz0 hz1 hz2
    go_wp2_with fail
    refine (fourths_any _ _ _ hr1 (by omega) hs).mono ?_
    rintro e w4 ⟨rfl, hb2⟩
    replace hr1 := hr1.after hb2
    replace hr2 := hr2.after hb2
    replace hr4 := hr4.after hb2
    replace hb1 := hb1.trans (hb2.mono hb1.size)
    clear hb2
    unfold fourCells
    go_wp2_with fail
    have hF := Blk.new w4 24 (fourCells m)
    have eF : w4.alloc (.cells #[.int .i64 (quarter 0 m), .int .i64 (quarter 1 m), .int .i64 (quarter 2 m), .int .i64 (quarter 3 m)] 24) = w4.alloc (.cells (fourCells m) 24) := rfl
    rw [eF]
    have hb2 : Below w4.heap.size w4 (w4.alloc (.cells (fourCells m) 24)) := (Below.refl _ _).alloc (Nat.le_refl _) _
    generalize w4.alloc (.cells (fourCells m) 24) = w5 at *
    replace hr1 := hr1.after hb2
    replace hr2 := hr2.after hb2
    replace hr4 := hr4.after hb2
    replace hb1 := hb1.trans (hb2.mono hb1.size)
    clear hb2
    generalize w4.heap.size = g at *
    refine (fourths_any _ _ _ hr2 hL1 hs1).mono ?_
    rintro e w6 ⟨rfl, hb2⟩
    replace hr1 := hr1.after hb2
    replace hr2 := hr2.after hb2
    replace hr4 := hr4.after hb2
    replace hb1 := hb1.trans (hb2.mono hb1.size)
    replace hF := hF.below hb2 hF.lt
    clear hb2
    rw [Q.out]
    obtain ⟨w7, hw7⟩ : ∃ w7, w7 = w6.alloc (.cells #[.int .i64 (quarter 3 m), .int .i64 (quarter 0 m), .int .i64 (quarter 1 m), .int .i64 (quarter 2 m)] 24) := ⟨_, rfl⟩
    have hG : Blk w7 w6.heap.size 24 #[.int .i64 (quarter 3 m), .int .i64 (quarter 0 m), .int .i64 (quarter 1 m), .int .i64 (quarter 2 m)] := by rw [hw7]; exact Blk.new _ _ _
    replace hF : Blk w7 g 24 (fourCells m) := by rw [hw7]; exact hF.alloc _
    have hb2 : Below w6.heap.size w6 w7 := by rw [hw7]; exact (Below.refl _ _).alloc (Nat.le_refl _) _
    replace hr1 := hr1.after hb2
    replace hr2 := hr2.after hb2
    replace hr4 := hr4.after hb2
    replace hb1 := hb1.trans (hb2.mono hb1.size)
    have hw8 := Lib.hid hw7
    clear hb2 hw7
    go_wp2_with fail
    rw [← hw8.out]
    clear hw8
    generalize w6.heap.size = g2 at *
    refine (turn_any _ _ _ hr2 hL1 hs1).mono ?_
    rintro e w8 ⟨rfl, hb2⟩
    unfold fl
    replace hr1 := hr1.after hb2
    replace hr2 := hr2.after hb2
    replace hr4 := hr4.after hb2
    replace hb1 := hb1.trans (hb2.mono hb1.size)
    replace hF := hF.below hb2 hF.lt
    replace hG := hG.below hb2 hG.lt
    clear hb2
    go_wp2_with fail
    refine (turn_any _ _ _ hr1 (by omega) hs).mono ?_
    rintro e w9 ⟨rfl, hb2⟩
    replace hr1 := hr1.after hb2
    replace hr2 := hr2.after hb2
    replace hr4 := hr4.after hb2
    replace hb1 := hb1.trans (hb2.mono hb1.size)
    replace hF := hF.below hb2 hF.lt
    replace hG := hG.below hb2 hG.lt
    clear hb2
    unfold fl
    go_wp2_with fail
    refine (mul_any _ _ _ _ _ _ _ HM.out).mono ?_
    rintro e w10 ⟨rfl, rfl⟩
    go_wp2_with fail
    refine (turn_any _ _ _ hr4 hL4 hs4).mono ?_
    rintro e w11 ⟨rfl, hb2⟩
    replace hr1 := hr1.after hb2
    replace hr2 := hr2.after hb2
    replace hr4 := hr4.after hb2
    replace hb1 := hb1.trans (hb2.mono hb1.size)
    replace hF := hF.below hb2 hF.lt
    replace hG := hG.below hb2 hG.lt
    clear hb2
    unfold fl
    go_wp2_with fail
    refine (turn_any _ _ _ hr1 (by omega) hs).mono ?_
    rintro e w12 ⟨rfl, hb2⟩
    replace hr1 := hr1.after hb2
    replace hr2 := hr2.after hb2
    replace hr4 := hr4.after hb2
    replace hb1 := hb1.trans (hb2.mono hb1.size)
    replace hF := hF.below hb2 hF.lt
    replace hG := hG.below hb2 hG.lt
    clear hb2
    unfold fl
    have q4 := four_eq (quarter 3 m) (quarter 0 m) (quarter 1 m) (quarter 2 m)
    have f0 : w12.cell? ⟨g, 0, none⟩ = some (.int .i64 (quarter 0 m)) := hF.cell 0
    have f1 : w12.cell? ⟨g, 1, none⟩ = some (.int .i64 (quarter 1 m)) := hF.cell 1
    have f2 : w12.cell? ⟨g, 2, none⟩ = some (.int .i64 (quarter 2 m)) := hF.cell 2
    have f3 : w12.cell? ⟨g, 3, none⟩ = some (.int .i64 (quarter 3 m)) := hF.cell 3
    have g0 : w12.cell? ⟨g2, 0, none⟩ = some (.int .i64 (quarter 3 m)) := hG.cell 0
    have g1 : w12.cell? ⟨g2, 1, none⟩ = some (.int .i64 (quarter 0 m)) := hG.cell 1
    have g2' : w12.cell? ⟨g2, 2, none⟩ = some (.int .i64 (quarter 1 m)) := hG.cell 2
    have g3 : w12.cell? ⟨g2, 3, none⟩ = some (.int .i64 (quarter 2 m)) := hG.cell 3
    unfold fl at *
    go_wp2_with fail
    refine (known_any _).mono ?_
    rintro e w13 ⟨rfl, hb2⟩
    go_wp2
    go_ret
    exact ⟨rfl, hb1.trans (hb2.mono hb1.size)⟩
  · have hgt : (100 : Int) < (l.length : Int) := by omega
    go_enter Try.func4, Try.ntmps4
    go_wp2
    go_ret
    exact ⟨rfl, Below.refl _ _⟩
end Go.Proofs.Ytkbmlipdpahblaa
