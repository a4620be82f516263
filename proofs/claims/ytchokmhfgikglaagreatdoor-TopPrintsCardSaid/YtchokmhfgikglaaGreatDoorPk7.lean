/- Several texts in one: RefRat, RefBits, NumQuot, Guess, Takes. Condition: each says its own. -/
import Derived.Test.YtchokmhfgikglaaGreatDoorPk1
import Derived.Test.YtchokmhfgikglaaGreatDoorPk3
import Derived.Test.YtchokmhfgikglaaGreatDoorPk4
import Derived.Test.YtchokmhfgikglaaGreatDoorPk6
namespace Go.Proofs.YtchokmhfgikglaaGreatDoor
set_option maxRecDepth 100000
open Go.RowKit

/-- A value that is a number with a divisor, of these limbs. -/
def Rt (w : World) (L B : Nat) (v : Value) (s : Bool) (n d : List Nat) : Prop := ∃ vn vd, v = .agg #[.bool s, vn, vd] ∧ Nt w L B vn n ∧ Nt w L B vd d

theorem Rt.after {w w' : World} {L : Nat} {v : Value} {s : Bool} {n d : List Nat} (h : Rt w L w.heap.size v s n d) (hb : Below w.heap.size w w') : Rt w' L w'.heap.size v s n d := by
  obtain ⟨vn, vd, rfl, h1, h2⟩ := h
  exact ⟨vn, vd, rfl, h1.after hb, h2.after hb⟩
theorem Rt.low {w : World} {L L' B : Nat} {v : Value} {s : Bool} {n d : List Nat} (h : Rt w L B v s n d) (hL : L' ≤ L) : Rt w L' B v s n d := by
  obtain ⟨vn, vd, rfl, h1, h2⟩ := h
  exact ⟨vn, vd, rfl, h1.low hL, h2.low hL⟩

/-- What hands back a new number with a divisor. -/
def GivesT (s : Bool) (n d : Nat) (w : World) (e : Ending) (w' : World) : Prop :=
  ∃ v', e = .returned v' ∧ Rt w' w.heap.size w'.heap.size v' s (lim n) (lim d) ∧ Below w.heap.size w w'

theorem keep2 {w0 W W' : World} {g : Nat} {v1 v2 : Value} (hs : Below w0.heap.size w0 W ∧ W.cell? ⟨g, 1, none⟩ = some v1 ∧ W.cell? ⟨g, 2, none⟩ = some v2) (hb : Below W.heap.size W W') (hg : g < w0.heap.size) :
    Below w0.heap.size w0 W' ∧ W'.cell? ⟨g, 1, none⟩ = some v1 ∧ W'.cell? ⟨g, 2, none⟩ = some v2 := by
  obtain ⟨a, b, c⟩ := hs
  have hz := a.size
  have k1 : g < W.heap.size := by omega
  exact ⟨a.trans (hb.mono hz), (hb.cell (p := ⟨g, 1, none⟩) k1).trans b, (hb.cell (p := ⟨g, 2, none⟩) k1).trans c⟩

theorem Nt.put3 {w : World} {L : Nat} {v : Value} {x : List Nat} {g : Nat} (h : Nt w L w.heap.size v x) (hg : g < L) (i : Nat) (u : Value) : Nt (w.setCell ⟨g, i, none⟩ u) L (w.setCell ⟨g, i, none⟩ u).heap.size v x :=
  h.stay (Nat.le_refl _) (by simp [World.setCell]) fun p hl _ => World.cell?_setCell_far _ _ _ _ (by show g ≠ p.block; omega)

set_option maxHeartbeats 3200000 in
theorem ratNorm_some (v : Value) (s : Bool) (n d : List Nat) (w : World) (dn : Dig n) (dd : Dig d) (h : Rt w 0 w.heap.size v s n d) (ln : n.length ≤ 1000) (ld : d.length ≤ 1000) (h0 : val n ≠ 0) (h1 : val d ≠ 0) :
    Calls Tryz.prog 43 #[v] w (GivesT s (val n / Nat.gcd (val n) (val d)) (val d / Nat.gcd (val n) (val d)) w) := by
  obtain ⟨vn, vd, rfl, hn, hd⟩ := h
  have z1 : ((((lim (val n)).length : Nat) : Int) == 0) = false := beq_eq_false_iff_ne.2 (by have : (lim (val n)).length ≠ 0 := (fun h => h0 (lim_eq_nil.1 (List.eq_nil_of_length_eq_zero h))); omega)
  have z2 : ((((lim (val d)).length : Nat) : Int) == 0) = false := beq_eq_false_iff_ne.2 (by have : (lim (val d)).length ≠ 0 := (fun h => h1 (lim_eq_nil.1 (List.eq_nil_of_length_eq_zero h))); omega)
  have dn1 := dig_lim (val n)
  have dd1 := dig_lim (val d)
  have ln1 : (lim (val n)).length ≤ 1000 := Nat.le_trans (lim_val_length n dn) ln
  have ld1 : (lim (val d)).length ≤ 1000 := Nat.le_trans (lim_val_length d dd) ld
  have vn1 := Lib.hid (val_lim (val n))
  have vd1 := Lib.hid (val_lim (val d))
  obtain ⟨G, hG⟩ : ∃ G, Nat.gcd (val n) (val d) = G := ⟨_, rfl⟩
  have dg := dig_lim G
  have vg := Lib.hid (val_lim G)
  have lg : (lim G).length ≤ 1000 := by
    rw [← hG]
    exact Nat.le_trans (lim_len_mono (Nat.gcd_le_left _ (Nat.pos_of_ne_zero h0))) ln1
  have HG := Lib.hid hG
  rw [hG]
  clear hG h0 h1
  go_enter Tryz.func43, Tryz.ntmps43
  go_wp2_with fail
  have b0 := (Blk.new w 60 #[.bool s, vn, vd]).alloc (.cells #[.bool false, .slice none 0 0, .slice none 0 0] 60)
  have b1 := Blk.new (w.alloc (.cells #[.bool s, vn, vd] 60)) 60 #[.bool false, .slice none 0 0, .slice none 0 0]
  have hB : Below w.heap.size w ((w.alloc (.cells #[.bool s, vn, vd] 60)).alloc (.cells #[.bool false, .slice none 0 0, .slice none 0 0] 60)) := ((Below.refl _ _).alloc (Nat.le_refl _) _).alloc (by simp) _
  have es : (w.alloc (.cells #[.bool s, vn, vd] 60)).heap.size = w.heap.size + 1 := by simp
  rw [es] at b1
  clear es
  generalize (w.alloc (.cells #[.bool s, vn, vd] 60)).alloc (.cells #[.bool false, .slice none 0 0, .slice none 0 0] 60) = w2 at *
  have hn2 := (hn.below hB (Nat.le_refl _)).up hB.size
  have hd2 := (hd.below hB (Nat.le_refl _)).up hB.size
  have hg := b0.lt
  have cc1 := b0.cell 1
  have cc2 := b0.cell 2
  clear hn hd
  go_region_held3 (fun W => Below w2.heap.size w2 W ∧ W.cell? ⟨w.heap.size, 1, none⟩ = some vn ∧ W.cell? ⟨w.heap.size, 2, none⟩ = some vd)
    (first | assumption | exact keep2 (by assumption) (by assumption) hg | exact ⟨(Below.refl _ _).drew, cc1, cc2⟩)
    (first
      | (have hx := hk3; go_at_call 94; refine (refTrim_any vd d _ dd (hd2.after hk3) (by omega)).mono ?_; rintro e w4 ⟨v4, rfl, h4, hb4⟩)
      | (go_at_call 94; refine (refTrim_any vn n _ dn hn2.drew (by omega)).mono ?_; rintro e w3 ⟨v3, rfl, h3, hb3⟩; have hbb := hb3; have hk3 : Below w2.heap.size w2 w3 := Below.trans (Below.drew (Below.refl _ _)) hb3)
      | fail)
  have hk4 := hk3.trans (hb4.mono hk3.size)
  have hB4 := hB.trans (hk4.mono hB.size)
  replace h3 := (h3.low (Nat.zero_le _)).after hb4
  replace h4 := h4.low (Nat.zero_le _)
  have q0 := b0.below hk4 hg
  have q1 := b1.below hk4 b1.lt
  have hl3 := h3
  have hl4 := h4
  obtain ⟨A3, c3, rfl, m3⟩ := nt_len hl3
  obtain ⟨A4, c4, rfl, m4⟩ := nt_len hl4
  clear hb3 hb4 hk3 hk4 hn2 hd2 b0 b1 hg cc1 cc2 hl3 hl4 dn dd ln ld hbb
  go_wp2_with fail
  refine (refGcd_any _ _ (lim (val n)) (lim (val d)) _ dn1 dd1 h3 h4 ln1 ld1).mono ?_
  rintro e w5 ⟨v5, rfl, h5, hb⟩
  rw [vn1.out, vd1.out, HG.out] at h5
  replace h5 := h5.low (Nat.zero_le _)
  replace h3 := h3.after hb
  replace h4 := h4.after hb
  have q0' := q0.below hb q0.lt
  have q1' := q1.below hb q1.lt
  replace hB4 := hB4.trans (hb.mono hB4.size)
  clear q0 q1 hb
  go_wp2_with fail
  refine (refDiv_any _ _ (lim (val n)) (lim G) _ dn1 dg h3 h5 ln1 lg).mono ?_
  rintro e w6 ⟨v6, z6, rfl, h6, h6', hb⟩
  rw [vn1.out, vg.out] at h6
  clear h6'
  replace h6 := h6.low (show w.heap.size + 2 ≤ _ from q1'.lt)
  replace h5 := h5.after hb
  replace h4 := h4.after hb
  have q0 := q0'.below hb q0'.lt
  have q1 := q1'.below hb q1'.lt
  replace hB4 := hB4.trans (hb.mono hB4.size)
  clear q0' q1' hb h3
  go_wp2_with fail
  refine (refDiv_any _ _ (lim (val d)) (lim G) _ dd1 dg h4 h5 ld1 lg).mono ?_
  rintro e w7 ⟨v7, z7, rfl, h7, h7', hb⟩
  rw [vd1.out, vg.out] at h7
  clear h7'
  replace h7 := h7.low (show w.heap.size + 2 ≤ _ from q1.lt)
  have q0' := q0.below hb q0.lt
  have q1' := q1.below hb q1.lt
  replace hB4 := hB4.trans (hb.mono hB4.size)
  clear q0 q1 h5 h4
  have hl6 := h6.after hb
  have hl7 := h7
  obtain ⟨A6, c6, rfl, m6⟩ := nt_len hl6
  obtain ⟨A7, c7, rfl, m7⟩ := nt_len hl7
  replace h6 := h6.after hb
  clear hl6 hl7 hb
  have cc0 := q0'.cell 0
  have r0 := q1'.cell 0
  have r1 := q1'.cell 1
  have r2 := q1'.cell 2
  have f0 := q1'.free 0
  have f1 := q1'.free 1
  have f2 := q1'.free 2
  have p3 := ((q1'.put 0 (.bool s)).put 1 (.slice A6 (lim (val n / G)).length c6)).put 2 (.slice A7 (lim (val d / G)).length c7)
  have hBB := ((hB4.setCell (p := ⟨w.heap.size + 1, 0, none⟩) (by simp) (.bool s)).setCell (p := ⟨w.heap.size + 1, 1, none⟩) (by simp) (.slice A6 (lim (val n / G)).length c6)).setCell (p := ⟨w.heap.size + 1, 2, none⟩) (by simp) (.slice A7 (lim (val d / G)).length c7)
  have t6 := ((h6.put3 (Nat.lt_succ_self _) 0 (.bool s)).put3 (Nat.lt_succ_self _) 1 (.slice A6 (lim (val n / G)).length c6)).put3 (Nat.lt_succ_self _) 2 (.slice A7 (lim (val d / G)).length c7)
  have t7 := ((h7.put3 (Nat.lt_succ_self _) 0 (.bool s)).put3 (Nat.lt_succ_self _) 1 (.slice A6 (lim (val n / G)).length c6)).put3 (Nat.lt_succ_self _) 2 (.slice A7 (lim (val d / G)).length c7)
  clear h6 h7
  go_wp2_with fail
  clear r0 r1 r2 f0 f1 f2 cc0 q0' q1'
  generalize ((World.setCell w7 ⟨w.heap.size + 1, 0, none⟩ (.bool s)).setCell ⟨w.heap.size + 1, 1, none⟩ (.slice A6 (lim (val n / G)).length c6)).setCell ⟨w.heap.size + 1, 2, none⟩ (.slice A7 (lim (val d / G)).length c7) = W at *
  have e0 : W.cell? ⟨w.heap.size + 1, 0, none⟩ = some (.bool s) := by rw [p3.cell]; rfl
  have e1 : W.cell? ⟨w.heap.size + 1, 1, none⟩ = some (.slice A6 (lim (val n / G)).length c6) := by rw [p3.cell]; rfl
  have e2 : W.cell? ⟨w.heap.size + 1, 2, none⟩ = some (.slice A7 (lim (val d / G)).length c7) := by rw [p3.cell]; rfl
  refine bodyPost_ret (v := .agg #[.bool s, .slice A6 (lim (val n / G)).length c6, .slice A7 (lim (val d / G)).length c7]) ?_ rfl ⟨_, rfl, ⟨_, _, rfl, t6.low (by omega), t7.low (by omega)⟩, hBB⟩
  simp [results, Tryz.results43, go_sem, e0, e1, e2]
set_option maxHeartbeats 3200000 in
theorem ratNorm_zero (v : Value) (s : Bool) (n d : List Nat) (w : World) (dn : Dig n) (dd : Dig d) (h : Rt w 0 w.heap.size v s n d) (ln : n.length ≤ 1000) (ld : d.length ≤ 1000) (h0 : val n = 0 ∨ val d = 0) :
    Calls Tryz.prog 43 #[v] w (GivesT false 0 1 w) := by
  obtain ⟨vn, vd, rfl, hn, hd⟩ := h
  have zz : ((((lim (val d)).length : Nat) : Int) == 0) = true ∨ ((((lim (val d)).length : Nat) : Int) == 0) = false ∧ ((((lim (val n)).length : Nat) : Int) == 0) = true := by
    by_cases h1 : val d = 0
    · left; rw [h1, lim_zero]; rfl
    · right
      refine ⟨beq_eq_false_iff_ne.2 (by have : (lim (val d)).length ≠ 0 := (fun h => h1 (lim_eq_nil.1 (List.eq_nil_of_length_eq_zero h))); omega), ?_⟩
      have h2 : val n = 0 := by omega
      rw [h2, lim_zero]; rfl
  have ZZ := Lib.hid zz
  clear h0 zz
  go_enter Tryz.func43, Tryz.ntmps43
  go_wp2_with fail
  have b0 := (Blk.new w 60 #[.bool s, vn, vd]).alloc (.cells #[.bool false, .slice none 0 0, .slice none 0 0] 60)
  have b1 := Blk.new (w.alloc (.cells #[.bool s, vn, vd] 60)) 60 #[.bool false, .slice none 0 0, .slice none 0 0]
  have hB : Below w.heap.size w ((w.alloc (.cells #[.bool s, vn, vd] 60)).alloc (.cells #[.bool false, .slice none 0 0, .slice none 0 0] 60)) := ((Below.refl _ _).alloc (Nat.le_refl _) _).alloc (by simp) _
  have es : (w.alloc (.cells #[.bool s, vn, vd] 60)).heap.size = w.heap.size + 1 := by simp
  rw [es] at b1
  clear es
  generalize (w.alloc (.cells #[.bool s, vn, vd] 60)).alloc (.cells #[.bool false, .slice none 0 0, .slice none 0 0] 60) = w2 at *
  have hn2 := (hn.below hB (Nat.le_refl _)).up hB.size
  have hd2 := (hd.below hB (Nat.le_refl _)).up hB.size
  have hg := b0.lt
  have cc1 := b0.cell 1
  have cc2 := b0.cell 2
  clear hn hd
  go_region_held3 (fun W => Below w2.heap.size w2 W ∧ W.cell? ⟨w.heap.size, 1, none⟩ = some vn ∧ W.cell? ⟨w.heap.size, 2, none⟩ = some vd)
    (first | assumption | exact keep2 (by assumption) (by assumption) hg | exact ⟨(Below.refl _ _).drew, cc1, cc2⟩)
    (first
      | (have hx := hk3; go_at_call 94; refine (refTrim_any vd d _ dd (hd2.after hk3) (by omega)).mono ?_; rintro e w4 ⟨v4, rfl, h4, hb4⟩)
      | (go_at_call 94; refine (refTrim_any vn n _ dn hn2.drew (by omega)).mono ?_; rintro e w3 ⟨v3, rfl, h3, hb3⟩; have hbb := hb3; have hk3 : Below w2.heap.size w2 w3 := Below.trans (Below.drew (Below.refl _ _)) hb3)
      | fail)
  have hk4 := hk3.trans (hb4.mono hk3.size)
  have hB4 := hB.trans (hk4.mono hB.size)
  replace h3 := (h3.low (Nat.zero_le _)).after hb4
  replace h4 := h4.low (Nat.zero_le _)
  have q1 := b1.below hk4 b1.lt
  obtain ⟨A3, c3, rfl, m3⟩ := nt_len h3
  obtain ⟨A4, c4, rfl, m4⟩ := nt_len h4
  clear hb3 hb4 hk3 hk4 hn2 hd2 b0 b1 hg cc1 cc2 dn dd ln ld hbb h3 h4
  have hw : w.heap.size ≤ w4.heap.size := hB4.size
  have hL := Blk.new w4 122 #[.int .u32 1]
  have hb5 : Below w.heap.size w (w4.alloc (.cells #[.int .u32 1] 122)) := hB4.alloc hw _
  have q5 := q1.alloc (.cells #[.int .u32 1] 122)
  have hLb : Lb (w4.alloc (.cells #[.int .u32 1] 122)) w4.heap.size 122 [1] := hL
  have h1l : Nt (w4.alloc (.cells #[.int .u32 1] 122)) w4.heap.size (w4.alloc (.cells #[.int .u32 1] 122)).heap.size (.slice (some ⟨w4.heap.size, 0, none⟩) 1 1) [1] := hLb.reads (n := 1) (by simp) (by unfold maxLen; simp)
  clear hLb hL
  have r0 := q5.cell 0
  have r1 := q5.cell 1
  have r2 := q5.cell 2
  have f0 := q5.free 0
  have f1 := q5.free 1
  have f2 := q5.free 2
  have g1 : w.heap.size + 1 < w4.heap.size := q1.lt
  have p3 := ((q5.put 0 (.bool false)).put 1 (.slice none 0 0)).put 2 (.slice (some ⟨w4.heap.size, 0, none⟩) 1 1)
  have hBB := ((hb5.setCell (p := ⟨w.heap.size + 1, 0, none⟩) (by simp) (.bool false)).setCell (p := ⟨w.heap.size + 1, 1, none⟩) (by simp) (.slice none 0 0)).setCell (p := ⟨w.heap.size + 1, 2, none⟩) (by simp) (.slice (some ⟨w4.heap.size, 0, none⟩) 1 1)
  have t7 := ((h1l.put3 g1 0 (.bool false)).put3 g1 1 (.slice none 0 0)).put3 g1 2 (.slice (some ⟨w4.heap.size, 0, none⟩) 1 1)
  have l0 := lim_zero
  have l1 : lim 1 = [1] := lim_one (by omega) (by omega)
  have L0 := Lib.hid l0
  have L1 := Lib.hid l1
  clear h1l l0 l1 g1
  rcases ZZ.out with z1 | ⟨z0, z1⟩
  · go_wp2_with fail
    clear r0 r1 r2 f0 f1 f2 q5 q1
    generalize (((w4.alloc (.cells #[.int .u32 1] 122)).setCell ⟨w.heap.size + 1, 0, none⟩ (.bool false)).setCell ⟨w.heap.size + 1, 1, none⟩ (.slice none 0 0)).setCell ⟨w.heap.size + 1, 2, none⟩ (.slice (some ⟨w4.heap.size, 0, none⟩) 1 1) = W at *
    have e0 : W.cell? ⟨w.heap.size + 1, 0, none⟩ = some (.bool false) := by rw [p3.cell]; rfl
    have e1 : W.cell? ⟨w.heap.size + 1, 1, none⟩ = some (.slice none 0 0) := by rw [p3.cell]; rfl
    have e2 : W.cell? ⟨w.heap.size + 1, 2, none⟩ = some (.slice (some ⟨w4.heap.size, 0, none⟩) 1 1) := by rw [p3.cell]; rfl
    refine bodyPost_ret (v := .agg #[.bool false, .slice none 0 0, .slice (some ⟨w4.heap.size, 0, none⟩) 1 1]) ?_ rfl ⟨_, rfl, ⟨_, _, rfl, by rw [L0.out]; exact Nt.nil _ _ _, by rw [L1.out]; exact t7.low hw⟩, hBB⟩
    simp [results, Tryz.results43, go_sem, e0, e1, e2]
  · go_wp2_with fail
    clear r0 r1 r2 f0 f1 f2 q5 q1
    generalize (((w4.alloc (.cells #[.int .u32 1] 122)).setCell ⟨w.heap.size + 1, 0, none⟩ (.bool false)).setCell ⟨w.heap.size + 1, 1, none⟩ (.slice none 0 0)).setCell ⟨w.heap.size + 1, 2, none⟩ (.slice (some ⟨w4.heap.size, 0, none⟩) 1 1) = W at *
    have e0 : W.cell? ⟨w.heap.size + 1, 0, none⟩ = some (.bool false) := by rw [p3.cell]; rfl
    have e1 : W.cell? ⟨w.heap.size + 1, 1, none⟩ = some (.slice none 0 0) := by rw [p3.cell]; rfl
    have e2 : W.cell? ⟨w.heap.size + 1, 2, none⟩ = some (.slice (some ⟨w4.heap.size, 0, none⟩) 1 1) := by rw [p3.cell]; rfl
    refine bodyPost_ret (v := .agg #[.bool false, .slice none 0 0, .slice (some ⟨w4.heap.size, 0, none⟩) 1 1]) ?_ rfl ⟨_, rfl, ⟨_, _, rfl, by rw [L0.out]; exact Nt.nil _ _ _, by rw [L1.out]; exact t7.low hw⟩, hBB⟩
    simp [results, Tryz.results43, go_sem, e0, e1, e2]

theorem ratNorm_any (v : Value) (s : Bool) (n d : List Nat) (w : World) (dn : Dig n) (dd : Dig d) (h : Rt w 0 w.heap.size v s n d) (ln : n.length ≤ 1000) (ld : d.length ≤ 1000) :
    Calls Tryz.prog 43 #[v] w (GivesT (nrS s (val n) (val d)) (nrN (val n) (val d)) (nrD (val n) (val d)) w) := by
  by_cases h0 : val n = 0 ∨ val d = 0
  · obtain ⟨e1, e2, e3⟩ := nr_zero (s := s) h0
    rw [e1, e2, e3]
    exact ratNorm_zero v s n d w dn dd h ln ld h0
  · obtain ⟨e1, e2, e3⟩ := nr_some (s := s) (n := val n) (d := val d) (by omega) (by omega)
    rw [e1, e2, e3]
    exact ratNorm_some v s n d w dn dd h ln ld (by omega) (by omega)

set_option maxHeartbeats 3200000 in
theorem ratOf_any (s : Bool) (vn vd : Value) (n d : List Nat) (w : World) (dn : Dig n) (dd : Dig d) (hn : Nt w 0 w.heap.size vn n) (hd : Nt w 0 w.heap.size vd d) (ln : n.length ≤ 1000) (ld : d.length ≤ 1000) :
    Calls Tryz.prog 145 #[.bool s, vn, vd] w (GivesT (nrS s (val n) (val d)) (nrN (val n) (val d)) (nrD (val n) (val d)) w) := by
  have hn' := hn
  have hd' := hd
  obtain ⟨A1, c1, rfl, m1⟩ := nt_len hn'
  obtain ⟨A2, c2, rfl, m2⟩ := nt_len hd'
  clear hn' hd'
  go_enter Tryz.func145, Tryz.ntmps145
  go_wp2_with fail
  have hba : Below w.heap.size w (w.alloc (.cells #[.bool false, .slice none 0 0, .slice none 0 0] 60)) := (Below.refl _ _).alloc (Nat.le_refl _) _
  refine (ratNorm_any _ s n d _ dn dd ⟨_, _, rfl, hn.after hba, hd.after hba⟩ ln ld).mono ?_
  rintro e w2 ⟨v2, rfl, h2, hb2⟩
  obtain ⟨x, y, rfl, hx, hy⟩ := h2
  have hx' := hx
  have hy' := hy
  obtain ⟨A3, c3, rfl, m3⟩ := nt_len hx'
  obtain ⟨A4, c4, rfl, m4⟩ := nt_len hy'
  clear hx' hy'
  have b0 := Blk.new w 60 #[.bool false, .slice none 0 0, .slice none 0 0]
  have q0 := b0.below hb2 b0.lt
  have hx2 := hx.low (show w.heap.size + 1 ≤ _ from b0.lt)
  have hy2 := hy.low (show w.heap.size + 1 ≤ _ from b0.lt)
  have hB2 := hba.trans (hb2.mono hba.size)
  generalize nrN (val n) (val d) = N at *
  generalize nrD (val n) (val d) = D at *
  generalize nrS s (val n) (val d) = S at *
  clear hx hy hb2 hba b0 hn hd
  have r0 := q0.cell 0
  have r1 := q0.cell 1
  have r2 := q0.cell 2
  have f0 := q0.free 0
  have f1 := q0.free 1
  have f2 := q0.free 2
  have p3 := ((q0.put 0 (.bool S)).put 1 (.slice A3 (lim N).length c3)).put 2 (.slice A4 (lim D).length c4)
  have hBB := ((hB2.setCell (p := ⟨w.heap.size, 0, none⟩) (by simp) (.bool S)).setCell (p := ⟨w.heap.size, 1, none⟩) (by simp) (.slice A3 (lim N).length c3)).setCell (p := ⟨w.heap.size, 2, none⟩) (by simp) (.slice A4 (lim D).length c4)
  have t6 := ((hx2.put3 (Nat.lt_succ_self _) 0 (.bool S)).put3 (Nat.lt_succ_self _) 1 (.slice A3 (lim N).length c3)).put3 (Nat.lt_succ_self _) 2 (.slice A4 (lim D).length c4)
  have t7 := ((hy2.put3 (Nat.lt_succ_self _) 0 (.bool S)).put3 (Nat.lt_succ_self _) 1 (.slice A3 (lim N).length c3)).put3 (Nat.lt_succ_self _) 2 (.slice A4 (lim D).length c4)
  clear hx2 hy2 
  go_wp2_with fail
  clear r0 r1 r2 f0 f1 f2 q0
  generalize ((World.setCell w2 ⟨w.heap.size, 0, none⟩ (.bool S)).setCell ⟨w.heap.size, 1, none⟩ (.slice A3 (lim N).length c3)).setCell ⟨w.heap.size, 2, none⟩ (.slice A4 (lim D).length c4) = WW at *
  have e0 : WW.cell? ⟨w.heap.size, 0, none⟩ = some (.bool S) := by rw [p3.cell]; rfl
  have e1 : WW.cell? ⟨w.heap.size, 1, none⟩ = some (.slice A3 (lim N).length c3) := by rw [p3.cell]; rfl
  have e2 : WW.cell? ⟨w.heap.size, 2, none⟩ = some (.slice A4 (lim D).length c4) := by rw [p3.cell]; rfl
  refine bodyPost_ret (v := .agg #[.bool S, .slice A3 (lim N).length c3, .slice A4 (lim D).length c4]) ?_ rfl ⟨_, rfl, ⟨_, _, rfl, t6.low (by omega), t7.low (by omega)⟩, hBB⟩
  simp [results, Tryz.results145, go_sem, e0, e1, e2]
end Go.Proofs.YtchokmhfgikglaaGreatDoor

namespace Go.Proofs.YtchokmhfgikglaaGreatDoor
set_option maxRecDepth 100000
open Go.RowKit

end Go.Proofs.YtchokmhfgikglaaGreatDoor

namespace Go.Proofs.YtchokmhfgikglaaGreatDoor
set_option maxRecDepth 100000

/-- The digits from the i-th on are found. -/
def QuotAt (A D : Nat) (us qs : List Nat) (i : Nat) : Prop := val us + val qs * D = A ∧ val us < 4294967296 ^ i * D ∧ ∀ j, j < i → qs.getD j 0 = 0

theorem quot_digit {D V i : Nat} (hD : 0 < D) (h : V < 4294967296 ^ (i + 1) * D) :
    V / (4294967296 ^ i * D) < 4294967296 ∧ 4294967296 ^ i * (V / (4294967296 ^ i * D) * D) ≤ V ∧ V < 4294967296 ^ i * ((V / (4294967296 ^ i * D) + 1) * D) := by
  have hp := Nat.mul_pos (pow_pos' i) hD
  refine ⟨?_, ?_, ?_⟩
  · rw [Nat.div_lt_iff_lt_mul hp]
    rw [Nat.pow_succ] at h
    have e : 4294967296 ^ i * 4294967296 * D = 4294967296 * (4294967296 ^ i * D) := by grind
    rw [← e]
    exact h
  · have e := Nat.div_mul_le_self V (4294967296 ^ i * D)
    generalize V / (4294967296 ^ i * D) = Q at *
    have e2 : 4294967296 ^ i * (Q * D) = Q * (4294967296 ^ i * D) := by grind
    omega
  · have e := Nat.lt_div_mul_add (a := V) hp
    generalize V / (4294967296 ^ i * D) = Q at *
    have e2 : 4294967296 ^ i * ((Q + 1) * D) = Q * (4294967296 ^ i * D) + 4294967296 ^ i * D := by grind
    omega

theorem quotAt_step {A D Q i : Nat} {us us' qs : List Nat} (h : QuotAt A D us qs (i + 1)) (hi : i < qs.length) (hu : val us' + 4294967296 ^ i * (Q * D) = val us) (hlt : val us < 4294967296 ^ i * ((Q + 1) * D)) :
    QuotAt A D us' (qs.set i Q) i := by
  obtain ⟨h1, h2, h3⟩ := h
  refine ⟨?_, ?_, fun j hj => ?_⟩
  · rw [val_set_zero hi (h3 i (by omega))]
    rw [← h1, ← hu]
    grind
  · have e : 4294967296 ^ i * ((Q + 1) * D) = 4294967296 ^ i * (Q * D) + 4294967296 ^ i * D := by grind
    omega
  · rw [getD_set_ne (by omega)]
    exact h3 j (by omega)

theorem quotAt_start {A D e M s : Nat} {a us : List Nat} (ha : Dig a) (hM : M + (e + 1) = a.length) (hs : s ≤ 31) (hA : A = val a * 2 ^ s) (hD : 2147483648 * 4294967296 ^ (e + 1) ≤ D) (hu : val us = A) :
    QuotAt A D us (List.replicate M 0) M := by
  refine ⟨?_, ?_, fun j _ => bare_zeros _ 0 j (Nat.zero_le _)⟩
  · rw [val_zeros, hu]; simp
  · rw [hu, hA]
    have h1 := val_lt ha
    rw [← hM, Nat.pow_add] at h1
    have h2 := two_pow_le hs
    have h3 : val a * 2 ^ s ≤ val a * 2147483648 := Nat.mul_le_mul_left _ h2
    have h4 : 4294967296 ^ M * (2147483648 * 4294967296 ^ (e + 1)) ≤ 4294967296 ^ M * D := Nat.mul_le_mul_left _ hD
    have h5 : 4294967296 ^ M * (2147483648 * 4294967296 ^ (e + 1)) = 4294967296 ^ M * 4294967296 ^ (e + 1) * 2147483648 := by
      generalize 4294967296 ^ M = x
      generalize 4294967296 ^ (e + 1) = y
      grind
    omega

theorem quotAt_end {A D a b T : Nat} {us qs : List Nat} (hA : A = a * T) (hD : D = b * T) (hT : 0 < T) (h : QuotAt A D us qs 0) : val qs = a / b ∧ val us / T = a % b := by
  obtain ⟨h1, h2, _⟩ := h
  rw [Nat.pow_zero, Nat.one_mul] at h2
  subst hA hD
  have hD0 : 0 < b * T := by omega
  have e1 : a * T = val us + b * T * val qs := by rw [← h1, Nat.mul_comm (val qs)]
  have e2 : a * T / (b * T) = val qs := by rw [e1, Nat.add_mul_div_left _ _ hD0, Nat.div_eq_of_lt h2, Nat.zero_add]
  have e3 : a * T % (b * T) = val us := by rw [e1, Nat.add_mul_mod_self_left, Nat.mod_eq_of_lt h2]
  rw [Nat.mul_div_mul_right _ _ hT] at e2
  rw [Nat.mul_mod_mul_right] at e3
  refine ⟨e2.symm, ?_⟩
  rw [← e3, Nat.mul_div_cancel _ hT]

theorem three_top {us : List Nat} {m : Nat} (hz : Bare us (m + 3)) : val (us.drop m) = (us.getD (m + 2) 0 * 4294967296 + us.getD (m + 1) 0) * 4294967296 + us.getD m 0 := by
  have s : ∀ k, val (us.drop k) = us.getD k 0 + 4294967296 * val (us.drop (k + 1)) := fun k => by
    by_cases hk : k < us.length
    · rw [List.drop_eq_getElem_cons hk, getD_in0 hk]; rfl
    · rw [List.drop_eq_nil_of_le (by omega), List.drop_eq_nil_of_le (by omega), getD_out0 (by omega)]; rfl
  have z : val (us.drop (m + 3)) = 0 := by
    have h : ∀ l : List Nat, (∀ j, l.getD j 0 = 0) → val l = 0 := by
      intro l
      induction l with
      | nil => intro _; rfl
      | cons x r ih =>
        intro hz
        have h0 : x = 0 := hz 0
        have h1 := ih (fun j => hz (j + 1))
        show x + 4294967296 * val r = 0
        omega
    exact h _ fun j => by
      rw [List.getD_eq_getElem?_getD, List.getElem?_drop, ← List.getD_eq_getElem?_getD]
      exact hz (m + 3 + j) (by omega)
  rw [s m, s (m + 1), s (m + 2), z]
  omega

theorem top_le {B E I x2 x1 x0 b1 b2 r1 r2 U D : Nat} (m1 : ((x2 * B + x1) * B + x0) * (I * E) + r1 = U) (m2 : (b1 * B + b2) * E + r2 = D) (l2 : r2 < E) (hd0 : b2 < B) (h : U < I * B * D) : x2 ≤ b1 := by
  refine Nat.le_of_lt_succ (Nat.lt_of_not_le fun hle => ?_)
  have a1 : D ≤ (b1 + 1) * B * E := by
    have c1 : (b1 * B + b2 + 1) * E ≤ (b1 * B + B) * E := Nat.mul_le_mul_right _ (by omega)
    have c2 : (b1 * B + b2 + 1) * E = (b1 * B + b2) * E + E := by grind
    have c3 : (b1 + 1) * B * E = (b1 * B + B) * E := by grind
    omega
  have a2 : I * B * D ≤ I * B * ((b1 + 1) * B * E) := Nat.mul_le_mul_left _ a1
  have a3 : (b1 + 1) * (B * B * (I * E)) ≤ x2 * (B * B * (I * E)) := Nat.mul_le_mul_right _ hle
  have a4 : ((x2 * B + x1) * B + x0) * (I * E) = x2 * (B * B * (I * E)) + (x1 * B + x0) * (I * E) := by grind
  have a5 : I * B * ((b1 + 1) * B * E) = (b1 + 1) * (B * B * (I * E)) := by grind
  omega

/-- What is guessed from the highest limbs is the digit, or one more. -/
theorem quot_guess {us d : List Nat} {i e : Nat} (hu : Dig us) (hd : Dig d) (he : d.length = e + 2) (hn : 2147483648 ≤ d.getD (e + 1) 0) (h : val us < 4294967296 ^ (i + 1) * val d) :
    us.getD (i + e + 2) 0 ≤ d.getD (e + 1) 0 ∧
      val us / (4294967296 ^ i * val d) ≤ guessN 4294967296 (us.getD (i + e + 2) 0 * 4294967296 + us.getD (i + e + 1) 0) (us.getD (i + e) 0) (d.getD (e + 1) 0) (d.getD e 0) ∧
      guessN 4294967296 (us.getD (i + e + 2) 0 * 4294967296 + us.getD (i + e + 1) 0) (us.getD (i + e) 0) (d.getD (e + 1) 0) (d.getD e 0) ≤ val us / (4294967296 ^ i * val d) + 1 := by
  have hdl := val_lt hd
  rw [he] at hdl
  have hus : val us < 4294967296 ^ (i + e + 3) := by
    have e1 : (4294967296 : Nat) ^ (i + e + 3) = 4294967296 ^ (i + 1) * 4294967296 ^ (e + 2) := by rw [← Nat.pow_add]; congr 1; omega
    rw [e1]
    exact Nat.lt_trans h (Nat.mul_lt_mul_of_pos_left hdl (pow_pos' _))
  have hz := bare_of_lt hu hus
  have t := three_top (m := i + e) hz
  have hb2 : Bare d (e + 2) := bare_of_lt hd (by rw [← he]; exact val_lt hd)
  have hb3 : Bare d (e + 3) := hb2.more (by omega)
  have t2 := three_top (m := e) hb3
  rw [hb2 (e + 2) (Nat.le_refl _), Nat.zero_mul, Nat.zero_add] at t2
  have u1 := val_drop us hu (i + e)
  have u2 := val_drop d hd e
  have hD : 0 < val d := by
    refine Nat.pos_of_ne_zero fun e0 => ?_
    rw [e0, Nat.zero_div] at u2
    omega
  have q := quot_digit hD h
  generalize val us / (4294967296 ^ i * val d) = Q at *
  have m1 := Nat.div_add_mod' (val us) (4294967296 ^ (i + e))
  have m2 := Nat.div_add_mod' (val d) (4294967296 ^ e)
  have l1 := Nat.mod_lt (val us) (pow_pos' (i + e))
  have l2 := Nat.mod_lt (val d) (pow_pos' e)
  rw [← u1, t] at m1
  rw [← u2, t2] at m2
  have hm2 : us.getD (i + e + 1) 0 < 4294967296 := dig_getD hu _
  have hm0 : us.getD (i + e) 0 < 4294967296 := dig_getD hu _
  have hd0 : d.getD e 0 < 4294967296 := dig_getD hd _
  generalize us.getD (i + e + 2) 0 = x2 at *
  generalize us.getD (i + e + 1) 0 = x1 at *
  generalize us.getD (i + e) 0 = x0 at *
  generalize d.getD (e + 1) 0 = b1 at *
  generalize d.getD e 0 = b2 at *
  generalize val us % 4294967296 ^ (i + e) = r1 at *
  generalize val d % 4294967296 ^ e = r2 at *
  have P0 := pow_pos' e
  have P1 := pow_pos' i
  rw [Nat.pow_add] at m1 l1
  rw [Nat.pow_succ] at h
  clear t t2 u1 u2 hz hb2 hb3 hus hdl he hu hd
  generalize val us = U at *
  generalize val d = D at *
  generalize 4294967296 ^ e = E at *
  generalize 4294967296 ^ i = I at *
  refine ⟨?_, ?_⟩
  · exact top_le m1 m2 l2 hd0 h
  · refine guess_near (P := I * E) (U := U) (D := I * D) (lo := r1) (dl := I * r2) m1.symm l1 ?_ ?_ ?_ ?_ ?_ q.1
    · rw [← m2]; grind
    · exact Nat.mul_lt_mul_of_pos_left l2 P1
    · omega
    · have := q.2.1
      have e2 : Q * (I * D) = I * (Q * D) := by grind
      omega
    · have := q.2.2
      have e2 : (Q + 1) * (I * D) = I * ((Q + 1) * D) := by grind
      omega

theorem bl_spec : ∀ n : Nat, n ≠ 0 → 1 ≤ bl n ∧ 2 ^ (bl n - 1) ≤ n ∧ n < 2 ^ bl n := by
  intro n
  induction n using Nat.strongRecOn with
  | _ n ih =>
    intro h
    rw [bl_pos h]
    by_cases h2 : n / 2 = 0
    · have : n = 1 := by omega
      subst this
      rw [h2, bl_zero]
      decide
    · obtain ⟨a, b, c⟩ := ih (n / 2) (by omega) h2
      generalize bl (n / 2) = k at *
      refine ⟨by omega, ?_, ?_⟩
      · obtain ⟨j, rfl⟩ : ∃ j, k = j + 1 := ⟨k - 1, by omega⟩
        rw [Nat.add_sub_cancel] at b
        have e : 1 + (j + 1) - 1 = j + 1 := by omega
        rw [e, Nat.pow_succ]
        omega
      · rw [Nat.add_comm, Nat.pow_succ]
        omega

theorem norm_eq {P k t v : Nat} (hk1 : 1 ≤ k) (hk : k ≤ 32) (h1 : 2 ^ (k - 1) ≤ t) (h2 : t < 2 ^ k) (h3 : P * t ≤ v) (h4 : v < P * t + P) : v * 2 ^ (32 - k) < P * 4294967296 ∧ 2147483648 * P ≤ v * 2 ^ (32 - k) := by
  have T0 : 0 < 2 ^ (32 - k) := Nat.two_pow_pos _
  have e1 : 2 ^ k * 2 ^ (32 - k) = 4294967296 := by
    rw [← Nat.pow_add, show k + (32 - k) = 32 by omega]
  have e2 : 2 ^ (k - 1) * 2 ^ (32 - k) = 2147483648 := by
    rw [← Nat.pow_add, show k - 1 + (32 - k) = 31 by omega]
  constructor
  · have a1 : v < P * 2 ^ k := by
      have b1 : P * (t + 1) ≤ P * 2 ^ k := Nat.mul_le_mul_left _ h2
      have b2 : P * (t + 1) = P * t + P := by grind
      omega
    have a2 := Nat.mul_lt_mul_of_pos_right a1 T0
    rw [Nat.mul_assoc, e1] at a2
    exact a2
  · have a1 : P * 2 ^ (k - 1) ≤ v := Nat.le_trans (Nat.mul_le_mul_left _ h1) h3
    have a2 := Nat.mul_le_mul_right (2 ^ (32 - k)) a1
    rw [Nat.mul_assoc, e2] at a2
    omega

/-- The divisor, moved up: its highest bit is set, and it takes no limb more. -/
theorem top_norm {b : List Nat} {m : Nat} (hd : Dig b) (hl : b.length = m + 1) (h0 : b.getD m 0 ≠ 0) :
    bl (b.getD m 0) ≤ 32 ∧ 1 ≤ bl (b.getD m 0) ∧ val b * 2 ^ (32 - bl (b.getD m 0)) < 4294967296 ^ (m + 1) ∧ 2147483648 * 4294967296 ^ m ≤ val b * 2 ^ (32 - bl (b.getD m 0)) := by
  have e := val_take_getD b m
  rw [List.take_of_length_le (by omega)] at e
  have h1 := val_lt (hd.take m)
  rw [List.length_take, Nat.min_eq_left (by omega)] at h1
  have ht := dig_getD hd m
  obtain ⟨s1, s2, s3⟩ := bl_spec _ h0
  have hk : bl (b.getD m 0) ≤ 32 := by
    refine Nat.le_of_not_lt fun hlt => ?_
    have : 2 ^ 32 ≤ 2 ^ (bl (b.getD m 0) - 1) := Nat.pow_le_pow_right (by omega) (by omega)
    omega
  have r := norm_eq s1 hk s2 s3 (by omega) (show val b < 4294967296 ^ m * b.getD m 0 + 4294967296 ^ m by omega)
  refine ⟨hk, s1, ?_, r.2⟩
  rw [Nat.pow_succ]
  exact r.1

theorem top_limb {d : List Nat} {m : Nat} (hd : Dig d) (hl : d.length = m + 1) (h : 2147483648 * 4294967296 ^ m ≤ val d) : 2147483648 ≤ d.getD m 0 := by
  have e := val_drop d hd m
  rw [List.drop_eq_getElem_cons (by omega), List.drop_eq_nil_of_le (by omega)] at e
  rw [getD_in0 (by omega)]
  have e2 : val [d[m]] = d[m] := val_one _
  rw [e2] at e
  rw [e, Nat.le_div_iff_mul_le (pow_pos' m)]
  exact h
end Go.Proofs.YtchokmhfgikglaaGreatDoor

namespace Go.Proofs.YtchokmhfgikglaaGreatDoor
set_option maxRecDepth 100000
open Go.RowKit

set_option maxHeartbeats 3200000 in
theorem guess_any (high mid low b1 b2 : Nat) (w : World) (h1 : high ≤ b1) (hn : 2147483648 ≤ b1) (hb1 : b1 < 4294967296) (hb2 : b2 < 4294967296) (hm : mid < 4294967296) (hl : low < 4294967296) :
    Calls Tryz.prog 283 #[.int .u32 (high : Int), .int .u32 (mid : Int), .int .u32 (low : Int), .int .u32 (b1 : Int), .int .u32 (b2 : Int)] w fun e w' => e = .returned (.int .u64 (guessN 4294967296 (high * 4294967296 + mid) low b1 b2 : Nat)) ∧ Below w.heap.size w w' := by
  obtain ⟨m, hm0⟩ : ∃ m, high * 4294967296 = m := ⟨_, rfl⟩
  have hW2 : (high : Int) * 4294967296 = (m : Int) := by omega
  obtain ⟨u, hu0⟩ : ∃ u, m + mid = u := ⟨_, rfl⟩
  have hml : m < 18446744073709551616 := by omega
  have hor : bits BinOp.or IntKind.u64 (m : Int) (mid : Int) = (u : Int) := by
    rw [u64_or_nat m mid (by omega) (by omega), Nat.or_comm, or_add (m := m) (h := mid) (s := 32) (by omega) ⟨high, by omega⟩]
    omega
  have hul : u < 18446744073709551616 := by omega
  have hub : Hid (u < (b1 + 1) * 4294967296) := by show _ < _; omega
  rw [hm0, hu0]
  have hs := guessAt_start (B := 4294967296) (u := u) (b2 := b2) (by omega : 0 < b1) hb1 hl
  have HS0 := Lib.hid hs
  have hb1I : ¬ (b1 : Int) = 0 := by omega
  have hql : u / b1 < 18446744073709551616 := Nat.lt_of_le_of_lt (Nat.div_le_self _ _) hul
  have hrl : u % b1 < b1 := Nat.mod_lt _ (by omega)
  obtain ⟨q0, hq0⟩ : ∃ q, u / b1 = q := ⟨_, rfl⟩
  obtain ⟨r0, hr0⟩ : ∃ r, u % b1 = r := ⟨_, rfl⟩
  have hdv : (u : Int) / (b1 : Int) = (q0 : Int) := by rw [← hq0]; exact (Int.natCast_ediv u b1).symm
  have hmd : (u : Int).tmod (b1 : Int) = (r0 : Int) := by rw [Int.tmod_eq_emod_of_nonneg (by omega), ← hr0]; exact (Int.natCast_emod u b1).symm
  rw [hq0] at hql HS0
  rw [hr0] at hrl HS0
  clear hs hm0 hu0 hq0 hr0
  go_enter Tryz.func283, Tryz.ntmps283
  go_wp2_with fail
  go_region
  go_wp2_with fail
  have hb0 : Below w.heap.size w w.drew := (Below.refl _ _).drew
  clear hdv hmd hor hW2
  go_loopw [12, 13] (fun a b wr => ∃ (q r : Nat), a = .int .u64 (q : Nat) ∧ b = .int .u64 (r : Nat) ∧ q < 18446744073709551616 ∧ r < 4294967296 ∧ Hid (GuessAt 4294967296 u low b1 b2 q r) ∧ Below w.heap.size w wr)
    (fun a _ _ => (intOf a).toNat)
  case atStart => exact ⟨q0, r0, rfl, rfl, hql, by omega, HS0, hb0⟩
  case round =>
    obtain ⟨q, r, rfl, rfl, hq, hr, HG, hb⟩ := hrel
    clear hql hrl HS0 hb0
    by_cases hqB : q < 4294967296
    · have hq0 : (q : Int) / 4294967296 = 0 := by omega
      obtain ⟨m2, hm2⟩ : ∃ z, q * b2 = z := ⟨_, rfl⟩
      have hm2l : m2 < 18446744073709551616 := by
        have : q * b2 ≤ 4294967296 * 4294967295 := Nat.mul_le_mul (by omega) (by omega)
        omega
      have hm2I : (q : Int) * (b2 : Int) = (m2 : Int) := by rw [← hm2]; exact (Int.natCast_mul _ _).symm
      obtain ⟨m3, hm3⟩ : ∃ z, r * 4294967296 = z := ⟨_, rfl⟩
      have hm3l : m3 < 18446744073709551616 := by omega
      have hm3I : (r : Int) * 4294967296 = (m3 : Int) := by omega
      obtain ⟨t, ht⟩ : ∃ z, m3 + low = z := ⟨_, rfl⟩
      have htl : t < 18446744073709551616 := by omega
      have hort : bits BinOp.or IntKind.u64 (m3 : Int) (low : Int) = (t : Int) := by
        rw [u64_or_nat m3 low (by omega) (by omega), Nat.or_comm, or_add (m := m3) (h := low) (s := 32) (by omega) ⟨r, by omega⟩]
        omega
      by_cases hle : m2 ≤ t
      · have hend := guessAt_end (by omega : 0 < b1) (by omega : 0 < 4294967296) HG.out hqB (by rw [hm2, hm3, ht]; exact hle)
        have HEND := Lib.hid hend
        clear hm2 hm3 ht hend
        go_wp2_with fail
        go_ret
        exact ⟨by rw [← HEND.out]; rfl, hb⟩
      · have hlt : Hid (r * 4294967296 + low < q * b2) := by show _ < _; omega
        clear hm2 hm3 ht
        have hls := guessAt_less (by omega : 0 < b1) (by omega : 0 < 4294967296) HG.out (Or.inr hlt.out)
        have hq1 := hls.1
        obtain ⟨p, hp⟩ : ∃ p, q - 1 = p := ⟨_, rfl⟩
        have ep : (q : Int) - 1 = (p : Int) := by omega
        have hpq : Hid (p < q) := by show p < q; omega
        have hpl : p < 18446744073709551615 := by omega
        rw [hp] at hls
        clear hp
        obtain ⟨r1, hr1⟩ : ∃ r1, r + b1 = r1 := ⟨_, rfl⟩
        have er : (r : Int) + (b1 : Int) = (r1 : Int) := by omega
        rw [hr1] at hls
        have HLS := Lib.hid hls
        by_cases hbr : r1 < 4294967296
        · have hd1 : (r1 : Int) / 4294967296 = 0 := by omega
          have HGP : Hid (GuessAt 4294967296 u low b1 b2 p r1) := ⟨HLS.out.2.1, HLS.out.2.2, hbr⟩
          clear hls hr1
          go_wp2_with fail
          refine ⟨⟨p, r1, rfl, rfl, by omega, hbr, HGP, hb⟩, ?_⟩
          have := hpq.out
          simp only [intOf]
          omega
        · have hbk := guessAt_break (by omega : 0 < b1) hb2 hub.out hls.2.1 hls.2.2 (by omega : 4294967296 ≤ r1)
          have HBK := Lib.hid hbk
          have hd1 : (r1 : Int) / 4294967296 = 1 := by omega
          clear hls hr1 hbk
          go_wp2_with fail
          go_ret
          exact ⟨by rw [← HBK.out]; rfl, hb⟩
    · obtain ⟨z, hz⟩ : ∃ z : Int, (q : Int) / 4294967296 = z := ⟨_, rfl⟩
      have hz0 : ¬ z = 0 := by omega
      have hls := guessAt_less (by omega : 0 < b1) (by omega : 0 < 4294967296) HG.out (Or.inl (by omega))
      have hq1 := hls.1
      obtain ⟨p, hp⟩ : ∃ p, q - 1 = p := ⟨_, rfl⟩
      have ep : (q : Int) - 1 = (p : Int) := by omega
      have hpq : Hid (p < q) := by show p < q; omega
      have hpl : p < 18446744073709551615 := by omega
      rw [hp] at hls
      clear hp
      obtain ⟨r1, hr1⟩ : ∃ r1, r + b1 = r1 := ⟨_, rfl⟩
      have er : (r : Int) + (b1 : Int) = (r1 : Int) := by omega
      rw [hr1] at hls
      have HLS := Lib.hid hls
      by_cases hbr : r1 < 4294967296
      · have hd1 : (r1 : Int) / 4294967296 = 0 := by omega
        have HGP : Hid (GuessAt 4294967296 u low b1 b2 p r1) := ⟨HLS.out.2.1, HLS.out.2.2, hbr⟩
        clear hls hr1
        go_wp2_with fail
        refine ⟨⟨p, r1, rfl, rfl, by omega, hbr, HGP, hb⟩, ?_⟩
        have := hpq.out
        simp only [intOf]
        omega
      · have hbk := guessAt_break (by omega : 0 < b1) hb2 hub.out hls.2.1 hls.2.2 (by omega : 4294967296 ≤ r1)
        have HBK := Lib.hid hbk
        have hd1 : (r1 : Int) / 4294967296 = 1 := by omega
        clear hls hr1 hbk
        go_wp2_with fail
        go_ret
        exact ⟨by rw [← HBK.out]; rfl, hb⟩
end Go.Proofs.YtchokmhfgikglaaGreatDoor

namespace Go.Proofs.YtchokmhfgikglaaGreatDoor
set_option maxRecDepth 100000
open Go.RowKit

/-- Two worlds that are the same but for one block. -/
def Apart (g : Nat) (w w' : World) : Prop := Below g w w' ∧ w'.heap.size = w.heap.size ∧ ∀ k, k ≠ g → w'.heap[k]? = w.heap[k]?

section
variable {g : Nat} {w w' w'' : World}
theorem Apart.refl (g : Nat) (w : World) : Apart g w w := ⟨Below.refl _ _, rfl, fun _ _ => rfl⟩
theorem Apart.trans (h : Apart g w w') (h' : Apart g w' w'') : Apart g w w'' := ⟨h.1.trans h'.1, h'.2.1.trans h.2.1, fun k hk => (h'.2.2 k hk).trans (h.2.2 k hk)⟩
theorem Apart.drew (h : Apart g w w') : Apart g w w'.drew := ⟨h.1.drew, h.2.1, h.2.2⟩
theorem Apart.put (h : Apart g w w') (i : Nat) (u : Value) : Apart g w (w'.setCell ⟨g, i, none⟩ u) :=
  ⟨h.1.setCell (Nat.le_refl _) u, by simpa [World.setCell] using h.2.1, fun k hk => (Below.heap_setCell w' ⟨g, i, none⟩ u k hk).trans (h.2.2 k hk)⟩
theorem Apart.lb {h : Nat} {t : TypeId} {x : List Nat} (ha : Apart g w w') (hl : Lb w h t x) (hne : h ≠ g) : Lb w' h t x := (ha.2.2 h hne).trans hl
theorem Apart.cell (ha : Apart g w w') {p : Addr} (hp : p.block ≠ g) : w'.cell? p = w.cell? p := by
  have := ha.2.2 p.block hp
  unfold World.cell?
  rw [this]
theorem Apart.below {B : Nat} (h : Apart g w w') (hB : B ≤ g) : Below B w w' := h.1.mono hB
end

/-- What 'takes' leaves. -/
def TakePost (g : Nat) (xs : List Nat) (P Q D q : Nat) (w : World) (e : Ending) (w' : World) : Prop :=
  ∃ ys, e = .returned (.bool (decide (Q < q))) ∧ Dig ys ∧ ys.length = xs.length ∧ val ys + P * (Q * D) = val xs ∧ Lb w' g 122 ys ∧ Apart g w w'

set_option maxHeartbeats 3200000 in
theorem takes_any (g h i c n : Nat) (xs b : List Nat) (Q q : Nat) (w : World) (hdx : Dig xs) (hdb : Dig b) (hn : b.length = n) (hi : i + n < xs.length) (hc : n + 1 ≤ c) (hgh : h ≠ g)
    (hx : Lb w g 122 xs) (hb : Lb w h 122 b) (hn2 : n ≤ 90000) (hq : q < 4294967296) (hQ1 : Q ≤ q) (hQ2 : q ≤ Q + 1) (hz : Bare xs (i + (n + 1)))
    (hv1 : 4294967296 ^ i * (Q * val b) ≤ val xs) (hv2 : val xs < 4294967296 ^ i * ((Q + 1) * val b)) :
    Calls Tryz.prog 284 #[.slice (some ⟨g, i, none⟩) (n + 1 : Nat) c, .slice (some ⟨h, 0, none⟩) n n, .int .u64 (q : Int)] w (TakePost g xs (4294967296 ^ i) Q (val b) q w) := by
  have HV1 := Lib.hid hv1
  have HV2 := Lib.hid hv2
  have hcap : n + 1 ≤ 90001 := by omega
  clear hv1 hv2
  go_enter Tryz.func284, Tryz.ntmps284
  go_wp2_with fail
  go_loopw [7, 8, 16] (fun a o r wr => ∃ (k cy bw : Nat) (cs : List Nat), k ≤ n ∧ r = .int .i64 (k : Nat) ∧ a = .int .u64 (cy : Nat) ∧ o = .int .u32 (bw : Nat) ∧ cy < 4294967296 ∧ bw ≤ 1 ∧ Dig cs ∧ Hid (cs.length = xs.length) ∧ Hid (TakeAt b xs cs q i cy bw k) ∧ Bare cs (i + (n + 1)) ∧ Lb wr g 122 cs ∧ Apart g w wr)
    (fun _ _ r _ => n - (intOf r).toNat)
  case atStart => exact ⟨0, 0, 0, xs, Nat.zero_le _, rfl, rfl, rfl, by omega, by omega, hdx, rfl, takeAt_zero _ _ _ _, hz, hx, Apart.refl _ _⟩
  case round =>
    obtain ⟨k, cy, bw, cs, hk, rfl, rfl, rfl, hcy, hbw, hdc, HL, HT, hbare, hB, ha⟩ := hrel
    have hkl : i + n < cs.length := by have := HL.out; omega
    by_cases hlt : k < n
    · have hkb : k < b.length := by omega
      have b1 := hdb.at hkb
      have hcb := (ha.lb hb hgh).cell k hkb
      have hik : i + k < cs.length := by omega
      have hx1 := hdc.at hik
      have hcc := hB.cell (i + k) hik
      have hfr := hB.free (i + k)
      have hcar := take_carry hcy hq b1
      have HS := takeAt_step hdc hik hbw (t := cy + q * b[k]) (by rw [getD_in0 hkb]) HT.out
      rw [getD_in0 hik] at HS
      obtain ⟨m, hm0⟩ : ∃ z, q * b[k] = z := ⟨_, rfl⟩
      rw [hm0] at HS hcar
      have hmI : (q : Int) * ((b[k] : Nat) : Int) = (m : Int) := by rw [← hm0]; exact (Int.natCast_mul _ _).symm
      obtain ⟨t, ht0⟩ : ∃ z, cy + m = z := ⟨_, rfl⟩
      have htI : (cy : Int) + (m : Int) = (t : Int) := by omega
      rw [ht0] at HS hcar
      obtain ⟨lo, hlo⟩ : ∃ z, t % 4294967296 = z := ⟨_, rfl⟩
      obtain ⟨hi2, hhi⟩ : ∃ z, t / 4294967296 = z := ⟨_, rfl⟩
      have hloI : (t : Int) % 4294967296 = (lo : Int) := by omega
      have hhiI : (t : Int) / 4294967296 = (hi2 : Int) := by omega
      have hlo2 : lo < 4294967296 := by omega
      have hhi2 : hi2 < 4294967296 := by omega
      have hml : m < 18446744073709551616 := by omega
      have htl : t < 18446744073709551616 := by omega
      rw [hlo, hhi] at HS
      have S := Lib.hid (fun w : World => sub32_any cs[i + k] lo bw w hx1 hlo2 hbw)
      have hyl : (cs[i + k] + 8589934592 - lo - bw) % 4294967296 < 4294967296 := Nat.mod_lt _ (by omega)
      have hd2 := hdc.set (i + k) _ hyl
      have hB2 := hB.put (i + k) ((cs[i + k] + 8589934592 - lo - bw) % 4294967296)
      have ha2 := ha.put (i + k) (.int .u32 (((cs[i + k] + 8589934592 - lo - bw) % 4294967296 : Nat) : Int))
      have hbare2 : Bare (cs.set (i + k) ((cs[i + k] + 8589934592 - lo - bw) % 4294967296)) (i + (n + 1)) := hbare.set (by omega)
      have HL2 : Hid ((cs.set (i + k) ((cs[i + k] + 8589934592 - lo - bw) % 4294967296)).length = xs.length) := by have := HL.out; show _ = _; rw [List.length_set]; exact this
      have hq2 : (if cs[i + k] < lo + bw then 1 else 0) ≤ 1 := by split <;> omega
      generalize cs.set (i + k) ((cs[i + k] + 8589934592 - lo - bw) % 4294967296) = cs2 at *
      generalize cs[i + k] = x at *
      generalize b[k] = v at *
      generalize (x + 8589934592 - lo - bw) % 4294967296 = d at *
      generalize (if x < lo + bw then 1 else 0) = r at *
      have HS2 := Lib.hid HS
      clear hdc HL HT hbare hB ha hkl hm0 ht0 hlo hhi hcar HS hx hdx hz
      have hki : (k : Int) < (n : Int) := by omega
      go_wp2_with fail
      refine (S.out _).mono ?_
      rintro e w3 ⟨rfl, rfl⟩
      clear S
      go_wp2_with fail
      go_roundw
      case rel => exact ⟨k + 1, hi2, r, cs2, by omega, by go_num, rfl, rfl, hhi2, hq2, hd2, HL2, HS2, hbare2, hB2, ha2⟩
      case measure => simp [intOf]; omega
    · obtain rfl : k = n := by omega
      have hik : i + k < cs.length := by omega
      have hx1 := hdc.at hik
      have hcc := hB.cell (i + k) hik
      have hfr := hB.free (i + k)
      have HS := takeAt_step hdc hik hbw (t := cy) (by rw [getD_out0 (by omega)]; rfl) HT.out
      rw [getD_in0 hik, Nat.mod_eq_of_lt hcy, Nat.div_eq_of_lt hcy] at HS
      have hyl : (cs[i + k] + 8589934592 - cy - bw) % 4294967296 < 4294967296 := Nat.mod_lt _ (by omega)
      have hd2 := hdc.set (i + k) _ hyl
      have hB2 := hB.put (i + k) ((cs[i + k] + 8589934592 - cy - bw) % 4294967296)
      have ha2 := ha.put (i + k) (.int .u32 (((cs[i + k] + 8589934592 - cy - bw) % 4294967296 : Nat) : Int))
      have hbare2 : Bare (cs.set (i + k) ((cs[i + k] + 8589934592 - cy - bw) % 4294967296)) (i + (k + 1)) := hbare.set (by omega)
      have HL2 : Hid ((cs.set (i + k) ((cs[i + k] + 8589934592 - cy - bw) % 4294967296)).length = xs.length) := by have := HL.out; show _ = _; rw [List.length_set]; exact this
      have S0 := fun w : World => sub32_any cs[i + k] cy bw w hx1 hcy hbw
      have hcyI : (cy : Int) % 4294967296 = (cy : Int) := by omega
      by_cases hov : cs[i + k] < cy + bw
      · rw [if_pos hov] at HS
        simp only [if_pos hov] at S0
        have S : Hid (∀ w : World, Calls Tryz.prog 224 #[.int .u32 ((cs[i + k] : Nat) : Int), .int .u32 (cy : Int), .int .u32 (bw : Int)] w fun e w' => e = .returned (.tuple #[.int .u32 (((cs[i + k] + 8589934592 - cy - bw) % 4294967296 : Nat) : Int), .int .u32 1]) ∧ w = w') := fun w => S0 w
        generalize cs.set (i + k) ((cs[i + k] + 8589934592 - cy - bw) % 4294967296) = cs2 at *
        generalize cs[i + k] = x at *
        generalize (x + 8589934592 - cy - bw) % 4294967296 = d at *
        have HS2 := Lib.hid HS
        clear hdc HL HT hbare hB ha HS hx hdx hz S0
        go_wp2_with fail
        refine (S.out _).mono ?_
        rintro e w3 ⟨rfl, rfl⟩
        clear S
        go_wp2_with fail
        clear hcc hfr hcyI hov hx1 hyl hcy hbw
        go_loopw [11, 64] (fun o r wr => ∃ (j m : Nat) (c3 : List Nat), j ≤ k ∧ r = .int .i64 (j : Nat) ∧ o = .int .u32 (m : Nat) ∧ m ≤ 1 ∧ Dig c3 ∧ Hid (c3.length = xs.length) ∧ Hid (GiveAt b cs2 c3 i m j) ∧ Bare c3 (i + (k + 1)) ∧ Lb wr g 122 c3 ∧ Apart g w wr)
          (fun _ r _ => k - (intOf r).toNat)
        case atStart => exact ⟨0, 0, cs2, Nat.zero_le _, rfl, rfl, by omega, hd2, HL2, giveAt_zero _ _ _, hbare2, hB2, ha2⟩
        case round =>
          obtain ⟨j, m, c3, hj, rfl, rfl, hm, hdc, HL, HT, hbare, hB, ha⟩ := hrel
          have hkl : i + k < c3.length := by have := HL.out; omega
          by_cases hlt : j < k
          · have hkb : j < b.length := by omega
            have b1 := hdb.at hkb
            have hcb := (ha.lb hb hgh).cell j hkb
            have hik2 : i + j < c3.length := by omega
            have hx1 := hdc.at hik2
            have hcc := hB.cell (i + j) hik2
            have hfr := hB.free (i + j)
            have HS := giveAt_step hik2 HT.out
            rw [getD_in0 hik2, getD_in0 hkb] at HS
            have S := Lib.hid (fun w : World => add32_any c3[i + j] b[j] m w hx1 b1 hm)
            obtain ⟨sm, hsm⟩ : ∃ z, c3[i + j] + b[j] + m = z := ⟨_, rfl⟩
            rw [hsm] at HS S
            have hyl : sm % 4294967296 < 4294967296 := Nat.mod_lt _ (by omega)
            have hm2 : sm / 4294967296 ≤ 1 := by omega
            have hd3 := hdc.set (i + j) _ hyl
            have hB3 := hB.put (i + j) (sm % 4294967296)
            have ha3 := ha.put (i + j) (.int .u32 ((sm % 4294967296 : Nat) : Int))
            have hbare3 : Bare (c3.set (i + j) (sm % 4294967296)) (i + (k + 1)) := hbare.set (by omega)
            have HL3 : Hid ((c3.set (i + j) (sm % 4294967296)).length = xs.length) := by have := HL.out; show _ = _; rw [List.length_set]; exact this
            generalize c3.set (i + j) (sm % 4294967296) = c4 at *
            generalize c3[i + j] = x2 at *
            generalize b[j] = v at *
            generalize sm % 4294967296 = y at *
            generalize sm / 4294967296 = m3 at *
            have HS3 := Lib.hid HS
            clear hdc HL HT hbare hB ha hkl HS hsm hd2 HL2 hbare2 hB2 ha2
            have hki : (j : Int) < (k : Int) := by omega
            go_wp2_with fail
            refine (S.out _).mono ?_
            rintro e w3 ⟨rfl, rfl⟩
            clear S
            go_wp2_with fail
            go_roundw
            case rel => exact ⟨j + 1, m3, c4, by omega, by go_num, rfl, hm2, hd3, HL3, HS3, hbare3, hB3, ha3⟩
            case measure => simp [intOf]; omega
          · obtain rfl : j = k := by omega
            have hx1 := hdc.at hkl
            have hcc := hB.cell (i + j) hkl
            have hfr := hB.free (i + j)
            have HS := giveAt_step hkl HT.out
            rw [getD_in0 hkl, getD_out0 (by omega : b.length ≤ j), Nat.add_zero] at HS
            obtain ⟨sm, hsm⟩ : ∃ z, c3[i + j] + m = z := ⟨_, rfl⟩
            have hsI : ((c3[i + j] : Nat) : Int) + (m : Int) = (sm : Int) := by omega
            rw [hsm] at HS
            have hyl : sm % 4294967296 < 4294967296 := Nat.mod_lt _ (by omega)
            have hm2 : sm / 4294967296 ≤ 1 := by omega
            have hd3 := hdc.set (i + j) _ hyl
            have hB3 := hB.put (i + j) (sm % 4294967296)
            have ha3 := ha.put (i + j) (.int .u32 ((sm % 4294967296 : Nat) : Int))
            have hbare3 : Bare (c3.set (i + j) (sm % 4294967296)) (i + (j + 1)) := hbare.set (by omega)
            have HL3 : Hid ((c3.set (i + j) (sm % 4294967296)).length = xs.length) := by have := HL.out; show _ = _; rw [List.length_set]; exact this
            generalize c3.set (i + j) (sm % 4294967296) = c4 at *
            generalize c3[i + j] = x2 at *
            have hbl : b.length = j := hn
            have hover := takeAt_over (b := b) (by exact hd2) (by rw [hbl]; exact hbare2) (by rw [hbl]; exact HS2.out)
            have hqQ : q = Q + 1 := by
              have h1 : 4294967296 ^ i * (Q * val b) < 4294967296 ^ i * (q * val b) := by have := HV1.out; omega
              have h2 := Nat.lt_of_mul_lt_mul_left h1
              have h3 := Nat.lt_of_mul_lt_mul_right h2
              omega
            have hfin := giveAt_end (b := b) hd3 (by rw [hbl]; exact hbare3) (by rw [hbl]; exact HS2.out) (by rw [hbl]; exact HS) (by omega) (by rw [hqQ]; exact HV1.out) hm2
            rw [hqQ] at hfin
            have HFIN := Lib.hid hfin
            generalize hy : sm % 4294967296 = y at *
            have hyI : (sm : Int) % 4294967296 = (y : Int) := by omega
            clear hy
            clear hdc HL HT hbare hB ha hkl HS hsm hd2 HL2 hbare2 hB2 ha2 hfin hover HS2
            go_wp2_with fail
            go_ret
            exact ⟨c4, by rw [decide_eq_true (by omega)]; rfl, hd3, HL3.out, HFIN.out, hB3, ha3⟩
      · rw [if_neg hov] at HS
        simp only [if_neg hov] at S0
        have S : Hid (∀ w : World, Calls Tryz.prog 224 #[.int .u32 ((cs[i + k] : Nat) : Int), .int .u32 (cy : Int), .int .u32 (bw : Int)] w fun e w' => e = .returned (.tuple #[.int .u32 (((cs[i + k] + 8589934592 - cy - bw) % 4294967296 : Nat) : Int), .int .u32 0]) ∧ w = w') := fun w => S0 w
        generalize cs.set (i + k) ((cs[i + k] + 8589934592 - cy - bw) % 4294967296) = cs2 at *
        generalize cs[i + k] = x at *
        generalize (x + 8589934592 - cy - bw) % 4294967296 = d at *
        have hfit := takeAt_fits (by omega) HS
        have hqQ : q = Q := by
          have h1 : 4294967296 ^ i * (q * val b) < 4294967296 ^ i * ((Q + 1) * val b) := by have := HV2.out; omega
          have h2 := Nat.lt_of_mul_lt_mul_left h1
          have h3 := Nat.lt_of_mul_lt_mul_right h2
          omega
        subst hqQ
        have HFIT := Lib.hid hfit
        clear hdc HL HT hbare hB ha HS hx hdx hz S0 hfit
        go_wp2_with fail
        refine (S.out _).mono ?_
        rintro e w3 ⟨rfl, rfl⟩
        clear S
        go_wp2_with fail
        go_ret
        exact ⟨cs2, by rw [decide_eq_false (by omega)]; rfl, hd2, HL2.out, HFIT.out, hB2, ha2⟩
end Go.Proofs.YtchokmhfgikglaaGreatDoor
