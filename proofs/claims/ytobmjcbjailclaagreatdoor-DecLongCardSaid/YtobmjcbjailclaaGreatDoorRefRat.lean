/- The reference's numbers with a divisor: 'Norm', 'Of', 'Neg', 'Add', 'Sub', 'Cmp' by their contracts. Condition: a bound on lengths. -/
import Derived.Test.YtobmjcbjailclaaGreatDoorNums
import Derived.Test.YtobmjcbjailclaaGreatDoorRefGcd
import Derived.Test.YtobmjcbjailclaaGreatDoorRefMul
import Derived.Test.YtobmjcbjailclaaGreatDoorLawLaws
namespace Go.Proofs.YtobmjcbjailclaaGreatDoor
set_option maxRecDepth 100000
open Go.RowKit

/-- A value that is a number with a divisor, of these limbs. -/
def Rt (w : World) (L B : Nat) (v : Value) (s : Bool) (n d : List Nat) : Prop := ∃ vn vd, v = .agg #[.bool s, vn, vd] ∧ Nt w L B vn n ∧ Nt w L B vd d

theorem Rt.after {w w' : World} {L : Nat} {v : Value} {s : Bool} {n d : List Nat} (h : Rt w L w.heap.size v s n d) (hb : Below w.heap.size w w') : Rt w' L w'.heap.size v s n d := by
  obtain ⟨vn, vd, rfl, h1, h2⟩ := h
  exact ⟨vn, vd, rfl, h1.after hb, h2.after hb⟩
theorem Rt.low {w : World} {L L' B : Nat} {v : Value} {s : Bool} {n d : List Nat} (h : Rt w L B v s n d) (hL : L' ≤ L) : Rt w L' B v s n d := by
  obtain ⟨vn, vd, rfl, h1, h2⟩ := h
  exact ⟨vn, vd, rfl, h1.low hL, h2.low hL⟩

/-- What hands back a new number with a divisor. -/
def GivesT (s : Bool) (n d : Nat) (w : World) (e : Ending) (w' : World) : Prop :=
  ∃ v', e = .returned v' ∧ Rt w' w.heap.size w'.heap.size v' s (lim n) (lim d) ∧ Below w.heap.size w w'

theorem keep2 {w0 W W' : World} {g : Nat} {v1 v2 : Value} (hs : Below w0.heap.size w0 W ∧ W.cell? ⟨g, 1, none⟩ = some v1 ∧ W.cell? ⟨g, 2, none⟩ = some v2) (hb : Below W.heap.size W W') (hg : g < w0.heap.size) :
    Below w0.heap.size w0 W' ∧ W'.cell? ⟨g, 1, none⟩ = some v1 ∧ W'.cell? ⟨g, 2, none⟩ = some v2 := by
  obtain ⟨a, b, c⟩ := hs
  have hz := a.size
  have k1 : g < W.heap.size := by omega
  exact ⟨a.trans (hb.mono hz), (hb.cell (p := ⟨g, 1, none⟩) k1).trans b, (hb.cell (p := ⟨g, 2, none⟩) k1).trans c⟩

theorem Nt.put3 {w : World} {L : Nat} {v : Value} {x : List Nat} {g : Nat} (h : Nt w L w.heap.size v x) (hg : g < L) (i : Nat) (u : Value) : Nt (w.setCell ⟨g, i, none⟩ u) L (w.setCell ⟨g, i, none⟩ u).heap.size v x :=
  h.stay (Nat.le_refl _) (by simp [World.setCell]) fun p hl _ => World.cell?_setCell_far _ _ _ _ (by show g ≠ p.block; omega)

set_option maxHeartbeats 3200000 in
theorem ratNorm_some (v : Value) (s : Bool) (n d : List Nat) (w : World) (dn : Dig n) (dd : Dig d) (h : Rt w 0 w.heap.size v s n d) (ln : n.length ≤ 1000) (ld : d.length ≤ 1000) (h0 : val n ≠ 0) (h1 : val d ≠ 0) :
    Calls Tryz.prog 22 #[v] w (GivesT s (val n / Nat.gcd (val n) (val d)) (val d / Nat.gcd (val n) (val d)) w) := by
  obtain ⟨vn, vd, rfl, hn, hd⟩ := h
  have z1 : ((((lim (val n)).length : Nat) : Int) == 0) = false := beq_eq_false_iff_ne.2 (by have : (lim (val n)).length ≠ 0 := (fun h => h0 (lim_eq_nil.1 (List.eq_nil_of_length_eq_zero h))); omega)
  have z2 : ((((lim (val d)).length : Nat) : Int) == 0) = false := beq_eq_false_iff_ne.2 (by have : (lim (val d)).length ≠ 0 := (fun h => h1 (lim_eq_nil.1 (List.eq_nil_of_length_eq_zero h))); omega)
  have dn1 := dig_lim (val n)
  have dd1 := dig_lim (val d)
  have ln1 : (lim (val n)).length ≤ 1000 := Nat.le_trans (lim_val_length n dn) ln
  have ld1 : (lim (val d)).length ≤ 1000 := Nat.le_trans (lim_val_length d dd) ld
  have vn1 := Lib.hid (val_lim (val n))
  have vd1 := Lib.hid (val_lim (val d))
  obtain ⟨G, hG⟩ : ∃ G, Nat.gcd (val n) (val d) = G := ⟨_, rfl⟩
  have dg := dig_lim G
  have vg := Lib.hid (val_lim G)
  have lg : (lim G).length ≤ 1000 := by
    rw [← hG]
    exact Nat.le_trans (lim_len_mono (Nat.gcd_le_left _ (Nat.pos_of_ne_zero h0))) ln1
  have HG := Lib.hid hG
  rw [hG]
  clear hG h0 h1
  go_enter Tryz.func22, Tryz.ntmps22
  go_wp2_with fail
  have b0 := (Blk.new w 25 #[.bool s, vn, vd]).alloc (.cells #[.bool false, .slice none 0 0, .slice none 0 0] 25)
  have b1 := Blk.new (w.alloc (.cells #[.bool s, vn, vd] 25)) 25 #[.bool false, .slice none 0 0, .slice none 0 0]
  have hB : Below w.heap.size w ((w.alloc (.cells #[.bool s, vn, vd] 25)).alloc (.cells #[.bool false, .slice none 0 0, .slice none 0 0] 25)) := ((Below.refl _ _).alloc (Nat.le_refl _) _).alloc (by simp) _
  have es : (w.alloc (.cells #[.bool s, vn, vd] 25)).heap.size = w.heap.size + 1 := by simp
  rw [es] at b1
  clear es
  generalize (w.alloc (.cells #[.bool s, vn, vd] 25)).alloc (.cells #[.bool false, .slice none 0 0, .slice none 0 0] 25) = w2 at *
  have hn2 := (hn.below hB (Nat.le_refl _)).up hB.size
  have hd2 := (hd.below hB (Nat.le_refl _)).up hB.size
  have hg := b0.lt
  have cc1 := b0.cell 1
  have cc2 := b0.cell 2
  clear hn hd
  go_region_held3 (fun W => Below w2.heap.size w2 W ∧ W.cell? ⟨w.heap.size, 1, none⟩ = some vn ∧ W.cell? ⟨w.heap.size, 2, none⟩ = some vd)
    (first | assumption | exact keep2 (by assumption) (by assumption) hg | exact ⟨(Below.refl _ _).drew, cc1, cc2⟩)
    (first
      | (have hx := hk3; go_at_call 63; refine (refTrim_any vd d _ dd (hd2.after hk3) (by omega)).mono ?_; rintro e w4 ⟨v4, rfl, h4, hb4⟩)
      | (go_at_call 63; refine (refTrim_any vn n _ dn hn2.drew (by omega)).mono ?_; rintro e w3 ⟨v3, rfl, h3, hb3⟩; have hbb := hb3; have hk3 : Below w2.heap.size w2 w3 := Below.trans (Below.drew (Below.refl _ _)) hb3)
      | fail)
  have hk4 := hk3.trans (hb4.mono hk3.size)
  have hB4 := hB.trans (hk4.mono hB.size)
  replace h3 := (h3.low (Nat.zero_le _)).after hb4
  replace h4 := h4.low (Nat.zero_le _)
  have q0 := b0.below hk4 hg
  have q1 := b1.below hk4 b1.lt
  have hl3 := h3
  have hl4 := h4
  obtain ⟨A3, c3, rfl, m3⟩ := nt_len hl3
  obtain ⟨A4, c4, rfl, m4⟩ := nt_len hl4
  clear hb3 hb4 hk3 hk4 hn2 hd2 b0 b1 hg cc1 cc2 hl3 hl4 dn dd ln ld hbb
  go_wp2_with fail
  refine (refGcd_any _ _ (lim (val n)) (lim (val d)) _ dn1 dd1 h3 h4 ln1 ld1).mono ?_
  rintro e w5 ⟨v5, rfl, h5, hb⟩
  rw [vn1.out, vd1.out, HG.out] at h5
  replace h5 := h5.low (Nat.zero_le _)
  replace h3 := h3.after hb
  replace h4 := h4.after hb
  have q0' := q0.below hb q0.lt
  have q1' := q1.below hb q1.lt
  replace hB4 := hB4.trans (hb.mono hB4.size)
  clear q0 q1 hb
  go_wp2_with fail
  refine (refDiv_any _ _ (lim (val n)) (lim G) _ dn1 dg h3 h5 ln1 lg).mono ?_
  rintro e w6 ⟨v6, z6, rfl, h6, h6', hb⟩
  rw [vn1.out, vg.out] at h6
  clear h6'
  replace h6 := h6.low (show w.heap.size + 2 ≤ _ from q1'.lt)
  replace h5 := h5.after hb
  replace h4 := h4.after hb
  have q0 := q0'.below hb q0'.lt
  have q1 := q1'.below hb q1'.lt
  replace hB4 := hB4.trans (hb.mono hB4.size)
  clear q0' q1' hb h3
  go_wp2_with fail
  refine (refDiv_any _ _ (lim (val d)) (lim G) _ dd1 dg h4 h5 ld1 lg).mono ?_
  rintro e w7 ⟨v7, z7, rfl, h7, h7', hb⟩
  rw [vd1.out, vg.out] at h7
  clear h7'
  replace h7 := h7.low (show w.heap.size + 2 ≤ _ from q1.lt)
  have q0' := q0.below hb q0.lt
  have q1' := q1.below hb q1.lt
  replace hB4 := hB4.trans (hb.mono hB4.size)
  clear q0 q1 h5 h4
  have hl6 := h6.after hb
  have hl7 := h7
  obtain ⟨A6, c6, rfl, m6⟩ := nt_len hl6
  obtain ⟨A7, c7, rfl, m7⟩ := nt_len hl7
  replace h6 := h6.after hb
  clear hl6 hl7 hb
  have cc0 := q0'.cell 0
  have r0 := q1'.cell 0
  have r1 := q1'.cell 1
  have r2 := q1'.cell 2
  have f0 := q1'.free 0
  have f1 := q1'.free 1
  have f2 := q1'.free 2
  have p3 := ((q1'.put 0 (.bool s)).put 1 (.slice A6 (lim (val n / G)).length c6)).put 2 (.slice A7 (lim (val d / G)).length c7)
  have hBB := ((hB4.setCell (p := ⟨w.heap.size + 1, 0, none⟩) (by simp) (.bool s)).setCell (p := ⟨w.heap.size + 1, 1, none⟩) (by simp) (.slice A6 (lim (val n / G)).length c6)).setCell (p := ⟨w.heap.size + 1, 2, none⟩) (by simp) (.slice A7 (lim (val d / G)).length c7)
  have t6 := ((h6.put3 (Nat.lt_succ_self _) 0 (.bool s)).put3 (Nat.lt_succ_self _) 1 (.slice A6 (lim (val n / G)).length c6)).put3 (Nat.lt_succ_self _) 2 (.slice A7 (lim (val d / G)).length c7)
  have t7 := ((h7.put3 (Nat.lt_succ_self _) 0 (.bool s)).put3 (Nat.lt_succ_self _) 1 (.slice A6 (lim (val n / G)).length c6)).put3 (Nat.lt_succ_self _) 2 (.slice A7 (lim (val d / G)).length c7)
  clear h6 h7
  go_wp2_with fail
  clear r0 r1 r2 f0 f1 f2 cc0 q0' q1'
  generalize ((World.setCell w7 ⟨w.heap.size + 1, 0, none⟩ (.bool s)).setCell ⟨w.heap.size + 1, 1, none⟩ (.slice A6 (lim (val n / G)).length c6)).setCell ⟨w.heap.size + 1, 2, none⟩ (.slice A7 (lim (val d / G)).length c7) = W at *
  have e0 : W.cell? ⟨w.heap.size + 1, 0, none⟩ = some (.bool s) := by rw [p3.cell]; rfl
  have e1 : W.cell? ⟨w.heap.size + 1, 1, none⟩ = some (.slice A6 (lim (val n / G)).length c6) := by rw [p3.cell]; rfl
  have e2 : W.cell? ⟨w.heap.size + 1, 2, none⟩ = some (.slice A7 (lim (val d / G)).length c7) := by rw [p3.cell]; rfl
  refine bodyPost_ret (v := .agg #[.bool s, .slice A6 (lim (val n / G)).length c6, .slice A7 (lim (val d / G)).length c7]) ?_ rfl ⟨_, rfl, ⟨_, _, rfl, t6.low (by omega), t7.low (by omega)⟩, hBB⟩
  simp [results, Tryz.results22, go_sem, e0, e1, e2]
set_option maxHeartbeats 3200000 in
theorem ratNorm_zero (v : Value) (s : Bool) (n d : List Nat) (w : World) (dn : Dig n) (dd : Dig d) (h : Rt w 0 w.heap.size v s n d) (ln : n.length ≤ 1000) (ld : d.length ≤ 1000) (h0 : val n = 0 ∨ val d = 0) :
    Calls Tryz.prog 22 #[v] w (GivesT false 0 1 w) := by
  obtain ⟨vn, vd, rfl, hn, hd⟩ := h
  have zz : ((((lim (val d)).length : Nat) : Int) == 0) = true ∨ ((((lim (val d)).length : Nat) : Int) == 0) = false ∧ ((((lim (val n)).length : Nat) : Int) == 0) = true := by
    by_cases h1 : val d = 0
    · left; rw [h1, lim_zero]; rfl
    · right
      refine ⟨beq_eq_false_iff_ne.2 (by have : (lim (val d)).length ≠ 0 := (fun h => h1 (lim_eq_nil.1 (List.eq_nil_of_length_eq_zero h))); omega), ?_⟩
      have h2 : val n = 0 := by omega
      rw [h2, lim_zero]; rfl
  have ZZ := Lib.hid zz
  clear h0 zz
  go_enter Tryz.func22, Tryz.ntmps22
  go_wp2_with fail
  have b0 := (Blk.new w 25 #[.bool s, vn, vd]).alloc (.cells #[.bool false, .slice none 0 0, .slice none 0 0] 25)
  have b1 := Blk.new (w.alloc (.cells #[.bool s, vn, vd] 25)) 25 #[.bool false, .slice none 0 0, .slice none 0 0]
  have hB : Below w.heap.size w ((w.alloc (.cells #[.bool s, vn, vd] 25)).alloc (.cells #[.bool false, .slice none 0 0, .slice none 0 0] 25)) := ((Below.refl _ _).alloc (Nat.le_refl _) _).alloc (by simp) _
  have es : (w.alloc (.cells #[.bool s, vn, vd] 25)).heap.size = w.heap.size + 1 := by simp
  rw [es] at b1
  clear es
  generalize (w.alloc (.cells #[.bool s, vn, vd] 25)).alloc (.cells #[.bool false, .slice none 0 0, .slice none 0 0] 25) = w2 at *
  have hn2 := (hn.below hB (Nat.le_refl _)).up hB.size
  have hd2 := (hd.below hB (Nat.le_refl _)).up hB.size
  have hg := b0.lt
  have cc1 := b0.cell 1
  have cc2 := b0.cell 2
  clear hn hd
  go_region_held3 (fun W => Below w2.heap.size w2 W ∧ W.cell? ⟨w.heap.size, 1, none⟩ = some vn ∧ W.cell? ⟨w.heap.size, 2, none⟩ = some vd)
    (first | assumption | exact keep2 (by assumption) (by assumption) hg | exact ⟨(Below.refl _ _).drew, cc1, cc2⟩)
    (first
      | (have hx := hk3; go_at_call 63; refine (refTrim_any vd d _ dd (hd2.after hk3) (by omega)).mono ?_; rintro e w4 ⟨v4, rfl, h4, hb4⟩)
      | (go_at_call 63; refine (refTrim_any vn n _ dn hn2.drew (by omega)).mono ?_; rintro e w3 ⟨v3, rfl, h3, hb3⟩; have hbb := hb3; have hk3 : Below w2.heap.size w2 w3 := Below.trans (Below.drew (Below.refl _ _)) hb3)
      | fail)
  have hk4 := hk3.trans (hb4.mono hk3.size)
  have hB4 := hB.trans (hk4.mono hB.size)
  replace h3 := (h3.low (Nat.zero_le _)).after hb4
  replace h4 := h4.low (Nat.zero_le _)
  have q1 := b1.below hk4 b1.lt
  obtain ⟨A3, c3, rfl, m3⟩ := nt_len h3
  obtain ⟨A4, c4, rfl, m4⟩ := nt_len h4
  clear hb3 hb4 hk3 hk4 hn2 hd2 b0 b1 hg cc1 cc2 dn dd ln ld hbb h3 h4
  have hw : w.heap.size ≤ w4.heap.size := hB4.size
  have hL := Blk.new w4 43 #[.int .u32 1]
  have hb5 : Below w.heap.size w (w4.alloc (.cells #[.int .u32 1] 43)) := hB4.alloc hw _
  have q5 := q1.alloc (.cells #[.int .u32 1] 43)
  have hLb : Lb (w4.alloc (.cells #[.int .u32 1] 43)) w4.heap.size 43 [1] := hL
  have h1l : Nt (w4.alloc (.cells #[.int .u32 1] 43)) w4.heap.size (w4.alloc (.cells #[.int .u32 1] 43)).heap.size (.slice (some ⟨w4.heap.size, 0, none⟩) 1 1) [1] := hLb.reads (n := 1) (by simp) (by unfold maxLen; simp)
  clear hLb hL
  have r0 := q5.cell 0
  have r1 := q5.cell 1
  have r2 := q5.cell 2
  have f0 := q5.free 0
  have f1 := q5.free 1
  have f2 := q5.free 2
  have g1 : w.heap.size + 1 < w4.heap.size := q1.lt
  have p3 := ((q5.put 0 (.bool false)).put 1 (.slice none 0 0)).put 2 (.slice (some ⟨w4.heap.size, 0, none⟩) 1 1)
  have hBB := ((hb5.setCell (p := ⟨w.heap.size + 1, 0, none⟩) (by simp) (.bool false)).setCell (p := ⟨w.heap.size + 1, 1, none⟩) (by simp) (.slice none 0 0)).setCell (p := ⟨w.heap.size + 1, 2, none⟩) (by simp) (.slice (some ⟨w4.heap.size, 0, none⟩) 1 1)
  have t7 := ((h1l.put3 g1 0 (.bool false)).put3 g1 1 (.slice none 0 0)).put3 g1 2 (.slice (some ⟨w4.heap.size, 0, none⟩) 1 1)
  have l0 := lim_zero
  have l1 : lim 1 = [1] := lim_one (by omega) (by omega)
  have L0 := Lib.hid l0
  have L1 := Lib.hid l1
  clear h1l l0 l1 g1
  rcases ZZ.out with z1 | ⟨z0, z1⟩
  · go_wp2_with fail
    clear r0 r1 r2 f0 f1 f2 q5 q1
    generalize (((w4.alloc (.cells #[.int .u32 1] 43)).setCell ⟨w.heap.size + 1, 0, none⟩ (.bool false)).setCell ⟨w.heap.size + 1, 1, none⟩ (.slice none 0 0)).setCell ⟨w.heap.size + 1, 2, none⟩ (.slice (some ⟨w4.heap.size, 0, none⟩) 1 1) = W at *
    have e0 : W.cell? ⟨w.heap.size + 1, 0, none⟩ = some (.bool false) := by rw [p3.cell]; rfl
    have e1 : W.cell? ⟨w.heap.size + 1, 1, none⟩ = some (.slice none 0 0) := by rw [p3.cell]; rfl
    have e2 : W.cell? ⟨w.heap.size + 1, 2, none⟩ = some (.slice (some ⟨w4.heap.size, 0, none⟩) 1 1) := by rw [p3.cell]; rfl
    refine bodyPost_ret (v := .agg #[.bool false, .slice none 0 0, .slice (some ⟨w4.heap.size, 0, none⟩) 1 1]) ?_ rfl ⟨_, rfl, ⟨_, _, rfl, by rw [L0.out]; exact Nt.nil _ _ _, by rw [L1.out]; exact t7.low hw⟩, hBB⟩
    simp [results, Tryz.results22, go_sem, e0, e1, e2]
  · go_wp2_with fail
    clear r0 r1 r2 f0 f1 f2 q5 q1
    generalize (((w4.alloc (.cells #[.int .u32 1] 43)).setCell ⟨w.heap.size + 1, 0, none⟩ (.bool false)).setCell ⟨w.heap.size + 1, 1, none⟩ (.slice none 0 0)).setCell ⟨w.heap.size + 1, 2, none⟩ (.slice (some ⟨w4.heap.size, 0, none⟩) 1 1) = W at *
    have e0 : W.cell? ⟨w.heap.size + 1, 0, none⟩ = some (.bool false) := by rw [p3.cell]; rfl
    have e1 : W.cell? ⟨w.heap.size + 1, 1, none⟩ = some (.slice none 0 0) := by rw [p3.cell]; rfl
    have e2 : W.cell? ⟨w.heap.size + 1, 2, none⟩ = some (.slice (some ⟨w4.heap.size, 0, none⟩) 1 1) := by rw [p3.cell]; rfl
    refine bodyPost_ret (v := .agg #[.bool false, .slice none 0 0, .slice (some ⟨w4.heap.size, 0, none⟩) 1 1]) ?_ rfl ⟨_, rfl, ⟨_, _, rfl, by rw [L0.out]; exact Nt.nil _ _ _, by rw [L1.out]; exact t7.low hw⟩, hBB⟩
    simp [results, Tryz.results22, go_sem, e0, e1, e2]

theorem ratNorm_any (v : Value) (s : Bool) (n d : List Nat) (w : World) (dn : Dig n) (dd : Dig d) (h : Rt w 0 w.heap.size v s n d) (ln : n.length ≤ 1000) (ld : d.length ≤ 1000) :
    Calls Tryz.prog 22 #[v] w (GivesT (nrS s (val n) (val d)) (nrN (val n) (val d)) (nrD (val n) (val d)) w) := by
  by_cases h0 : val n = 0 ∨ val d = 0
  · obtain ⟨e1, e2, e3⟩ := nr_zero (s := s) h0
    rw [e1, e2, e3]
    exact ratNorm_zero v s n d w dn dd h ln ld h0
  · obtain ⟨e1, e2, e3⟩ := nr_some (s := s) (n := val n) (d := val d) (by omega) (by omega)
    rw [e1, e2, e3]
    exact ratNorm_some v s n d w dn dd h ln ld (by omega) (by omega)

set_option maxHeartbeats 3200000 in
theorem ratOf_any (s : Bool) (vn vd : Value) (n d : List Nat) (w : World) (dn : Dig n) (dd : Dig d) (hn : Nt w 0 w.heap.size vn n) (hd : Nt w 0 w.heap.size vd d) (ln : n.length ≤ 1000) (ld : d.length ≤ 1000) :
    Calls Tryz.prog 21 #[.bool s, vn, vd] w (GivesT (nrS s (val n) (val d)) (nrN (val n) (val d)) (nrD (val n) (val d)) w) := by
  have hn' := hn
  have hd' := hd
  obtain ⟨A1, c1, rfl, m1⟩ := nt_len hn'
  obtain ⟨A2, c2, rfl, m2⟩ := nt_len hd'
  clear hn' hd'
  go_enter Tryz.func21, Tryz.ntmps21
  go_wp2_with fail
  have hba : Below w.heap.size w (w.alloc (.cells #[.bool false, .slice none 0 0, .slice none 0 0] 25)) := (Below.refl _ _).alloc (Nat.le_refl _) _
  refine (ratNorm_any _ s n d _ dn dd ⟨_, _, rfl, hn.after hba, hd.after hba⟩ ln ld).mono ?_
  rintro e w2 ⟨v2, rfl, h2, hb2⟩
  obtain ⟨x, y, rfl, hx, hy⟩ := h2
  have hx' := hx
  have hy' := hy
  obtain ⟨A3, c3, rfl, m3⟩ := nt_len hx'
  obtain ⟨A4, c4, rfl, m4⟩ := nt_len hy'
  clear hx' hy'
  have b0 := Blk.new w 25 #[.bool false, .slice none 0 0, .slice none 0 0]
  have q0 := b0.below hb2 b0.lt
  have hx2 := hx.low (show w.heap.size + 1 ≤ _ from b0.lt)
  have hy2 := hy.low (show w.heap.size + 1 ≤ _ from b0.lt)
  have hB2 := hba.trans (hb2.mono hba.size)
  generalize nrN (val n) (val d) = N at *
  generalize nrD (val n) (val d) = D at *
  generalize nrS s (val n) (val d) = S at *
  clear hx hy hb2 hba b0 hn hd
  have r0 := q0.cell 0
  have r1 := q0.cell 1
  have r2 := q0.cell 2
  have f0 := q0.free 0
  have f1 := q0.free 1
  have f2 := q0.free 2
  have p3 := ((q0.put 0 (.bool S)).put 1 (.slice A3 (lim N).length c3)).put 2 (.slice A4 (lim D).length c4)
  have hBB := ((hB2.setCell (p := ⟨w.heap.size, 0, none⟩) (by simp) (.bool S)).setCell (p := ⟨w.heap.size, 1, none⟩) (by simp) (.slice A3 (lim N).length c3)).setCell (p := ⟨w.heap.size, 2, none⟩) (by simp) (.slice A4 (lim D).length c4)
  have t6 := ((hx2.put3 (Nat.lt_succ_self _) 0 (.bool S)).put3 (Nat.lt_succ_self _) 1 (.slice A3 (lim N).length c3)).put3 (Nat.lt_succ_self _) 2 (.slice A4 (lim D).length c4)
  have t7 := ((hy2.put3 (Nat.lt_succ_self _) 0 (.bool S)).put3 (Nat.lt_succ_self _) 1 (.slice A3 (lim N).length c3)).put3 (Nat.lt_succ_self _) 2 (.slice A4 (lim D).length c4)
  clear hx2 hy2 
  go_wp2_with fail
  clear r0 r1 r2 f0 f1 f2 q0
  generalize ((World.setCell w2 ⟨w.heap.size, 0, none⟩ (.bool S)).setCell ⟨w.heap.size, 1, none⟩ (.slice A3 (lim N).length c3)).setCell ⟨w.heap.size, 2, none⟩ (.slice A4 (lim D).length c4) = WW at *
  have e0 : WW.cell? ⟨w.heap.size, 0, none⟩ = some (.bool S) := by rw [p3.cell]; rfl
  have e1 : WW.cell? ⟨w.heap.size, 1, none⟩ = some (.slice A3 (lim N).length c3) := by rw [p3.cell]; rfl
  have e2 : WW.cell? ⟨w.heap.size, 2, none⟩ = some (.slice A4 (lim D).length c4) := by rw [p3.cell]; rfl
  refine bodyPost_ret (v := .agg #[.bool S, .slice A3 (lim N).length c3, .slice A4 (lim D).length c4]) ?_ rfl ⟨_, rfl, ⟨_, _, rfl, t6.low (by omega), t7.low (by omega)⟩, hBB⟩
  simp [results, Tryz.results21, go_sem, e0, e1, e2]
end Go.Proofs.YtobmjcbjailclaaGreatDoor
