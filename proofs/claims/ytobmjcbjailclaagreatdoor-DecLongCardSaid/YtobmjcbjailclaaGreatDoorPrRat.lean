/- The program's numbers with a divisor: 'Of', 'Norm' by their contracts. Condition: a bound on lengths. -/
import Derived.Test.YtobmjcbjailclaaGreatDoorRefRat
import Derived.Test.YtobmjcbjailclaaGreatDoorDivs
import Derived.Test.YtobmjcbjailclaaGreatDoorStore3
namespace Go.Proofs.YtobmjcbjailclaaGreatDoor
set_option maxRecDepth 100000
open Go.RowKit

set_option maxHeartbeats 3200000 in
theorem prOf_some (s : Bool) (vn vd : Value) (n d : List Nat) (w : World) (dn : Dig n) (dd : Dig d) (hn : Nt w 0 w.heap.size vn n) (hd : Nt w 0 w.heap.size vd d) (ln : n.length ≤ 1000) (ld : d.length ≤ 1000) (h0 : val n ≠ 0) (h1 : val d ≠ 0) :
    Calls Tryz.prog 28 #[.bool s, vn, vd] w (GivesT s (val n / Nat.gcd (val n) (val d)) (val d / Nat.gcd (val n) (val d)) w) := by
  have z1 : ((((lim (val n)).length : Nat) : Int) == 0) = false := beq_eq_false_iff_ne.2 (by have : (lim (val n)).length ≠ 0 := (fun h => h0 (lim_eq_nil.1 (List.eq_nil_of_length_eq_zero h))); omega)
  have z2 : ((((lim (val d)).length : Nat) : Int) == 0) = false := beq_eq_false_iff_ne.2 (by have : (lim (val d)).length ≠ 0 := (fun h => h1 (lim_eq_nil.1 (List.eq_nil_of_length_eq_zero h))); omega)
  have dn1 := dig_lim (val n)
  have dd1 := dig_lim (val d)
  have ln1 : (lim (val n)).length ≤ 1000 := Nat.le_trans (lim_val_length n dn) ln
  have ld1 : (lim (val d)).length ≤ 1000 := Nat.le_trans (lim_val_length d dd) ld
  have vn1 := Lib.hid (val_lim (val n))
  have vd1 := Lib.hid (val_lim (val d))
  obtain ⟨G, hG⟩ : ∃ G, Nat.gcd (val n) (val d) = G := ⟨_, rfl⟩
  have dg := dig_lim G
  have vg := Lib.hid (val_lim G)
  have lg : (lim G).length ≤ 1000 := by
    rw [← hG]
    exact Nat.le_trans (lim_len_mono (Nat.gcd_le_left _ (Nat.pos_of_ne_zero h0))) ln1
  have gn : Hid (remN (val n) G = val n % G) := by
    show _ = _
    unfold remN
    rw [if_neg (by rw [← hG]; exact fun h => h0 (Nat.eq_zero_of_gcd_eq_zero_left h))]
  have HG := Lib.hid hG
  rw [hG]
  clear hG h0 h1
  go_enter Tryz.func28, Tryz.ntmps28
  go_wp2_with fail
  have b1 := Blk.new w 25 #[.bool false, .slice none 0 0, .slice none 0 0]
  have hB : Below w.heap.size w (w.alloc (.cells #[.bool false, .slice none 0 0, .slice none 0 0] 25)) := (Below.refl _ _).alloc (Nat.le_refl _) _
  generalize w.alloc (.cells #[.bool false, .slice none 0 0, .slice none 0 0] 25) = w2 at *
  replace hn := (hn.below hB (Nat.le_refl _)).up hB.size
  replace hd := (hd.below hB (Nat.le_refl _)).up hB.size
  refine (Trim_any vn n _ dn hn (by omega)).mono ?_
  rintro e w3 ⟨v3, rfl, h3, hb⟩
  replace hd := hd.after hb
  replace h3 := h3.low (Nat.zero_le _)
  replace hB := hB.trans (hb.mono hB.size)
  have q1 := b1.below hb b1.lt
  clear hn hb b1
  go_wp2_with fail
  refine (Trim_any vd d _ dd hd (by omega)).mono ?_
  rintro e w4 ⟨v4, rfl, h4, hb⟩
  replace h3 := h3.after hb
  replace h4 := h4.low (Nat.zero_le _)
  replace hB := hB.trans (hb.mono hB.size)
  have b1 := q1.below hb q1.lt
  have hl3 := h3
  have hl4 := h4
  obtain ⟨A3, c3, rfl, m3⟩ := nt_len hl3
  obtain ⟨A4, c4, rfl, m4⟩ := nt_len hl4
  clear hd hb q1 hl3 hl4 dn dd ln ld
  go_wp2_with fail
  refine (gcd_any _ _ (lim (val n)) (lim (val d)) _ dn1 dd1 h3 h4 ln1 ld1).mono ?_
  rintro e w5 ⟨v5, rfl, h5, hb⟩
  rw [vn1.out, vd1.out, HG.out] at h5
  replace h5 := h5.low (Nat.zero_le _)
  replace h3 := h3.after hb
  replace h4 := h4.after hb
  have q1 := b1.below hb b1.lt
  replace hB := hB.trans (hb.mono hB.size)
  clear b1 hb
  go_wp2_with fail
  refine (div_any _ _ (lim (val n)) (lim G) _ dn1 dg h3 h5 (by omega) (by omega)).mono ?_
  rintro e w6 ⟨v6, z6, rfl, h6, h6', hb⟩
  rw [vn1.out, vg.out] at h6
  clear h6'
  replace h6 := h6.low (show w.heap.size + 1 ≤ _ from q1.lt)
  replace h5 := h5.after hb
  replace h4 := h4.after hb
  have b1 := q1.below hb q1.lt
  replace hB := hB.trans (hb.mono hB.size)
  clear q1 hb h3
  go_wp2_with fail
  refine (div_any _ _ (lim (val d)) (lim G) _ dd1 dg h4 h5 (by omega) (by omega)).mono ?_
  rintro e w7 ⟨v7, z7, rfl, h7, h7', hb⟩
  rw [vd1.out, vg.out] at h7
  clear h7'
  replace h7 := h7.low (show w.heap.size + 1 ≤ _ from b1.lt)
  have q1' := b1.below hb b1.lt
  replace hB := hB.trans (hb.mono hB.size)
  clear b1 h5 h4
  have hl6 := h6.after hb
  have hl7 := h7
  obtain ⟨A6, c6, rfl, m6⟩ := nt_len hl6
  obtain ⟨A7, c7, rfl, m7⟩ := nt_len hl7
  replace h6 := h6.after hb
  clear hl6 hl7 hb
  have r0 := q1'.cell 0
  have r1 := q1'.cell 1
  have r2 := q1'.cell 2
  have f0 := q1'.free 0
  have f1 := q1'.free 1
  have f2 := q1'.free 2
  have p3 := ((q1'.put 0 (.bool s)).put 1 (.slice A6 (lim (val n / G)).length c6)).put 2 (.slice A7 (lim (val d / G)).length c7)
  have hBB := ((hB.setCell (p := ⟨w.heap.size, 0, none⟩) (by simp) (.bool s)).setCell (p := ⟨w.heap.size, 1, none⟩) (by simp) (.slice A6 (lim (val n / G)).length c6)).setCell (p := ⟨w.heap.size, 2, none⟩) (by simp) (.slice A7 (lim (val d / G)).length c7)
  have t6 := ((h6.put3 (Nat.lt_succ_self _) 0 (.bool s)).put3 (Nat.lt_succ_self _) 1 (.slice A6 (lim (val n / G)).length c6)).put3 (Nat.lt_succ_self _) 2 (.slice A7 (lim (val d / G)).length c7)
  have t7 := ((h7.put3 (Nat.lt_succ_self _) 0 (.bool s)).put3 (Nat.lt_succ_self _) 1 (.slice A6 (lim (val n / G)).length c6)).put3 (Nat.lt_succ_self _) 2 (.slice A7 (lim (val d / G)).length c7)
  clear h6 h7
  go_wp2_with fail
  clear r0 r1 r2 f0 f1 f2 q1'
  generalize ((World.setCell w7 ⟨w.heap.size, 0, none⟩ (.bool s)).setCell ⟨w.heap.size, 1, none⟩ (.slice A6 (lim (val n / G)).length c6)).setCell ⟨w.heap.size, 2, none⟩ (.slice A7 (lim (val d / G)).length c7) = W at *
  have e0 : W.cell? ⟨w.heap.size, 0, none⟩ = some (.bool s) := by rw [p3.cell]; rfl
  have e1 : W.cell? ⟨w.heap.size, 1, none⟩ = some (.slice A6 (lim (val n / G)).length c6) := by rw [p3.cell]; rfl
  have e2 : W.cell? ⟨w.heap.size, 2, none⟩ = some (.slice A7 (lim (val d / G)).length c7) := by rw [p3.cell]; rfl
  refine bodyPost_ret (v := .agg #[.bool s, .slice A6 (lim (val n / G)).length c6, .slice A7 (lim (val d / G)).length c7]) ?_ rfl ⟨_, rfl, ⟨_, _, rfl, t6.low (by omega), t7.low (by omega)⟩, hBB⟩
  simp [results, Tryz.results28, go_sem, e0, e1, e2]

set_option maxHeartbeats 3200000 in
theorem prOf_zero (s : Bool) (vn vd : Value) (n d : List Nat) (w : World) (dn : Dig n) (dd : Dig d) (hn : Nt w 0 w.heap.size vn n) (hd : Nt w 0 w.heap.size vd d) (ln : n.length ≤ 1000) (ld : d.length ≤ 1000) (h0 : val n = 0 ∨ val d = 0) :
    Calls Tryz.prog 28 #[.bool s, vn, vd] w (GivesT false 0 1 w) := by
  have zz : ((((lim (val n)).length : Nat) : Int) == 0) = true ∨ ((((lim (val n)).length : Nat) : Int) == 0) = false ∧ ((((lim (val d)).length : Nat) : Int) == 0) = true := by
    by_cases h1 : val n = 0
    · left; rw [h1, lim_zero]; rfl
    · right
      refine ⟨beq_eq_false_iff_ne.2 (by have : (lim (val n)).length ≠ 0 := (fun h => h1 (lim_eq_nil.1 (List.eq_nil_of_length_eq_zero h))); omega), ?_⟩
      have h2 : val d = 0 := by omega
      rw [h2, lim_zero]; rfl
  have ZZ := Lib.hid zz
  have L0 := Lib.hid lim_zero
  clear h0 zz
  go_enter Tryz.func28, Tryz.ntmps28
  go_wp2_with fail
  have b1 := Blk.new w 25 #[.bool false, .slice none 0 0, .slice none 0 0]
  have hB : Below w.heap.size w (w.alloc (.cells #[.bool false, .slice none 0 0, .slice none 0 0] 25)) := (Below.refl _ _).alloc (Nat.le_refl _) _
  generalize w.alloc (.cells #[.bool false, .slice none 0 0, .slice none 0 0] 25) = w2 at *
  replace hn := (hn.below hB (Nat.le_refl _)).up hB.size
  replace hd := (hd.below hB (Nat.le_refl _)).up hB.size
  refine (Trim_any vn n _ dn hn (by omega)).mono ?_
  rintro e w3 ⟨v3, rfl, h3, hb⟩
  replace hd := hd.after hb
  replace h3 := h3.low (Nat.zero_le _)
  replace hB := hB.trans (hb.mono hB.size)
  have q1 := b1.below hb b1.lt
  clear hn hb b1
  go_wp2_with fail
  refine (Trim_any vd d _ dd hd (by omega)).mono ?_
  rintro e w4 ⟨v4, rfl, h4, hb⟩
  replace h3 := h3.after hb
  replace h4 := h4.low (Nat.zero_le _)
  replace hB := hB.trans (hb.mono hB.size)
  have b1 := q1.below hb q1.lt
  obtain ⟨A3, c3, rfl, m3⟩ := nt_len h3
  obtain ⟨A4, c4, rfl, m4⟩ := nt_len h4
  clear hd hb q1 dn dd ln ld h3 h4
  have hof := of_any 1 w4 (by omega)
  rcases ZZ.out with z1 | ⟨z0, z1⟩
  all_goals
    go_wp2_with fail
    refine hof.mono ?_
    rintro e w5 ⟨v5, rfl, h5, hb⟩
    clear hof
    replace h5 := h5.low (show w.heap.size + 1 ≤ _ from b1.lt)
    have q1' := b1.below hb b1.lt
    replace hB := hB.trans (hb.mono hB.size)
    have hl5 := h5
    obtain ⟨A7, c7, rfl, m7⟩ := nt_len hl5
    clear b1 hb hl5
    have r0 := q1'.cell 0
    have r1 := q1'.cell 1
    have r2 := q1'.cell 2
    have f0 := q1'.free 0
    have f1 := q1'.free 1
    have f2 := q1'.free 2
    have p3 := ((q1'.put 0 (.bool false)).put 1 (.slice none 0 0)).put 2 (.slice A7 (lim 1).length c7)
    have hBB := ((hB.setCell (p := ⟨w.heap.size, 0, none⟩) (by simp) (.bool false)).setCell (p := ⟨w.heap.size, 1, none⟩) (by simp) (.slice none 0 0)).setCell (p := ⟨w.heap.size, 2, none⟩) (by simp) (.slice A7 (lim 1).length c7)
    have t7 := ((h5.put3 (Nat.lt_succ_self _) 0 (.bool false)).put3 (Nat.lt_succ_self _) 1 (.slice none 0 0)).put3 (Nat.lt_succ_self _) 2 (.slice A7 (lim 1).length c7)
    clear h5
    go_wp2_with fail
    clear r0 r1 r2 f0 f1 f2 q1'
    generalize ((World.setCell w5 ⟨w.heap.size, 0, none⟩ (.bool false)).setCell ⟨w.heap.size, 1, none⟩ (.slice none 0 0)).setCell ⟨w.heap.size, 2, none⟩ (.slice A7 (lim 1).length c7) = W at *
    have e0 : W.cell? ⟨w.heap.size, 0, none⟩ = some (.bool false) := by rw [p3.cell]; rfl
    have e1 : W.cell? ⟨w.heap.size, 1, none⟩ = some (.slice none 0 0) := by rw [p3.cell]; rfl
    have e2 : W.cell? ⟨w.heap.size, 2, none⟩ = some (.slice A7 (lim 1).length c7) := by rw [p3.cell]; rfl
    refine bodyPost_ret (v := .agg #[.bool false, .slice none 0 0, .slice A7 (lim 1).length c7]) ?_ rfl ⟨_, rfl, ⟨_, _, rfl, by rw [L0.out]; exact Nt.nil _ _ _, t7.low (by omega)⟩, hBB⟩
    simp [results, Tryz.results28, go_sem, e0, e1, e2]

theorem prOf_any (s : Bool) (vn vd : Value) (n d : List Nat) (w : World) (dn : Dig n) (dd : Dig d) (hn : Nt w 0 w.heap.size vn n) (hd : Nt w 0 w.heap.size vd d) (ln : n.length ≤ 1000) (ld : d.length ≤ 1000) :
    Calls Tryz.prog 28 #[.bool s, vn, vd] w (GivesT (nrS s (val n) (val d)) (nrN (val n) (val d)) (nrD (val n) (val d)) w) := by
  by_cases h0 : val n = 0 ∨ val d = 0
  · obtain ⟨e1, e2, e3⟩ := nr_zero (s := s) h0
    rw [e1, e2, e3]
    exact prOf_zero s vn vd n d w dn dd hn hd ln ld h0
  · have h1 : val n ≠ 0 := by omega
    have h2 : val d ≠ 0 := by omega
    obtain ⟨e1, e2, e3⟩ := nr_some (s := s) h1 h2
    rw [e1, e2, e3]
    exact prOf_some s vn vd n d w dn dd hn hd ln ld h1 h2

set_option maxHeartbeats 3200000 in
theorem prNorm_any (v : Value) (s : Bool) (n d : List Nat) (w : World) (dn : Dig n) (dd : Dig d) (h : Rt w 0 w.heap.size v s n d) (ln : n.length ≤ 1000) (ld : d.length ≤ 1000) :
    Calls Tryz.prog 76 #[v] w (GivesT (nrS s (val n) (val d)) (nrN (val n) (val d)) (nrD (val n) (val d)) w) := by
  obtain ⟨vn, vd, rfl, hn, hd⟩ := h
  go_enter Tryz.func76, Tryz.ntmps76
  have hcon := fun w (hn : Nt w 0 w.heap.size vn n) (hd : Nt w 0 w.heap.size vd d) => prOf_any s vn vd n d w dn dd hn hd ln ld
  generalize nrS s (val n) (val d) = S at *
  generalize nrN (val n) (val d) = N at *
  generalize nrD (val n) (val d) = D at *
  have HC := Lib.hid hcon
  clear hcon
  go_wp2_with fail
  have b0 := (Blk.new w 25 #[.bool s, vn, vd]).alloc (.cells #[.bool false, .slice none 0 0, .slice none 0 0] 25)
  have b1 := Blk.new (w.alloc (.cells #[.bool s, vn, vd] 25)) 25 #[.bool false, .slice none 0 0, .slice none 0 0]
  have hB : Below w.heap.size w ((w.alloc (.cells #[.bool s, vn, vd] 25)).alloc (.cells #[.bool false, .slice none 0 0, .slice none 0 0] 25)) := ((Below.refl _ _).alloc (Nat.le_refl _) _).alloc (by simp) _
  have es : (w.alloc (.cells #[.bool s, vn, vd] 25)).heap.size = w.heap.size + 1 := by simp
  rw [es] at b1
  clear es
  generalize (w.alloc (.cells #[.bool s, vn, vd] 25)).alloc (.cells #[.bool false, .slice none 0 0, .slice none 0 0] 25) = w2 at *
  replace hn := (hn.below hB (Nat.le_refl _)).up hB.size
  replace hd := (hd.below hB (Nat.le_refl _)).up hB.size
  have c0 := b0.cell 0
  have c1 := b0.cell 1
  have c2 := b0.cell 2
  go_wp2_with fail
  refine (HC.out _ hn hd).mono ?_
  rintro e w3 ⟨v3, rfl, ⟨an, ad, rfl, h1, h2⟩, hb⟩
  have q := b1.below hb b1.lt
  have hl1 := h1
  have hl2 := h2
  obtain ⟨A6, c6, rfl, m6⟩ := nt_len hl1
  obtain ⟨A7, c7, rfl, m7⟩ := nt_len hl2
  clear hl1 hl2
  obtain ⟨e0, e1, e2, hR, hBB⟩ := store3 q (hB.trans (hb.mono hB.size)) (by omega) S (.slice A6 (lim N).length c6) (.slice A7 (lim D).length c7) (h1.low b1.lt) (h2.low b1.lt)
  have r0 := q.cell 0
  have r1 := q.cell 1
  have r2 := q.cell 2
  have f0 := q.free 0
  have f1 := q.free 1
  have f2 := q.free 2
  have HR := Lib.hid hR
  have HBB := Lib.hid hBB
  clear c0 c1 c2 b0 b1 hn hd h1 h2 hb q HC hR hBB hB
  unfold St3 at *
  go_wp2_with fail
  clear r0 r1 r2 f0 f1 f2
  generalize ((World.setCell w3 ⟨w.heap.size + 1, 0, none⟩ (.bool S)).setCell ⟨w.heap.size + 1, 1, none⟩ (.slice A6 (lim N).length c6)).setCell ⟨w.heap.size + 1, 2, none⟩ (.slice A7 (lim D).length c7) = W at *
  refine bodyPost_ret (v := .agg #[.bool S, .slice A6 (lim N).length c6, .slice A7 (lim D).length c7]) ?_ rfl ⟨_, rfl, HR.out, HBB.out⟩
  simp [results, Tryz.results76, go_sem, e0, e1, e2]
end Go.Proofs.YtobmjcbjailclaaGreatDoor
