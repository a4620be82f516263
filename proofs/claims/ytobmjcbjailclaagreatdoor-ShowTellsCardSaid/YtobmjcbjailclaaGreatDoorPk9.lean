/- Several texts in one: DecB, RefNeg. Condition: each says its own. -/
import Derived.Test.YtobmjcbjailclaaGreatDoorPk7
import Derived.Test.YtobmjcbjailclaaGreatDoorPk8
/- The program's 'Round' of numbers with a divisor by its contract. Condition: bounds on lengths. -/
namespace Go.Proofs.YtobmjcbjailclaaGreatDoor
set_option maxRecDepth 100000
open Go.RowKit

theorem s3_of {w W : World} {g : Nat} {v0 v1 v2 : Value} (hb : Below w.heap.size w W) (c0 : w.cell? ⟨g, 0, none⟩ = some v0) (c1 : w.cell? ⟨g, 1, none⟩ = some v1) (c2 : w.cell? ⟨g, 2, none⟩ = some v2) (hg : g < w.heap.size) :
    W.cell? ⟨g, 0, none⟩ = some v0 ∧ W.cell? ⟨g, 1, none⟩ = some v1 ∧ W.cell? ⟨g, 2, none⟩ = some v2 :=
  ⟨(hb.cell (p := ⟨g, 0, none⟩) hg).trans c0, (hb.cell (p := ⟨g, 1, none⟩) hg).trans c1, (hb.cell (p := ⟨g, 2, none⟩) hg).trans c2⟩

theorem s3_set {W : World} {g b : Nat} {v0 v1 v2 u0 u1 u2 : Value} (hs : W.cell? ⟨g, 0, none⟩ = some v0 ∧ W.cell? ⟨g, 1, none⟩ = some v1 ∧ W.cell? ⟨g, 2, none⟩ = some v2) (hgb : b ≠ g) :
    (((W.setCell ⟨b, 0, none⟩ u0).setCell ⟨b, 1, none⟩ u1).setCell ⟨b, 2, none⟩ u2).cell? ⟨g, 0, none⟩ = some v0 ∧ (((W.setCell ⟨b, 0, none⟩ u0).setCell ⟨b, 1, none⟩ u1).setCell ⟨b, 2, none⟩ u2).cell? ⟨g, 1, none⟩ = some v1 ∧ (((W.setCell ⟨b, 0, none⟩ u0).setCell ⟨b, 1, none⟩ u1).setCell ⟨b, 2, none⟩ u2).cell? ⟨g, 2, none⟩ = some v2 := by
  have far : ∀ (W : World) (i j : Nat) (u : Value), (W.setCell ⟨b, i, none⟩ u).cell? ⟨g, j, none⟩ = W.cell? ⟨g, j, none⟩ := fun W i j u => World.cell?_setCell_far _ _ _ _ (by show b ≠ g; omega)
  simp only [far]
  exact hs

theorem nrD_len2 {d : List Nat} {n k : Nat} (hd : Dig d) (hl : d.length ≤ k) (hk : k ≠ 0) : (lim (nrD n (val d))).length ≤ k := by
  have h1 := Nat.lt_of_lt_of_le (val_lt hd) (Nat.pow_le_pow_right (by omega : 0 < 4294967296) hl)
  have h2 : 1 < 4294967296 ^ k := Nat.one_lt_pow hk (by omega)
  refine lim_length_le ?_
  have h3 : nrD n (val d) ≤ 4294967296 ^ k - 1 := nrD_le (Nat.le_sub_one_of_lt h1) (Nat.le_sub_one_of_lt h2)
  generalize 4294967296 ^ k = P at *
  omega

theorem rhe_le (x d : Nat) : rhe x d ≤ x + 1 := by
  have := Nat.div_le_self x d
  unfold rhe
  split <;> omega

set_option maxHeartbeats 3200000 in
theorem round_any (v : Value) (s : Bool) (n d : List Nat) (k : Int) (w : World) (dn : Dig n) (dd : Dig d) (h : Rt w 0 w.heap.size v s n d) (ln : n.length ≤ 900) (ld : d.length ≤ 900)
    (S : Bool) (N D K U : Nat) (hS : nrS s (val n) (val d) = S) (hN : nrN (val n) (val d) = N) (hD : nrD (val n) (val d) = D) (hK : hold60 k = (K : Int)) (hU : rhe (N * 10 ^ K) D = U) :
    Calls Tryz.prog 79 #[v, .int .i64 k] w (GivesT (nrS S U (10 ^ K)) (nrN U (10 ^ K)) (nrD U (10 ^ K)) w) := by
  obtain ⟨vn, vd, rfl, hn, hd⟩ := h
  have hr := hold60_range k
  have hK60 : K ≤ 60 := by omega
  have hD0 : D ≠ 0 := by have := nrD_pos (val n) (val d); omega
  have lN : (lim N).length ≤ 900 := by rw [← hN]; exact Nat.le_trans (lim_len_mono (nrN_le _ _)) (Nat.le_trans (lim_val_length n dn) ln)
  have lD : (lim D).length ≤ 901 := by rw [← hD]; exact nrD_len2 dd (by omega) (by omega)
  have dN := dig_lim N
  have dD := dig_lim D
  have VN := Lib.hid (val_lim N)
  have VD := Lib.hid (val_lim D)
  have dU := dig_lim U
  have dT := dig_lim (10 ^ K)
  have lT := ten_len60 hK60
  have lU : (lim U).length ≤ 1000 := by
    rw [← hU]
    refine Nat.le_trans (lim_len_mono (rhe_le _ _)) ?_
    have l1 : (lim (N * 10 ^ K)).length ≤ 961 := lim_mul_len (dig_lim N) dT (val_lim _).symm (val_lim _).symm lN lT
    exact Nat.le_trans (lim_add_len (dig_lim (N * 10 ^ K)) (dig_lim 1) (val_lim _).symm (val_lim _).symm l1 (lim_length_le (by omega) : (lim 1).length ≤ 961)) (by omega)
  have VU := Lib.hid (val_lim U)
  have VT := Lib.hid (val_lim (10 ^ K))
  have HU := Lib.hid hU
  have hnorm := fun w (hR : Rt w 0 w.heap.size (.agg #[.bool s, vn, vd]) s n d) => prNorm_any (.agg #[.bool s, vn, vd]) s n d w dn dd hR (by omega) (by omega)
  rw [hS, hN, hD] at hnorm
  have HNORM := Lib.hid hnorm
  have hheld := fun w => dheld_any k w
  rw [hK] at hheld
  have HHELD := Lib.hid hheld
  clear hnorm hheld hS hN hD hK hr hU
  obtain ⟨FS, hFS⟩ : ∃ z, nrS S U (10 ^ K) = z := ⟨_, rfl⟩
  obtain ⟨FN, hFN⟩ : ∃ z, nrN U (10 ^ K) = z := ⟨_, rfl⟩
  obtain ⟨FD, hFD⟩ : ∃ z, nrD U (10 ^ K) = z := ⟨_, rfl⟩
  rw [hFS, hFN, hFD]
  have HFS := Lib.hid hFS
  have HFN := Lib.hid hFN
  have HFD := Lib.hid hFD
  clear hFS hFN hFD
  go_enter Tryz.func79, Tryz.ntmps79
  go_wp2_with fail
  have b0 := (Blk.new w 25 #[.bool s, vn, vd]).alloc (.cells #[.bool false, .slice none 0 0, .slice none 0 0] 25)
  have b1 := Blk.new (w.alloc (.cells #[.bool s, vn, vd] 25)) 25 #[.bool false, .slice none 0 0, .slice none 0 0]
  have hB : Below w.heap.size w ((w.alloc (.cells #[.bool s, vn, vd] 25)).alloc (.cells #[.bool false, .slice none 0 0, .slice none 0 0] 25)) := ((Below.refl _ _).alloc (Nat.le_refl _) _).alloc (by simp) _
  have es : (w.alloc (.cells #[.bool s, vn, vd] 25)).heap.size = w.heap.size + 1 := by simp
  rw [es] at b1
  clear es
  generalize (w.alloc (.cells #[.bool s, vn, vd] 25)).alloc (.cells #[.bool false, .slice none 0 0, .slice none 0 0] 25) = w2 at *
  replace hn := (hn.below hB (Nat.le_refl _)).up hB.size
  replace hd := (hd.below hB (Nat.le_refl _)).up hB.size
  have c0 := b0.cell 0
  have c1 := b0.cell 1
  have c2 := b0.cell 2
  go_wp2_with fail
  refine (HNORM.out _ ⟨vn, vd, rfl, hn, hd⟩).mono ?_
  rintro e w3 ⟨v3, rfl, ⟨an, ad, rfl, h1, h2⟩, hb⟩
  have q0 := b0.below hb b0.lt
  have q1 := b1.below hb b1.lt
  replace h1 := h1.low (show w.heap.size + 1 + 1 ≤ _ from b1.lt)
  replace h2 := h2.low (show w.heap.size + 1 + 1 ≤ _ from b1.lt)
  replace hB := hB.trans (hb.mono hB.size)
  have hl1 := h1
  have hl2 := h2
  obtain ⟨A6, c6, rfl, m6⟩ := nt_len hl1
  obtain ⟨A7, c7, rfl, m7⟩ := nt_len hl2
  have r0 := q0.cell 0
  have r1 := q0.cell 1
  have r2 := q0.cell 2
  have f0 := q0.free 0
  have f1 := q0.free 1
  have f2 := q0.free 2
  clear hl1 hl2 hb b0 b1 c0 c1 c2 hn hd HNORM
  go_wp2_with fail
  refine (HHELD.out _).mono ?_
  rintro e w4 ⟨rfl, rfl⟩
  clear HHELD
  have p3 := ((q0.put 0 (.bool S)).put 1 (.slice A6 (lim N).length c6)).put 2 (.slice A7 (lim D).length c7)
  have p1 := ((q1.far (p := ⟨w.heap.size, 0, none⟩) (by simp) (.bool S)).far (p := ⟨w.heap.size, 1, none⟩) (by simp) (.slice A6 (lim N).length c6)).far (p := ⟨w.heap.size, 2, none⟩) (by simp) (.slice A7 (lim D).length c7)
  have hBB := ((hB.setCell (p := ⟨w.heap.size, 0, none⟩) (Nat.le_refl _) (.bool S)).setCell (p := ⟨w.heap.size, 1, none⟩) (Nat.le_refl _) (.slice A6 (lim N).length c6)).setCell (p := ⟨w.heap.size, 2, none⟩) (Nat.le_refl _) (.slice A7 (lim D).length c7)
  have t1 := ((h1.put3 (g := w.heap.size) (by omega) 0 (.bool S)).put3 (g := w.heap.size) (by omega) 1 (.slice A6 (lim N).length c6)).put3 (g := w.heap.size) (by omega) 2 (.slice A7 (lim D).length c7)
  have t2 := ((h2.put3 (g := w.heap.size) (by omega) 0 (.bool S)).put3 (g := w.heap.size) (by omega) 1 (.slice A6 (lim N).length c6)).put3 (g := w.heap.size) (by omega) 2 (.slice A7 (lim D).length c7)
  have P3 := Lib.hid p3
  have P1 := Lib.hid p1
  have HBB := Lib.hid hBB
  have T1 := Lib.hid t1
  have T2 := Lib.hid t2
  clear p3 p1 hBB t1 t2 h1 h2 hB q0 q1
  go_wp2_with fail
  clear r0 r1 r2 f0 f1 f2
  replace P3 := P3.out
  replace P1 := P1.out
  replace HBB := HBB.out
  replace T1 := T1.out
  replace T2 := T2.out
  generalize ((World.setCell w3 ⟨w.heap.size, 0, none⟩ (.bool S)).setCell ⟨w.heap.size, 1, none⟩ (.slice A6 (lim N).length c6)).setCell ⟨w.heap.size, 2, none⟩ (.slice A7 (lim D).length c7) = w5 at *
  have c0 : w5.cell? ⟨w.heap.size, 0, none⟩ = some (.bool S) := by rw [P3.cell]; rfl
  have c1 : w5.cell? ⟨w.heap.size, 1, none⟩ = some (.slice A6 (lim N).length c6) := by rw [P3.cell]; rfl
  have c2 : w5.cell? ⟨w.heap.size, 2, none⟩ = some (.slice A7 (lim D).length c7) := by rw [P3.cell]; rfl
  have hg := P3.lt
  have hk5 : Below w5.heap.size w5 w5.drew := (Below.refl _ _).drew
  have hun := fun w (hR : Rt w 0 w.heap.size (.agg #[.bool S, .slice A6 (lim N).length c6, .slice A7 (lim D).length c7]) S (lim N) (lim D)) => units_any (.agg #[.bool S, .slice A6 (lim N).length c6, .slice A7 (lim D).length c7]) S (lim N) (lim D) K w dN dD hR (by omega) (by omega) hK60 (by rw [VD.out]; exact hD0)
  rw [VN.out, VD.out, HU.out] at hun
  have HUN := Lib.hid hun
  have HTEN : Hid (∀ w, Calls Tryz.prog 29 #[.int .i64 (K : Int)] w (Gives (lim (10 ^ K)) w)) := fun w => ten_any K w hK60
  have hz : w.heap.size + 1 + 1 ≤ w5.heap.size := P1.lt
  clear hun P3
  go_region_held3 (fun W => W.cell? ⟨w.heap.size, 0, none⟩ = some (.bool S) ∧ W.cell? ⟨w.heap.size, 1, none⟩ = some (.slice A6 (lim N).length c6) ∧ W.cell? ⟨w.heap.size, 2, none⟩ = some (.slice A7 (lim D).length c7))
    (first | exact s3_set (s3_of hk8 c0 c1 c2 hg) (Nat.succ_ne_self _) | exact s3_of hk8 c0 c1 c2 hg | exact s3_of hk7 c0 c1 c2 hg | exact s3_of hk6 c0 c1 c2 hg | exact s3_of hk5 c0 c1 c2 hg | fail)
    (first
      | (go_at_call 28; refine (prOf_any S v6 v7 (lim U) (lim (10 ^ K)) _ dU dT (h6.after hb7) (h7.low (Nat.zero_le _)) lU (by omega)).mono ?_; rw [VU.out, VT.out, HFS.out, HFN.out, HFD.out]; rintro e w8 ⟨v8, rfl, ⟨an, ad, rfl, han, had⟩, hb8⟩; have han' := han; have had' := had; obtain ⟨A8, c8, rfl, m8⟩ := nt_len han'; obtain ⟨A9, c9, rfl, m9⟩ := nt_len had'; clear han' had'; have hk8 : Below w5.heap.size w5 w8 := hk7.trans (hb8.mono hk7.size); have q8 := P1.below hk8 P1.lt; have r0 := q8.cell 0; have r1 := q8.cell 1; have r2 := q8.cell 2; have f0 := q8.free 0; have f1 := q8.free 1; have f2 := q8.free 2)
      | (go_at_call 82; refine (HUN.out _ ⟨_, _, rfl, (T1.low (Nat.zero_le _)).drew, (T2.low (Nat.zero_le _)).drew⟩).mono ?_; rintro e w6 ⟨v6, rfl, h6, hb6⟩; replace h6 := h6.low (Nat.zero_le _); have hk6 : Below w5.heap.size w5 w6 := Below.trans hk5 hb6)
      | (have hx := hk6; go_at_call 29; refine (HTEN.out _).mono ?_; rintro e w7 ⟨v7, rfl, h7, hb7⟩; have hbb7 := hb7; have hk7 : Below w5.heap.size w5 w7 := hk6.trans (hb7.mono hk6.size))
      | fail)
  obtain ⟨e0, e1, e2, hR, hBf⟩ := store3 q8 (HBB.trans (hk8.mono HBB.size)) (Nat.le_succ _) FS (.slice A8 (lim FN).length c8) (.slice A9 (lim FD).length c9) (han.low (Nat.le_trans hz hk7.size)) (had.low (Nat.le_trans hz hk7.size))
  have HR := Lib.hid hR
  have HBF := Lib.hid hBf
  clear r0 r1 r2 f0 f1 f2 q8 han had hR hBf h6 h7 hb7 hb8
  unfold St3 at *
  go_wp2_with fail
  generalize ((World.setCell w8 ⟨w.heap.size + 1, 0, none⟩ (.bool FS)).setCell ⟨w.heap.size + 1, 1, none⟩ (.slice A8 (lim FN).length c8)).setCell ⟨w.heap.size + 1, 2, none⟩ (.slice A9 (lim FD).length c9) = W at *
  refine bodyPost_ret (v := .agg #[.bool FS, .slice A8 (lim FN).length c8, .slice A9 (lim FD).length c9]) ?_ rfl ⟨_, rfl, HR.out, HBF.out⟩
  simp [results, Tryz.results79, go_sem, e0, e1, e2]
end Go.Proofs.YtobmjcbjailclaaGreatDoor

/- The reference's 'Neg' of a number with a divisor by its contract. Condition: a bound on lengths. -/
namespace Go.Proofs.YtobmjcbjailclaaGreatDoor
set_option maxRecDepth 100000
open Go.RowKit

set_option maxHeartbeats 3200000 in
theorem ratNeg_any (v : Value) (s : Bool) (n d : List Nat) (w : World) (dn : Dig n) (dd : Dig d) (h : Rt w 0 w.heap.size v s n d) (ln : n.length ≤ 1000) (ld : d.length ≤ 1000) :
    Calls Tryz.prog 100 #[v] w (GivesT (!(nrS s (val n) (val d)) && decide (0 < nrN (val n) (val d))) (nrN (val n) (val d)) (nrD (val n) (val d)) w) := by
  obtain ⟨vn, vd, rfl, hn, hd⟩ := h
  have hn' := hn
  have hd' := hd
  obtain ⟨A1, c1, rfl, m1⟩ := nt_len hn'
  obtain ⟨A2, c2, rfl, m2⟩ := nt_len hd'
  clear hn' hd'
  go_enter Tryz.func100, Tryz.ntmps100
  go_wp2_with fail
  have b1 := Blk.new (w.alloc (.cells #[.bool s, .slice A1 n.length c1, .slice A2 d.length c2] 25)) 25 #[.bool false, .slice none 0 0, .slice none 0 0]
  have hB : Below w.heap.size w ((w.alloc (.cells #[.bool s, .slice A1 n.length c1, .slice A2 d.length c2] 25)).alloc (.cells #[.bool false, .slice none 0 0, .slice none 0 0] 25)) := ((Below.refl _ _).alloc (Nat.le_refl _) _).alloc (by simp) _
  have es : (w.alloc (.cells #[.bool s, .slice A1 n.length c1, .slice A2 d.length c2] 25)).heap.size = w.heap.size + 1 := by simp
  rw [es] at b1
  clear es
  generalize (w.alloc (.cells #[.bool s, .slice A1 n.length c1, .slice A2 d.length c2] 25)).alloc (.cells #[.bool false, .slice none 0 0, .slice none 0 0] 25) = w1 at *
  refine (ratNorm_any _ s n d _ dn dd ⟨_, _, rfl, hn.after hB, hd.after hB⟩ ln ld).mono ?_
  rintro e w2 ⟨v2, rfl, h2, hb2⟩
  obtain ⟨x, y, rfl, hx, hy⟩ := h2
  have hx' := hx
  have hy' := hy
  obtain ⟨A3, c3, rfl, m3⟩ := nt_len hx'
  obtain ⟨A4, c4, rfl, m4⟩ := nt_len hy'
  have q1 := b1.below hb2 b1.lt
  have hx2 := hx.low (show w.heap.size + 2 ≤ _ from b1.lt)
  have hy2 := hy.low (show w.heap.size + 2 ≤ _ from b1.lt)
  have hB2 := hB.trans (hb2.mono hB.size)
  clear hx' hy' hx hy hb2 hB b1 hn hd dn dd
  have zl : (0 < (lim (nrN (val n) (val d))).length) ↔ 0 < nrN (val n) (val d) := by
    constructor
    · intro hlt
      refine Nat.pos_of_ne_zero fun h0 => ?_
      rw [h0, lim_zero] at hlt
      exact absurd hlt (by simp)
    · intro hlt
      have : (lim (nrN (val n) (val d))).length ≠ 0 := fun h => by
        have := lim_eq_nil.1 (List.eq_nil_of_length_eq_zero h)
        omega
      omega
  have dz : decide (0 < (lim (nrN (val n) (val d))).length) = decide (0 < nrN (val n) (val d)) := decide_eq_decide.2 zl
  have DZ := Lib.hid dz
  clear zl dz
  generalize nrN (val n) (val d) = N at *
  generalize nrD (val n) (val d) = D at *
  generalize nrS s (val n) (val d) = S at *
  cases S
  · skip
    have hba := (Below.refl w2.heap.size w2).alloc (Nat.le_refl _) (.cells #[.bool (decide (0 < (lim N).length)), .slice A3 (lim N).length c3, .slice A4 (lim D).length c4] 25)
    have q3 := q1.alloc (.cells #[.bool (decide (0 < (lim N).length)), .slice A3 (lim N).length c3, .slice A4 (lim D).length c4] 25)
    have hx3 := hx2.after hba
    have hy3 := hy2.after hba
    have hB3 := hB2.trans (hba.mono hB2.size)
    clear hx2 hy2 hba q1 hB2
    have r0 := q3.cell 0
    have r1 := q3.cell 1
    have r2 := q3.cell 2
    have f0 := q3.free 0
    have f1 := q3.free 1
    have f2 := q3.free 2
    have p3 := ((q3.put 0 (.bool (decide (0 < (lim N).length)))).put 1 (.slice A3 (lim N).length c3)).put 2 (.slice A4 (lim D).length c4)
    have hBB := ((hB3.setCell (p := ⟨w.heap.size + 1, 0, none⟩) (by simp) (.bool (decide (0 < (lim N).length)))).setCell (p := ⟨w.heap.size + 1, 1, none⟩) (by simp) (.slice A3 (lim N).length c3)).setCell (p := ⟨w.heap.size + 1, 2, none⟩) (by simp) (.slice A4 (lim D).length c4)
    have t6 := ((hx3.put3 (Nat.lt_succ_self _) 0 (.bool (decide (0 < (lim N).length)))).put3 (Nat.lt_succ_self _) 1 (.slice A3 (lim N).length c3)).put3 (Nat.lt_succ_self _) 2 (.slice A4 (lim D).length c4)
    have t7 := ((hy3.put3 (Nat.lt_succ_self _) 0 (.bool (decide (0 < (lim N).length)))).put3 (Nat.lt_succ_self _) 1 (.slice A3 (lim N).length c3)).put3 (Nat.lt_succ_self _) 2 (.slice A4 (lim D).length c4)
    clear hx3 hy3 
    go_wp2_with fail
    clear r0 r1 r2 f0 f1 f2 q3
    generalize ((World.setCell (w2.alloc (.cells #[.bool (decide (0 < (lim N).length)), .slice A3 (lim N).length c3, .slice A4 (lim D).length c4] 25)) ⟨w.heap.size + 1, 0, none⟩ (.bool (decide (0 < (lim N).length)))).setCell ⟨w.heap.size + 1, 1, none⟩ (.slice A3 (lim N).length c3)).setCell ⟨w.heap.size + 1, 2, none⟩ (.slice A4 (lim D).length c4) = WW at *
    have e0 : WW.cell? ⟨w.heap.size + 1, 0, none⟩ = some (.bool (decide (0 < (lim N).length))) := by rw [p3.cell]; rfl
    have e1 : WW.cell? ⟨w.heap.size + 1, 1, none⟩ = some (.slice A3 (lim N).length c3) := by rw [p3.cell]; rfl
    have e2 : WW.cell? ⟨w.heap.size + 1, 2, none⟩ = some (.slice A4 (lim D).length c4) := by rw [p3.cell]; rfl
    refine bodyPost_ret (v := .agg #[.bool (decide (0 < (lim N).length)), .slice A3 (lim N).length c3, .slice A4 (lim D).length c4]) ?_ rfl ⟨_, rfl, ⟨_, _, (by rw [DZ.out]; rfl), t6.low (by omega), t7.low (by omega)⟩, hBB⟩
    simp [results, Tryz.results100, go_sem, e0, e1, e2]
  · skip
    have hba := (Below.refl w2.heap.size w2).alloc (Nat.le_refl _) (.cells #[.bool false, .slice A3 (lim N).length c3, .slice A4 (lim D).length c4] 25)
    have q3 := q1.alloc (.cells #[.bool false, .slice A3 (lim N).length c3, .slice A4 (lim D).length c4] 25)
    have hx3 := hx2.after hba
    have hy3 := hy2.after hba
    have hB3 := hB2.trans (hba.mono hB2.size)
    clear hx2 hy2 hba q1 hB2
    have r0 := q3.cell 0
    have r1 := q3.cell 1
    have r2 := q3.cell 2
    have f0 := q3.free 0
    have f1 := q3.free 1
    have f2 := q3.free 2
    have p3 := ((q3.put 0 (.bool false)).put 1 (.slice A3 (lim N).length c3)).put 2 (.slice A4 (lim D).length c4)
    have hBB := ((hB3.setCell (p := ⟨w.heap.size + 1, 0, none⟩) (by simp) (.bool false)).setCell (p := ⟨w.heap.size + 1, 1, none⟩) (by simp) (.slice A3 (lim N).length c3)).setCell (p := ⟨w.heap.size + 1, 2, none⟩) (by simp) (.slice A4 (lim D).length c4)
    have t6 := ((hx3.put3 (Nat.lt_succ_self _) 0 (.bool false)).put3 (Nat.lt_succ_self _) 1 (.slice A3 (lim N).length c3)).put3 (Nat.lt_succ_self _) 2 (.slice A4 (lim D).length c4)
    have t7 := ((hy3.put3 (Nat.lt_succ_self _) 0 (.bool false)).put3 (Nat.lt_succ_self _) 1 (.slice A3 (lim N).length c3)).put3 (Nat.lt_succ_self _) 2 (.slice A4 (lim D).length c4)
    clear hx3 hy3 
    go_wp2_with fail
    clear r0 r1 r2 f0 f1 f2 q3
    generalize ((World.setCell (w2.alloc (.cells #[.bool false, .slice A3 (lim N).length c3, .slice A4 (lim D).length c4] 25)) ⟨w.heap.size + 1, 0, none⟩ (.bool false)).setCell ⟨w.heap.size + 1, 1, none⟩ (.slice A3 (lim N).length c3)).setCell ⟨w.heap.size + 1, 2, none⟩ (.slice A4 (lim D).length c4) = WW at *
    have e0 : WW.cell? ⟨w.heap.size + 1, 0, none⟩ = some (.bool false) := by rw [p3.cell]; rfl
    have e1 : WW.cell? ⟨w.heap.size + 1, 1, none⟩ = some (.slice A3 (lim N).length c3) := by rw [p3.cell]; rfl
    have e2 : WW.cell? ⟨w.heap.size + 1, 2, none⟩ = some (.slice A4 (lim D).length c4) := by rw [p3.cell]; rfl
    refine bodyPost_ret (v := .agg #[.bool false, .slice A3 (lim N).length c3, .slice A4 (lim D).length c4]) ?_ rfl ⟨_, rfl, ⟨_, _, rfl, t6.low (by omega), t7.low (by omega)⟩, hBB⟩
    simp [results, Tryz.results100, go_sem, e0, e1, e2]
end Go.Proofs.YtobmjcbjailclaaGreatDoor
