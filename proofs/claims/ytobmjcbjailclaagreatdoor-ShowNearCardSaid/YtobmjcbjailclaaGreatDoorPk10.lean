/- Several texts in one: RefRatCmp, RatC, PrQ. Condition: each says its own. -/
import Derived.Test.YtobmjcbjailclaaGreatDoorPk7
import Derived.Test.YtobmjcbjailclaaGreatDoorPk8
import Derived.Test.YtobmjcbjailclaaGreatDoorPk9
/- The reference's 'Sub' and 'Cmp' of numbers with a divisor by their contracts. Condition: a bound on lengths. -/
namespace Go.Proofs.YtobmjcbjailclaaGreatDoor
set_option maxRecDepth 100000
open Go.RowKit

theorem s6_of {w0 W : World} {g : Nat} {a0 a1 a2 b0 b1 b2 : Value} (hb : Below w0.heap.size w0 W) (c0 : w0.cell? ⟨g, 0, none⟩ = some a0) (c1 : w0.cell? ⟨g, 1, none⟩ = some a1) (c2 : w0.cell? ⟨g, 2, none⟩ = some a2) (d0 : w0.cell? ⟨g + 1, 0, none⟩ = some b0) (d1 : w0.cell? ⟨g + 1, 1, none⟩ = some b1) (d2 : w0.cell? ⟨g + 1, 2, none⟩ = some b2) (hg : g + 1 < w0.heap.size) :
    W.cell? ⟨g, 0, none⟩ = some a0 ∧ W.cell? ⟨g, 1, none⟩ = some a1 ∧ W.cell? ⟨g, 2, none⟩ = some a2 ∧ W.cell? ⟨g + 1, 0, none⟩ = some b0 ∧ W.cell? ⟨g + 1, 1, none⟩ = some b1 ∧ W.cell? ⟨g + 1, 2, none⟩ = some b2 := by
  have k1 : g < w0.heap.size := by omega
  exact ⟨(hb.cell (p := ⟨g, 0, none⟩) k1).trans c0, (hb.cell (p := ⟨g, 1, none⟩) k1).trans c1, (hb.cell (p := ⟨g, 2, none⟩) k1).trans c2, (hb.cell (p := ⟨g + 1, 0, none⟩) hg).trans d0, (hb.cell (p := ⟨g + 1, 1, none⟩) hg).trans d1, (hb.cell (p := ⟨g + 1, 2, none⟩) hg).trans d2⟩
theorem s6_set {W : World} {g : Nat} {a0 a1 a2 b0 b1 b2 u v z : Value} (h : W.cell? ⟨g, 0, none⟩ = some a0 ∧ W.cell? ⟨g, 1, none⟩ = some a1 ∧ W.cell? ⟨g, 2, none⟩ = some a2 ∧ W.cell? ⟨g + 1, 0, none⟩ = some b0 ∧ W.cell? ⟨g + 1, 1, none⟩ = some b1 ∧ W.cell? ⟨g + 1, 2, none⟩ = some b2) :
    (((W.setCell ⟨g + 1 + 1, 0, none⟩ u).setCell ⟨g + 1 + 1, 1, none⟩ v).setCell ⟨g + 1 + 1, 2, none⟩ z).cell? ⟨g, 0, none⟩ = some a0 ∧ (((W.setCell ⟨g + 1 + 1, 0, none⟩ u).setCell ⟨g + 1 + 1, 1, none⟩ v).setCell ⟨g + 1 + 1, 2, none⟩ z).cell? ⟨g, 1, none⟩ = some a1 ∧
      (((W.setCell ⟨g + 1 + 1, 0, none⟩ u).setCell ⟨g + 1 + 1, 1, none⟩ v).setCell ⟨g + 1 + 1, 2, none⟩ z).cell? ⟨g, 2, none⟩ = some a2 ∧ (((W.setCell ⟨g + 1 + 1, 0, none⟩ u).setCell ⟨g + 1 + 1, 1, none⟩ v).setCell ⟨g + 1 + 1, 2, none⟩ z).cell? ⟨g + 1, 0, none⟩ = some b0 ∧
      (((W.setCell ⟨g + 1 + 1, 0, none⟩ u).setCell ⟨g + 1 + 1, 1, none⟩ v).setCell ⟨g + 1 + 1, 2, none⟩ z).cell? ⟨g + 1, 1, none⟩ = some b1 ∧ (((W.setCell ⟨g + 1 + 1, 0, none⟩ u).setCell ⟨g + 1 + 1, 1, none⟩ v).setCell ⟨g + 1 + 1, 2, none⟩ z).cell? ⟨g + 1, 2, none⟩ = some b2 := by
  obtain ⟨a, b, c, d, e, f⟩ := h
  exact ⟨far_set3 a (by omega), far_set3 b (by omega), far_set3 c (by omega), far_set3 d (by omega), far_set3 e (by omega), far_set3 f (by omega)⟩

theorem nr_gcd {n d : Nat} (hn : n ≠ 0) (hd : d ≠ 0) : Nat.gcd (nrN n d) (nrD n d) = 1 := by
  have h := nr_some (s := false) hn hd
  rw [h.2.1, h.2.2]
  exact Nat.gcd_div_gcd_div_gcd_of_pos_left (Nat.pos_of_ne_zero hn)

/-- A number in lowest terms is in lowest terms. -/
theorem nr_idem (n d : Nat) : nrN (nrN n d) (nrD n d) = nrN n d ∧ nrD (nrN n d) (nrD n d) = nrD n d := by
  by_cases h : n = 0 ∨ d = 0
  · have z := nr_zero (s := false) h
    rw [z.2.1, z.2.2]
    exact ⟨rfl, rfl⟩
  · have hn : n ≠ 0 := by omega
    have hd : d ≠ 0 := by omega
    have e1 : nrN n d ≠ 0 := fun e => h (nrN_zero.1 e)
    have e2 : nrD n d ≠ 0 := Nat.ne_of_gt (nrD_pos n d)
    have l := nr_low (s := false) (nr_gcd hn hd) e1 e2
    exact ⟨l.2.1, l.2.2⟩

theorem nrS_neg (s : Bool) (n d : Nat) : nrS (!s && decide (0 < nrN n d)) (nrN n d) (nrD n d) = (!s && decide (0 < nrN n d)) := by
  by_cases h : nrN n d = 0
  · rw [(nr_zero (Or.inl h)).1, h]
    simp
  · unfold nrS
    rw [if_neg (by have := nrD_pos n d; omega)]

set_option maxHeartbeats 3200000 in
theorem ratSub_any (u v : Value) (s t : Bool) (n d m c : List Nat) (w : World) (dn : Dig n) (dd : Dig d) (dm : Dig m) (dc : Dig c) (h : Rt w 0 w.heap.size u s n d) (h' : Rt w 0 w.heap.size v t m c)
    (ln : n.length ≤ 400) (ld : d.length ≤ 400) (lm : m.length ≤ 400) (lc : c.length ≤ 400) (S T : Bool) (N D M C : Nat) (hS : nrS s (val n) (val d) = S) (hN : nrN (val n) (val d) = N) (hD : nrD (val n) (val d) = D)
    (hT : (!(nrS t (val m) (val c)) && decide (0 < nrN (val m) (val c))) = T) (hM : nrN (val m) (val c) = M) (hC : nrD (val m) (val c) = C) :
    Calls Tryz.prog 62 #[u, v] w (GivesT (nrS (addS S T (N * C) (M * D)) (addN S T (N * C) (M * D)) (D * C)) (nrN (addN S T (N * C) (M * D)) (D * C)) (nrD (addN S T (N * C) (M * D)) (D * C)) w) := by
  obtain ⟨vn, vd, rfl, hn, hd⟩ := h
  obtain ⟨vm, vc, rfl, hm, hc⟩ := h'
  have hn' := hn
  have hd' := hd
  have hm' := hm
  have hc' := hc
  obtain ⟨A1, k1, rfl, m1⟩ := nt_len hn'
  obtain ⟨A2, k2, rfl, m2⟩ := nt_len hd'
  obtain ⟨A3, k3, rfl, m3⟩ := nt_len hm'
  obtain ⟨A4, k4, rfl, m4⟩ := nt_len hc'
  have lM : (lim M).length ≤ 400 := by rw [← hM]; exact nrN_len dm lm
  have lC : (lim C).length ≤ 400 := by rw [← hC]; exact nrD_len dc lc (by omega)
  have eT : nrS T (val (lim M)) (val (lim C)) = T := by
    rw [val_lim, val_lim, ← hT, ← hM, ← hC]
    exact nrS_neg _ _ _
  have eM : nrN (val (lim M)) (val (lim C)) = M := by
    rw [val_lim, val_lim, ← hM, ← hC]
    exact (nr_idem _ _).1
  have eC : nrD (val (lim M)) (val (lim C)) = C := by
    rw [val_lim, val_lim, ← hM, ← hC]
    exact (nr_idem _ _).2
  have HT := Lib.hid hT
  have HM := Lib.hid hM
  have HC := Lib.hid hC
  have HS := Lib.hid hS
  have HN := Lib.hid hN
  have HD := Lib.hid hD
  have ET := Lib.hid eT
  have EM := Lib.hid eM
  have EC := Lib.hid eC
  clear hn' hd' hm' hc' hT hM hC hS hN hD eT eM eC
  obtain ⟨FS, hFS⟩ : ∃ z, nrS (addS S T (N * C) (M * D)) (addN S T (N * C) (M * D)) (D * C) = z := ⟨_, rfl⟩
  obtain ⟨FN, hFN⟩ : ∃ z, nrN (addN S T (N * C) (M * D)) (D * C) = z := ⟨_, rfl⟩
  obtain ⟨FD, hFD⟩ : ∃ z, nrD (addN S T (N * C) (M * D)) (D * C) = z := ⟨_, rfl⟩
  rw [hFS, hFN, hFD]
  have HFS := Lib.hid hFS
  have HFN := Lib.hid hFN
  have HFD := Lib.hid hFD
  have dM := dig_lim M
  have dC := dig_lim C
  clear hFS hFN hFD
  go_enter Tryz.func62, Tryz.ntmps62
  go_wp2_with fail
  have b0 := ((Blk.new w 25 #[.bool s, .slice A1 n.length k1, .slice A2 d.length k2]).alloc (.cells #[.bool t, .slice A3 m.length k3, .slice A4 c.length k4] 25)).alloc (.cells #[.bool false, .slice none 0 0, .slice none 0 0] 25)
  have b1 := (Blk.new (w.alloc (.cells #[.bool s, .slice A1 n.length k1, .slice A2 d.length k2] 25)) 25 #[.bool t, .slice A3 m.length k3, .slice A4 c.length k4]).alloc (.cells #[.bool false, .slice none 0 0, .slice none 0 0] 25)
  have b2 := Blk.new ((w.alloc (.cells #[.bool s, .slice A1 n.length k1, .slice A2 d.length k2] 25)).alloc (.cells #[.bool t, .slice A3 m.length k3, .slice A4 c.length k4] 25)) 25 #[.bool false, .slice none 0 0, .slice none 0 0]
  have hB : Below w.heap.size w (((w.alloc (.cells #[.bool s, .slice A1 n.length k1, .slice A2 d.length k2] 25)).alloc (.cells #[.bool t, .slice A3 m.length k3, .slice A4 c.length k4] 25)).alloc (.cells #[.bool false, .slice none 0 0, .slice none 0 0] 25)) := (((Below.refl _ _).alloc (Nat.le_refl _) _).alloc (by simp) _).alloc (by simp; omega) _
  have es : (w.alloc (.cells #[.bool s, .slice A1 n.length k1, .slice A2 d.length k2] 25)).heap.size = w.heap.size + 1 := by simp
  have es2 : ((w.alloc (.cells #[.bool s, .slice A1 n.length k1, .slice A2 d.length k2] 25)).alloc (.cells #[.bool t, .slice A3 m.length k3, .slice A4 c.length k4] 25)).heap.size = w.heap.size + 1 + 1 := by simp
  rw [es] at b1
  rw [es2] at b2
  clear es es2
  generalize (((w.alloc (.cells #[.bool s, .slice A1 n.length k1, .slice A2 d.length k2] 25)).alloc (.cells #[.bool t, .slice A3 m.length k3, .slice A4 c.length k4] 25)).alloc (.cells #[.bool false, .slice none 0 0, .slice none 0 0] 25)) = w2 at *
  have hn2 := hn.after hB
  have hd2 := hd.after hB
  have hm2 := hm.after hB
  have hc2 := hc.after hB
  clear hn hd hm hc
  have c0 := b0.cell 0
  have c1 := b0.cell 1
  have c2 := b0.cell 2
  have e0 := b1.cell 0
  have e1 := b1.cell 1
  have e2 := b1.cell 2
  have hg := b1.lt
  have hk2 : Below w2.heap.size w2 w2.drew := (Below.refl _ _).drew
  go_region_held3 (fun W => W.cell? ⟨w.heap.size, 0, none⟩ = some (.bool s) ∧ W.cell? ⟨w.heap.size, 1, none⟩ = some (.slice A1 n.length k1) ∧ W.cell? ⟨w.heap.size, 2, none⟩ = some (.slice A2 d.length k2) ∧ W.cell? ⟨w.heap.size + 1, 0, none⟩ = some (.bool t) ∧ W.cell? ⟨w.heap.size + 1, 1, none⟩ = some (.slice A3 m.length k3) ∧ W.cell? ⟨w.heap.size + 1, 2, none⟩ = some (.slice A4 c.length k4))
    (first | exact s6_set (s6_of hk11 c0 c1 c2 e0 e1 e2 hg) | exact s6_of hk11 c0 c1 c2 e0 e1 e2 hg | exact s6_of hk3 c0 c1 c2 e0 e1 e2 hg | exact s6_of hk2 c0 c1 c2 e0 e1 e2 hg | fail)
    (first
      | (have hx := hk3; go_at_call 23; refine (ratAdd_any _ _ s T n d (lim M) (lim C) _ dn dd dM dC ⟨_, _, rfl, hn2.after hk3, hd2.after hk3⟩ ⟨_, _, rfl, hxn.low (Nat.zero_le _), hxd.low (Nat.zero_le _)⟩ ln ld lM lC S T N D M C HS.out HN.out HD.out ET.out EM.out EC.out).mono ?_; rw [HFS.out, HFN.out, HFD.out]; rintro e w11 ⟨v11, rfl, ⟨an, ad, rfl, han, had⟩, hb11⟩; have han' := han; have had' := had; obtain ⟨A7, k7, rfl, m7⟩ := nt_len han'; obtain ⟨A8, k8, rfl, m8⟩ := nt_len had'; clear han' had'; have hk11 : Below w2.heap.size w2 w11 := hk3.trans (hb11.mono hk3.size); have q11 := b2.below hk11 b2.lt; have r0 := q11.cell 0; have r1 := q11.cell 1; have r2 := q11.cell 2; have f0 := q11.free 0; have f1 := q11.free 1; have f2 := q11.free 2)
      | (go_at_call 100; refine (ratNeg_any _ t m c _ dm dc ⟨_, _, rfl, hm2.drew, hc2.drew⟩ (by omega) (by omega)).mono ?_; rw [HT.out, HM.out, HC.out]; rintro e w3 ⟨v3, rfl, ⟨xn, xd, rfl, hxn, hxd⟩, hb3⟩; have hxn' := hxn; have hxd' := hxd; obtain ⟨A5, k5, rfl, m5⟩ := nt_len hxn'; obtain ⟨A6, k6, rfl, m6⟩ := nt_len hxd'; clear hxn' hxd'; have hk3 : Below w2.heap.size w2 w3 := Below.trans (Below.drew (Below.refl _ _)) hb3)
      | fail)
  have hB11 := hB.trans (hk11.mono hB.size)
  have hx2 := han.low (show w.heap.size + 1 + 1 + 1 ≤ _ from Nat.le_trans b2.lt hk3.size)
  have hy2 := had.low (show w.heap.size + 1 + 1 + 1 ≤ _ from Nat.le_trans b2.lt hk3.size)
  have p3 := ((q11.put 0 (.bool FS)).put 1 (.slice A7 (lim FN).length k7)).put 2 (.slice A8 (lim FD).length k8)
  have hBB := ((hB11.setCell (p := ⟨w.heap.size + 1 + 1, 0, none⟩) (by simp; omega) (.bool FS)).setCell (p := ⟨w.heap.size + 1 + 1, 1, none⟩) (by simp; omega) (.slice A7 (lim FN).length k7)).setCell (p := ⟨w.heap.size + 1 + 1, 2, none⟩) (by simp; omega) (.slice A8 (lim FD).length k8)
  have t6 := ((hx2.put3 (Nat.lt_succ_self _) 0 (.bool FS)).put3 (Nat.lt_succ_self _) 1 (.slice A7 (lim FN).length k7)).put3 (Nat.lt_succ_self _) 2 (.slice A8 (lim FD).length k8)
  have t7 := ((hy2.put3 (Nat.lt_succ_self _) 0 (.bool FS)).put3 (Nat.lt_succ_self _) 1 (.slice A7 (lim FN).length k7)).put3 (Nat.lt_succ_self _) 2 (.slice A8 (lim FD).length k8)
  go_wp2_with fail
  clear r0 r1 r2 f0 f1 f2 q11 hx2 hy2 han had
  generalize ((World.setCell w11 ⟨w.heap.size + 1 + 1, 0, none⟩ (.bool FS)).setCell ⟨w.heap.size + 1 + 1, 1, none⟩ (.slice A7 (lim FN).length k7)).setCell ⟨w.heap.size + 1 + 1, 2, none⟩ (.slice A8 (lim FD).length k8) = WW at *
  have h0 : WW.cell? ⟨w.heap.size + 1 + 1, 0, none⟩ = some (.bool FS) := by rw [p3.cell]; rfl
  have h1 : WW.cell? ⟨w.heap.size + 1 + 1, 1, none⟩ = some (.slice A7 (lim FN).length k7) := by rw [p3.cell]; rfl
  have h2 : WW.cell? ⟨w.heap.size + 1 + 1, 2, none⟩ = some (.slice A8 (lim FD).length k8) := by rw [p3.cell]; rfl
  refine bodyPost_ret (v := .agg #[.bool FS, .slice A7 (lim FN).length k7, .slice A8 (lim FD).length k8]) ?_ rfl ⟨_, rfl, (by exact ⟨_, _, rfl, t6.low (by omega), t7.low (by omega)⟩), hBB⟩
  simp [results, Tryz.results62, go_sem, h0, h1, h2]

theorem cmp_sum {S T T' : Bool} {N C M D : Nat} (h : T' = (!T && decide (0 < M))) :
    (addN S T' (N * C) (M * D) = 0 → cmpI (sg S N * (C : Int)) (sg T M * (D : Int)) = 0) ∧ (addN S T' (N * C) (M * D) ≠ 0 → addS S T' (N * C) (M * D) = true → cmpI (sg S N * (C : Int)) (sg T M * (D : Int)) = -1) ∧
      (addN S T' (N * C) (M * D) ≠ 0 → addS S T' (N * C) (M * D) = false → cmpI (sg S N * (C : Int)) (sg T M * (D : Int)) = 1) := by
  have e1 : sg S (N * C) = sg S N * (C : Int) := by unfold sg; cases S <;> simp [Int.neg_mul]
  have e2 : sg T' (M * D) = -(sg T M * (D : Int)) := by
    subst h
    by_cases hM : M = 0
    · subst hM; unfold sg; cases T <;> simp
    · have hd : decide (0 < M) = true := decide_eq_true (by omega)
      rw [hd]
      unfold sg
      cases T <;> simp [Int.neg_mul]
  refine ⟨fun h0 => ?_, fun h0 h1 => ?_, fun h0 h1 => ?_⟩
  · have := addN_zero.1 h0
    unfold cmpI
    rw [if_neg (by omega), if_neg (by omega)]
  · have := (addS_neg h0).1 h1
    unfold cmpI
    rw [if_pos (by omega)]
  · have k1 : ¬ (sg S (N * C) + sg T' (M * D) < 0) := fun hc => by rw [(addS_neg h0).2 hc] at h1; cases h1
    have k2 : sg S (N * C) + sg T' (M * D) ≠ 0 := fun hc => h0 (addN_zero.2 hc)
    unfold cmpI
    rw [if_neg (by omega), if_pos (by omega)]

set_option maxHeartbeats 3200000 in
theorem ratCmp_any (u v : Value) (s t : Bool) (n d m c : List Nat) (w : World) (dn : Dig n) (dd : Dig d) (dm : Dig m) (dc : Dig c) (h : Rt w 0 w.heap.size u s n d) (h' : Rt w 0 w.heap.size v t m c)
    (ln : n.length ≤ 400) (ld : d.length ≤ 400) (lm : m.length ≤ 400) (lc : c.length ≤ 400) (S T : Bool) (N D M C : Nat) (hS : nrS s (val n) (val d) = S) (hN : nrN (val n) (val d) = N) (hD : nrD (val n) (val d) = D)
    (hT : nrS t (val m) (val c) = T) (hM : nrN (val m) (val c) = M) (hC : nrD (val m) (val c) = C) :
    Calls Tryz.prog 48 #[u, v] w fun e w' => e = .returned (.int .i64 (cmpI (sg S N * (C : Int)) (sg T M * (D : Int)))) ∧ Below w.heap.size w w' := by
  have hsub := fun w (h : Rt w 0 w.heap.size u s n d) (h' : Rt w 0 w.heap.size v t m c) => ratSub_any u v s t n d m c w dn dd dm dc h h' ln ld lm lc S (!T && decide (0 < M)) N D M C hS hN hD (by rw [hT, hM]) hM hC
  have hcs := cmp_sum (S := S) (T := T) (N := N) (C := C) (M := M) (D := D) rfl
  have hR : D * C ≠ 0 := Nat.ne_of_gt (Nat.mul_pos (by rw [← hD]; exact nrD_pos _ _) (by rw [← hC]; exact nrD_pos _ _))
  have HSUB := Lib.hid hsub
  have HCS := Lib.hid hcs
  obtain ⟨vn, vd, rfl, hn, hd⟩ := h
  obtain ⟨vm, vc, rfl, hm, hc⟩ := h'
  have hn' := hn
  have hd' := hd
  have hm' := hm
  have hc' := hc
  obtain ⟨A1, k1, rfl, m1⟩ := nt_len hn'
  obtain ⟨A2, k2, rfl, m2⟩ := nt_len hd'
  obtain ⟨A3, k3, rfl, m3⟩ := nt_len hm'
  obtain ⟨A4, k4, rfl, m4⟩ := nt_len hc'
  clear hn' hd' hm' hc' hsub hcs hS hN hD hT hM hC
  generalize (!T && decide (0 < M)) = T' at *
  have hk : Below w.heap.size w ((w.alloc (.cells #[.bool s, .slice A1 n.length k1, .slice A2 d.length k2] 25)).alloc (.cells #[.bool t, .slice A3 m.length k3, .slice A4 c.length k4] 25)) := ((Below.refl _ _).alloc (Nat.le_refl _) _).alloc (by simp) _
  have hsub2 := HSUB.out _ ⟨_, _, rfl, hn.after hk, hd.after hk⟩ ⟨_, _, rfl, hm.after hk, hc.after hk⟩
  have HSUB2 := Lib.hid hsub2
  have zN : Hid (addN S T' (N * C) (M * D) = 0 ∨ addN S T' (N * C) (M * D) ≠ 0) := by show _ ∨ _; omega
  clear hsub2 HSUB hn hd hm hc
  go_enter Tryz.func48, Tryz.ntmps48
  go_wp2_with fail
  refine HSUB2.out.mono ?_
  rintro e w3 ⟨v3, rfl, ⟨xn, xd, rfl, hxn, hxd⟩, hb3⟩
  obtain ⟨A5, k5, rfl, m5⟩ := nt_len hxn
  obtain ⟨A6, k6, rfl, m6⟩ := nt_len hxd
  clear HSUB2 hxn hxd
  have hB3 := hk.trans (hb3.mono hk.size)
  have hfin : ∀ o, Below w.heap.size w (w3.alloc o) := fun o => hB3.alloc hB3.size o
  have HF := Lib.hid hfin
  clear hk hb3 hB3 hfin
  rcases zN.out with z | z
  · have e1 : nrN (addN S T' (N * C) (M * D)) (D * C) = 0 := nrN_zero.2 (Or.inl z)
    rw [e1, lim_zero]
    clear e1
    have E0 := Lib.hid ((HCS.out).1 z)
    go_wp2_with fail
    go_ret
    exact ⟨by rw [E0.out]; rfl, HF.out _⟩
  · have hl : ¬ (lim (nrN (addN S T' (N * C) (M * D)) (D * C))).length = 0 := fun hh => by
      have := nrN_zero.1 (lim_eq_nil.1 (List.eq_nil_of_length_eq_zero hh))
      omega
    have hl2 : ((((lim (nrN (addN S T' (N * C) (M * D)) (D * C))).length : Nat) : Int) == 0) = false := beq_eq_false_iff_ne.2 (by omega)
    have e2 : nrS (addS S T' (N * C) (M * D)) (addN S T' (N * C) (M * D)) (D * C) = addS S T' (N * C) (M * D) := by unfold nrS; rw [if_neg (by omega)]
    rw [e2]
    obtain ⟨b, hb⟩ : ∃ b, addS S T' (N * C) (M * D) = b := ⟨_, rfl⟩
    rw [hb]
    cases b
    · have E0 := Lib.hid ((HCS.out).2.2 z hb)
      clear hb e2 hl
      go_wp2_with fail
      go_ret
      exact ⟨by rw [E0.out]; rfl, HF.out _⟩
    · have E0 := Lib.hid ((HCS.out).2.1 z hb)
      clear hb e2 hl
      go_wp2_with fail
      go_ret
      exact ⟨by rw [E0.out]; rfl, HF.out _⟩
end Go.Proofs.YtobmjcbjailclaaGreatDoor

/- The reference's numbers with a divisor as rationals: contracts. Condition: bounds on lengths. -/
namespace Go.Proofs.YtobmjcbjailclaaGreatDoor
set_option maxRecDepth 100000
open Go.RowKit

/-- A value that tells this rational, of at most so many limbs. -/
def RQ (w : World) (L B : Nat) (v : Value) (q : Rat) (k : Nat) : Prop := ∃ s n d, Rt w L B v s n d ∧ Dig n ∧ Dig d ∧ n.length ≤ k ∧ d.length ≤ k ∧ qv s (val n) (val d) = q

/-- What hands back a new number in lowest terms. -/
def GivesF (q : Rat) (w : World) : Ending → World → Prop := GivesT (qS q) (qN q) q.den w

/-- How many limbs a rational takes. -/
def Sz (q : Rat) (k : Nat) : Prop := (lim (qN q)).length ≤ k ∧ (lim q.den).length ≤ k

theorem RQ.after {w w' : World} {L : Nat} {v : Value} {q : Rat} {k : Nat} (h : RQ w L w.heap.size v q k) (hb : Below w.heap.size w w') : RQ w' L w'.heap.size v q k := by
  obtain ⟨s, n, d, hR, rest⟩ := h
  exact ⟨s, n, d, hR.after hb, rest⟩
theorem RQ.low {w : World} {L L' B : Nat} {v : Value} {q : Rat} {k : Nat} (h : RQ w L B v q k) (hL : L' ≤ L) : RQ w L' B v q k := by
  obtain ⟨s, n, d, hR, rest⟩ := h
  exact ⟨s, n, d, hR.low hL, rest⟩
theorem RQ.drew {w : World} {L B : Nat} {v : Value} {q : Rat} {k : Nat} (h : RQ w L B v q k) : RQ w.drew L B v q k := h
theorem RQ.of {w : World} {L B : Nat} {v : Value} {q : Rat} {k : Nat} (h : Rt w L B v (qS q) (lim (qN q)) (lim q.den)) (hz : Sz q k) : RQ w L B v q k :=
  ⟨_, _, _, h, dig_lim _, dig_lim _, hz.1, hz.2, by rw [val_lim, val_lim]; exact qv_self q⟩
theorem RQ.sz {w : World} {L B : Nat} {v : Value} {q : Rat} {k : Nat} (h : RQ w L B v q k) (hk : 1 ≤ k) : Sz q k := by
  obtain ⟨s, n, d, hR, dn, dd, ln, ld, rfl⟩ := h
  obtain ⟨_, e2, e3⟩ := nr_q s (val n) (val d)
  unfold Sz
  rw [← e2, ← e3]
  exact ⟨nrN_len dn ln, nrD_len dd ld (by omega)⟩

theorem len_mul {a b m n : Nat} (h1 : (lim a).length ≤ m) (h2 : (lim b).length ≤ n) : (lim (a * b)).length ≤ m + n := lim_mul_len (dig_lim a) (dig_lim b) (val_lim _).symm (val_lim _).symm h1 h2
theorem len_add {a b n : Nat} (h1 : (lim a).length ≤ n) (h2 : (lim b).length ≤ n) : (lim (a + b)).length ≤ n + 1 := lim_add_len (dig_lim a) (dig_lim b) (val_lim _).symm (val_lim _).symm h1 h2

theorem Sz.qv {s : Bool} {n d k : Nat} (h1 : (lim n).length ≤ k) (h2 : (lim d).length ≤ k) (hk : 1 ≤ k) : Sz (qv s n d) k := by
  obtain ⟨_, e2, e3⟩ := nr_q s n d
  unfold Sz
  rw [← e2, ← e3]
  refine ⟨Nat.le_trans (lim_len_mono (nrN_le _ _)) h1, ?_⟩
  by_cases hd : d = 0
  · rw [(nr_zero (s := s) (Or.inr hd : n = 0 ∨ d = 0)).2.2, lim_one (by omega) (by omega)]; exact hk
  · exact Nat.le_trans (lim_len_mono (nrD_le (Nat.le_refl _) (by omega))) h2

theorem Sz.mono {q : Rat} {k j : Nat} (h : Sz q k) (hk : k ≤ j) : Sz q j := ⟨Nat.le_trans h.1 hk, Nat.le_trans h.2 hk⟩
theorem Sz.neg {q : Rat} {k : Nat} (h : Sz q k) : Sz (-q) k := by
  unfold Sz
  rw [qN_neg, Rat.neg_den]
  exact h
theorem Sz.add {p q : Rat} {k j : Nat} (hp : Sz p k) (hq : Sz q j) : Sz (p + q) (k + j + 1) := by
  rw [← qv_add p q]
  refine Sz.qv (Nat.le_trans (lim_len_mono (addN_le _ _ _ _)) (len_add (n := k + j) (len_mul hp.1 hq.2) ?_)) (Nat.le_trans (len_mul hp.2 hq.2) (by omega)) (by omega)
  rw [Nat.add_comm k j]
  exact len_mul hq.1 hp.2
theorem Sz.mul {p q : Rat} {k j : Nat} (hp : Sz p k) (hq : Sz q j) (hk : 1 ≤ k) : Sz (p * q) (k + j) := by
  rw [← qv_mul p q]
  exact Sz.qv (len_mul hp.1 hq.1) (len_mul hp.2 hq.2) (by omega)
theorem Sz.div {p q : Rat} {k j : Nat} (hp : Sz p k) (hq : Sz q j) (hk : 1 ≤ k) : Sz (p / q) (k + j) := by
  by_cases h : q = 0
  · rw [h, Rat.div_def, Rat.inv_zero, Rat.mul_zero]
    refine ⟨?_, ?_⟩
    · show (lim 0).length ≤ _
      rw [lim_zero]; simp
    · show (lim 1).length ≤ _
      rw [lim_one (by omega) (by omega)]; simp; omega
  · rw [← qv_div p q h]
    refine Sz.qv (len_mul hp.1 hq.2) ?_ (by omega)
    exact len_mul hp.2 hq.1

theorem ratNorm_q (v : Value) (q : Rat) (k : Nat) (w : World) (h : RQ w 0 w.heap.size v q k) (hk : k ≤ 1000) : Calls Tryz.prog 22 #[v] w (GivesF q w) := by
  obtain ⟨s, n, d, hR, dn, dd, ln, ld, rfl⟩ := h
  have := ratNorm_any v s n d w dn dd hR (by omega) (by omega)
  obtain ⟨e1, e2, e3⟩ := nr_q s (val n) (val d)
  rw [e1, e2, e3] at this
  exact this

theorem ratOf_q (s : Bool) (vn vd : Value) (n d : List Nat) (w : World) (dn : Dig n) (dd : Dig d) (hn : Nt w 0 w.heap.size vn n) (hd : Nt w 0 w.heap.size vd d) (ln : n.length ≤ 1000) (ld : d.length ≤ 1000) :
    Calls Tryz.prog 21 #[.bool s, vn, vd] w (GivesF (qv s (val n) (val d)) w) := by
  have := ratOf_any s vn vd n d w dn dd hn hd ln ld
  obtain ⟨e1, e2, e3⟩ := nr_q s (val n) (val d)
  rw [e1, e2, e3] at this
  exact this

theorem ratNeg_q (v : Value) (q : Rat) (k : Nat) (w : World) (h : RQ w 0 w.heap.size v q k) (hk : k ≤ 1000) : Calls Tryz.prog 100 #[v] w (GivesF (-q) w) := by
  obtain ⟨s, n, d, hR, dn, dd, ln, ld, rfl⟩ := h
  have := ratNeg_any v s n d w dn dd hR (by omega) (by omega)
  obtain ⟨e1, e2, e3⟩ := nr_q s (val n) (val d)
  rw [e1, e2, e3, ← qS_neg, ← qN_neg, ← Rat.neg_den] at this
  exact this

theorem ratAdd_q (u v : Value) (p q : Rat) (k j : Nat) (w : World) (h : RQ w 0 w.heap.size u p k) (h' : RQ w 0 w.heap.size v q j) (hk : k ≤ 400) (hj : j ≤ 400) : Calls Tryz.prog 23 #[u, v] w (GivesF (p + q) w) := by
  obtain ⟨s, n, d, hR, dn, dd, ln, ld, rfl⟩ := h
  obtain ⟨t, m, c, hR', dm, dc, lm, lc, rfl⟩ := h'
  obtain ⟨e1, e2, e3⟩ := nr_q s (val n) (val d)
  obtain ⟨f1, f2, f3⟩ := nr_q t (val m) (val c)
  have := ratAdd_any u v s t n d m c w dn dd dm dc hR hR' (by omega) (by omega) (by omega) (by omega) _ _ _ _ _ _ e1 e2 e3 f1 f2 f3
  obtain ⟨g1, g2, g3⟩ := nr_q (addS (qS (qv s (val n) (val d))) (qS (qv t (val m) (val c))) (qN (qv s (val n) (val d)) * (qv t (val m) (val c)).den) (qN (qv t (val m) (val c)) * (qv s (val n) (val d)).den)) (addN (qS (qv s (val n) (val d))) (qS (qv t (val m) (val c))) (qN (qv s (val n) (val d)) * (qv t (val m) (val c)).den) (qN (qv t (val m) (val c)) * (qv s (val n) (val d)).den)) ((qv s (val n) (val d)).den * (qv t (val m) (val c)).den)
  rw [g1, g2, g3, qv_add] at this
  exact this

theorem ratSub_q (u v : Value) (p q : Rat) (k j : Nat) (w : World) (h : RQ w 0 w.heap.size u p k) (h' : RQ w 0 w.heap.size v q j) (hk : k ≤ 400) (hj : j ≤ 400) : Calls Tryz.prog 62 #[u, v] w (GivesF (p - q) w) := by
  obtain ⟨s, n, d, hR, dn, dd, ln, ld, rfl⟩ := h
  obtain ⟨t, m, c, hR', dm, dc, lm, lc, rfl⟩ := h'
  obtain ⟨e1, e2, e3⟩ := nr_q s (val n) (val d)
  obtain ⟨f1, f2, f3⟩ := nr_q t (val m) (val c)
  obtain ⟨p, hp⟩ : ∃ p, qv s (val n) (val d) = p := ⟨_, rfl⟩
  obtain ⟨q, hq⟩ : ∃ q, qv t (val m) (val c) = q := ⟨_, rfl⟩
  rw [hp] at e1 e2 e3 ⊢
  rw [hq] at f1 f2 f3 ⊢
  have := ratSub_any u v s t n d m c w dn dd dm dc hR hR' (by omega) (by omega) (by omega) (by omega) _ (qS (-q)) _ _ (qN (-q)) (-q).den e1 e2 e3 (by rw [f1, f2, qS_neg]) (by rw [f2, qN_neg]) (by rw [f3, Rat.neg_den])
  obtain ⟨g1, g2, g3⟩ := nr_q (addS (qS p) (qS (-q)) (qN p * (-q).den) (qN (-q) * p.den)) (addN (qS p) (qS (-q)) (qN p * (-q).den) (qN (-q) * p.den)) (p.den * (-q).den)
  rw [g1, g2, g3, qv_add, ← Rat.sub_eq_add_neg] at this
  exact this

theorem ratCmp_q (u v : Value) (p q : Rat) (k j : Nat) (w : World) (h : RQ w 0 w.heap.size u p k) (h' : RQ w 0 w.heap.size v q j) (hk : k ≤ 400) (hj : j ≤ 400) :
    Calls Tryz.prog 48 #[u, v] w fun e w' => e = .returned (.int .i64 (cmpQ p q)) ∧ Below w.heap.size w w' := by
  obtain ⟨s, n, d, hR, dn, dd, ln, ld, rfl⟩ := h
  obtain ⟨t, m, c, hR', dm, dc, lm, lc, rfl⟩ := h'
  obtain ⟨e1, e2, e3⟩ := nr_q s (val n) (val d)
  obtain ⟨f1, f2, f3⟩ := nr_q t (val m) (val c)
  have := ratCmp_any u v s t n d m c w dn dd dm dc hR hR' (by omega) (by omega) (by omega) (by omega) _ _ _ _ _ _ e1 e2 e3 f1 f2 f3
  rw [cmp_q] at this
  exact this
end Go.Proofs.YtobmjcbjailclaaGreatDoor

/- The program's numbers with a divisor, as Lean's: 'Norm', 'signed', 'Neg', 'Int'. Condition: a bound on lengths. -/
namespace Go.Proofs.YtobmjcbjailclaaGreatDoor
set_option maxRecDepth 100000
open Go.RowKit

theorem prNorm_q (v : Value) (q : Rat) (k : Nat) (w : World) (h : RQ w 0 w.heap.size v q k) (hk : k ≤ 1000) : Calls Tryz.prog 76 #[v] w (GivesF q w) := by
  obtain ⟨s, n, d, hR, dn, dd, ln, ld, rfl⟩ := h
  have := prNorm_any v s n d w dn dd hR (by omega) (by omega)
  obtain ⟨e1, e2, e3⟩ := nr_q s (val n) (val d)
  rw [e1, e2, e3] at this
  exact this

theorem qS_len (q : Rat) : (!qS q && decide (0 < (lim (qN q)).length)) = qS (-q) := by
  rw [qS_neg]
  congr 1
  refine decide_eq_decide.2 ⟨fun h => Nat.pos_of_ne_zero fun h0 => ?_, fun h => Nat.pos_of_ne_zero fun h0 => ?_⟩
  · rw [h0, lim_zero] at h
    exact absurd h (by simp)
  · have := lim_eq_nil.1 (List.eq_nil_of_length_eq_zero h0)
    omega

set_option maxHeartbeats 3200000 in
theorem prSigned_any (neg : Bool) (v : Value) (s : Bool) (n d : List Nat) (L : Nat) (w : World) (h : Rt w L w.heap.size v s n d) :
    Calls Tryz.prog 122 #[.bool neg, v] w fun e w' => ∃ v', e = .returned v' ∧ Rt w' L w'.heap.size v' (neg && decide (0 < n.length)) n d ∧ Below w.heap.size w w' := by
  obtain ⟨vn, vd, rfl, hn, hd⟩ := h
  have hn' := hn
  have hd' := hd
  obtain ⟨A1, c1, rfl, m1⟩ := nt_len hn'
  obtain ⟨A2, c2, rfl, m2⟩ := nt_len hd'
  clear hn' hd'
  have HN := Lib.hid hn
  have HD := Lib.hid hd
  clear hn hd
  cases neg
  · have b1 := Blk.new (w.alloc (.cells #[.bool false, .slice A1 n.length c1, .slice A2 d.length c2] 25)) 25 #[.bool false, .slice A1 n.length c1, .slice A2 d.length c2]
    have hB : Below w.heap.size w ((w.alloc (.cells #[.bool false, .slice A1 n.length c1, .slice A2 d.length c2] 25)).alloc (.cells #[.bool false, .slice A1 n.length c1, .slice A2 d.length c2] 25)) := ((Below.refl _ _).alloc (Nat.le_refl _) _).alloc (by simp) _
    have es : (w.alloc (.cells #[.bool false, .slice A1 n.length c1, .slice A2 d.length c2] 25)).heap.size = w.heap.size + 1 := by simp
    rw [es] at b1
    have e0 := b1.cell 0
    have e1 := b1.cell 1
    have e2 := b1.cell 2
    have HE0 := Lib.hid e0
    have HE1 := Lib.hid e1
    have HE2 := Lib.hid e2
    have HBB := Lib.hid hB
    clear hB b1 es e0 e1 e2
    go_enter Tryz.func122, Tryz.ntmps122
    go_wp2_with fail
    generalize (w.alloc (.cells #[.bool false, .slice A1 n.length c1, .slice A2 d.length c2] 25)).alloc (.cells #[.bool false, .slice A1 n.length c1, .slice A2 d.length c2] 25) = wz at *
    have e0 := HE0.out
    have e1 := HE1.out
    have e2 := HE2.out
    refine bodyPost_ret (v := .agg #[.bool false, .slice A1 n.length c1, .slice A2 d.length c2]) ?_ rfl ⟨_, rfl, ⟨_, _, rfl, HN.out.after HBB.out, HD.out.after HBB.out⟩, HBB.out⟩
    simp [results, Tryz.results122, go_sem, e0, e1, e2]
  · have b1 := Blk.new (w.alloc (.cells #[.bool (decide (0 < n.length)), .slice A1 n.length c1, .slice A2 d.length c2] 25)) 25 #[.bool (decide (0 < n.length)), .slice A1 n.length c1, .slice A2 d.length c2]
    have hB : Below w.heap.size w ((w.alloc (.cells #[.bool (decide (0 < n.length)), .slice A1 n.length c1, .slice A2 d.length c2] 25)).alloc (.cells #[.bool (decide (0 < n.length)), .slice A1 n.length c1, .slice A2 d.length c2] 25)) := ((Below.refl _ _).alloc (Nat.le_refl _) _).alloc (by simp) _
    have es : (w.alloc (.cells #[.bool (decide (0 < n.length)), .slice A1 n.length c1, .slice A2 d.length c2] 25)).heap.size = w.heap.size + 1 := by simp
    rw [es] at b1
    have e0 := b1.cell 0
    have e1 := b1.cell 1
    have e2 := b1.cell 2
    have HE0 := Lib.hid e0
    have HE1 := Lib.hid e1
    have HE2 := Lib.hid e2
    have HBB := Lib.hid hB
    clear hB b1 es e0 e1 e2
    go_enter Tryz.func122, Tryz.ntmps122
    go_wp2_with fail
    generalize (w.alloc (.cells #[.bool (decide (0 < n.length)), .slice A1 n.length c1, .slice A2 d.length c2] 25)).alloc (.cells #[.bool (decide (0 < n.length)), .slice A1 n.length c1, .slice A2 d.length c2] 25) = wz at *
    have e0 := HE0.out
    have e1 := HE1.out
    have e2 := HE2.out
    refine bodyPost_ret (v := .agg #[.bool (decide (0 < n.length)), .slice A1 n.length c1, .slice A2 d.length c2]) ?_ rfl ⟨_, rfl, ⟨_, _, rfl, HN.out.after HBB.out, HD.out.after HBB.out⟩, HBB.out⟩
    simp [results, Tryz.results122, go_sem, e0, e1, e2]

set_option maxHeartbeats 3200000 in
theorem prNeg_q (v : Value) (q : Rat) (k : Nat) (w : World) (h : RQ w 0 w.heap.size v q k) (hk : k ≤ 1000) : Calls Tryz.prog 99 #[v] w (GivesF (-q) w) := by
  have hcon := fun (w : World) (v : Value) (h : RQ w 0 w.heap.size v q k) => prNorm_q v q k w h hk
  have HC := Lib.hid hcon
  have HR := Lib.hid h
  obtain ⟨s, n, d, ⟨vn, vd, rfl, hn, hd⟩, rest⟩ := h
  have hn' := hn
  have hd' := hd
  obtain ⟨A1, c1, rfl, m1⟩ := nt_len hn'
  obtain ⟨A2, c2, rfl, m2⟩ := nt_len hd'
  have HS := Lib.hid (qS_len q)
  have HN := Lib.hid (qN_neg q)
  have HD := Lib.hid (Rat.neg_den (a := q))
  clear hn' hd' hn hd rest hcon
  go_enter Tryz.func99, Tryz.ntmps99
  go_wp2_with fail
  have b0 := (Blk.new w 25 #[.bool s, .slice A1 n.length c1, .slice A2 d.length c2]).alloc (.cells #[.bool false, .slice none 0 0, .slice none 0 0] 25)
  have b1 := Blk.new (w.alloc (.cells #[.bool s, .slice A1 n.length c1, .slice A2 d.length c2] 25)) 25 #[.bool false, .slice none 0 0, .slice none 0 0]
  have hB : Below w.heap.size w ((w.alloc (.cells #[.bool s, .slice A1 n.length c1, .slice A2 d.length c2] 25)).alloc (.cells #[.bool false, .slice none 0 0, .slice none 0 0] 25)) := ((Below.refl _ _).alloc (Nat.le_refl _) _).alloc (by simp) _
  have es : (w.alloc (.cells #[.bool s, .slice A1 n.length c1, .slice A2 d.length c2] 25)).heap.size = w.heap.size + 1 := by simp
  rw [es] at b1
  clear es
  generalize ((w.alloc (.cells #[.bool s, .slice A1 n.length c1, .slice A2 d.length c2] 25)).alloc (.cells #[.bool false, .slice none 0 0, .slice none 0 0] 25)) = w2 at *
  have hRW := HR.out.after hB
  have c0 := b0.cell 0
  have c1' := b0.cell 1
  have c2' := b0.cell 2
  go_wp2_with fail
  refine (HC.out _ _ hRW).mono ?_
  rintro e w3 ⟨v3, rfl, ⟨an, ad, rfl, han, had⟩, hb⟩
  have han' := han
  have had' := had
  obtain ⟨A8, c8, rfl, m8⟩ := nt_len han'
  obtain ⟨A9, c9, rfl, m9⟩ := nt_len had'
  replace han := han.low (show w.heap.size + 2 ≤ _ from b1.lt)
  replace had := had.low (show w.heap.size + 2 ≤ _ from b1.lt)
  replace b0 := b0.below hb b0.lt
  replace b1 := b1.below hb b1.lt
  replace hB := hB.trans (hb.mono hB.size)
  clear han' had' hRW HR HC hb c0 c1' c2'
  have r0 := b0.cell 0
  have r1 := b0.cell 1
  have r2 := b0.cell 2
  have f0 := b0.free 0
  have f1 := b0.free 1
  have f2 := b0.free 2
  have p0 := ((b0.put 0 (.bool (qS q))).put 1 (.slice A8 (lim (qN q)).length c8)).put 2 (.slice A9 (lim q.den).length c9)
  have q1 := ((b1.far (p := ⟨w.heap.size, 0, none⟩) (by simp) (.bool (qS q))).far (p := ⟨w.heap.size, 1, none⟩) (by simp) (.slice A8 (lim (qN q)).length c8)).far (p := ⟨w.heap.size, 2, none⟩) (by simp) (.slice A9 (lim q.den).length c9)
  have hB2 := ((hB.setCell (p := ⟨w.heap.size, 0, none⟩) (Nat.le_refl _) (.bool (qS q))).setCell (p := ⟨w.heap.size, 1, none⟩) (Nat.le_refl _) (.slice A8 (lim (qN q)).length c8)).setCell (p := ⟨w.heap.size, 2, none⟩) (Nat.le_refl _) (.slice A9 (lim q.den).length c9)
  have x6 := ((han.put3 (g := w.heap.size) (by omega) 0 (.bool (qS q))).put3 (g := w.heap.size) (by omega) 1 (.slice A8 (lim (qN q)).length c8)).put3 (g := w.heap.size) (by omega) 2 (.slice A9 (lim q.den).length c9)
  have y6 := ((had.put3 (g := w.heap.size) (by omega) 0 (.bool (qS q))).put3 (g := w.heap.size) (by omega) 1 (.slice A8 (lim (qN q)).length c8)).put3 (g := w.heap.size) (by omega) 2 (.slice A9 (lim q.den).length c9)
  clear b0 b1 hB han had
  go_wp2_with fail
  clear r0 r1 r2 f0 f1 f2
  generalize ((World.setCell w3 ⟨w.heap.size, 0, none⟩ (.bool (qS q))).setCell ⟨w.heap.size, 1, none⟩ (.slice A8 (lim (qN q)).length c8)).setCell ⟨w.heap.size, 2, none⟩ (.slice A9 (lim q.den).length c9) = w4 at *
  have hsg := prSigned_any (!qS q) _ (qS q) (lim (qN q)) (lim q.den) (w.heap.size + 2) w4 ⟨_, _, rfl, x6, y6⟩
  rw [HS.out] at hsg
  refine hsg.mono ?_
  rintro e w5 ⟨v5, rfl, ⟨an, ad, rfl, han, had⟩, hb⟩
  have han2 := han
  have had2 := had
  obtain ⟨A5, c5, rfl, m5⟩ := nt_len han2
  obtain ⟨A6, c6, rfl, m6⟩ := nt_len had2
  replace q1 := q1.below hb q1.lt
  replace hB2 := hB2.trans (hb.mono hB2.size)
  obtain ⟨e0, e1, e2, hR, hBf⟩ := store3 q1 hB2 (by omega) (qS (-q)) (.slice A5 (lim (qN q)).length c5) (.slice A6 (lim q.den).length c6) han had
  have r0 := q1.cell 0
  have r1 := q1.cell 1
  have r2 := q1.cell 2
  have f0 := q1.free 0
  have f1 := q1.free 1
  have f2 := q1.free 2
  have HRR := Lib.hid hR
  have HBF := Lib.hid hBf
  clear han had han2 had2 x6 y6 hsg hb hR hBf q1 hB2 p0 HS
  unfold St3 at *
  go_wp2_with fail
  clear r0 r1 r2 f0 f1 f2
  generalize ((World.setCell w5 ⟨w.heap.size + 1, 0, none⟩ (.bool (qS (-q)))).setCell ⟨w.heap.size + 1, 1, none⟩ (.slice A5 (lim (qN q)).length c5)).setCell ⟨w.heap.size + 1, 2, none⟩ (.slice A6 (lim q.den).length c6) = wz at *
  refine bodyPost_ret (v := .agg #[.bool (qS (-q)), .slice A5 (lim (qN q)).length c5, .slice A6 (lim q.den).length c6]) ?_ rfl (by
    show GivesT _ _ _ _ _ _
    rw [HN.out, HD.out]
    exact ⟨_, rfl, HRR.out, HBF.out⟩)
  simp [results, Tryz.results99, go_sem, e0, e1, e2]
end Go.Proofs.YtobmjcbjailclaaGreatDoor
