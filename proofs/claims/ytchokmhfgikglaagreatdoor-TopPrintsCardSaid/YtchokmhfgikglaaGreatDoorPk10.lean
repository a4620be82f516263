/- Several texts in one: PrAdd, PrMul, PrCmp, PrDiv. Condition: each says its own. -/
import Derived.Deep.DeepFit
import Derived.Test.YtchokmhfgikglaaGreatDoorPk3
import Derived.Test.YtchokmhfgikglaaGreatDoorPk4
import Derived.Test.YtchokmhfgikglaaGreatDoorPk9
namespace Go.Proofs.YtchokmhfgikglaaGreatDoor
set_option maxRecDepth 100000
open Go.RowKit

theorem blk_put3 {W : World} {g : Nat} {t : TypeId} {x y z a b c : Value} (h : Blk W g t #[x, y, z]) : Blk (((W.setCell ⟨g, 0, none⟩ a).setCell ⟨g, 1, none⟩ b).setCell ⟨g, 2, none⟩ c) g t #[a, b, c] := ((Blk.put h 0 a).put 1 b).put 2 c
theorem below_set3 {w W : World} {B g : Nat} (h : Below B w W) (hg : B ≤ g) (a b c : Value) : Below B w (((W.setCell ⟨g, 0, none⟩ a).setCell ⟨g, 1, none⟩ b).setCell ⟨g, 2, none⟩ c) :=
  ((h.setCell (p := ⟨g, 0, none⟩) hg a).setCell (p := ⟨g, 1, none⟩) hg b).setCell (p := ⟨g, 2, none⟩) hg c
theorem nt_set3 {W : World} {L g : Nat} {v : Value} {x : List Nat} (h : Nt W L W.heap.size v x) (hg : g < L) (a b c : Value) : Nt (((W.setCell ⟨g, 0, none⟩ a).setCell ⟨g, 1, none⟩ b).setCell ⟨g, 2, none⟩ c) L (((W.setCell ⟨g, 0, none⟩ a).setCell ⟨g, 1, none⟩ b).setCell ⟨g, 2, none⟩ c).heap.size v x :=
  ((h.put3 hg 0 a).put3 hg 1 b).put3 hg 2 c

/-- Behind 'a, b = Norm(a), Norm(b)': both numbers in lowest terms in their blocks, the result's block as it was made. -/
def P2 (w : World) (S T : Bool) (N D M C : Nat) (wx : World) : Prop :=
  ∃ xn xd yn yd, Blk wx w.heap.size 60 #[.bool S, xn, xd] ∧ Blk wx (w.heap.size + 1) 60 #[.bool T, yn, yd] ∧ Blk wx (w.heap.size + 1 + 1) 60 #[.bool false, .slice none 0 0, .slice none 0 0] ∧
    Nt wx 0 wx.heap.size xn (lim N) ∧ Nt wx 0 wx.heap.size xd (lim D) ∧ Nt wx 0 wx.heap.size yn (lim M) ∧ Nt wx 0 wx.heap.size yd (lim C) ∧ Below w.heap.size w wx

theorem p2_of {w W : World} {S T : Bool} {N D M C : Nat} {xn xd yn yd a0 a1 a2 b0 b1 b2 : Value} (r0 : Blk W w.heap.size 60 #[a0, a1, a2]) (r1 : Blk W (w.heap.size + 1) 60 #[b0, b1, b2]) (r2 : Blk W (w.heap.size + 1 + 1) 60 #[.bool false, .slice none 0 0, .slice none 0 0])
    (hxn : Nt W (w.heap.size + 1 + 1 + 1) W.heap.size xn (lim N)) (hxd : Nt W (w.heap.size + 1 + 1 + 1) W.heap.size xd (lim D)) (hyn : Nt W (w.heap.size + 1 + 1 + 1) W.heap.size yn (lim M)) (hyd : Nt W (w.heap.size + 1 + 1 + 1) W.heap.size yd (lim C)) (hB : Below w.heap.size w W) :
    P2 w S T N D M C ((((((W.setCell ⟨w.heap.size, 0, none⟩ (.bool S)).setCell ⟨w.heap.size, 1, none⟩ xn).setCell ⟨w.heap.size, 2, none⟩ xd).setCell ⟨w.heap.size + 1, 0, none⟩ (.bool T)).setCell ⟨w.heap.size + 1, 1, none⟩ yn).setCell ⟨w.heap.size + 1, 2, none⟩ yd) := by
  refine ⟨xn, xd, yn, yd, blk_far3 (blk_put3 r0) (by omega), blk_put3 (blk_far3 r1 (by omega)), blk_far3 (blk_far3 r2 (by omega)) (by omega), ?_, ?_, ?_, ?_, below_set3 (below_set3 hB (Nat.le_refl _) _ _ _) (Nat.le_succ _) _ _ _⟩
  all_goals (exact (nt_set3 (nt_set3 (by assumption) (by omega) _ _ _) (by omega) _ _ _).low (Nat.zero_le _))

theorem c6_of {w0 W : World} {g h : Nat} {a0 a1 a2 b0 b1 b2 : Value} (hb : Below w0.heap.size w0 W) (c0 : w0.cell? ⟨g, 0, none⟩ = some a0) (c1 : w0.cell? ⟨g, 1, none⟩ = some a1) (c2 : w0.cell? ⟨g, 2, none⟩ = some a2) (d0 : w0.cell? ⟨h, 0, none⟩ = some b0) (d1 : w0.cell? ⟨h, 1, none⟩ = some b1) (d2 : w0.cell? ⟨h, 2, none⟩ = some b2) (hg : g < w0.heap.size) (hh : h < w0.heap.size) :
    W.cell? ⟨g, 0, none⟩ = some a0 ∧ W.cell? ⟨g, 1, none⟩ = some a1 ∧ W.cell? ⟨g, 2, none⟩ = some a2 ∧ W.cell? ⟨h, 0, none⟩ = some b0 ∧ W.cell? ⟨h, 1, none⟩ = some b1 ∧ W.cell? ⟨h, 2, none⟩ = some b2 :=
  ⟨(hb.cell (p := ⟨g, 0, none⟩) hg).trans c0, (hb.cell (p := ⟨g, 1, none⟩) hg).trans c1, (hb.cell (p := ⟨g, 2, none⟩) hg).trans c2, (hb.cell (p := ⟨h, 0, none⟩) hh).trans d0, (hb.cell (p := ⟨h, 1, none⟩) hh).trans d1, (hb.cell (p := ⟨h, 2, none⟩) hh).trans d2⟩

theorem c6_set {W : World} {g h p : Nat} {a0 a1 a2 b0 b1 b2 u v z : Value} (hs : W.cell? ⟨g, 0, none⟩ = some a0 ∧ W.cell? ⟨g, 1, none⟩ = some a1 ∧ W.cell? ⟨g, 2, none⟩ = some a2 ∧ W.cell? ⟨h, 0, none⟩ = some b0 ∧ W.cell? ⟨h, 1, none⟩ = some b1 ∧ W.cell? ⟨h, 2, none⟩ = some b2) (hg : p ≠ g) (hh : p ≠ h) :
    (((W.setCell ⟨p, 0, none⟩ u).setCell ⟨p, 1, none⟩ v).setCell ⟨p, 2, none⟩ z).cell? ⟨g, 0, none⟩ = some a0 ∧ (((W.setCell ⟨p, 0, none⟩ u).setCell ⟨p, 1, none⟩ v).setCell ⟨p, 2, none⟩ z).cell? ⟨g, 1, none⟩ = some a1 ∧ (((W.setCell ⟨p, 0, none⟩ u).setCell ⟨p, 1, none⟩ v).setCell ⟨p, 2, none⟩ z).cell? ⟨g, 2, none⟩ = some a2 ∧
      (((W.setCell ⟨p, 0, none⟩ u).setCell ⟨p, 1, none⟩ v).setCell ⟨p, 2, none⟩ z).cell? ⟨h, 0, none⟩ = some b0 ∧ (((W.setCell ⟨p, 0, none⟩ u).setCell ⟨p, 1, none⟩ v).setCell ⟨p, 2, none⟩ z).cell? ⟨h, 1, none⟩ = some b1 ∧ (((W.setCell ⟨p, 0, none⟩ u).setCell ⟨p, 1, none⟩ v).setCell ⟨p, 2, none⟩ z).cell? ⟨h, 2, none⟩ = some b2 := by
  obtain ⟨a, b, c, d, e, f⟩ := hs
  exact ⟨far_set3 a hg, far_set3 b hg, far_set3 c hg, far_set3 d hh, far_set3 e hh, far_set3 f hh⟩

set_option maxHeartbeats 3200000 in
theorem prAdd_any (u v : Value) (s t : Bool) (n d m c : List Nat) (w : World) (dn : Dig n) (dd : Dig d) (dm : Dig m) (dc : Dig c) (h : Rt w 0 w.heap.size u s n d) (h' : Rt w 0 w.heap.size v t m c)
    (ln : n.length ≤ 400) (ld : d.length ≤ 400) (lm : m.length ≤ 400) (lc : c.length ≤ 400) (S T : Bool) (N D M C : Nat) (hS : nrS s (val n) (val d) = S) (hN : nrN (val n) (val d) = N) (hD : nrD (val n) (val d) = D)
    (hT : nrS t (val m) (val c) = T) (hM : nrN (val m) (val c) = M) (hC : nrD (val m) (val c) = C) :
    Calls Tryz.prog 204 #[u, v] w (GivesT (nrS (addS S T (N * C) (M * D)) (addN S T (N * C) (M * D)) (D * C)) (nrN (addN S T (N * C) (M * D)) (D * C)) (nrD (addN S T (N * C) (M * D)) (D * C)) w) := by
  have lN : (lim N).length ≤ 400 := by rw [← hN]; exact nrN_len dn ln
  have lM : (lim M).length ≤ 400 := by rw [← hM]; exact nrN_len dm lm
  have lD : (lim D).length ≤ 400 := by rw [← hD]; exact nrD_len dd ld (by omega)
  have lC : (lim C).length ≤ 400 := by rw [← hC]; exact nrD_len dc lc (by omega)
  have HC1 : Hid (∀ W, Below w.heap.size w W → Calls Tryz.prog 47 #[u] W (GivesT S N D W)) := fun W hb => by
    have := prNorm_any u s n d W dn dd (h.after hb) (by omega) (by omega)
    rw [hS, hN, hD] at this
    exact this
  have HC2 : Hid (∀ W, Below w.heap.size w W → Calls Tryz.prog 47 #[v] W (GivesT T M C W)) := fun W hb => by
    have := prNorm_any v t m c W dm dc (h'.after hb) (by omega) (by omega)
    rw [hT, hM, hC] at this
    exact this
  obtain ⟨un, ud, rfl, hn, hd⟩ := h
  obtain ⟨vm, vc, rfl, hm, hc⟩ := h'
  obtain ⟨A1, k1, rfl, m1⟩ := nt_len hn
  obtain ⟨A2, k2, rfl, m2⟩ := nt_len hd
  obtain ⟨A3, k3, rfl, m3⟩ := nt_len hm
  obtain ⟨A4, k4, rfl, m4⟩ := nt_len hc
  clear hn hd hm hc hS hN hD hT hM hC dn dd dm dc
  go_enter Tryz.func204, Tryz.ntmps204
  go_wp2_with fail
  have b0 := ((Blk.new w 60 #[.bool s, .slice A1 n.length k1, .slice A2 d.length k2]).alloc (.cells #[.bool t, .slice A3 m.length k3, .slice A4 c.length k4] 60)).alloc (.cells #[.bool false, .slice none 0 0, .slice none 0 0] 60)
  have b1 := (Blk.new (w.alloc (.cells #[.bool s, .slice A1 n.length k1, .slice A2 d.length k2] 60)) 60 #[.bool t, .slice A3 m.length k3, .slice A4 c.length k4]).alloc (.cells #[.bool false, .slice none 0 0, .slice none 0 0] 60)
  have b2 := Blk.new ((w.alloc (.cells #[.bool s, .slice A1 n.length k1, .slice A2 d.length k2] 60)).alloc (.cells #[.bool t, .slice A3 m.length k3, .slice A4 c.length k4] 60)) 60 #[.bool false, .slice none 0 0, .slice none 0 0]
  have hB : Below w.heap.size w (((w.alloc (.cells #[.bool s, .slice A1 n.length k1, .slice A2 d.length k2] 60)).alloc (.cells #[.bool t, .slice A3 m.length k3, .slice A4 c.length k4] 60)).alloc (.cells #[.bool false, .slice none 0 0, .slice none 0 0] 60)) := (((Below.refl _ _).alloc (Nat.le_refl _) _).alloc (by simp) _).alloc (by simp; omega) _
  have es : (w.alloc (.cells #[.bool s, .slice A1 n.length k1, .slice A2 d.length k2] 60)).heap.size = w.heap.size + 1 := by simp
  have es2 : ((w.alloc (.cells #[.bool s, .slice A1 n.length k1, .slice A2 d.length k2] 60)).alloc (.cells #[.bool t, .slice A3 m.length k3, .slice A4 c.length k4] 60)).heap.size = w.heap.size + 1 + 1 := by simp
  rw [es] at b1
  rw [es2] at b2
  clear es es2
  generalize (((w.alloc (.cells #[.bool s, .slice A1 n.length k1, .slice A2 d.length k2] 60)).alloc (.cells #[.bool t, .slice A3 m.length k3, .slice A4 c.length k4] 60)).alloc (.cells #[.bool false, .slice none 0 0, .slice none 0 0] 60)) = w2 at *
  go_cut [] from 12 to 15 (fun wx => P2 w S T N D M C wx)
  case first =>
    have a0 := b0.cell 0
    have a1 := b0.cell 1
    have a2 := b0.cell 2
    have e0 := b1.cell 0
    have e1 := b1.cell 1
    have e2 := b1.cell 2
    have HB2 : Hid (Below w.heap.size w w2.drew) := hB.drew
    have Q0 := Lib.hid b0
    have Q1 := Lib.hid b1
    have Q2 := Lib.hid b2
    clear b0 b1 b2 hB
    go_region_with
      (first
        | (have hx := HB3
           go_at_call 47
           go_fit (HC2.out _ HB3.out)
           rintro e w5 ⟨v5, rfl, ⟨xm, xc, rfl, hxm, hxc⟩, hk5⟩
           have hxm' := hxm
           have hxc' := hxc
           obtain ⟨A7, k7, rfl, m7⟩ := nt_len hxm'
           obtain ⟨A8, k8, rfl, m8⟩ := nt_len hxc'
           clear hxm' hxc' hx
           have HB5 := Lib.hid (HB3.out.trans (hk5.mono HB3.out.size))
           have R0 := Lib.hid (Q3.out.below hk5 Q3.out.lt)
           have R1 := Lib.hid (Q4.out.below hk5 Q4.out.lt)
           have R2 := Lib.hid (Q5.out.below hk5 Q5.out.lt)
           have HXN := Lib.hid (NX.out.after hk5)
           have HXD := Lib.hid (DX.out.after hk5)
           have HYN := Lib.hid (hxm.low (show w.heap.size + 1 + 1 + 1 ≤ _ from Q5.out.lt))
           have HYD := Lib.hid (hxc.low (show w.heap.size + 1 + 1 + 1 ≤ _ from Q5.out.lt))
           clear e0_3 e1_3 e2_3
           have f0 := R0.out.free 0
           have f1 := R0.out.free 1
           have f2 := R0.out.free 2
           have a0_5 := R0.out.cell 0
           have a1_5 := R0.out.cell 1
           have a2_5 := R0.out.cell 2
           have S1 := blk_far3 (p := w.heap.size) (a := .bool S) (b := .slice A5 (lim N).length k5) (c := .slice A6 (lim D).length k6) R1.out (by omega)
           have g0 := S1.free 0
           have g1 := S1.free 1
           have g2 := S1.free 2
           have e0_5 := S1.cell 0
           have e1_5 := S1.cell 1
           have e2_5 := S1.cell 2
           have HB6 := Lib.hid (below_set3 HB5.out (Nat.le_refl w.heap.size) (.bool S) (.slice A5 (lim N).length k5) (.slice A6 (lim D).length k6))
           have HB7 := Lib.hid (below_set3 HB6.out (Nat.le_succ w.heap.size) (.bool T) (.slice A7 (lim M).length k7) (.slice A8 (lim C).length k8))
           clear hxm hxc hk5 S1)
        | (go_at_call 47
           go_fit (HC1.out _ HB2.out)
           rintro e w3 ⟨v3, rfl, ⟨xn, xd, rfl, hxn, hxd⟩, hk3⟩
           have hxn' := hxn
           have hxd' := hxd
           obtain ⟨A5, k5, rfl, m5⟩ := nt_len hxn'
           obtain ⟨A6, k6, rfl, m6⟩ := nt_len hxd'
           clear hxn' hxd'
           have HB3 := Lib.hid (HB2.out.trans (hk3.mono HB2.out.size))
           have Q3 := Lib.hid (Q0.out.drew.below hk3 Q0.out.drew.lt)
           have Q4 := Lib.hid (Q1.out.drew.below hk3 Q1.out.drew.lt)
           have Q5 := Lib.hid (Q2.out.drew.below hk3 Q2.out.drew.lt)
           have NX := Lib.hid (hxn.low (show w.heap.size + 1 + 1 + 1 ≤ _ from Q2.out.lt))
           have DX := Lib.hid (hxd.low (show w.heap.size + 1 + 1 + 1 ≤ _ from Q2.out.lt))
           have e0_3 := Q4.out.cell 0
           have e1_3 := Q4.out.cell 1
           have e2_3 := Q4.out.cell 2
           clear hxn hxd hk3 a0 a1 a2)
        | fail)
    all_goals (go_wp2_with fail; go_meet)
    all_goals with_reducible exact p2_of R0.out R1.out R2.out HXN.out HXD.out HYN.out HYD.out HB5.out
  case rest =>
    obtain ⟨xn, xd, yn, yd, hgx, hgy, hres, hxn, hxd, hyn, hyd, hBc⟩ := hcut
    clear hB b0 b1 b2 HC1 HC2
    obtain ⟨B1, j1, rfl, q1⟩ := nt_len hxn
    obtain ⟨B2, j2, rfl, q2⟩ := nt_len hxd
    obtain ⟨B3, j3, rfl, q3⟩ := nt_len hyn
    obtain ⟨B4, j4, rfl, q4⟩ := nt_len hyd
    have x0 : wc.cell? ⟨w.heap.size, 0, none⟩ = some (.bool S) := hgx.cell 0
    have x1 : wc.cell? ⟨w.heap.size, 1, none⟩ = some (.slice B1 (lim N).length j1) := hgx.cell 1
    have x2 : wc.cell? ⟨w.heap.size, 2, none⟩ = some (.slice B2 (lim D).length j2) := hgx.cell 2
    have y0 : wc.cell? ⟨w.heap.size + 1, 0, none⟩ = some (.bool T) := hgy.cell 0
    have y1 : wc.cell? ⟨w.heap.size + 1, 1, none⟩ = some (.slice B3 (lim M).length j3) := hgy.cell 1
    have y2 : wc.cell? ⟨w.heap.size + 1, 2, none⟩ = some (.slice B4 (lim C).length j4) := hgy.cell 2
    have kx := hgx.lt
    have ky := hgy.lt
    have dN := dig_lim N
    have dD := dig_lim D
    have dM := dig_lim M
    have dC := dig_lim C
    have hk0 : Below wc.heap.size wc wc.drew := (Below.refl _ _).drew
    have VP : Hid (val (lim N) * val (lim C) = N * C) := by show _ = _; rw [val_lim, val_lim]
    have VQ : Hid (val (lim M) * val (lim D) = M * D) := by show _ = _; rw [val_lim, val_lim]
    have VD : Hid (val (lim D) * val (lim C) = D * C) := by show _ = _; rw [val_lim, val_lim]
    go_wp2_with fail
    go_region_held3 (fun W => Below wc.heap.size wc W ∧ W.cell? ⟨w.heap.size, 1, none⟩ = some (.slice B1 (lim N).length j1) ∧ W.cell? ⟨w.heap.size, 2, none⟩ = some (.slice B2 (lim D).length j2) ∧ W.cell? ⟨w.heap.size + 1, 1, none⟩ = some (.slice B3 (lim M).length j3) ∧ W.cell? ⟨w.heap.size + 1, 2, none⟩ = some (.slice B4 (lim C).length j4))
      (first | exact s4_of hk9 x1 x2 y1 y2 kx ky | exact s4_of hk8 x1 x2 y1 y2 kx ky | exact s4_of hk7 x1 x2 y1 y2 kx ky | exact s4_of hk0 x1 x2 y1 y2 kx ky | fail)
      (first
        | (have hx := hk8; go_at_call 140; go_fit (mul_any _ _ (lim D) (lim C) _ dD dC (hxd.after hk8) (hyd.after hk8) (by omega) (by omega)); rw [VD.out]; rintro e w9 ⟨v9, rfl, h9, hb9⟩; have hk9 : Below wc.heap.size wc w9 := hk8.trans (hb9.mono hk8.size))
        | (have hx := hk7; go_at_call 140; go_fit (mul_any _ _ (lim M) (lim D) _ dM dD (hyn.after hk7) (hxd.after hk7) (by omega) (by omega)); rw [VQ.out]; rintro e w8 ⟨v8, rfl, h8, hb8⟩; have hk8 : Below wc.heap.size wc w8 := hk7.trans (hb8.mono hk7.size))
        | (go_at_call 140; go_fit (mul_any _ _ (lim N) (lim C) _ dN dC hxn.drew hyd.drew (by omega) (by omega)); rw [VP.out]; rintro e w7 ⟨v7, rfl, h7, hb7⟩; have hk7 : Below wc.heap.size wc w7 := Below.trans (Below.drew (Below.refl _ _)) hb7)
        | fail)
    replace h7 := ((h7.low (Nat.zero_le _)).after hb8).after hb9
    replace h8 := (h8.low (Nat.zero_le _)).after hb9
    replace h9 := h9.low (Nat.zero_le _)
    have kx9 : w.heap.size < w9.heap.size := Nat.lt_of_lt_of_le kx hk9.size
    have ky9 : w.heap.size + 1 < w9.heap.size := Nat.lt_of_lt_of_le ky hk9.size
    have nex : w.heap.size + 1 + 1 ≠ w.heap.size := by omega
    have ney : w.heap.size + 1 + 1 ≠ w.heap.size + 1 := by omega
    have x0' := (hk9.cell (p := ⟨w.heap.size, 0, none⟩) kx).trans x0
    have y0' := (hk9.cell (p := ⟨w.heap.size + 1, 0, none⟩) ky).trans y0
    have res := hres.below hk9 hres.lt
    have hB9 := hBc.trans (hk9.mono hBc.size)
    have dP := dig_lim (N * C)
    have dQ := dig_lim (M * D)
    have dR := dig_lim (D * C)
    have lP : (lim (N * C)).length ≤ 800 := lim_mul_len dN dC (val_lim N).symm (val_lim C).symm lN lC
    have lQ : (lim (M * D)).length ≤ 800 := lim_mul_len dM dD (val_lim M).symm (val_lim D).symm lM lD
    have lR : (lim (D * C)).length ≤ 800 := lim_mul_len dD dC (val_lim D).symm (val_lim C).symm lD lC
    have WP := Lib.hid (val_lim (N * C))
    have WQ := Lib.hid (val_lim (M * D))
    have WR := Lib.hid (val_lim (D * C))
    clear hb7 hb8 hb9 hk7 hk8 hk0 x0 x1 x2 y0 y1 y2 hres hgx hgy hxn hxd hyn hyd VP VQ VD dN dD dM dC lN lM lD lC hBc hk9 kx ky
    generalize N * C = P at *
    generalize M * D = Q at *
    generalize D * C = R at *
    by_cases hST : S = T
    · subst hST
      have ES : Hid (addS S S P Q = S) := if_pos rfl
      have EN : Hid (addN S S P Q = P + Q) := if_pos rfl
      have hbe : (S == S) = true := beq_self_eq_true S
      have lS : (lim (P + Q)).length ≤ 801 := lim_add_len dP dQ (val_lim P).symm (val_lim Q).symm lP lQ
      obtain ⟨U, hU⟩ : ∃ U, P + Q = U := ⟨_, rfl⟩
      rw [hU] at lS
      have HU := Lib.hid hU
      obtain ⟨FS, hFS⟩ : ∃ z, nrS S U R = z := ⟨_, rfl⟩
      obtain ⟨FN, hFN⟩ : ∃ z, nrN U R = z := ⟨_, rfl⟩
      obtain ⟨FD, hFD⟩ : ∃ z, nrD U R = z := ⟨_, rfl⟩
      have HFS := Lib.hid hFS
      have HFN := Lib.hid hFN
      have HFD := Lib.hid hFD
      clear hFS hFN hFD hU
      go_wp2_with fail
      go_region_held3 (fun W => W.cell? ⟨w.heap.size, 0, none⟩ = some (.bool S))
        (first | exact far_set3 ((hk11.cell (p := ⟨w.heap.size, 0, none⟩) kx9).trans x0') nex | exact (hk11.cell (p := ⟨w.heap.size, 0, none⟩) kx9).trans x0' | exact (hk10.cell (p := ⟨w.heap.size, 0, none⟩) kx9).trans x0' | exact x0' | fail)
        (first
          | (have hx := hk10; go_at_call 98; go_fit (prOf_any S _ _ (lim U) (lim R) _ (dig_lim _) dR (h10.low (Nat.zero_le _)) (h9.after hk10) (by omega) (by omega)); rw [val_lim, WR.out, HFS.out, HFN.out, HFD.out]; rintro e w11 ⟨v11, rfl, ⟨an, ad, rfl, han, had⟩, hb11⟩; have han' := han; have had' := had; obtain ⟨A9, k9, rfl, m9⟩ := nt_len han'; obtain ⟨A10, k10, rfl, m10⟩ := nt_len had'; have hk11 : Below w9.heap.size w9 w11 := hk10.trans (hb11.mono hk10.size); have q11 := res.below hk11 res.lt; have r0 := q11.cell 0; have r1 := q11.cell 1; have r2 := q11.cell 2; have f0 := q11.free 0; have f1 := q11.free 1; have f2 := q11.free 2)
          | (go_at_call 208; go_fit (add_any _ _ (lim P) (lim Q) _ dP dQ h7.drew h8.drew (by omega) (by omega)); rw [WP.out, WQ.out, HU.out]; rintro e w10 ⟨v10, rfl, h10, hb10⟩; have hk10 : Below w9.heap.size w9 w10 := Below.trans (Below.drew (Below.refl _ _)) hb10)
          | fail)
      have hB11 := hB9.trans (hk11.mono hB9.size)
      obtain ⟨e0, e1, e2, hR, hBf⟩ := store3 q11 hB11 (by omega) FS (.slice A9 (lim FN).length k9) (.slice A10 (lim FD).length k10) (han.low (Nat.le_trans res.lt hk10.size)) (had.low (Nat.le_trans res.lt hk10.size))
      have HR := Lib.hid hR
      have HBF := Lib.hid hBf
      clear r0 r1 r2 f0 f1 f2 q11 han had hR hBf h7 h8 h9 h10 hb10 hb11 hk10 hk11
      unfold St3 at *
      go_wp2_with fail
      generalize ((World.setCell w11 ⟨w.heap.size + 1 + 1, 0, none⟩ (.bool FS)).setCell ⟨w.heap.size + 1 + 1, 1, none⟩ (.slice A9 (lim FN).length k9)).setCell ⟨w.heap.size + 1 + 1, 2, none⟩ (.slice A10 (lim FD).length k10) = WW at *
      refine bodyPost_ret (v := .agg #[.bool FS, .slice A9 (lim FN).length k9, .slice A10 (lim FD).length k10]) ?_ rfl (by show GivesT _ _ _ _ _ _; rw [ES.out, EN.out, HU.out, HFS.out, HFN.out, HFD.out]; exact ⟨_, rfl, HR.out, HBF.out⟩)
      simp [results, Tryz.results204, go_sem, e0, e1, e2]
    · have hbe : (S == T) = false := beq_eq_false_iff_ne.2 hST
      have HSUB : Hid (∀ W v7 v8, Nt W 0 W.heap.size v7 (lim P) → Nt W 0 W.heap.size v8 (lim Q) → Calls Tryz.prog 171 #[v7, v8] W (GivesB (lim (P - Q)) (decide (Q ≤ P)) W)) := fun W v7 v8 h7 h8 => by
        have := sub_any v7 v8 (lim P) (lim Q) W dP dQ h7 h8 (by omega) (by omega)
        rw [WP.out, WQ.out] at this
        exact this
      have HSUB' : Hid (∀ W v7 v8, Nt W 0 W.heap.size v7 (lim P) → Nt W 0 W.heap.size v8 (lim Q) → Calls Tryz.prog 171 #[v8, v7] W (GivesB (lim (Q - P)) (decide (P ≤ Q)) W)) := fun W v7 v8 h7 h8 => by
        have := sub_any v8 v7 (lim Q) (lim P) W dQ dP h8 h7 (by omega) (by omega)
        rw [WP.out, WQ.out] at this
        exact this
      by_cases hle : Q ≤ P
      · have ES : Hid (addS S T P Q = S) := by show _ = _; unfold addS; rw [if_neg hST, if_pos hle]
        have EN : Hid (addN S T P Q = P - Q) := by show _ = _; unfold addN; rw [if_neg hST, if_pos hle]
        have lS : (lim (P - Q)).length ≤ 800 := Nat.le_trans (lim_len_mono (Nat.sub_le _ _)) lP
        have HB := HSUB.out
        rw [decide_eq_true hle] at HB
        replace HB := Lib.hid HB
        obtain ⟨U, hU⟩ : ∃ U, P - Q = U := ⟨_, rfl⟩
        rw [hU] at lS HB
        have HU := Lib.hid hU
        obtain ⟨FS, hFS⟩ : ∃ z, nrS S U R = z := ⟨_, rfl⟩
        obtain ⟨FN, hFN⟩ : ∃ z, nrN U R = z := ⟨_, rfl⟩
        obtain ⟨FD, hFD⟩ : ∃ z, nrD U R = z := ⟨_, rfl⟩
        have HFS := Lib.hid hFS
        have HFN := Lib.hid hFN
        have HFD := Lib.hid hFD
        clear hFS hFN hFD hU HSUB HSUB' hle
        go_wp2_with fail
        go_fit (HB.out _ _ _ h7 h8)
        rintro e w10 ⟨v10, rfl, h10, hb10⟩
        replace h10 := h10.low (Nat.zero_le _)
        have c10 := (hb10.cell (p := ⟨w.heap.size, 0, none⟩) kx9).trans x0'
        replace h9 := h9.after hb10
        replace res := res.below hb10 res.lt
        replace hB9 := hB9.trans (hb10.mono hB9.size)
        clear h7 h8 hb10 HB
        go_wp2_with fail
        go_fit (prOf_any S _ _ (lim U) (lim R) _ (dig_lim _) dR h10 h9 (by omega) (by omega))
        rw [val_lim, WR.out, HFS.out, HFN.out, HFD.out]
        rintro e w11 ⟨v11, rfl, ⟨an, ad, rfl, han, had⟩, hb11⟩
        have han' := han
        have had' := had
        obtain ⟨A9, k9, rfl, m9⟩ := nt_len han'
        obtain ⟨A10, k10, rfl, m10⟩ := nt_len had'
        clear han' had'
        have q11 := res.below hb11 res.lt
        have r0 := q11.cell 0
        have r1 := q11.cell 1
        have r2 := q11.cell 2
        have f0 := q11.free 0
        have f1 := q11.free 1
        have f2 := q11.free 2
        have hB11 := hB9.trans (hb11.mono hB9.size)
        obtain ⟨e0, e1, e2, hR, hBf⟩ := store3 q11 hB11 (by omega) FS (.slice A9 (lim FN).length k9) (.slice A10 (lim FD).length k10) (han.low res.lt) (had.low res.lt)
        have HR := Lib.hid hR
        have HBF := Lib.hid hBf
        clear q11 han had hR hBf h9 h10 hb11
        unfold St3 at *
        go_wp2_with fail
        clear r0 r1 r2 f0 f1 f2
        generalize ((World.setCell w11 ⟨w.heap.size + 1 + 1, 0, none⟩ (.bool FS)).setCell ⟨w.heap.size + 1 + 1, 1, none⟩ (.slice A9 (lim FN).length k9)).setCell ⟨w.heap.size + 1 + 1, 2, none⟩ (.slice A10 (lim FD).length k10) = WW at *
        refine bodyPost_ret (v := .agg #[.bool FS, .slice A9 (lim FN).length k9, .slice A10 (lim FD).length k10]) ?_ rfl (by show GivesT _ _ _ _ _ _; rw [ES.out, EN.out, HU.out, HFS.out, HFN.out, HFD.out]; exact ⟨_, rfl, HR.out, HBF.out⟩)
        simp [results, Tryz.results204, go_sem, e0, e1, e2]
      · have ES : Hid (addS S T P Q = T) := by show _ = _; unfold addS; rw [if_neg hST, if_neg hle]
        have EN : Hid (addN S T P Q = Q - P) := by show _ = _; unfold addN; rw [if_neg hST, if_neg hle]
        have lS : (lim (Q - P)).length ≤ 800 := Nat.le_trans (lim_len_mono (Nat.sub_le _ _)) lQ
        have HB := HSUB.out
        rw [decide_eq_false hle] at HB
        replace HB := Lib.hid HB
        have HB' := HSUB'.out
        replace HB' := Lib.hid HB'
        obtain ⟨U, hU⟩ : ∃ U, Q - P = U := ⟨_, rfl⟩
        rw [hU] at lS HB'
        have HU := Lib.hid hU
        obtain ⟨FS, hFS⟩ : ∃ z, nrS T U R = z := ⟨_, rfl⟩
        obtain ⟨FN, hFN⟩ : ∃ z, nrN U R = z := ⟨_, rfl⟩
        obtain ⟨FD, hFD⟩ : ∃ z, nrD U R = z := ⟨_, rfl⟩
        have HFS := Lib.hid hFS
        have HFN := Lib.hid hFN
        have HFD := Lib.hid hFD
        clear hFS hFN hFD hU HSUB HSUB' hle
        go_wp2_with fail
        go_fit (HB.out _ _ _ h7 h8)
        rintro e w12 ⟨v12, rfl, h12, hb12⟩
        replace h7 := h7.after hb12
        replace h8 := h8.after hb12
        replace h9 := h9.after hb12
        replace res := res.below hb12 res.lt
        replace hB9 := hB9.trans (hb12.mono hB9.size)
        have y12 := (hb12.cell (p := ⟨w.heap.size + 1, 0, none⟩) ky9).trans y0'
        replace ky9 := Nat.lt_of_lt_of_le ky9 hb12.size
        clear HB h12 hb12
        go_wp2_with fail
        go_fit (HB'.out _ _ _ h7 h8)
        rintro e w10 ⟨v10, rfl, h10, hb10⟩
        replace h10 := h10.low (Nat.zero_le _)
        have c10 := (hb10.cell (p := ⟨w.heap.size + 1, 0, none⟩) ky9).trans y12
        replace h9 := h9.after hb10
        replace res := res.below hb10 res.lt
        replace hB9 := hB9.trans (hb10.mono hB9.size)
        clear h7 h8 hb10 HB'
        go_wp2_with fail
        go_fit (prOf_any T _ _ (lim U) (lim R) _ (dig_lim _) dR h10 h9 (by omega) (by omega))
        rw [val_lim, WR.out, HFS.out, HFN.out, HFD.out]
        rintro e w11 ⟨v11, rfl, ⟨an, ad, rfl, han, had⟩, hb11⟩
        have han' := han
        have had' := had
        obtain ⟨A9, k9, rfl, m9⟩ := nt_len han'
        obtain ⟨A10, k10, rfl, m10⟩ := nt_len had'
        clear han' had'
        have q11 := res.below hb11 res.lt
        have r0 := q11.cell 0
        have r1 := q11.cell 1
        have r2 := q11.cell 2
        have f0 := q11.free 0
        have f1 := q11.free 1
        have f2 := q11.free 2
        have hB11 := hB9.trans (hb11.mono hB9.size)
        obtain ⟨e0, e1, e2, hR, hBf⟩ := store3 q11 hB11 (by omega) FS (.slice A9 (lim FN).length k9) (.slice A10 (lim FD).length k10) (han.low res.lt) (had.low res.lt)
        have HR := Lib.hid hR
        have HBF := Lib.hid hBf
        clear q11 han had hR hBf h9 h10 hb11
        unfold St3 at *
        go_wp2_with fail
        clear r0 r1 r2 f0 f1 f2
        generalize ((World.setCell w11 ⟨w.heap.size + 1 + 1, 0, none⟩ (.bool FS)).setCell ⟨w.heap.size + 1 + 1, 1, none⟩ (.slice A9 (lim FN).length k9)).setCell ⟨w.heap.size + 1 + 1, 2, none⟩ (.slice A10 (lim FD).length k10) = WW at *
        refine bodyPost_ret (v := .agg #[.bool FS, .slice A9 (lim FN).length k9, .slice A10 (lim FD).length k10]) ?_ rfl (by show GivesT _ _ _ _ _ _; rw [ES.out, EN.out, HU.out, HFS.out, HFN.out, HFD.out]; exact ⟨_, rfl, HR.out, HBF.out⟩)
        simp [results, Tryz.results204, go_sem, e0, e1, e2]
end Go.Proofs.YtchokmhfgikglaaGreatDoor

namespace Go.Proofs.YtchokmhfgikglaaGreatDoor
set_option maxRecDepth 100000
open Go.RowKit

set_option maxHeartbeats 3200000 in
theorem prMul_any (u v : Value) (s t : Bool) (n d m c : List Nat) (w : World) (dn : Dig n) (dd : Dig d) (dm : Dig m) (dc : Dig c) (h : Rt w 0 w.heap.size u s n d) (h' : Rt w 0 w.heap.size v t m c)
    (ln : n.length ≤ 400) (ld : d.length ≤ 400) (lm : m.length ≤ 400) (lc : c.length ≤ 400) (S T : Bool) (N D M C : Nat) (hS : nrS s (val n) (val d) = S) (hN : nrN (val n) (val d) = N) (hD : nrD (val n) (val d) = D)
    (hT : nrS t (val m) (val c) = T) (hM : nrN (val m) (val c) = M) (hC : nrD (val m) (val c) = C) :
    Calls Tryz.prog 77 #[u, v] w (GivesT (nrS (S != T) (N * M) (D * C)) (nrN (N * M) (D * C)) (nrD (N * M) (D * C)) w) := by
  have lN : (lim N).length ≤ 400 := by rw [← hN]; exact nrN_len dn ln
  have lM : (lim M).length ≤ 400 := by rw [← hM]; exact nrN_len dm lm
  have lD : (lim D).length ≤ 400 := by rw [← hD]; exact nrD_len dd ld (by omega)
  have lC : (lim C).length ≤ 400 := by rw [← hC]; exact nrD_len dc lc (by omega)
  have HC1 : Hid (∀ W, Below w.heap.size w W → Calls Tryz.prog 47 #[u] W (GivesT S N D W)) := fun W hb => by
    have := prNorm_any u s n d W dn dd (h.after hb) (by omega) (by omega)
    rw [hS, hN, hD] at this
    exact this
  have HC2 : Hid (∀ W, Below w.heap.size w W → Calls Tryz.prog 47 #[v] W (GivesT T M C W)) := fun W hb => by
    have := prNorm_any v t m c W dm dc (h'.after hb) (by omega) (by omega)
    rw [hT, hM, hC] at this
    exact this
  obtain ⟨un, ud, rfl, hn, hd⟩ := h
  obtain ⟨vm, vc, rfl, hm, hc⟩ := h'
  obtain ⟨A1, k1, rfl, m1⟩ := nt_len hn
  obtain ⟨A2, k2, rfl, m2⟩ := nt_len hd
  obtain ⟨A3, k3, rfl, m3⟩ := nt_len hm
  obtain ⟨A4, k4, rfl, m4⟩ := nt_len hc
  clear hn hd hm hc hS hN hD hT hM hC dn dd dm dc
  go_enter Tryz.func77, Tryz.ntmps77
  go_wp2_with fail
  have b0 := ((Blk.new w 60 #[.bool s, .slice A1 n.length k1, .slice A2 d.length k2]).alloc (.cells #[.bool t, .slice A3 m.length k3, .slice A4 c.length k4] 60)).alloc (.cells #[.bool false, .slice none 0 0, .slice none 0 0] 60)
  have b1 := (Blk.new (w.alloc (.cells #[.bool s, .slice A1 n.length k1, .slice A2 d.length k2] 60)) 60 #[.bool t, .slice A3 m.length k3, .slice A4 c.length k4]).alloc (.cells #[.bool false, .slice none 0 0, .slice none 0 0] 60)
  have b2 := Blk.new ((w.alloc (.cells #[.bool s, .slice A1 n.length k1, .slice A2 d.length k2] 60)).alloc (.cells #[.bool t, .slice A3 m.length k3, .slice A4 c.length k4] 60)) 60 #[.bool false, .slice none 0 0, .slice none 0 0]
  have hB : Below w.heap.size w (((w.alloc (.cells #[.bool s, .slice A1 n.length k1, .slice A2 d.length k2] 60)).alloc (.cells #[.bool t, .slice A3 m.length k3, .slice A4 c.length k4] 60)).alloc (.cells #[.bool false, .slice none 0 0, .slice none 0 0] 60)) := (((Below.refl _ _).alloc (Nat.le_refl _) _).alloc (by simp) _).alloc (by simp; omega) _
  have es : (w.alloc (.cells #[.bool s, .slice A1 n.length k1, .slice A2 d.length k2] 60)).heap.size = w.heap.size + 1 := by simp
  have es2 : ((w.alloc (.cells #[.bool s, .slice A1 n.length k1, .slice A2 d.length k2] 60)).alloc (.cells #[.bool t, .slice A3 m.length k3, .slice A4 c.length k4] 60)).heap.size = w.heap.size + 1 + 1 := by simp
  rw [es] at b1
  rw [es2] at b2
  clear es es2
  generalize (((w.alloc (.cells #[.bool s, .slice A1 n.length k1, .slice A2 d.length k2] 60)).alloc (.cells #[.bool t, .slice A3 m.length k3, .slice A4 c.length k4] 60)).alloc (.cells #[.bool false, .slice none 0 0, .slice none 0 0] 60)) = w2 at *
  go_cut [] from 5 to 8 (fun wx => P2 w S T N D M C wx)
  case first =>
    have a0 := b0.cell 0
    have a1 := b0.cell 1
    have a2 := b0.cell 2
    have e0 := b1.cell 0
    have e1 := b1.cell 1
    have e2 := b1.cell 2
    have HB2 : Hid (Below w.heap.size w w2.drew) := hB.drew
    have Q0 := Lib.hid b0
    have Q1 := Lib.hid b1
    have Q2 := Lib.hid b2
    clear b0 b1 b2 hB
    go_region_with
      (first
        | (have hx := HB3
           go_at_call 47
           go_fit (HC2.out _ HB3.out)
           rintro e w5 ⟨v5, rfl, ⟨xm, xc, rfl, hxm, hxc⟩, hk5⟩
           have hxm' := hxm
           have hxc' := hxc
           obtain ⟨A7, k7, rfl, m7⟩ := nt_len hxm'
           obtain ⟨A8, k8, rfl, m8⟩ := nt_len hxc'
           clear hxm' hxc' hx
           have HB5 := Lib.hid (HB3.out.trans (hk5.mono HB3.out.size))
           have R0 := Lib.hid (Q3.out.below hk5 Q3.out.lt)
           have R1 := Lib.hid (Q4.out.below hk5 Q4.out.lt)
           have R2 := Lib.hid (Q5.out.below hk5 Q5.out.lt)
           have HXN := Lib.hid (NX.out.after hk5)
           have HXD := Lib.hid (DX.out.after hk5)
           have HYN := Lib.hid (hxm.low (show w.heap.size + 1 + 1 + 1 ≤ _ from Q5.out.lt))
           have HYD := Lib.hid (hxc.low (show w.heap.size + 1 + 1 + 1 ≤ _ from Q5.out.lt))
           clear e0_3 e1_3 e2_3
           have f0 := R0.out.free 0
           have f1 := R0.out.free 1
           have f2 := R0.out.free 2
           have a0_5 := R0.out.cell 0
           have a1_5 := R0.out.cell 1
           have a2_5 := R0.out.cell 2
           have S1 := blk_far3 (p := w.heap.size) (a := .bool S) (b := .slice A5 (lim N).length k5) (c := .slice A6 (lim D).length k6) R1.out (by omega)
           have g0 := S1.free 0
           have g1 := S1.free 1
           have g2 := S1.free 2
           have e0_5 := S1.cell 0
           have e1_5 := S1.cell 1
           have e2_5 := S1.cell 2
           have HB6 := Lib.hid (below_set3 HB5.out (Nat.le_refl w.heap.size) (.bool S) (.slice A5 (lim N).length k5) (.slice A6 (lim D).length k6))
           have HB7 := Lib.hid (below_set3 HB6.out (Nat.le_succ w.heap.size) (.bool T) (.slice A7 (lim M).length k7) (.slice A8 (lim C).length k8))
           clear hxm hxc hk5 S1)
        | (go_at_call 47
           go_fit (HC1.out _ HB2.out)
           rintro e w3 ⟨v3, rfl, ⟨xn, xd, rfl, hxn, hxd⟩, hk3⟩
           have hxn' := hxn
           have hxd' := hxd
           obtain ⟨A5, k5, rfl, m5⟩ := nt_len hxn'
           obtain ⟨A6, k6, rfl, m6⟩ := nt_len hxd'
           clear hxn' hxd'
           have HB3 := Lib.hid (HB2.out.trans (hk3.mono HB2.out.size))
           have Q3 := Lib.hid (Q0.out.drew.below hk3 Q0.out.drew.lt)
           have Q4 := Lib.hid (Q1.out.drew.below hk3 Q1.out.drew.lt)
           have Q5 := Lib.hid (Q2.out.drew.below hk3 Q2.out.drew.lt)
           have NX := Lib.hid (hxn.low (show w.heap.size + 1 + 1 + 1 ≤ _ from Q2.out.lt))
           have DX := Lib.hid (hxd.low (show w.heap.size + 1 + 1 + 1 ≤ _ from Q2.out.lt))
           have e0_3 := Q4.out.cell 0
           have e1_3 := Q4.out.cell 1
           have e2_3 := Q4.out.cell 2
           clear hxn hxd hk3 a0 a1 a2)
        | fail)
    all_goals (go_wp2_with fail; go_meet)
    all_goals with_reducible exact p2_of R0.out R1.out R2.out HXN.out HXD.out HYN.out HYD.out HB5.out
  case rest =>
    obtain ⟨xn, xd, yn, yd, hgx, hgy, hres, hxn, hxd, hyn, hyd, hBc⟩ := hcut
    clear hB b0 b1 b2 HC1 HC2
    obtain ⟨B1, j1, rfl, q1⟩ := nt_len hxn
    obtain ⟨B2, j2, rfl, q2⟩ := nt_len hxd
    obtain ⟨B3, j3, rfl, q3⟩ := nt_len hyn
    obtain ⟨B4, j4, rfl, q4⟩ := nt_len hyd
    have x0 : wc.cell? ⟨w.heap.size, 0, none⟩ = some (.bool S) := hgx.cell 0
    have x1 : wc.cell? ⟨w.heap.size, 1, none⟩ = some (.slice B1 (lim N).length j1) := hgx.cell 1
    have x2 : wc.cell? ⟨w.heap.size, 2, none⟩ = some (.slice B2 (lim D).length j2) := hgx.cell 2
    have y0 : wc.cell? ⟨w.heap.size + 1, 0, none⟩ = some (.bool T) := hgy.cell 0
    have y1 : wc.cell? ⟨w.heap.size + 1, 1, none⟩ = some (.slice B3 (lim M).length j3) := hgy.cell 1
    have y2 : wc.cell? ⟨w.heap.size + 1, 2, none⟩ = some (.slice B4 (lim C).length j4) := hgy.cell 2
    have kx := hgx.lt
    have ky := hgy.lt
    have dN := dig_lim N
    have dD := dig_lim D
    have dM := dig_lim M
    have dC := dig_lim C
    have hk0 : Below wc.heap.size wc wc.drew := (Below.refl _ _).drew
    have nex : w.heap.size + 1 + 1 ≠ w.heap.size := by omega
    have ney : w.heap.size + 1 + 1 ≠ w.heap.size + 1 := by omega
    have VP : Hid (val (lim N) * val (lim M) = N * M) := by show _ = _; rw [val_lim, val_lim]
    have VQ : Hid (val (lim D) * val (lim C) = D * C) := by show _ = _; rw [val_lim, val_lim]
    have lP : (lim (N * M)).length ≤ 800 := lim_mul_len dN dM (val_lim _).symm (val_lim _).symm lN lM
    have lQ : (lim (D * C)).length ≤ 800 := lim_mul_len dD dC (val_lim _).symm (val_lim _).symm lD lC
    obtain ⟨P, hP⟩ : ∃ P, N * M = P := ⟨_, rfl⟩
    obtain ⟨Q, hQ⟩ : ∃ Q, D * C = Q := ⟨_, rfl⟩
    rw [hP] at VP lP
    rw [hQ] at VQ lQ
    have HP := Lib.hid hP
    have HQ := Lib.hid hQ
    clear hP hQ
    have WP := Lib.hid (val_lim P)
    have WQ := Lib.hid (val_lim Q)
    obtain ⟨ST, hST⟩ : ∃ b, (S != T) = b := ⟨_, rfl⟩
    have HST := Lib.hid hST
    obtain ⟨FS, hFS⟩ : ∃ z, nrS ST P Q = z := ⟨_, rfl⟩
    obtain ⟨FN, hFN⟩ : ∃ z, nrN P Q = z := ⟨_, rfl⟩
    obtain ⟨FD, hFD⟩ : ∃ z, nrD P Q = z := ⟨_, rfl⟩
    have HFS := Lib.hid hFS
    have HFN := Lib.hid hFN
    have HFD := Lib.hid hFD
    have hbe : (!(S == T)) = ST := hST
    clear hFS hFN hFD hST
    go_wp2_with fail
    go_region_held3 (fun W => W.cell? ⟨w.heap.size, 0, none⟩ = some (.bool S) ∧ W.cell? ⟨w.heap.size, 1, none⟩ = some (.slice B1 (lim N).length j1) ∧ W.cell? ⟨w.heap.size, 2, none⟩ = some (.slice B2 (lim D).length j2) ∧ W.cell? ⟨w.heap.size + 1, 0, none⟩ = some (.bool T) ∧ W.cell? ⟨w.heap.size + 1, 1, none⟩ = some (.slice B3 (lim M).length j3) ∧ W.cell? ⟨w.heap.size + 1, 2, none⟩ = some (.slice B4 (lim C).length j4))
      (with_reducible (first | exact c6_set (c6_of hk9 x0 x1 x2 y0 y1 y2 kx ky) nex ney | exact c6_of hk9 x0 x1 x2 y0 y1 y2 kx ky | exact c6_of hk8 x0 x1 x2 y0 y1 y2 kx ky | exact c6_of hk7 x0 x1 x2 y0 y1 y2 kx ky | exact c6_of hk0 x0 x1 x2 y0 y1 y2 kx ky | fail))
      (first
        | (have hx := hk8; go_at_call 98; go_fit (prOf_any ST _ _ (lim P) (lim Q) _ (dig_lim P) (dig_lim Q) (h7.after hb8) (h8.low (Nat.zero_le _)) (by omega) (by omega)); rw [WP.out, WQ.out, HFS.out, HFN.out, HFD.out]; rintro e w9 ⟨v9, rfl, ⟨an, ad, rfl, han, had⟩, hb9⟩; have han' := han; have had' := had; obtain ⟨A9, k9, rfl, m9⟩ := nt_len han'; obtain ⟨A10, k10, rfl, m10⟩ := nt_len had'; have hk9 : Below wc.heap.size wc w9 := hk8.trans (hb9.mono hk8.size); have q9 := hres.below hk9 hres.lt; have r0 := q9.cell 0; have r1 := q9.cell 1; have r2 := q9.cell 2; have f0 := q9.free 0; have f1 := q9.free 1; have f2 := q9.free 2)
        | (have hx := hk7; go_at_call 140; go_fit (mul_any _ _ (lim D) (lim C) _ dD dC (hxd.after hk7) (hyd.after hk7) (by omega) (by omega)); rw [VQ.out]; rintro e w8 ⟨v8, rfl, h8, hb8⟩; have hk8 : Below wc.heap.size wc w8 := hk7.trans (hb8.mono hk7.size))
        | (go_at_call 140; go_fit (mul_any _ _ (lim N) (lim M) _ dN dM hxn.drew hyn.drew (by omega) (by omega)); rw [VP.out]; rintro e w7 ⟨v7, rfl, h7, hb7⟩; replace h7 := h7.low (Nat.zero_le _); have hk7 : Below wc.heap.size wc w7 := Below.trans (Below.drew (Below.refl _ _)) hb7)
        | fail)
    obtain ⟨e0, e1, e2, hR, hBf⟩ := store3 q9 (hBc.trans (hk9.mono hBc.size)) (by omega) FS (.slice A9 (lim FN).length k9) (.slice A10 (lim FD).length k10) (han.low (Nat.le_trans hres.lt hk8.size)) (had.low (Nat.le_trans hres.lt hk8.size))
    have HR := Lib.hid hR
    have HBF := Lib.hid hBf
    clear r0 r1 r2 f0 f1 f2 q9 han had hR hBf h7 h8 hb7 hb8 hb9
    unfold St3 at *
    go_wp2_with fail
    generalize ((World.setCell w9 ⟨w.heap.size + 1 + 1, 0, none⟩ (.bool FS)).setCell ⟨w.heap.size + 1 + 1, 1, none⟩ (.slice A9 (lim FN).length k9)).setCell ⟨w.heap.size + 1 + 1, 2, none⟩ (.slice A10 (lim FD).length k10) = WW at *
    refine bodyPost_ret (v := .agg #[.bool FS, .slice A9 (lim FN).length k9, .slice A10 (lim FD).length k10]) ?_ rfl (by show GivesT _ _ _ _ _ _; rw [HST.out, HP.out, HQ.out, HFS.out, HFN.out, HFD.out]; exact ⟨_, rfl, HR.out, HBF.out⟩)
    simp [results, Tryz.results77, go_sem, e0, e1, e2]
end Go.Proofs.YtchokmhfgikglaaGreatDoor

namespace Go.Proofs.YtchokmhfgikglaaGreatDoor
set_option maxRecDepth 100000
open Go.RowKit

theorem prNeg_any (v : Value) (s : Bool) (n d : List Nat) (w : World) (dn : Dig n) (dd : Dig d) (h : Rt w 0 w.heap.size v s n d) (ln : n.length ≤ 1000) (ld : d.length ≤ 1000) :
    Calls Tryz.prog 247 #[v] w (GivesT (!(nrS s (val n) (val d)) && decide (0 < nrN (val n) (val d))) (nrN (val n) (val d)) (nrD (val n) (val d)) w) := by
  have := prNeg_q v (qv s (val n) (val d)) 1000 w ⟨s, n, d, h, dn, dd, ln, ld, rfl⟩ (Nat.le_refl _)
  obtain ⟨e1, e2, e3⟩ := nr_q s (val n) (val d)
  rw [e1, e2, e3, ← qS_neg, ← qN_neg, ← Rat.neg_den]
  exact this

set_option maxHeartbeats 3200000 in
theorem prSub_any (u v : Value) (s t : Bool) (n d m c : List Nat) (w : World) (dn : Dig n) (dd : Dig d) (dm : Dig m) (dc : Dig c) (h : Rt w 0 w.heap.size u s n d) (h' : Rt w 0 w.heap.size v t m c)
    (ln : n.length ≤ 400) (ld : d.length ≤ 400) (lm : m.length ≤ 400) (lc : c.length ≤ 400) (S T : Bool) (N D M C : Nat) (hS : nrS s (val n) (val d) = S) (hN : nrN (val n) (val d) = N) (hD : nrD (val n) (val d) = D)
    (hT : (!(nrS t (val m) (val c)) && decide (0 < nrN (val m) (val c))) = T) (hM : nrN (val m) (val c) = M) (hC : nrD (val m) (val c) = C) :
    Calls Tryz.prog 231 #[u, v] w (GivesT (nrS (addS S T (N * C) (M * D)) (addN S T (N * C) (M * D)) (D * C)) (nrN (addN S T (N * C) (M * D)) (D * C)) (nrD (addN S T (N * C) (M * D)) (D * C)) w) := by
  obtain ⟨vn, vd, rfl, hn, hd⟩ := h
  obtain ⟨vm, vc, rfl, hm, hc⟩ := h'
  have hn' := hn
  have hd' := hd
  have hm' := hm
  have hc' := hc
  obtain ⟨A1, k1, rfl, m1⟩ := nt_len hn'
  obtain ⟨A2, k2, rfl, m2⟩ := nt_len hd'
  obtain ⟨A3, k3, rfl, m3⟩ := nt_len hm'
  obtain ⟨A4, k4, rfl, m4⟩ := nt_len hc'
  have lM : (lim M).length ≤ 400 := by rw [← hM]; exact nrN_len dm lm
  have lC : (lim C).length ≤ 400 := by rw [← hC]; exact nrD_len dc lc (by omega)
  have eT : nrS T (val (lim M)) (val (lim C)) = T := by
    rw [val_lim, val_lim, ← hT, ← hM, ← hC]
    exact nrS_neg _ _ _
  have eM : nrN (val (lim M)) (val (lim C)) = M := by
    rw [val_lim, val_lim, ← hM, ← hC]
    exact (nr_idem _ _).1
  have eC : nrD (val (lim M)) (val (lim C)) = C := by
    rw [val_lim, val_lim, ← hM, ← hC]
    exact (nr_idem _ _).2
  have HT := Lib.hid hT
  have HM := Lib.hid hM
  have HC := Lib.hid hC
  have HS := Lib.hid hS
  have HN := Lib.hid hN
  have HD := Lib.hid hD
  have ET := Lib.hid eT
  have EM := Lib.hid eM
  have EC := Lib.hid eC
  clear hn' hd' hm' hc' hT hM hC hS hN hD eT eM eC
  obtain ⟨FS, hFS⟩ : ∃ z, nrS (addS S T (N * C) (M * D)) (addN S T (N * C) (M * D)) (D * C) = z := ⟨_, rfl⟩
  obtain ⟨FN, hFN⟩ : ∃ z, nrN (addN S T (N * C) (M * D)) (D * C) = z := ⟨_, rfl⟩
  obtain ⟨FD, hFD⟩ : ∃ z, nrD (addN S T (N * C) (M * D)) (D * C) = z := ⟨_, rfl⟩
  rw [hFS, hFN, hFD]
  have HFS := Lib.hid hFS
  have HFN := Lib.hid hFN
  have HFD := Lib.hid hFD
  have dM := dig_lim M
  have dC := dig_lim C
  clear hFS hFN hFD
  go_enter Tryz.func231, Tryz.ntmps231
  go_wp2_with fail
  have b0 := ((Blk.new w 60 #[.bool s, .slice A1 n.length k1, .slice A2 d.length k2]).alloc (.cells #[.bool t, .slice A3 m.length k3, .slice A4 c.length k4] 60)).alloc (.cells #[.bool false, .slice none 0 0, .slice none 0 0] 60)
  have b1 := (Blk.new (w.alloc (.cells #[.bool s, .slice A1 n.length k1, .slice A2 d.length k2] 60)) 60 #[.bool t, .slice A3 m.length k3, .slice A4 c.length k4]).alloc (.cells #[.bool false, .slice none 0 0, .slice none 0 0] 60)
  have b2 := Blk.new ((w.alloc (.cells #[.bool s, .slice A1 n.length k1, .slice A2 d.length k2] 60)).alloc (.cells #[.bool t, .slice A3 m.length k3, .slice A4 c.length k4] 60)) 60 #[.bool false, .slice none 0 0, .slice none 0 0]
  have hB : Below w.heap.size w (((w.alloc (.cells #[.bool s, .slice A1 n.length k1, .slice A2 d.length k2] 60)).alloc (.cells #[.bool t, .slice A3 m.length k3, .slice A4 c.length k4] 60)).alloc (.cells #[.bool false, .slice none 0 0, .slice none 0 0] 60)) := (((Below.refl _ _).alloc (Nat.le_refl _) _).alloc (by simp) _).alloc (by simp; omega) _
  have es : (w.alloc (.cells #[.bool s, .slice A1 n.length k1, .slice A2 d.length k2] 60)).heap.size = w.heap.size + 1 := by simp
  have es2 : ((w.alloc (.cells #[.bool s, .slice A1 n.length k1, .slice A2 d.length k2] 60)).alloc (.cells #[.bool t, .slice A3 m.length k3, .slice A4 c.length k4] 60)).heap.size = w.heap.size + 1 + 1 := by simp
  rw [es] at b1
  rw [es2] at b2
  clear es es2
  generalize (((w.alloc (.cells #[.bool s, .slice A1 n.length k1, .slice A2 d.length k2] 60)).alloc (.cells #[.bool t, .slice A3 m.length k3, .slice A4 c.length k4] 60)).alloc (.cells #[.bool false, .slice none 0 0, .slice none 0 0] 60)) = w2 at *
  have hn2 := hn.after hB
  have hd2 := hd.after hB
  have hm2 := hm.after hB
  have hc2 := hc.after hB
  clear hn hd hm hc
  have c0 := b0.cell 0
  have c1 := b0.cell 1
  have c2 := b0.cell 2
  have e0 := b1.cell 0
  have e1 := b1.cell 1
  have e2 := b1.cell 2
  have hg := b1.lt
  have hk2 : Below w2.heap.size w2 w2.drew := (Below.refl _ _).drew
  go_region_held3 (fun W => W.cell? ⟨w.heap.size, 0, none⟩ = some (.bool s) ∧ W.cell? ⟨w.heap.size, 1, none⟩ = some (.slice A1 n.length k1) ∧ W.cell? ⟨w.heap.size, 2, none⟩ = some (.slice A2 d.length k2) ∧ W.cell? ⟨w.heap.size + 1, 0, none⟩ = some (.bool t) ∧ W.cell? ⟨w.heap.size + 1, 1, none⟩ = some (.slice A3 m.length k3) ∧ W.cell? ⟨w.heap.size + 1, 2, none⟩ = some (.slice A4 c.length k4))
    (first | exact s6_set (s6_of hk11 c0 c1 c2 e0 e1 e2 hg) | exact s6_of hk11 c0 c1 c2 e0 e1 e2 hg | exact s6_of hk3 c0 c1 c2 e0 e1 e2 hg | exact s6_of hk2 c0 c1 c2 e0 e1 e2 hg | fail)
    (first
      | (have hx := hk3; go_at_call 204; refine (prAdd_any _ _ s T n d (lim M) (lim C) _ dn dd dM dC ⟨_, _, rfl, hn2.after hk3, hd2.after hk3⟩ ⟨_, _, rfl, hxn.low (Nat.zero_le _), hxd.low (Nat.zero_le _)⟩ ln ld lM lC S T N D M C HS.out HN.out HD.out ET.out EM.out EC.out).mono ?_; rw [HFS.out, HFN.out, HFD.out]; rintro e w11 ⟨v11, rfl, ⟨an, ad, rfl, han, had⟩, hb11⟩; have han' := han; have had' := had; obtain ⟨A7, k7, rfl, m7⟩ := nt_len han'; obtain ⟨A8, k8, rfl, m8⟩ := nt_len had'; clear han' had'; have hk11 : Below w2.heap.size w2 w11 := hk3.trans (hb11.mono hk3.size); have q11 := b2.below hk11 b2.lt; have r0 := q11.cell 0; have r1 := q11.cell 1; have r2 := q11.cell 2; have f0 := q11.free 0; have f1 := q11.free 1; have f2 := q11.free 2)
      | (go_at_call 247; refine (prNeg_any _ t m c _ dm dc ⟨_, _, rfl, hm2.drew, hc2.drew⟩ (by omega) (by omega)).mono ?_; rw [HT.out, HM.out, HC.out]; rintro e w3 ⟨v3, rfl, ⟨xn, xd, rfl, hxn, hxd⟩, hb3⟩; have hxn' := hxn; have hxd' := hxd; obtain ⟨A5, k5, rfl, m5⟩ := nt_len hxn'; obtain ⟨A6, k6, rfl, m6⟩ := nt_len hxd'; clear hxn' hxd'; have hk3 : Below w2.heap.size w2 w3 := Below.trans (Below.drew (Below.refl _ _)) hb3)
      | fail)
  have hB11 := hB.trans (hk11.mono hB.size)
  have hx2 := han.low (show w.heap.size + 1 + 1 + 1 ≤ _ from Nat.le_trans b2.lt hk3.size)
  have hy2 := had.low (show w.heap.size + 1 + 1 + 1 ≤ _ from Nat.le_trans b2.lt hk3.size)
  have p3 := ((q11.put 0 (.bool FS)).put 1 (.slice A7 (lim FN).length k7)).put 2 (.slice A8 (lim FD).length k8)
  have hBB := ((hB11.setCell (p := ⟨w.heap.size + 1 + 1, 0, none⟩) (by simp; omega) (.bool FS)).setCell (p := ⟨w.heap.size + 1 + 1, 1, none⟩) (by simp; omega) (.slice A7 (lim FN).length k7)).setCell (p := ⟨w.heap.size + 1 + 1, 2, none⟩) (by simp; omega) (.slice A8 (lim FD).length k8)
  have t6 := ((hx2.put3 (Nat.lt_succ_self _) 0 (.bool FS)).put3 (Nat.lt_succ_self _) 1 (.slice A7 (lim FN).length k7)).put3 (Nat.lt_succ_self _) 2 (.slice A8 (lim FD).length k8)
  have t7 := ((hy2.put3 (Nat.lt_succ_self _) 0 (.bool FS)).put3 (Nat.lt_succ_self _) 1 (.slice A7 (lim FN).length k7)).put3 (Nat.lt_succ_self _) 2 (.slice A8 (lim FD).length k8)
  go_wp2_with fail
  clear r0 r1 r2 f0 f1 f2 q11 hx2 hy2 han had
  generalize ((World.setCell w11 ⟨w.heap.size + 1 + 1, 0, none⟩ (.bool FS)).setCell ⟨w.heap.size + 1 + 1, 1, none⟩ (.slice A7 (lim FN).length k7)).setCell ⟨w.heap.size + 1 + 1, 2, none⟩ (.slice A8 (lim FD).length k8) = WW at *
  have h0 : WW.cell? ⟨w.heap.size + 1 + 1, 0, none⟩ = some (.bool FS) := by rw [p3.cell]; rfl
  have h1 : WW.cell? ⟨w.heap.size + 1 + 1, 1, none⟩ = some (.slice A7 (lim FN).length k7) := by rw [p3.cell]; rfl
  have h2 : WW.cell? ⟨w.heap.size + 1 + 1, 2, none⟩ = some (.slice A8 (lim FD).length k8) := by rw [p3.cell]; rfl
  refine bodyPost_ret (v := .agg #[.bool FS, .slice A7 (lim FN).length k7, .slice A8 (lim FD).length k8]) ?_ rfl ⟨_, rfl, (by exact ⟨_, _, rfl, t6.low (by omega), t7.low (by omega)⟩), hBB⟩
  simp [results, Tryz.results231, go_sem, h0, h1, h2]

theorem prAdd_q (u v : Value) (p q : Rat) (k j : Nat) (w : World) (h : RQ w 0 w.heap.size u p k) (h' : RQ w 0 w.heap.size v q j) (hk : k ≤ 400) (hj : j ≤ 400) : Calls Tryz.prog 204 #[u, v] w (GivesF (p + q) w) := by
  obtain ⟨s, n, d, hR, dn, dd, ln, ld, rfl⟩ := h
  obtain ⟨t, m, c, hR', dm, dc, lm, lc, rfl⟩ := h'
  obtain ⟨e1, e2, e3⟩ := nr_q s (val n) (val d)
  obtain ⟨f1, f2, f3⟩ := nr_q t (val m) (val c)
  have := prAdd_any u v s t n d m c w dn dd dm dc hR hR' (by omega) (by omega) (by omega) (by omega) _ _ _ _ _ _ e1 e2 e3 f1 f2 f3
  obtain ⟨g1, g2, g3⟩ := nr_q (addS (qS (qv s (val n) (val d))) (qS (qv t (val m) (val c))) (qN (qv s (val n) (val d)) * (qv t (val m) (val c)).den) (qN (qv t (val m) (val c)) * (qv s (val n) (val d)).den)) (addN (qS (qv s (val n) (val d))) (qS (qv t (val m) (val c))) (qN (qv s (val n) (val d)) * (qv t (val m) (val c)).den) (qN (qv t (val m) (val c)) * (qv s (val n) (val d)).den)) ((qv s (val n) (val d)).den * (qv t (val m) (val c)).den)
  rw [g1, g2, g3, qv_add] at this
  exact this

theorem prMul_q (u v : Value) (p q : Rat) (k j : Nat) (w : World) (h : RQ w 0 w.heap.size u p k) (h' : RQ w 0 w.heap.size v q j) (hk : k ≤ 400) (hj : j ≤ 400) : Calls Tryz.prog 77 #[u, v] w (GivesF (p * q) w) := by
  obtain ⟨s, n, d, hR, dn, dd, ln, ld, rfl⟩ := h
  obtain ⟨t, m, c, hR', dm, dc, lm, lc, rfl⟩ := h'
  obtain ⟨e1, e2, e3⟩ := nr_q s (val n) (val d)
  obtain ⟨f1, f2, f3⟩ := nr_q t (val m) (val c)
  have := prMul_any u v s t n d m c w dn dd dm dc hR hR' (by omega) (by omega) (by omega) (by omega) _ _ _ _ _ _ e1 e2 e3 f1 f2 f3
  obtain ⟨g1, g2, g3⟩ := nr_q (qS (qv s (val n) (val d)) != qS (qv t (val m) (val c))) (qN (qv s (val n) (val d)) * qN (qv t (val m) (val c))) ((qv s (val n) (val d)).den * (qv t (val m) (val c)).den)
  rw [g1, g2, g3, qv_mul] at this
  exact this

theorem prSub_q (u v : Value) (p q : Rat) (k j : Nat) (w : World) (h : RQ w 0 w.heap.size u p k) (h' : RQ w 0 w.heap.size v q j) (hk : k ≤ 400) (hj : j ≤ 400) : Calls Tryz.prog 231 #[u, v] w (GivesF (p - q) w) := by
  obtain ⟨s, n, d, hR, dn, dd, ln, ld, rfl⟩ := h
  obtain ⟨t, m, c, hR', dm, dc, lm, lc, rfl⟩ := h'
  obtain ⟨e1, e2, e3⟩ := nr_q s (val n) (val d)
  obtain ⟨f1, f2, f3⟩ := nr_q t (val m) (val c)
  obtain ⟨p, hp⟩ : ∃ p, qv s (val n) (val d) = p := ⟨_, rfl⟩
  obtain ⟨q, hq⟩ : ∃ q, qv t (val m) (val c) = q := ⟨_, rfl⟩
  rw [hp] at e1 e2 e3 ⊢
  rw [hq] at f1 f2 f3 ⊢
  have := prSub_any u v s t n d m c w dn dd dm dc hR hR' (by omega) (by omega) (by omega) (by omega) _ (qS (-q)) _ _ (qN (-q)) (-q).den e1 e2 e3 (by rw [f1, f2, qS_neg]) (by rw [f2, qN_neg]) (by rw [f3, Rat.neg_den])
  obtain ⟨g1, g2, g3⟩ := nr_q (addS (qS p) (qS (-q)) (qN p * (-q).den) (qN (-q) * p.den)) (addN (qS p) (qS (-q)) (qN p * (-q).den) (qN (-q) * p.den)) (p.den * (-q).den)
  rw [g1, g2, g3, qv_add, ← Rat.sub_eq_add_neg] at this
  exact this

end Go.Proofs.YtchokmhfgikglaaGreatDoor

namespace Go.Proofs.YtchokmhfgikglaaGreatDoor
set_option maxRecDepth 100000
open Go.RowKit

/-- Is it normal? -/
def isR (s : Bool) (n d : List Nat) : Bool := cb n && cb d && decide (0 < d.length) && !(s && decide (n.length = 0)) && (Nat.gcd (val n) (val d) == 1)

end Go.Proofs.YtchokmhfgikglaaGreatDoor
