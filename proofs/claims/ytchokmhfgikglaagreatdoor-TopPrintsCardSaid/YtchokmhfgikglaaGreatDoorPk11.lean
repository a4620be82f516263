/- Several texts in one: PrBall, RefRatMul, RefRatDiv. Condition: each says its own. -/
import Derived.Test.YtchokmhfgikglaaGreatDoorPk8
import Derived.Test.YtchokmhfgikglaaGreatDoorPk9
import Derived.Test.YtchokmhfgikglaaGreatDoorPk10
namespace Go.Proofs.YtchokmhfgikglaaGreatDoor
set_option maxRecDepth 100000
open Go.RowKit

theorem rat_int (n : Nat) : qS (n : Rat) = false ∧ qN (n : Rat) = n ∧ (n : Rat).den = 1 := by
  refine ⟨?_, ?_, rfl⟩
  · unfold qS
    show decide ((n : Int) < 0) = false
    exact decide_eq_false (by omega)
  · show (n : Int).natAbs = n
    omega

set_option maxHeartbeats 3200000 in
theorem prInt_any (n : Nat) (w : World) (hn : n ≤ 1000000) : Calls Tryz.prog 71 #[.int .i64 (n : Int)] w (GivesF (n : Rat) w) := by
  obtain ⟨e1, e2, e3⟩ := rat_int n
  unfold GivesF
  rw [e1, e2, e3]
  clear e1 e2 e3
  have hlt : ¬ (n : Int) < 0 := by omega
  have b0 := Blk.new w 60 #[.bool false, .slice none 0 0, .slice none 0 0]
  have hB : Below w.heap.size w (w.alloc (.cells #[.bool false, .slice none 0 0, .slice none 0 0] 60)) := (Below.refl _ _).alloc (Nat.le_refl _) _
  have HO := Lib.hid (of_any' n (n : Int) rfl (w.alloc (.cells #[.bool false, .slice none 0 0, .slice none 0 0] 60)) (by omega))
  go_enter Tryz.func71, Tryz.ntmps71
  go_wp2_with fail
  go_fit (HO.out)
  rintro e w3 ⟨v3, rfl, h3, hb3⟩
  clear HO
  have q3 := b0.below hb3 b0.lt
  have hB3 := hB.trans (hb3.mono hB.size)
  replace h3 := h3.low (show w.heap.size + 1 ≤ _ from b0.lt)
  clear b0 hB hb3
  go_wp2_with fail
  go_fit (of_any' 1 _ rfl _ (by omega))
  rintro e w4 ⟨v4, rfl, h4, hb4⟩
  have q4 := q3.below hb4 q3.lt
  have hB4 := hB3.trans (hb4.mono hB3.size)
  replace h4 := h4.low (show w.heap.size + 1 ≤ _ from q3.lt)
  replace h3 := h3.after hb4
  obtain ⟨A1, k1, rfl, m1⟩ := nt_len h3
  obtain ⟨A2, k2, rfl, m2⟩ := nt_len h4
  have r0 := q4.cell 0
  have r1 := q4.cell 1
  have r2 := q4.cell 2
  have f0 := q4.free 0
  have f1 := q4.free 1
  have f2 := q4.free 2
  obtain ⟨e0, e1, e2, hR, hBf⟩ := store3 q4 hB4 (Nat.le_refl _) false (.slice A1 (lim n).length k1) (.slice A2 (lim 1).length k2) h3 h4
  have HR := Lib.hid hR
  have HBF := Lib.hid hBf
  clear q3 q4 hB3 hB4 hb4 h3 h4 hR hBf
  unfold St3 at *
  go_wp2_with fail
  clear r0 r1 r2 f0 f1 f2
  generalize ((World.setCell w4 ⟨w.heap.size, 0, none⟩ (.bool false)).setCell ⟨w.heap.size, 1, none⟩ (.slice A1 (lim n).length k1)).setCell ⟨w.heap.size, 2, none⟩ (.slice A2 (lim 1).length k2) = WW at *
  refine bodyPost_ret (v := .agg #[.bool false, .slice A1 (lim n).length k1, .slice A2 (lim 1).length k2]) ?_ rfl ⟨_, rfl, HR.out, HBF.out⟩
  simp [results, Tryz.results71, go_sem, e0, e1, e2]

theorem qv_inv {q : Rat} (h : q ≠ 0) : qv (qS q) q.den (qN q) = q⁻¹ := by
  have := qv_div 1 q h
  have e1 : qS (1 : Rat) = false := rfl
  have e2 : qN (1 : Rat) = 1 := rfl
  have e3 : (1 : Rat).den = 1 := rfl
  rw [e1, e2, e3, Rat.div_def, Rat.one_mul, Nat.one_mul, Nat.one_mul] at this
  cases hq : qS q
  · rw [hq] at this; exact this
  · rw [hq] at this; exact this

/-- What hands back a new number in lowest terms, and yes. -/
def GivesFB (q : Rat) (w : World) (e : Ending) (w' : World) : Prop :=
  ∃ v', e = .returned (.tuple #[v', .bool true]) ∧ Rt w' w.heap.size w'.heap.size v' (qS q) (lim (qN q)) (lim q.den) ∧ Below w.heap.size w w'

set_option maxHeartbeats 3200000 in
theorem prDiv_q (u v : Value) (p q : Rat) (k j : Nat) (w : World) (h : RQ w 0 w.heap.size u p k) (h' : RQ w 0 w.heap.size v q j) (hk : k ≤ 400) (hj : j ≤ 400) (hj1 : 1 ≤ j) (hq : q ≠ 0) : Calls Tryz.prog 75 #[u, v] w (GivesFB (p / q) w) := by
  have hz := h'.sz hj1
  have HC2 : Hid (∀ W, Below w.heap.size w W → Calls Tryz.prog 47 #[v] W (GivesF q W)) := fun W hb => prNorm_q v q j W (h'.after hb) (by omega)
  have HU := Lib.hid h
  have hne : ¬ (lim (qN q)).length = 0 := fun hc => hq (qN_zero.1 (lim_eq_nil.1 (List.eq_nil_of_length_eq_zero hc)))
  have hne2 : (((lim (qN q)).length : Int) == 0) = false := by simp [hne]
  have HINV := Lib.hid (qv_inv hq)
  have dN := dig_lim (qN q)
  have dD := dig_lim q.den
  have lN : (lim (qN q)).length ≤ 400 := by have := hz.1; omega
  have lD : (lim q.den).length ≤ 400 := by have := hz.2; omega
  have HV1 := Lib.hid (val_lim (qN q))
  have HV2 := Lib.hid (val_lim q.den)
  have HDV := Lib.hid (Rat.div_def p q)
  obtain ⟨s, n, d, ⟨un, ud, rfl, hn, hd⟩, rest⟩ := h
  obtain ⟨t, m, c, ⟨vm, vc, rfl, hm, hc⟩, rest'⟩ := h'
  obtain ⟨A1, k1, rfl, m1⟩ := nt_len hn
  obtain ⟨A2, k2, rfl, m2⟩ := nt_len hd
  obtain ⟨A3, k3, rfl, m3⟩ := nt_len hm
  obtain ⟨A4, k4, rfl, m4⟩ := nt_len hc
  clear hn hd hm hc rest rest' hz hne hq
  go_enter Tryz.func75, Tryz.ntmps75
  go_wp2_with fail
  have b0 := ((Blk.new w 60 #[.bool s, .slice A1 n.length k1, .slice A2 d.length k2]).alloc (.cells #[.bool t, .slice A3 m.length k3, .slice A4 c.length k4] 60)).alloc (.cells #[.bool false, .slice none 0 0, .slice none 0 0] 60)
  have b1 := (Blk.new (w.alloc (.cells #[.bool s, .slice A1 n.length k1, .slice A2 d.length k2] 60)) 60 #[.bool t, .slice A3 m.length k3, .slice A4 c.length k4]).alloc (.cells #[.bool false, .slice none 0 0, .slice none 0 0] 60)
  have b2 := Blk.new ((w.alloc (.cells #[.bool s, .slice A1 n.length k1, .slice A2 d.length k2] 60)).alloc (.cells #[.bool t, .slice A3 m.length k3, .slice A4 c.length k4] 60)) 60 #[.bool false, .slice none 0 0, .slice none 0 0]
  have hB : Below w.heap.size w (((w.alloc (.cells #[.bool s, .slice A1 n.length k1, .slice A2 d.length k2] 60)).alloc (.cells #[.bool t, .slice A3 m.length k3, .slice A4 c.length k4] 60)).alloc (.cells #[.bool false, .slice none 0 0, .slice none 0 0] 60)) := (((Below.refl _ _).alloc (Nat.le_refl _) _).alloc (by simp) _).alloc (by simp; omega) _
  have es : (w.alloc (.cells #[.bool s, .slice A1 n.length k1, .slice A2 d.length k2] 60)).heap.size = w.heap.size + 1 := by simp
  have es2 : ((w.alloc (.cells #[.bool s, .slice A1 n.length k1, .slice A2 d.length k2] 60)).alloc (.cells #[.bool t, .slice A3 m.length k3, .slice A4 c.length k4] 60)).heap.size = w.heap.size + 1 + 1 := by simp
  rw [es] at b1
  rw [es2] at b2
  clear es es2
  generalize (((w.alloc (.cells #[.bool s, .slice A1 n.length k1, .slice A2 d.length k2] 60)).alloc (.cells #[.bool t, .slice A3 m.length k3, .slice A4 c.length k4] 60)).alloc (.cells #[.bool false, .slice none 0 0, .slice none 0 0] 60)) = w2 at *
  have e0 := b1.cell 0
  have e1 := b1.cell 1
  have e2 := b1.cell 2
  go_wp2_with fail
  go_fit (HC2.out _ hB)
  rintro e w3 ⟨v3, rfl, ⟨xn, xd, rfl, hxn, hxd⟩, hb3⟩
  clear e0 e1 e2 HC2
  replace b0 := b0.below hb3 b0.lt
  replace b1 := b1.below hb3 b1.lt
  have hL := b2.lt
  replace b2 := b2.below hb3 b2.lt
  replace hB := hB.trans (hb3.mono hB.size)
  replace hxn := hxn.low (show w.heap.size + 1 + 1 + 1 ≤ _ from hL)
  replace hxd := hxd.low (show w.heap.size + 1 + 1 + 1 ≤ _ from hL)
  obtain ⟨A5, k5, rfl, m5⟩ := nt_len hxn
  obtain ⟨A6, k6, rfl, m6⟩ := nt_len hxd
  have r0 := b1.cell 0
  have r1 := b1.cell 1
  have r2 := b1.cell 2
  have f0 := b1.free 0
  have f1 := b1.free 1
  have f2 := b1.free 2
  have c0 := blk_far3 (p := w.heap.size + 1) (a := .bool (qS q)) (b := .slice A5 (lim (qN q)).length k5) (c := .slice A6 (lim q.den).length k6) b0 (by omega)
  have c1 := blk_put3 (a := .bool (qS q)) (b := .slice A5 (lim (qN q)).length k5) (c := .slice A6 (lim q.den).length k6) b1
  have c2 := blk_far3 (p := w.heap.size + 1) (a := .bool (qS q)) (b := .slice A5 (lim (qN q)).length k5) (c := .slice A6 (lim q.den).length k6) b2 (by omega)
  have hB4 := below_set3 hB (Nat.le_succ w.heap.size) (.bool (qS q)) (.slice A5 (lim (qN q)).length k5) (.slice A6 (lim q.den).length k6)
  have x5 := nt_set3 hxn (show w.heap.size + 1 < w.heap.size + 1 + 1 + 1 by omega) (.bool (qS q)) (.slice A5 (lim (qN q)).length k5) (.slice A6 (lim q.den).length k6)
  have y5 := nt_set3 hxd (show w.heap.size + 1 < w.heap.size + 1 + 1 + 1 by omega) (.bool (qS q)) (.slice A5 (lim (qN q)).length k5) (.slice A6 (lim q.den).length k6)
  have C0 := Lib.hid c0
  have C1 := Lib.hid c1
  have C2 := Lib.hid c2
  have HB4 := Lib.hid hB4
  have X5 := Lib.hid x5
  have Y5 := Lib.hid y5
  clear b0 b1 b2 hB hb3 hxn hxd c0 c1 c2 hB4 x5 y5
  have z0 := C0.out.cell 0
  have z1 := C0.out.cell 1
  have z2 := C0.out.cell 2
  have z3 := C1.out.cell 0
  have z4 := C1.out.cell 1
  have z5 := C1.out.cell 2
  go_wp2_with fail
  clear r0 r1 r2 f0 f1 f2 z0 z1 z2 z3 z4 z5
  generalize ((World.setCell w3 ⟨w.heap.size + 1, 0, none⟩ (.bool (qS q))).setCell ⟨w.heap.size + 1, 1, none⟩ (.slice A5 (lim (qN q)).length k5)).setCell ⟨w.heap.size + 1, 2, none⟩ (.slice A6 (lim q.den).length k6) = w4 at *
  go_fit (prMul_q _ _ p q⁻¹ k 400 _ (HU.out.after HB4.out) ⟨_, _, _, ⟨_, _, rfl, Y5.out.low (Nat.zero_le _), X5.out.low (Nat.zero_le _)⟩, dD, dN, lD, lN, by rw [HV1.out, HV2.out]; exact HINV.out⟩ hk (Nat.le_refl _))
  rintro e w5 ⟨v5, rfl, ⟨yn, yd, rfl, hyn, hyd⟩, hb5⟩
  have HB5 := HB4.out.trans (hb5.mono HB4.out.size)
  have hL4 := C2.out.lt
  have q5 := C2.out.below hb5 C2.out.lt
  replace hyn := hyn.low (show w.heap.size + 1 + 1 + 1 ≤ _ from hL4)
  replace hyd := hyd.low (show w.heap.size + 1 + 1 + 1 ≤ _ from hL4)
  obtain ⟨A7, k7, rfl, m7⟩ := nt_len hyn
  obtain ⟨A8, k8, rfl, m8⟩ := nt_len hyd
  have r0 := q5.cell 0
  have r1 := q5.cell 1
  have r2 := q5.cell 2
  have f0 := q5.free 0
  have f1 := q5.free 1
  have f2 := q5.free 2
  obtain ⟨e0, e1, e2, hR, hBf⟩ := store3 q5 HB5 (by omega) (qS (p * q⁻¹)) (.slice A7 (lim (qN (p * q⁻¹))).length k7) (.slice A8 (lim (p * q⁻¹).den).length k8) hyn hyd
  have HR := Lib.hid hR
  have HBF := Lib.hid hBf
  clear q5 HB4 HB5 hb5 hyn hyd hR hBf C0 C1 C2 X5 Y5
  unfold St3 at *
  go_wp2_with fail
  clear r0 r1 r2 f0 f1 f2
  generalize ((World.setCell w5 ⟨w.heap.size + 1 + 1, 0, none⟩ (.bool (qS (p * q⁻¹)))).setCell ⟨w.heap.size + 1 + 1, 1, none⟩ (.slice A7 (lim (qN (p * q⁻¹))).length k7)).setCell ⟨w.heap.size + 1 + 1, 2, none⟩ (.slice A8 (lim (p * q⁻¹).den).length k8) = WW at *
  refine bodyPost_ret (v := .tuple #[.agg #[.bool (qS (p * q⁻¹)), .slice A7 (lim (qN (p * q⁻¹))).length k7, .slice A8 (lim (p * q⁻¹).den).length k8], .bool true]) ?_ rfl (by show GivesFB _ _ _ _; rw [HDV.out]; exact ⟨_, rfl, HR.out, HBF.out⟩)
  simp [results, Tryz.results75, go_sem, e0, e1, e2]
end Go.Proofs.YtchokmhfgikglaaGreatDoor

namespace Go.Proofs.YtchokmhfgikglaaGreatDoor
set_option maxRecDepth 100000
open Go.RowKit

theorem s6g_of {w0 W : World} {g h : Nat} {a0 a1 a2 b0 b1 b2 : Value} (hb : Below w0.heap.size w0 W) (c0 : w0.cell? ⟨g, 0, none⟩ = some a0) (c1 : w0.cell? ⟨g, 1, none⟩ = some a1) (c2 : w0.cell? ⟨g, 2, none⟩ = some a2) (d0 : w0.cell? ⟨h, 0, none⟩ = some b0) (d1 : w0.cell? ⟨h, 1, none⟩ = some b1) (d2 : w0.cell? ⟨h, 2, none⟩ = some b2) (hg : g < w0.heap.size) (hh : h < w0.heap.size) :
    W.cell? ⟨g, 0, none⟩ = some a0 ∧ W.cell? ⟨g, 1, none⟩ = some a1 ∧ W.cell? ⟨g, 2, none⟩ = some a2 ∧ W.cell? ⟨h, 0, none⟩ = some b0 ∧ W.cell? ⟨h, 1, none⟩ = some b1 ∧ W.cell? ⟨h, 2, none⟩ = some b2 :=
  ⟨(hb.cell (p := ⟨g, 0, none⟩) hg).trans c0, (hb.cell (p := ⟨g, 1, none⟩) hg).trans c1, (hb.cell (p := ⟨g, 2, none⟩) hg).trans c2, (hb.cell (p := ⟨h, 0, none⟩) hh).trans d0, (hb.cell (p := ⟨h, 1, none⟩) hh).trans d1, (hb.cell (p := ⟨h, 2, none⟩) hh).trans d2⟩

theorem s6g_set {W : World} {g h p : Nat} {a0 a1 a2 b0 b1 b2 u v z : Value} (hs : W.cell? ⟨g, 0, none⟩ = some a0 ∧ W.cell? ⟨g, 1, none⟩ = some a1 ∧ W.cell? ⟨g, 2, none⟩ = some a2 ∧ W.cell? ⟨h, 0, none⟩ = some b0 ∧ W.cell? ⟨h, 1, none⟩ = some b1 ∧ W.cell? ⟨h, 2, none⟩ = some b2) (hg : p ≠ g) (hh : p ≠ h) :
    (((W.setCell ⟨p, 0, none⟩ u).setCell ⟨p, 1, none⟩ v).setCell ⟨p, 2, none⟩ z).cell? ⟨g, 0, none⟩ = some a0 ∧ (((W.setCell ⟨p, 0, none⟩ u).setCell ⟨p, 1, none⟩ v).setCell ⟨p, 2, none⟩ z).cell? ⟨g, 1, none⟩ = some a1 ∧ (((W.setCell ⟨p, 0, none⟩ u).setCell ⟨p, 1, none⟩ v).setCell ⟨p, 2, none⟩ z).cell? ⟨g, 2, none⟩ = some a2 ∧
      (((W.setCell ⟨p, 0, none⟩ u).setCell ⟨p, 1, none⟩ v).setCell ⟨p, 2, none⟩ z).cell? ⟨h, 0, none⟩ = some b0 ∧ (((W.setCell ⟨p, 0, none⟩ u).setCell ⟨p, 1, none⟩ v).setCell ⟨p, 2, none⟩ z).cell? ⟨h, 1, none⟩ = some b1 ∧ (((W.setCell ⟨p, 0, none⟩ u).setCell ⟨p, 1, none⟩ v).setCell ⟨p, 2, none⟩ z).cell? ⟨h, 2, none⟩ = some b2 := by
  obtain ⟨a, b, c, d, e, f⟩ := hs
  exact ⟨far_set3 a hg, far_set3 b hg, far_set3 c hg, far_set3 d hh, far_set3 e hh, far_set3 f hh⟩

set_option maxHeartbeats 3200000 in
theorem ratMul_any (u v : Value) (s t : Bool) (n d m c : List Nat) (w : World) (dn : Dig n) (dd : Dig d) (dm : Dig m) (dc : Dig c) (h : Rt w 0 w.heap.size u s n d) (h' : Rt w 0 w.heap.size v t m c)
    (ln : n.length ≤ 400) (ld : d.length ≤ 400) (lm : m.length ≤ 400) (lc : c.length ≤ 400) (S T : Bool) (N D M C : Nat) (hS : nrS s (val n) (val d) = S) (hN : nrN (val n) (val d) = N) (hD : nrD (val n) (val d) = D)
    (hT : nrS t (val m) (val c) = T) (hM : nrN (val m) (val c) = M) (hC : nrD (val m) (val c) = C) :
    Calls Tryz.prog 91 #[u, v] w (GivesT (nrS (S != T) (N * M) (D * C)) (nrN (N * M) (D * C)) (nrD (N * M) (D * C)) w) := by
  obtain ⟨vn, vd, rfl, hn, hd⟩ := h
  obtain ⟨vm, vc, rfl, hm, hc⟩ := h'
  have hS' := Lib.hid hS
  have hN' := Lib.hid hN
  have hD' := Lib.hid hD
  have hT' := Lib.hid hT
  have hM' := Lib.hid hM
  have hC' := Lib.hid hC
  have lN : (lim N).length ≤ 400 := by rw [← hN]; exact nrN_len dn ln
  have lM : (lim M).length ≤ 400 := by rw [← hM]; exact nrN_len dm lm
  have lD : (lim D).length ≤ 400 := by rw [← hD]; exact nrD_len dd ld (by omega)
  have lC : (lim C).length ≤ 400 := by rw [← hC]; exact nrD_len dc lc (by omega)
  clear hS hN hD hT hM hC
  go_enter Tryz.func91, Tryz.ntmps91
  go_wp2_with fail
  have b0 := ((Blk.new w 60 #[.bool s, vn, vd]).alloc (.cells #[.bool t, vm, vc] 60)).alloc (.cells #[.bool false, .slice none 0 0, .slice none 0 0] 60)
  have b1 := (Blk.new (w.alloc (.cells #[.bool s, vn, vd] 60)) 60 #[.bool t, vm, vc]).alloc (.cells #[.bool false, .slice none 0 0, .slice none 0 0] 60)
  have b2 := Blk.new ((w.alloc (.cells #[.bool s, vn, vd] 60)).alloc (.cells #[.bool t, vm, vc] 60)) 60 #[.bool false, .slice none 0 0, .slice none 0 0]
  have hB : Below w.heap.size w (((w.alloc (.cells #[.bool s, vn, vd] 60)).alloc (.cells #[.bool t, vm, vc] 60)).alloc (.cells #[.bool false, .slice none 0 0, .slice none 0 0] 60)) := (((Below.refl _ _).alloc (Nat.le_refl _) _).alloc (by simp) _).alloc (by simp; omega) _
  have es : (w.alloc (.cells #[.bool s, vn, vd] 60)).heap.size = w.heap.size + 1 := by simp
  have es2 : ((w.alloc (.cells #[.bool s, vn, vd] 60)).alloc (.cells #[.bool t, vm, vc] 60)).heap.size = w.heap.size + 1 + 1 := by simp
  rw [es] at b1
  rw [es2] at b2
  clear es es2
  generalize ((w.alloc (.cells #[.bool s, vn, vd] 60)).alloc (.cells #[.bool t, vm, vc] 60)).alloc (.cells #[.bool false, .slice none 0 0, .slice none 0 0] 60) = w2 at *
  have hn2 := hn.after hB
  have hd2 := hd.after hB
  have hm2 := hm.after hB
  have hc2 := hc.after hB
  clear hn hd hm hc
  go_cut [5, 6] from 7 to 10 (fun p q wx => R2 w S T N D M C p q wx)
  case first =>
    have c00 := b0.cell 0
    have c01 := b0.cell 1
    have c02 := b0.cell 2
    have c10 := b1.cell 0
    have c11 := b1.cell 1
    have c12 := b1.cell 2
    have hg := b1.lt
    have SW : Hid (w.heap.size + 2 < w2.heap.size) := b2.lt
    obtain ⟨An, k1, rfl, m1⟩ := nt_len hn2
    obtain ⟨Ad, k2, rfl, m2⟩ := nt_len hd2
    obtain ⟨Am, k3, rfl, m3⟩ := nt_len hm2
    obtain ⟨Ac, k4, rfl, m4⟩ := nt_len hc2
    have HS0 : Hid (Below w2.heap.size w2 w2 ∧ w2.cell? ⟨w.heap.size, 0, none⟩ = some (.bool s) ∧ w2.cell? ⟨w.heap.size, 1, none⟩ = some (.slice An n.length k1) ∧ w2.cell? ⟨w.heap.size, 2, none⟩ = some (.slice Ad d.length k2) ∧ w2.cell? ⟨w.heap.size + 1, 0, none⟩ = some (.bool t) ∧ w2.cell? ⟨w.heap.size + 1, 1, none⟩ = some (.slice Am m.length k3) ∧ w2.cell? ⟨w.heap.size + 1, 2, none⟩ = some (.slice Ac c.length k4)) := ⟨Below.refl _ _, c00, c01, c02, c10, c11, c12⟩
    have HS2 : Hid (Below w2.heap.size w2 w2.drew ∧ w2.drew.cell? ⟨w.heap.size, 0, none⟩ = some (.bool s) ∧ w2.drew.cell? ⟨w.heap.size, 1, none⟩ = some (.slice An n.length k1) ∧ w2.drew.cell? ⟨w.heap.size, 2, none⟩ = some (.slice Ad d.length k2) ∧ w2.drew.cell? ⟨w.heap.size + 1, 0, none⟩ = some (.bool t) ∧ w2.drew.cell? ⟨w.heap.size + 1, 1, none⟩ = some (.slice Am m.length k3) ∧ w2.drew.cell? ⟨w.heap.size + 1, 2, none⟩ = some (.slice Ac c.length k4)) := ⟨(Below.refl _ _).drew, c00, c01, c02, c10, c11, c12⟩
    go_region_held3 (fun W => Below w2.heap.size w2 W ∧ W.cell? ⟨w.heap.size, 0, none⟩ = some (.bool s) ∧ W.cell? ⟨w.heap.size, 1, none⟩ = some (.slice An n.length k1) ∧ W.cell? ⟨w.heap.size, 2, none⟩ = some (.slice Ad d.length k2) ∧ W.cell? ⟨w.heap.size + 1, 0, none⟩ = some (.bool t) ∧ W.cell? ⟨w.heap.size + 1, 1, none⟩ = some (.slice Am m.length k3) ∧ W.cell? ⟨w.heap.size + 1, 2, none⟩ = some (.slice Ac c.length k4))
      (first | ((repeat (with_reducible (first | exact HS4.out | exact HS3.out | exact HS2.out | exact HS0.out | refine keep6d ?_ | refine keep6s ?_ (by have h3 := SZ3.out; have h4 := SZ4.out; omega) hg _ _ | refine keep6 ?_ ((Below.refl _ _).alloc (Nat.le_refl _) _) hg))); done) | fail)
      (first
        | (have hz := z2; have hx := hk3; go_at_call 43; refine (ratNorm_any _ t m c _ dm dc ⟨_, _, rfl, hm2.after (And.left (by assumption)), hc2.after (And.left (by assumption))⟩ (by omega) (by omega)).mono ?_; rw [hT'.out, hM'.out, hC'.out]; rintro e w4 ⟨v4, rfl, ⟨yn, yd, rfl, hyn, hyd⟩, hb4⟩; have HS4 := Lib.hid (keep6 (by assumption) hb4 hg); have SZ4 := Lib.hid (Below.size (And.left HS4.out)); have hyn' := hyn; have hyd' := hyd; obtain ⟨A5, k5, rfl, m5⟩ := nt_len hyn'; obtain ⟨A6, k6, rfl, m6⟩ := nt_len hyd'; clear hyn' hyd'; have y1 := z1.call0 hb4; have y2 := z2.call0 hb4; obtain ⟨f10, f11, f12, f13, f14, f15⟩ := y1.facts; obtain ⟨f20, f21, f22, f23, f24, f25⟩ := y2.facts; have SY := Lib.hid (show w3.heap.size + 0 ≤ w4.heap.size from Nat.le_trans (by simp) hb4.size); have Q4 := Lib.hid (Q0.of 2 0 hxn hxd (by simp) hb4 hyn hyd (by simp) b2 (And.left HS4.out) hB); clear hxn hxd hyn hyd)
        | (have hz := z1; have hx := hk3; go_at_call 43; refine (ratNorm_any _ t m c _ dm dc ⟨_, _, rfl, hm2.after (And.left (by assumption)), hc2.after (And.left (by assumption))⟩ (by omega) (by omega)).mono ?_; rw [hT'.out, hM'.out, hC'.out]; rintro e w4 ⟨v4, rfl, ⟨yn, yd, rfl, hyn, hyd⟩, hb4⟩; have HS4 := Lib.hid (keep6 (by assumption) hb4 hg); have SZ4 := Lib.hid (Below.size (And.left HS4.out)); have hyn' := hyn; have hyd' := hyd; obtain ⟨A5, k5, rfl, m5⟩ := nt_len hyn'; obtain ⟨A6, k6, rfl, m6⟩ := nt_len hyd'; clear hyn' hyd'; refine (fun (hq : Below (World.heap (World.alloc w3 (.cells #[.bool false, .slice none 0 0, .slice none 0 0] 60))).size (World.alloc w3 (.cells #[.bool false, .slice none 0 0, .slice none 0 0] 60)) w4) => ?_) ?_; rotate_left; with_reducible assumption; have y1 := z1.call1 hq; have y2 := zr_one hq; obtain ⟨f10, f11, f12, f13, f14, f15⟩ := y1.facts; obtain ⟨f20, f21, f22, f23, f24, f25⟩ := y2.facts; have ne1 := z1.ne; have ne2 := ne1.symm; have SY := Lib.hid (show w3.heap.size + 1 ≤ w4.heap.size from Nat.le_trans (by simp) hb4.size); have Q4 := Lib.hid (Q0.of 1 1 hxn hxd (by simp) (((Below.refl w3.heap.size w3).alloc (Nat.le_refl _) (.cells #[.bool false, .slice none 0 0, .slice none 0 0] 60)).trans (hq.mono (by simp))) hyn hyd (by simp) b2 (And.left HS4.out) hB); clear hxn hxd hyn hyd)
        | (have hz := z1; have hx := hk3; go_at_call 43; refine (ratNorm_any _ t m c _ dm dc ⟨_, _, rfl, hm2.after (And.left (by assumption)), hc2.after (And.left (by assumption))⟩ (by omega) (by omega)).mono ?_; rw [hT'.out, hM'.out, hC'.out]; rintro e w4 ⟨v4, rfl, ⟨yn, yd, rfl, hyn, hyd⟩, hb4⟩; have HS4 := Lib.hid (keep6 (by assumption) hb4 hg); have SZ4 := Lib.hid (Below.size (And.left HS4.out)); have hyn' := hyn; have hyd' := hyd; obtain ⟨A5, k5, rfl, m5⟩ := nt_len hyn'; obtain ⟨A6, k6, rfl, m6⟩ := nt_len hyd'; clear hyn' hyd'; have y1 := z1.call0 hb4; obtain ⟨f10, f11, f12, f13, f14, f15⟩ := y1.facts; obtain ⟨ga0, ga1, ga2, ga3, ga4, ga5⟩ := y1.more (.cells #[.bool false, .slice none 0 0, .slice none 0 0] 60); obtain ⟨gb0, gb1, gb2, gb3, gb4, gb5⟩ := y1.more (.cells #[.bool S, .slice A7 (lim N).length k7, .slice A8 (lim D).length k8] 60); obtain ⟨gc0, gc1, gc2, gc3, gc4, gc5⟩ := y1.more (.cells #[.bool T, .slice A5 (lim M).length k5, .slice A6 (lim C).length k6] 60); have ne1 := y1.ne; have ne2 := ne1.symm; have SY := Lib.hid (show w3.heap.size + 0 ≤ w4.heap.size from Nat.le_trans (by simp) hb4.size); have Q4 := Lib.hid (Q0.of 1 0 hxn hxd (by simp) hb4 hyn hyd (by simp) b2 (And.left HS4.out) hB); clear hxn hxd hyn hyd)
        | (have hx := hk3; go_at_call 43; refine (ratNorm_any _ t m c _ dm dc ⟨_, _, rfl, hm2.after (And.left (by assumption)), hc2.after (And.left (by assumption))⟩ (by omega) (by omega)).mono ?_; rw [hT'.out, hM'.out, hC'.out]; rintro e w4 ⟨v4, rfl, ⟨yn, yd, rfl, hyn, hyd⟩, hb4⟩; have HS4 := Lib.hid (keep6 (by assumption) hb4 hg); have SZ4 := Lib.hid (Below.size (And.left HS4.out)); have hyn' := hyn; have hyd' := hyd; obtain ⟨A5, k5, rfl, m5⟩ := nt_len hyn'; obtain ⟨A6, k6, rfl, m6⟩ := nt_len hyd'; clear hyn' hyd'; refine (fun (hq : Below (World.heap (World.alloc (World.alloc w3 (.cells #[.bool false, .slice none 0 0, .slice none 0 0] 60)) (.cells #[.bool false, .slice none 0 0, .slice none 0 0] 60))).size (World.alloc (World.alloc w3 (.cells #[.bool false, .slice none 0 0, .slice none 0 0] 60)) (.cells #[.bool false, .slice none 0 0, .slice none 0 0] 60)) w4) => ?_) ?_; rotate_left; with_reducible assumption; obtain ⟨y1, y2⟩ := zr_two hq; obtain ⟨f10, f11, f12, f13, f14, f15⟩ := y1.facts; obtain ⟨f20, f21, f22, f23, f24, f25⟩ := y2.facts; have SY := Lib.hid (show w3.heap.size + 2 ≤ w4.heap.size from Nat.le_trans (by simp) hb4.size); have Q4 := Lib.hid (Q0.of 0 2 hxn hxd (by simp) ((((Below.refl w3.heap.size w3).alloc (Nat.le_refl _) (.cells #[.bool false, .slice none 0 0, .slice none 0 0] 60)).alloc (by simp) (.cells #[.bool false, .slice none 0 0, .slice none 0 0] 60)).trans (hq.mono (by simp; omega))) hyn hyd (by simp) b2 (And.left HS4.out) hB); clear hxn hxd hyn hyd)
        | (have hx := hk3; go_at_call 43; refine (ratNorm_any _ t m c _ dm dc ⟨_, _, rfl, hm2.after (And.left (by assumption)), hc2.after (And.left (by assumption))⟩ (by omega) (by omega)).mono ?_; rw [hT'.out, hM'.out, hC'.out]; rintro e w4 ⟨v4, rfl, ⟨yn, yd, rfl, hyn, hyd⟩, hb4⟩; have HS4 := Lib.hid (keep6 (by assumption) hb4 hg); have SZ4 := Lib.hid (Below.size (And.left HS4.out)); have hyn' := hyn; have hyd' := hyd; obtain ⟨A5, k5, rfl, m5⟩ := nt_len hyn'; obtain ⟨A6, k6, rfl, m6⟩ := nt_len hyd'; clear hyn' hyd'; refine (fun (hq : Below (World.heap (World.alloc w3 (.cells #[.bool false, .slice none 0 0, .slice none 0 0] 60))).size (World.alloc w3 (.cells #[.bool false, .slice none 0 0, .slice none 0 0] 60)) w4) => ?_) ?_; rotate_left; with_reducible assumption; have y1 := zr_one hq; obtain ⟨f10, f11, f12, f13, f14, f15⟩ := y1.facts; obtain ⟨ga0, ga1, ga2, ga3, ga4, ga5⟩ := y1.more (.cells #[.bool false, .slice none 0 0, .slice none 0 0] 60); obtain ⟨gb0, gb1, gb2, gb3, gb4, gb5⟩ := y1.more (.cells #[.bool S, .slice A7 (lim N).length k7, .slice A8 (lim D).length k8] 60); obtain ⟨gc0, gc1, gc2, gc3, gc4, gc5⟩ := y1.more (.cells #[.bool T, .slice A5 (lim M).length k5, .slice A6 (lim C).length k6] 60); have ne1 := y1.ne; have ne2 := ne1.symm; have SY := Lib.hid (show w3.heap.size + 1 ≤ w4.heap.size from Nat.le_trans (by simp) hb4.size); have Q4 := Lib.hid (Q0.of 0 1 hxn hxd (by simp) (((Below.refl w3.heap.size w3).alloc (Nat.le_refl _) (.cells #[.bool false, .slice none 0 0, .slice none 0 0] 60)).trans (hq.mono (by simp))) hyn hyd (by simp) b2 (And.left HS4.out) hB); clear hxn hxd hyn hyd)
        | (have hx := hk3; go_at_call 43; refine (ratNorm_any _ t m c _ dm dc ⟨_, _, rfl, hm2.after (And.left (by assumption)), hc2.after (And.left (by assumption))⟩ (by omega) (by omega)).mono ?_; rw [hT'.out, hM'.out, hC'.out]; rintro e w4 ⟨v4, rfl, ⟨yn, yd, rfl, hyn, hyd⟩, hb4⟩; have HS4 := Lib.hid (keep6 (by assumption) hb4 hg); have SZ4 := Lib.hid (Below.size (And.left HS4.out)); have hyn' := hyn; have hyd' := hyd; obtain ⟨A5, k5, rfl, m5⟩ := nt_len hyn'; obtain ⟨A6, k6, rfl, m6⟩ := nt_len hyd'; clear hyn' hyd'; have SY := Lib.hid (show w3.heap.size + 0 ≤ w4.heap.size from Nat.le_trans (by simp) hb4.size); have Q4 := Lib.hid (Q0.of 0 0 hxn hxd (by simp) hb4 hyn hyd (by simp) b2 (And.left HS4.out) hB); clear hxn hxd hyn hyd)
        | (go_at_call 43; refine (ratNorm_any _ s n d _ dn dd ⟨_, _, rfl, hn2.after (And.left (by assumption)), hd2.after (And.left (by assumption))⟩ (by omega) (by omega)).mono ?_; rw [hS'.out, hN'.out, hD'.out]; rintro e w3 ⟨v3, rfl, ⟨xn, xd, rfl, hxn, hxd⟩, hk3⟩; have HS3 := Lib.hid (keep6 (by assumption) hk3 hg); have SZ3 := Lib.hid (Below.size (And.left HS3.out)); have hxn' := hxn; have hxd' := hxd; obtain ⟨A7, k7, rfl, m7⟩ := nt_len hxn'; obtain ⟨A8, k8, rfl, m8⟩ := nt_len hxd'; clear hxn' hxd'; refine (fun (hq : Below (World.heap (World.drew (World.alloc (World.alloc w2 (.cells #[.bool false, .slice none 0 0, .slice none 0 0] 60)) (.cells #[.bool false, .slice none 0 0, .slice none 0 0] 60)))).size (World.drew (World.alloc (World.alloc w2 (.cells #[.bool false, .slice none 0 0, .slice none 0 0] 60)) (.cells #[.bool false, .slice none 0 0, .slice none 0 0] 60))) w3) => ?_) ?_; rotate_left; with_reducible assumption; obtain ⟨z1, z2⟩ := zr_two (below_undrew hq); have SX := Lib.hid (show w2.heap.size + 2 ≤ w3.heap.size from Nat.le_trans (by simp) hk3.size))
        | (go_at_call 43; refine (ratNorm_any _ s n d _ dn dd ⟨_, _, rfl, hn2.after (And.left (by assumption)), hd2.after (And.left (by assumption))⟩ (by omega) (by omega)).mono ?_; rw [hS'.out, hN'.out, hD'.out]; rintro e w3 ⟨v3, rfl, ⟨xn, xd, rfl, hxn, hxd⟩, hk3⟩; have HS3 := Lib.hid (keep6 (by assumption) hk3 hg); have SZ3 := Lib.hid (Below.size (And.left HS3.out)); have hxn' := hxn; have hxd' := hxd; obtain ⟨A7, k7, rfl, m7⟩ := nt_len hxn'; obtain ⟨A8, k8, rfl, m8⟩ := nt_len hxd'; clear hxn' hxd'; refine (fun (hq : Below (World.heap (World.drew (World.alloc w2 (.cells #[.bool false, .slice none 0 0, .slice none 0 0] 60)))).size (World.drew (World.alloc w2 (.cells #[.bool false, .slice none 0 0, .slice none 0 0] 60))) w3) => ?_) ?_; rotate_left; with_reducible assumption; have z1 := zr_one (below_undrew hq); have SX := Lib.hid (show w2.heap.size + 1 ≤ w3.heap.size from Nat.le_trans (by simp) hk3.size))
        | (go_at_call 43; refine (ratNorm_any _ s n d _ dn dd ⟨_, _, rfl, hn2.after (And.left (by assumption)), hd2.after (And.left (by assumption))⟩ (by omega) (by omega)).mono ?_; rw [hS'.out, hN'.out, hD'.out]; rintro e w3 ⟨v3, rfl, ⟨xn, xd, rfl, hxn, hxd⟩, hk3⟩; have HS3 := Lib.hid (keep6 (by assumption) hk3 hg); have SZ3 := Lib.hid (Below.size (And.left HS3.out)); have hxn' := hxn; have hxd' := hxd; obtain ⟨A7, k7, rfl, m7⟩ := nt_len hxn'; obtain ⟨A8, k8, rfl, m8⟩ := nt_len hxd'; clear hxn' hxd'; have SX := Lib.hid (show w2.heap.size + 0 ≤ w3.heap.size from Nat.le_trans (by simp) hk3.size))
        | fail)
    all_goals (go_wp2_with fail; go_meet)
    all_goals (have hx3 := SX.out; have hy4 := SY.out; have hw2 := SW.out)
    all_goals first
      | with_reducible exact r2_a Q4.out (by omega)
      | with_reducible exact r2_b Q4.out (by omega)
      | with_reducible exact r2_c Q4.out y1 (by omega) (by omega)
      | with_reducible exact r2_e Q4.out y1 (by omega) (by omega)
      | with_reducible exact r2_d Q4.out y1 y2 (by omega) (by omega) (by omega)
      | with_reducible exact r2_d Q4.out y2 y1 (by omega) (by omega) (by omega)
      | trace_state
  case rest =>
    obtain ⟨gx, gy, xn, xd, yn, yd, rfl, rfl, hgx, hgy, hxn, hxd, hyn, hyd, hres, hBc, hgx2, hgy2⟩ := hcut
    clear hB b0 b1 b2 hn2 hd2 hm2 hc2
    obtain ⟨A1, k1, rfl, m1⟩ := nt_len hxn
    obtain ⟨A2, k2, rfl, m2⟩ := nt_len hxd
    obtain ⟨A3, k3, rfl, m3⟩ := nt_len hyn
    obtain ⟨A4, k4, rfl, m4⟩ := nt_len hyd
    have x0 := hgx.cell 0
    have x1 := hgx.cell 1
    have x2 := hgx.cell 2
    have y0 := hgy.cell 0
    have y1 := hgy.cell 1
    have y2 := hgy.cell 2
    have kx := hgx.lt
    have ky := hgy.lt
    have dN := dig_lim N
    have dD := dig_lim D
    have dM := dig_lim M
    have dC := dig_lim C
    have nex : w.heap.size + 1 + 1 ≠ gx := Nat.ne_of_lt hgx2
    have ney : w.heap.size + 1 + 1 ≠ gy := Nat.ne_of_lt hgy2
    have hk0 : Below wc.heap.size wc wc.drew := (Below.refl _ _).drew
    have VP : Hid (val (lim N) * val (lim M) = N * M) := by show _ = _; rw [val_lim, val_lim]
    have VQ : Hid (val (lim D) * val (lim C) = D * C) := by show _ = _; rw [val_lim, val_lim]
    have lP : (lim (N * M)).length ≤ 800 := lim_mul_len dN dM (val_lim _).symm (val_lim _).symm lN lM
    have lQ : (lim (D * C)).length ≤ 800 := lim_mul_len dD dC (val_lim _).symm (val_lim _).symm lD lC
    obtain ⟨P, hP⟩ : ∃ P, N * M = P := ⟨_, rfl⟩
    obtain ⟨Q, hQ⟩ : ∃ Q, D * C = Q := ⟨_, rfl⟩
    rw [hP] at VP lP
    rw [hQ] at VQ lQ
    have HP := Lib.hid hP
    have HQ := Lib.hid hQ
    clear hP hQ
    have WP := Lib.hid (val_lim P)
    have WQ := Lib.hid (val_lim Q)
    obtain ⟨ST, hST⟩ : ∃ b, (S != T) = b := ⟨_, rfl⟩
    have HST := Lib.hid hST
    obtain ⟨FS, hFS⟩ : ∃ z, nrS ST P Q = z := ⟨_, rfl⟩
    obtain ⟨FN, hFN⟩ : ∃ z, nrN P Q = z := ⟨_, rfl⟩
    obtain ⟨FD, hFD⟩ : ∃ z, nrD P Q = z := ⟨_, rfl⟩
    have HFS := Lib.hid hFS
    have HFN := Lib.hid hFN
    have HFD := Lib.hid hFD
    clear hFS hFN hFD
    have hbe : (!(S == T)) = ST := hST
    clear hST
    go_wp2_with fail
    go_region_held3 (fun W => W.cell? ⟨gx, 0, none⟩ = some (.bool S) ∧ W.cell? ⟨gx, 1, none⟩ = some (.slice A1 (lim N).length k1) ∧ W.cell? ⟨gx, 2, none⟩ = some (.slice A2 (lim D).length k2) ∧ W.cell? ⟨gy, 0, none⟩ = some (.bool T) ∧ W.cell? ⟨gy, 1, none⟩ = some (.slice A3 (lim M).length k3) ∧ W.cell? ⟨gy, 2, none⟩ = some (.slice A4 (lim C).length k4))
      (first | exact s6g_set (s6g_of hk9 x0 x1 x2 y0 y1 y2 kx ky) nex ney | exact s6g_of hk9 x0 x1 x2 y0 y1 y2 kx ky | exact s6g_of hk8 x0 x1 x2 y0 y1 y2 kx ky | exact s6g_of hk7 x0 x1 x2 y0 y1 y2 kx ky | exact s6g_of hk0 x0 x1 x2 y0 y1 y2 kx ky | fail)
      (first
        | (have hx := hk8; go_at_call 145; refine (ratOf_any ST _ _ (lim P) (lim Q) _ (dig_lim P) (dig_lim Q) (h7.after hb8) (h8.low (Nat.zero_le _)) (by omega) (by omega)).mono ?_; rw [WP.out, WQ.out, HFS.out, HFN.out, HFD.out]; rintro e w9 ⟨v9, rfl, ⟨an, ad, rfl, han, had⟩, hb9⟩; have han' := han; have had' := had; obtain ⟨A5, k5, rfl, m5⟩ := nt_len han'; obtain ⟨A6, k6, rfl, m6⟩ := nt_len had'; clear han' had'; have hk9 : Below wc.heap.size wc w9 := hk8.trans (hb9.mono hk8.size); have q9 := hres.below hk9 hres.lt; have r0 := q9.cell 0; have r1 := q9.cell 1; have r2 := q9.cell 2; have f0 := q9.free 0; have f1 := q9.free 1; have f2 := q9.free 2)
        | (have hx := hk7; go_at_call 151; refine (refMul_any _ _ (lim D) (lim C) _ dD dC (hxd.after hk7) (hyd.after hk7) (by omega) (by omega)).mono ?_; rw [VQ.out]; rintro e w8 ⟨v8, rfl, h8, hb8⟩; have hk8 : Below wc.heap.size wc w8 := hk7.trans (hb8.mono hk7.size))
        | (go_at_call 151; refine (refMul_any _ _ (lim N) (lim M) _ dN dM hxn.drew hyn.drew (by omega) (by omega)).mono ?_; rw [VP.out]; rintro e w7 ⟨v7, rfl, h7, hb7⟩; replace h7 := h7.low (Nat.zero_le _); have hk7 : Below wc.heap.size wc w7 := Below.trans (Below.drew (Below.refl _ _)) hb7)
        | fail)
    obtain ⟨e0, e1, e2, hR, hBf⟩ := store3 q9 (hBc.trans (hk9.mono hBc.size)) (by omega) FS (.slice A5 (lim FN).length k5) (.slice A6 (lim FD).length k6) (han.low (Nat.le_trans hres.lt hk8.size)) (had.low (Nat.le_trans hres.lt hk8.size))
    have HR := Lib.hid hR
    have HBF := Lib.hid hBf
    clear r0 r1 r2 f0 f1 f2 q9 han had hR hBf h7 h8 hb7 hb8 hb9
    unfold St3 at *
    go_wp2_with fail
    generalize ((World.setCell w9 ⟨w.heap.size + 1 + 1, 0, none⟩ (.bool FS)).setCell ⟨w.heap.size + 1 + 1, 1, none⟩ (.slice A5 (lim FN).length k5)).setCell ⟨w.heap.size + 1 + 1, 2, none⟩ (.slice A6 (lim FD).length k6) = WW at *
    refine bodyPost_ret (v := .agg #[.bool FS, .slice A5 (lim FN).length k5, .slice A6 (lim FD).length k6]) ?_ rfl (by show GivesT _ _ _ _ _ _; rw [HST.out, HP.out, HQ.out, HFS.out, HFN.out, HFD.out]; exact ⟨_, rfl, HR.out, HBF.out⟩)
    simp [results, Tryz.results91, go_sem, e0, e1, e2]
end Go.Proofs.YtchokmhfgikglaaGreatDoor

namespace Go.Proofs.YtchokmhfgikglaaGreatDoor
set_option maxRecDepth 100000
open Go.RowKit

/-- What hands back a new number, and yes. -/
def GivesTB (s : Bool) (n d : Nat) (w : World) (e : Ending) (w' : World) : Prop :=
  ∃ v', e = .returned (.tuple #[v', .bool true]) ∧ Rt w' w.heap.size w'.heap.size v' s (lim n) (lim d) ∧ Below w.heap.size w w'

set_option maxHeartbeats 3200000 in
theorem ratDiv_any (u v : Value) (s t : Bool) (n d m c : List Nat) (w : World) (dn : Dig n) (dd : Dig d) (dm : Dig m) (dc : Dig c) (h : Rt w 0 w.heap.size u s n d) (h' : Rt w 0 w.heap.size v t m c)
    (ln : n.length ≤ 400) (ld : d.length ≤ 400) (lm : m.length ≤ 400) (lc : c.length ≤ 400) (S T : Bool) (N D M C : Nat) (hS : nrS s (val n) (val d) = S) (hN : nrN (val n) (val d) = N) (hD : nrD (val n) (val d) = D)
    (hM0 : M ≠ 0) (hT : nrS t (val m) (val c) = T) (hM : nrN (val m) (val c) = M) (hC : nrD (val m) (val c) = C) :
    Calls Tryz.prog 93 #[u, v] w (GivesTB (nrS (S != T) (N * C) (D * M)) (nrN (N * C) (D * M)) (nrD (N * C) (D * M)) w) := by
  obtain ⟨vn, vd, rfl, hn, hd⟩ := h
  obtain ⟨vm, vc, rfl, hm, hc⟩ := h'
  have hS' := Lib.hid hS
  have hN' := Lib.hid hN
  have hD' := Lib.hid hD
  have hT' := Lib.hid hT
  have hM' := Lib.hid hM
  have hC' := Lib.hid hC
  have lN : (lim N).length ≤ 400 := by rw [← hN]; exact nrN_len dn ln
  have lM : (lim M).length ≤ 400 := by rw [← hM]; exact nrN_len dm lm
  have lD : (lim D).length ≤ 400 := by rw [← hD]; exact nrD_len dd ld (by omega)
  have lC : (lim C).length ≤ 400 := by rw [← hC]; exact nrD_len dc lc (by omega)
  clear hS hN hD hT hM hC
  go_enter Tryz.func93, Tryz.ntmps93
  go_wp2_with fail
  have b0 := ((Blk.new w 60 #[.bool s, vn, vd]).alloc (.cells #[.bool t, vm, vc] 60)).alloc (.cells #[.bool false, .slice none 0 0, .slice none 0 0] 60)
  have b1 := (Blk.new (w.alloc (.cells #[.bool s, vn, vd] 60)) 60 #[.bool t, vm, vc]).alloc (.cells #[.bool false, .slice none 0 0, .slice none 0 0] 60)
  have b2 := Blk.new ((w.alloc (.cells #[.bool s, vn, vd] 60)).alloc (.cells #[.bool t, vm, vc] 60)) 60 #[.bool false, .slice none 0 0, .slice none 0 0]
  have hB : Below w.heap.size w (((w.alloc (.cells #[.bool s, vn, vd] 60)).alloc (.cells #[.bool t, vm, vc] 60)).alloc (.cells #[.bool false, .slice none 0 0, .slice none 0 0] 60)) := (((Below.refl _ _).alloc (Nat.le_refl _) _).alloc (by simp) _).alloc (by simp; omega) _
  have es : (w.alloc (.cells #[.bool s, vn, vd] 60)).heap.size = w.heap.size + 1 := by simp
  have es2 : ((w.alloc (.cells #[.bool s, vn, vd] 60)).alloc (.cells #[.bool t, vm, vc] 60)).heap.size = w.heap.size + 1 + 1 := by simp
  rw [es] at b1
  rw [es2] at b2
  clear es es2
  generalize ((w.alloc (.cells #[.bool s, vn, vd] 60)).alloc (.cells #[.bool t, vm, vc] 60)).alloc (.cells #[.bool false, .slice none 0 0, .slice none 0 0] 60) = w2 at *
  have hn2 := hn.after hB
  have hd2 := hd.after hB
  have hm2 := hm.after hB
  have hc2 := hc.after hB
  clear hn hd hm hc
  go_cut [6, 7] from 8 to 11 (fun p q wx => R2 w S T N D M C p q wx)
  case first =>
    have c00 := b0.cell 0
    have c01 := b0.cell 1
    have c02 := b0.cell 2
    have c10 := b1.cell 0
    have c11 := b1.cell 1
    have c12 := b1.cell 2
    have hg := b1.lt
    have SW : Hid (w.heap.size + 2 < w2.heap.size) := b2.lt
    obtain ⟨An, k1, rfl, m1⟩ := nt_len hn2
    obtain ⟨Ad, k2, rfl, m2⟩ := nt_len hd2
    obtain ⟨Am, k3, rfl, m3⟩ := nt_len hm2
    obtain ⟨Ac, k4, rfl, m4⟩ := nt_len hc2
    have HS0 : Hid (Below w2.heap.size w2 w2 ∧ w2.cell? ⟨w.heap.size, 0, none⟩ = some (.bool s) ∧ w2.cell? ⟨w.heap.size, 1, none⟩ = some (.slice An n.length k1) ∧ w2.cell? ⟨w.heap.size, 2, none⟩ = some (.slice Ad d.length k2) ∧ w2.cell? ⟨w.heap.size + 1, 0, none⟩ = some (.bool t) ∧ w2.cell? ⟨w.heap.size + 1, 1, none⟩ = some (.slice Am m.length k3) ∧ w2.cell? ⟨w.heap.size + 1, 2, none⟩ = some (.slice Ac c.length k4)) := ⟨Below.refl _ _, c00, c01, c02, c10, c11, c12⟩
    have HS2 : Hid (Below w2.heap.size w2 w2.drew ∧ w2.drew.cell? ⟨w.heap.size, 0, none⟩ = some (.bool s) ∧ w2.drew.cell? ⟨w.heap.size, 1, none⟩ = some (.slice An n.length k1) ∧ w2.drew.cell? ⟨w.heap.size, 2, none⟩ = some (.slice Ad d.length k2) ∧ w2.drew.cell? ⟨w.heap.size + 1, 0, none⟩ = some (.bool t) ∧ w2.drew.cell? ⟨w.heap.size + 1, 1, none⟩ = some (.slice Am m.length k3) ∧ w2.drew.cell? ⟨w.heap.size + 1, 2, none⟩ = some (.slice Ac c.length k4)) := ⟨(Below.refl _ _).drew, c00, c01, c02, c10, c11, c12⟩
    go_region_held3 (fun W => Below w2.heap.size w2 W ∧ W.cell? ⟨w.heap.size, 0, none⟩ = some (.bool s) ∧ W.cell? ⟨w.heap.size, 1, none⟩ = some (.slice An n.length k1) ∧ W.cell? ⟨w.heap.size, 2, none⟩ = some (.slice Ad d.length k2) ∧ W.cell? ⟨w.heap.size + 1, 0, none⟩ = some (.bool t) ∧ W.cell? ⟨w.heap.size + 1, 1, none⟩ = some (.slice Am m.length k3) ∧ W.cell? ⟨w.heap.size + 1, 2, none⟩ = some (.slice Ac c.length k4))
      (first | ((repeat (with_reducible (first | exact HS4.out | exact HS3.out | exact HS2.out | exact HS0.out | refine keep6d ?_ | refine keep6s ?_ (by have h3 := SZ3.out; have h4 := SZ4.out; omega) hg _ _ | refine keep6 ?_ ((Below.refl _ _).alloc (Nat.le_refl _) _) hg))); done) | fail)
      (first
        | (have hz := z2; have hx := hk3; go_at_call 43; refine (ratNorm_any _ t m c _ dm dc ⟨_, _, rfl, hm2.after (And.left (by assumption)), hc2.after (And.left (by assumption))⟩ (by omega) (by omega)).mono ?_; rw [hT'.out, hM'.out, hC'.out]; rintro e w4 ⟨v4, rfl, ⟨yn, yd, rfl, hyn, hyd⟩, hb4⟩; have HS4 := Lib.hid (keep6 (by assumption) hb4 hg); have SZ4 := Lib.hid (Below.size (And.left HS4.out)); have hyn' := hyn; have hyd' := hyd; obtain ⟨A5, k5, rfl, m5⟩ := nt_len hyn'; obtain ⟨A6, k6, rfl, m6⟩ := nt_len hyd'; clear hyn' hyd'; have y1 := z1.call0 hb4; have y2 := z2.call0 hb4; obtain ⟨f10, f11, f12, f13, f14, f15⟩ := y1.facts; obtain ⟨f20, f21, f22, f23, f24, f25⟩ := y2.facts; have SY := Lib.hid (show w3.heap.size + 0 ≤ w4.heap.size from Nat.le_trans (by simp) hb4.size); have Q4 := Lib.hid (Q0.of 2 0 hxn hxd (by simp) hb4 hyn hyd (by simp) b2 (And.left HS4.out) hB); clear hxn hxd hyn hyd)
        | (have hz := z1; have hx := hk3; go_at_call 43; refine (ratNorm_any _ t m c _ dm dc ⟨_, _, rfl, hm2.after (And.left (by assumption)), hc2.after (And.left (by assumption))⟩ (by omega) (by omega)).mono ?_; rw [hT'.out, hM'.out, hC'.out]; rintro e w4 ⟨v4, rfl, ⟨yn, yd, rfl, hyn, hyd⟩, hb4⟩; have HS4 := Lib.hid (keep6 (by assumption) hb4 hg); have SZ4 := Lib.hid (Below.size (And.left HS4.out)); have hyn' := hyn; have hyd' := hyd; obtain ⟨A5, k5, rfl, m5⟩ := nt_len hyn'; obtain ⟨A6, k6, rfl, m6⟩ := nt_len hyd'; clear hyn' hyd'; refine (fun (hq : Below (World.heap (World.alloc w3 (.cells #[.bool false, .slice none 0 0, .slice none 0 0] 60))).size (World.alloc w3 (.cells #[.bool false, .slice none 0 0, .slice none 0 0] 60)) w4) => ?_) ?_; rotate_left; with_reducible assumption; have y1 := z1.call1 hq; have y2 := zr_one hq; obtain ⟨f10, f11, f12, f13, f14, f15⟩ := y1.facts; obtain ⟨f20, f21, f22, f23, f24, f25⟩ := y2.facts; have ne1 := z1.ne; have ne2 := ne1.symm; have SY := Lib.hid (show w3.heap.size + 1 ≤ w4.heap.size from Nat.le_trans (by simp) hb4.size); have Q4 := Lib.hid (Q0.of 1 1 hxn hxd (by simp) (((Below.refl w3.heap.size w3).alloc (Nat.le_refl _) (.cells #[.bool false, .slice none 0 0, .slice none 0 0] 60)).trans (hq.mono (by simp))) hyn hyd (by simp) b2 (And.left HS4.out) hB); clear hxn hxd hyn hyd)
        | (have hz := z1; have hx := hk3; go_at_call 43; refine (ratNorm_any _ t m c _ dm dc ⟨_, _, rfl, hm2.after (And.left (by assumption)), hc2.after (And.left (by assumption))⟩ (by omega) (by omega)).mono ?_; rw [hT'.out, hM'.out, hC'.out]; rintro e w4 ⟨v4, rfl, ⟨yn, yd, rfl, hyn, hyd⟩, hb4⟩; have HS4 := Lib.hid (keep6 (by assumption) hb4 hg); have SZ4 := Lib.hid (Below.size (And.left HS4.out)); have hyn' := hyn; have hyd' := hyd; obtain ⟨A5, k5, rfl, m5⟩ := nt_len hyn'; obtain ⟨A6, k6, rfl, m6⟩ := nt_len hyd'; clear hyn' hyd'; have y1 := z1.call0 hb4; obtain ⟨f10, f11, f12, f13, f14, f15⟩ := y1.facts; obtain ⟨ga0, ga1, ga2, ga3, ga4, ga5⟩ := y1.more (.cells #[.bool false, .slice none 0 0, .slice none 0 0] 60); obtain ⟨gb0, gb1, gb2, gb3, gb4, gb5⟩ := y1.more (.cells #[.bool S, .slice A7 (lim N).length k7, .slice A8 (lim D).length k8] 60); obtain ⟨gc0, gc1, gc2, gc3, gc4, gc5⟩ := y1.more (.cells #[.bool T, .slice A5 (lim M).length k5, .slice A6 (lim C).length k6] 60); have ne1 := y1.ne; have ne2 := ne1.symm; have SY := Lib.hid (show w3.heap.size + 0 ≤ w4.heap.size from Nat.le_trans (by simp) hb4.size); have Q4 := Lib.hid (Q0.of 1 0 hxn hxd (by simp) hb4 hyn hyd (by simp) b2 (And.left HS4.out) hB); clear hxn hxd hyn hyd)
        | (have hx := hk3; go_at_call 43; refine (ratNorm_any _ t m c _ dm dc ⟨_, _, rfl, hm2.after (And.left (by assumption)), hc2.after (And.left (by assumption))⟩ (by omega) (by omega)).mono ?_; rw [hT'.out, hM'.out, hC'.out]; rintro e w4 ⟨v4, rfl, ⟨yn, yd, rfl, hyn, hyd⟩, hb4⟩; have HS4 := Lib.hid (keep6 (by assumption) hb4 hg); have SZ4 := Lib.hid (Below.size (And.left HS4.out)); have hyn' := hyn; have hyd' := hyd; obtain ⟨A5, k5, rfl, m5⟩ := nt_len hyn'; obtain ⟨A6, k6, rfl, m6⟩ := nt_len hyd'; clear hyn' hyd'; refine (fun (hq : Below (World.heap (World.alloc (World.alloc w3 (.cells #[.bool false, .slice none 0 0, .slice none 0 0] 60)) (.cells #[.bool false, .slice none 0 0, .slice none 0 0] 60))).size (World.alloc (World.alloc w3 (.cells #[.bool false, .slice none 0 0, .slice none 0 0] 60)) (.cells #[.bool false, .slice none 0 0, .slice none 0 0] 60)) w4) => ?_) ?_; rotate_left; with_reducible assumption; obtain ⟨y1, y2⟩ := zr_two hq; obtain ⟨f10, f11, f12, f13, f14, f15⟩ := y1.facts; obtain ⟨f20, f21, f22, f23, f24, f25⟩ := y2.facts; have SY := Lib.hid (show w3.heap.size + 2 ≤ w4.heap.size from Nat.le_trans (by simp) hb4.size); have Q4 := Lib.hid (Q0.of 0 2 hxn hxd (by simp) ((((Below.refl w3.heap.size w3).alloc (Nat.le_refl _) (.cells #[.bool false, .slice none 0 0, .slice none 0 0] 60)).alloc (by simp) (.cells #[.bool false, .slice none 0 0, .slice none 0 0] 60)).trans (hq.mono (by simp; omega))) hyn hyd (by simp) b2 (And.left HS4.out) hB); clear hxn hxd hyn hyd)
        | (have hx := hk3; go_at_call 43; refine (ratNorm_any _ t m c _ dm dc ⟨_, _, rfl, hm2.after (And.left (by assumption)), hc2.after (And.left (by assumption))⟩ (by omega) (by omega)).mono ?_; rw [hT'.out, hM'.out, hC'.out]; rintro e w4 ⟨v4, rfl, ⟨yn, yd, rfl, hyn, hyd⟩, hb4⟩; have HS4 := Lib.hid (keep6 (by assumption) hb4 hg); have SZ4 := Lib.hid (Below.size (And.left HS4.out)); have hyn' := hyn; have hyd' := hyd; obtain ⟨A5, k5, rfl, m5⟩ := nt_len hyn'; obtain ⟨A6, k6, rfl, m6⟩ := nt_len hyd'; clear hyn' hyd'; refine (fun (hq : Below (World.heap (World.alloc w3 (.cells #[.bool false, .slice none 0 0, .slice none 0 0] 60))).size (World.alloc w3 (.cells #[.bool false, .slice none 0 0, .slice none 0 0] 60)) w4) => ?_) ?_; rotate_left; with_reducible assumption; have y1 := zr_one hq; obtain ⟨f10, f11, f12, f13, f14, f15⟩ := y1.facts; obtain ⟨ga0, ga1, ga2, ga3, ga4, ga5⟩ := y1.more (.cells #[.bool false, .slice none 0 0, .slice none 0 0] 60); obtain ⟨gb0, gb1, gb2, gb3, gb4, gb5⟩ := y1.more (.cells #[.bool S, .slice A7 (lim N).length k7, .slice A8 (lim D).length k8] 60); obtain ⟨gc0, gc1, gc2, gc3, gc4, gc5⟩ := y1.more (.cells #[.bool T, .slice A5 (lim M).length k5, .slice A6 (lim C).length k6] 60); have ne1 := y1.ne; have ne2 := ne1.symm; have SY := Lib.hid (show w3.heap.size + 1 ≤ w4.heap.size from Nat.le_trans (by simp) hb4.size); have Q4 := Lib.hid (Q0.of 0 1 hxn hxd (by simp) (((Below.refl w3.heap.size w3).alloc (Nat.le_refl _) (.cells #[.bool false, .slice none 0 0, .slice none 0 0] 60)).trans (hq.mono (by simp))) hyn hyd (by simp) b2 (And.left HS4.out) hB); clear hxn hxd hyn hyd)
        | (have hx := hk3; go_at_call 43; refine (ratNorm_any _ t m c _ dm dc ⟨_, _, rfl, hm2.after (And.left (by assumption)), hc2.after (And.left (by assumption))⟩ (by omega) (by omega)).mono ?_; rw [hT'.out, hM'.out, hC'.out]; rintro e w4 ⟨v4, rfl, ⟨yn, yd, rfl, hyn, hyd⟩, hb4⟩; have HS4 := Lib.hid (keep6 (by assumption) hb4 hg); have SZ4 := Lib.hid (Below.size (And.left HS4.out)); have hyn' := hyn; have hyd' := hyd; obtain ⟨A5, k5, rfl, m5⟩ := nt_len hyn'; obtain ⟨A6, k6, rfl, m6⟩ := nt_len hyd'; clear hyn' hyd'; have SY := Lib.hid (show w3.heap.size + 0 ≤ w4.heap.size from Nat.le_trans (by simp) hb4.size); have Q4 := Lib.hid (Q0.of 0 0 hxn hxd (by simp) hb4 hyn hyd (by simp) b2 (And.left HS4.out) hB); clear hxn hxd hyn hyd)
        | (go_at_call 43; refine (ratNorm_any _ s n d _ dn dd ⟨_, _, rfl, hn2.after (And.left (by assumption)), hd2.after (And.left (by assumption))⟩ (by omega) (by omega)).mono ?_; rw [hS'.out, hN'.out, hD'.out]; rintro e w3 ⟨v3, rfl, ⟨xn, xd, rfl, hxn, hxd⟩, hk3⟩; have HS3 := Lib.hid (keep6 (by assumption) hk3 hg); have SZ3 := Lib.hid (Below.size (And.left HS3.out)); have hxn' := hxn; have hxd' := hxd; obtain ⟨A7, k7, rfl, m7⟩ := nt_len hxn'; obtain ⟨A8, k8, rfl, m8⟩ := nt_len hxd'; clear hxn' hxd'; refine (fun (hq : Below (World.heap (World.drew (World.alloc (World.alloc w2 (.cells #[.bool false, .slice none 0 0, .slice none 0 0] 60)) (.cells #[.bool false, .slice none 0 0, .slice none 0 0] 60)))).size (World.drew (World.alloc (World.alloc w2 (.cells #[.bool false, .slice none 0 0, .slice none 0 0] 60)) (.cells #[.bool false, .slice none 0 0, .slice none 0 0] 60))) w3) => ?_) ?_; rotate_left; with_reducible assumption; obtain ⟨z1, z2⟩ := zr_two (below_undrew hq); have SX := Lib.hid (show w2.heap.size + 2 ≤ w3.heap.size from Nat.le_trans (by simp) hk3.size))
        | (go_at_call 43; refine (ratNorm_any _ s n d _ dn dd ⟨_, _, rfl, hn2.after (And.left (by assumption)), hd2.after (And.left (by assumption))⟩ (by omega) (by omega)).mono ?_; rw [hS'.out, hN'.out, hD'.out]; rintro e w3 ⟨v3, rfl, ⟨xn, xd, rfl, hxn, hxd⟩, hk3⟩; have HS3 := Lib.hid (keep6 (by assumption) hk3 hg); have SZ3 := Lib.hid (Below.size (And.left HS3.out)); have hxn' := hxn; have hxd' := hxd; obtain ⟨A7, k7, rfl, m7⟩ := nt_len hxn'; obtain ⟨A8, k8, rfl, m8⟩ := nt_len hxd'; clear hxn' hxd'; refine (fun (hq : Below (World.heap (World.drew (World.alloc w2 (.cells #[.bool false, .slice none 0 0, .slice none 0 0] 60)))).size (World.drew (World.alloc w2 (.cells #[.bool false, .slice none 0 0, .slice none 0 0] 60))) w3) => ?_) ?_; rotate_left; with_reducible assumption; have z1 := zr_one (below_undrew hq); have SX := Lib.hid (show w2.heap.size + 1 ≤ w3.heap.size from Nat.le_trans (by simp) hk3.size))
        | (go_at_call 43; refine (ratNorm_any _ s n d _ dn dd ⟨_, _, rfl, hn2.after (And.left (by assumption)), hd2.after (And.left (by assumption))⟩ (by omega) (by omega)).mono ?_; rw [hS'.out, hN'.out, hD'.out]; rintro e w3 ⟨v3, rfl, ⟨xn, xd, rfl, hxn, hxd⟩, hk3⟩; have HS3 := Lib.hid (keep6 (by assumption) hk3 hg); have SZ3 := Lib.hid (Below.size (And.left HS3.out)); have hxn' := hxn; have hxd' := hxd; obtain ⟨A7, k7, rfl, m7⟩ := nt_len hxn'; obtain ⟨A8, k8, rfl, m8⟩ := nt_len hxd'; clear hxn' hxd'; have SX := Lib.hid (show w2.heap.size + 0 ≤ w3.heap.size from Nat.le_trans (by simp) hk3.size))
        | fail)
    all_goals (go_wp2_with fail; go_meet)
    all_goals (have hx3 := SX.out; have hy4 := SY.out; have hw2 := SW.out)
    all_goals first
      | with_reducible exact r2_a Q4.out (by omega)
      | with_reducible exact r2_b Q4.out (by omega)
      | with_reducible exact r2_c Q4.out y1 (by omega) (by omega)
      | with_reducible exact r2_e Q4.out y1 (by omega) (by omega)
      | with_reducible exact r2_d Q4.out y1 y2 (by omega) (by omega) (by omega)
      | with_reducible exact r2_d Q4.out y2 y1 (by omega) (by omega) (by omega)
      | trace_state
  case rest =>
    obtain ⟨gx, gy, xn, xd, yn, yd, rfl, rfl, hgx, hgy, hxn, hxd, hyn, hyd, hres, hBc, hgx2, hgy2⟩ := hcut
    clear hB b0 b1 b2 hn2 hd2 hm2 hc2
    obtain ⟨A1, k1, rfl, m1⟩ := nt_len hxn
    obtain ⟨A2, k2, rfl, m2⟩ := nt_len hxd
    obtain ⟨A3, k3, rfl, m3⟩ := nt_len hyn
    obtain ⟨A4, k4, rfl, m4⟩ := nt_len hyd
    have x0 := hgx.cell 0
    have x1 := hgx.cell 1
    have x2 := hgx.cell 2
    have y0 := hgy.cell 0
    have y1 := hgy.cell 1
    have y2 := hgy.cell 2
    have kx := hgx.lt
    have ky := hgy.lt
    have dN := dig_lim N
    have dD := dig_lim D
    have dM := dig_lim M
    have dC := dig_lim C
    have nex : w.heap.size + 1 + 1 ≠ gx := Nat.ne_of_lt hgx2
    have ney : w.heap.size + 1 + 1 ≠ gy := Nat.ne_of_lt hgy2
    have hk0 : Below wc.heap.size wc wc.drew := (Below.refl _ _).drew
    have VP : Hid (val (lim N) * val (lim C) = N * C) := by show _ = _; rw [val_lim, val_lim]
    have VQ : Hid (val (lim D) * val (lim M) = D * M) := by show _ = _; rw [val_lim, val_lim]
    have lP : (lim (N * C)).length ≤ 800 := lim_mul_len dN dC (val_lim _).symm (val_lim _).symm lN lC
    have lQ : (lim (D * M)).length ≤ 800 := lim_mul_len dD dM (val_lim _).symm (val_lim _).symm lD lM
    obtain ⟨P, hP⟩ : ∃ P, N * C = P := ⟨_, rfl⟩
    obtain ⟨Q, hQ⟩ : ∃ Q, D * M = Q := ⟨_, rfl⟩
    rw [hP] at VP lP
    rw [hQ] at VQ lQ
    have HP := Lib.hid hP
    have HQ := Lib.hid hQ
    clear hP hQ
    have WP := Lib.hid (val_lim P)
    have WQ := Lib.hid (val_lim Q)
    obtain ⟨ST, hST⟩ : ∃ b, (S != T) = b := ⟨_, rfl⟩
    have HST := Lib.hid hST
    obtain ⟨FS, hFS⟩ : ∃ z, nrS ST P Q = z := ⟨_, rfl⟩
    obtain ⟨FN, hFN⟩ : ∃ z, nrN P Q = z := ⟨_, rfl⟩
    obtain ⟨FD, hFD⟩ : ∃ z, nrD P Q = z := ⟨_, rfl⟩
    have HFS := Lib.hid hFS
    have HFN := Lib.hid hFN
    have HFD := Lib.hid hFD
    clear hFS hFN hFD
    have hbe : (!(S == T)) = ST := hST
    clear hST
    have hlm : ((((lim M).length : Nat) : Int) == 0) = false := by
      have : (lim M).length ≠ 0 := fun hc => hM0 (lim_eq_nil.1 (List.eq_nil_of_length_eq_zero hc))
      simp [this]
    clear hM0
    go_wp2_with fail
    go_region_held3 (fun W => W.cell? ⟨gx, 0, none⟩ = some (.bool S) ∧ W.cell? ⟨gx, 1, none⟩ = some (.slice A1 (lim N).length k1) ∧ W.cell? ⟨gx, 2, none⟩ = some (.slice A2 (lim D).length k2) ∧ W.cell? ⟨gy, 0, none⟩ = some (.bool T) ∧ W.cell? ⟨gy, 1, none⟩ = some (.slice A3 (lim M).length k3) ∧ W.cell? ⟨gy, 2, none⟩ = some (.slice A4 (lim C).length k4))
      (first | exact s6g_set (s6g_of hk9 x0 x1 x2 y0 y1 y2 kx ky) nex ney | exact s6g_of hk9 x0 x1 x2 y0 y1 y2 kx ky | exact s6g_of hk8 x0 x1 x2 y0 y1 y2 kx ky | exact s6g_of hk7 x0 x1 x2 y0 y1 y2 kx ky | exact s6g_of hk0 x0 x1 x2 y0 y1 y2 kx ky | fail)
      (first
        | (have hx := hk8; go_at_call 145; refine (ratOf_any ST _ _ (lim P) (lim Q) _ (dig_lim P) (dig_lim Q) (h7.after hb8) (h8.low (Nat.zero_le _)) (by omega) (by omega)).mono ?_; rw [WP.out, WQ.out, HFS.out, HFN.out, HFD.out]; rintro e w9 ⟨v9, rfl, ⟨an, ad, rfl, han, had⟩, hb9⟩; have han' := han; have had' := had; obtain ⟨A5, k5, rfl, m5⟩ := nt_len han'; obtain ⟨A6, k6, rfl, m6⟩ := nt_len had'; clear han' had'; have hk9 : Below wc.heap.size wc w9 := hk8.trans (hb9.mono hk8.size); have q9 := hres.below hk9 hres.lt; have r0 := q9.cell 0; have r1 := q9.cell 1; have r2 := q9.cell 2; have f0 := q9.free 0; have f1 := q9.free 1; have f2 := q9.free 2)
        | (have hx := hk7; go_at_call 151; refine (refMul_any _ _ (lim D) (lim M) _ dD dM (hxd.after hk7) (hyn.after hk7) (by omega) (by omega)).mono ?_; rw [VQ.out]; rintro e w8 ⟨v8, rfl, h8, hb8⟩; have hk8 : Below wc.heap.size wc w8 := hk7.trans (hb8.mono hk7.size))
        | (go_at_call 151; refine (refMul_any _ _ (lim N) (lim C) _ dN dC hxn.drew hyd.drew (by omega) (by omega)).mono ?_; rw [VP.out]; rintro e w7 ⟨v7, rfl, h7, hb7⟩; replace h7 := h7.low (Nat.zero_le _); have hk7 : Below wc.heap.size wc w7 := Below.trans (Below.drew (Below.refl _ _)) hb7)
        | fail)
    obtain ⟨e0, e1, e2, hR, hBf⟩ := store3 q9 (hBc.trans (hk9.mono hBc.size)) (by omega) FS (.slice A5 (lim FN).length k5) (.slice A6 (lim FD).length k6) (han.low (Nat.le_trans hres.lt hk8.size)) (had.low (Nat.le_trans hres.lt hk8.size))
    have HR := Lib.hid hR
    have HBF := Lib.hid hBf
    clear r0 r1 r2 f0 f1 f2 q9 han had hR hBf h7 h8 hb7 hb8 hb9
    unfold St3 at *
    go_wp2_with fail
    generalize ((World.setCell w9 ⟨w.heap.size + 1 + 1, 0, none⟩ (.bool FS)).setCell ⟨w.heap.size + 1 + 1, 1, none⟩ (.slice A5 (lim FN).length k5)).setCell ⟨w.heap.size + 1 + 1, 2, none⟩ (.slice A6 (lim FD).length k6) = WW at *
    refine bodyPost_ret (v := .tuple #[.agg #[.bool FS, .slice A5 (lim FN).length k5, .slice A6 (lim FD).length k6], .bool true]) ?_ rfl (by show GivesTB _ _ _ _ _ _; rw [HST.out, HP.out, HQ.out, HFS.out, HFN.out, HFD.out]; exact ⟨_, rfl, HR.out, HBF.out⟩)
    simp [results, Tryz.results93, go_sem, e0, e1, e2]

theorem ratDiv_q (u v : Value) (p q : Rat) (k j : Nat) (w : World) (h : RQ w 0 w.heap.size u p k) (h' : RQ w 0 w.heap.size v q j) (hk : k ≤ 400) (hj : j ≤ 400) (hq : q ≠ 0) : Calls Tryz.prog 93 #[u, v] w (GivesFB (p / q) w) := by
  obtain ⟨s, n, d, hR, dn, dd, ln, ld, rfl⟩ := h
  obtain ⟨t, m, c, hR', dm, dc, lm, lc, rfl⟩ := h'
  obtain ⟨e1, e2, e3⟩ := nr_q s (val n) (val d)
  obtain ⟨f1, f2, f3⟩ := nr_q t (val m) (val c)
  have := ratDiv_any u v s t n d m c w dn dd dm dc hR hR' (by omega) (by omega) (by omega) (by omega) _ _ _ _ _ _ e1 e2 e3 (fun hc => hq (qN_zero.1 hc)) f1 f2 f3
  obtain ⟨g1, g2, g3⟩ := nr_q (qS (qv s (val n) (val d)) != qS (qv t (val m) (val c))) (qN (qv s (val n) (val d)) * (qv t (val m) (val c)).den) ((qv s (val n) (val d)).den * qN (qv t (val m) (val c)))
  rw [g1, g2, g3, qv_div _ _ hq] at this
  exact this
end Go.Proofs.YtchokmhfgikglaaGreatDoor
