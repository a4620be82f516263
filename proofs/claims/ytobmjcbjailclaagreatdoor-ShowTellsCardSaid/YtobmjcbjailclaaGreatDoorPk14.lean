/- Several texts in one: RefRatMul, RefRatDiv, ShowBig, ShowBig3, LawShowBits. Condition: each says its own. -/
import Derived.Deep.QuietTactic
import Derived.WalkSpells
import Derived.BigQuiet
import Derived.Test.YtobmjcbjailclaaGreatDoorPk4
import Derived.Test.YtobmjcbjailclaaGreatDoorPk8
import Derived.Test.YtobmjcbjailclaaGreatDoorPk10
import Derived.Test.YtobmjcbjailclaaGreatDoorPk13
/- The reference's 'Mul' and 'Div' of numbers with a divisor by their contracts. Condition: a bound on lengths. -/
namespace Go.Proofs.YtobmjcbjailclaaGreatDoor
set_option maxRecDepth 100000
open Go.RowKit

theorem s6g_of {w0 W : World} {g h : Nat} {a0 a1 a2 b0 b1 b2 : Value} (hb : Below w0.heap.size w0 W) (c0 : w0.cell? ⟨g, 0, none⟩ = some a0) (c1 : w0.cell? ⟨g, 1, none⟩ = some a1) (c2 : w0.cell? ⟨g, 2, none⟩ = some a2) (d0 : w0.cell? ⟨h, 0, none⟩ = some b0) (d1 : w0.cell? ⟨h, 1, none⟩ = some b1) (d2 : w0.cell? ⟨h, 2, none⟩ = some b2) (hg : g < w0.heap.size) (hh : h < w0.heap.size) :
    W.cell? ⟨g, 0, none⟩ = some a0 ∧ W.cell? ⟨g, 1, none⟩ = some a1 ∧ W.cell? ⟨g, 2, none⟩ = some a2 ∧ W.cell? ⟨h, 0, none⟩ = some b0 ∧ W.cell? ⟨h, 1, none⟩ = some b1 ∧ W.cell? ⟨h, 2, none⟩ = some b2 :=
  ⟨(hb.cell (p := ⟨g, 0, none⟩) hg).trans c0, (hb.cell (p := ⟨g, 1, none⟩) hg).trans c1, (hb.cell (p := ⟨g, 2, none⟩) hg).trans c2, (hb.cell (p := ⟨h, 0, none⟩) hh).trans d0, (hb.cell (p := ⟨h, 1, none⟩) hh).trans d1, (hb.cell (p := ⟨h, 2, none⟩) hh).trans d2⟩

theorem s6g_set {W : World} {g h p : Nat} {a0 a1 a2 b0 b1 b2 u v z : Value} (hs : W.cell? ⟨g, 0, none⟩ = some a0 ∧ W.cell? ⟨g, 1, none⟩ = some a1 ∧ W.cell? ⟨g, 2, none⟩ = some a2 ∧ W.cell? ⟨h, 0, none⟩ = some b0 ∧ W.cell? ⟨h, 1, none⟩ = some b1 ∧ W.cell? ⟨h, 2, none⟩ = some b2) (hg : p ≠ g) (hh : p ≠ h) :
    (((W.setCell ⟨p, 0, none⟩ u).setCell ⟨p, 1, none⟩ v).setCell ⟨p, 2, none⟩ z).cell? ⟨g, 0, none⟩ = some a0 ∧ (((W.setCell ⟨p, 0, none⟩ u).setCell ⟨p, 1, none⟩ v).setCell ⟨p, 2, none⟩ z).cell? ⟨g, 1, none⟩ = some a1 ∧ (((W.setCell ⟨p, 0, none⟩ u).setCell ⟨p, 1, none⟩ v).setCell ⟨p, 2, none⟩ z).cell? ⟨g, 2, none⟩ = some a2 ∧
      (((W.setCell ⟨p, 0, none⟩ u).setCell ⟨p, 1, none⟩ v).setCell ⟨p, 2, none⟩ z).cell? ⟨h, 0, none⟩ = some b0 ∧ (((W.setCell ⟨p, 0, none⟩ u).setCell ⟨p, 1, none⟩ v).setCell ⟨p, 2, none⟩ z).cell? ⟨h, 1, none⟩ = some b1 ∧ (((W.setCell ⟨p, 0, none⟩ u).setCell ⟨p, 1, none⟩ v).setCell ⟨p, 2, none⟩ z).cell? ⟨h, 2, none⟩ = some b2 := by
  obtain ⟨a, b, c, d, e, f⟩ := hs
  exact ⟨far_set3 a hg, far_set3 b hg, far_set3 c hg, far_set3 d hh, far_set3 e hh, far_set3 f hh⟩

set_option maxHeartbeats 3200000 in
theorem ratMul_any (u v : Value) (s t : Bool) (n d m c : List Nat) (w : World) (dn : Dig n) (dd : Dig d) (dm : Dig m) (dc : Dig c) (h : Rt w 0 w.heap.size u s n d) (h' : Rt w 0 w.heap.size v t m c)
    (ln : n.length ≤ 400) (ld : d.length ≤ 400) (lm : m.length ≤ 400) (lc : c.length ≤ 400) (S T : Bool) (N D M C : Nat) (hS : nrS s (val n) (val d) = S) (hN : nrN (val n) (val d) = N) (hD : nrD (val n) (val d) = D)
    (hT : nrS t (val m) (val c) = T) (hM : nrN (val m) (val c) = M) (hC : nrD (val m) (val c) = C) :
    Calls Tryz.prog 19 #[u, v] w (GivesT (nrS (S != T) (N * M) (D * C)) (nrN (N * M) (D * C)) (nrD (N * M) (D * C)) w) := by
  obtain ⟨vn, vd, rfl, hn, hd⟩ := h
  obtain ⟨vm, vc, rfl, hm, hc⟩ := h'
  have hS' := Lib.hid hS
  have hN' := Lib.hid hN
  have hD' := Lib.hid hD
  have hT' := Lib.hid hT
  have hM' := Lib.hid hM
  have hC' := Lib.hid hC
  have lN : (lim N).length ≤ 400 := by rw [← hN]; exact nrN_len dn ln
  have lM : (lim M).length ≤ 400 := by rw [← hM]; exact nrN_len dm lm
  have lD : (lim D).length ≤ 400 := by rw [← hD]; exact nrD_len dd ld (by omega)
  have lC : (lim C).length ≤ 400 := by rw [← hC]; exact nrD_len dc lc (by omega)
  clear hS hN hD hT hM hC
  go_enter Tryz.func19, Tryz.ntmps19
  go_wp2_with fail
  have b0 := ((Blk.new w 25 #[.bool s, vn, vd]).alloc (.cells #[.bool t, vm, vc] 25)).alloc (.cells #[.bool false, .slice none 0 0, .slice none 0 0] 25)
  have b1 := (Blk.new (w.alloc (.cells #[.bool s, vn, vd] 25)) 25 #[.bool t, vm, vc]).alloc (.cells #[.bool false, .slice none 0 0, .slice none 0 0] 25)
  have b2 := Blk.new ((w.alloc (.cells #[.bool s, vn, vd] 25)).alloc (.cells #[.bool t, vm, vc] 25)) 25 #[.bool false, .slice none 0 0, .slice none 0 0]
  have hB : Below w.heap.size w (((w.alloc (.cells #[.bool s, vn, vd] 25)).alloc (.cells #[.bool t, vm, vc] 25)).alloc (.cells #[.bool false, .slice none 0 0, .slice none 0 0] 25)) := (((Below.refl _ _).alloc (Nat.le_refl _) _).alloc (by simp) _).alloc (by simp; omega) _
  have es : (w.alloc (.cells #[.bool s, vn, vd] 25)).heap.size = w.heap.size + 1 := by simp
  have es2 : ((w.alloc (.cells #[.bool s, vn, vd] 25)).alloc (.cells #[.bool t, vm, vc] 25)).heap.size = w.heap.size + 1 + 1 := by simp
  rw [es] at b1
  rw [es2] at b2
  clear es es2
  generalize ((w.alloc (.cells #[.bool s, vn, vd] 25)).alloc (.cells #[.bool t, vm, vc] 25)).alloc (.cells #[.bool false, .slice none 0 0, .slice none 0 0] 25) = w2 at *
  have hn2 := hn.after hB
  have hd2 := hd.after hB
  have hm2 := hm.after hB
  have hc2 := hc.after hB
  clear hn hd hm hc
  go_cut [5, 6] from 7 to 10 (fun p q wx => R2 w S T N D M C p q wx)
  case first =>
    have c00 := b0.cell 0
    have c01 := b0.cell 1
    have c02 := b0.cell 2
    have c10 := b1.cell 0
    have c11 := b1.cell 1
    have c12 := b1.cell 2
    have hg := b1.lt
    have SW : Hid (w.heap.size + 2 < w2.heap.size) := b2.lt
    obtain ⟨An, k1, rfl, m1⟩ := nt_len hn2
    obtain ⟨Ad, k2, rfl, m2⟩ := nt_len hd2
    obtain ⟨Am, k3, rfl, m3⟩ := nt_len hm2
    obtain ⟨Ac, k4, rfl, m4⟩ := nt_len hc2
    have HS0 : Hid (Below w2.heap.size w2 w2 ∧ w2.cell? ⟨w.heap.size, 0, none⟩ = some (.bool s) ∧ w2.cell? ⟨w.heap.size, 1, none⟩ = some (.slice An n.length k1) ∧ w2.cell? ⟨w.heap.size, 2, none⟩ = some (.slice Ad d.length k2) ∧ w2.cell? ⟨w.heap.size + 1, 0, none⟩ = some (.bool t) ∧ w2.cell? ⟨w.heap.size + 1, 1, none⟩ = some (.slice Am m.length k3) ∧ w2.cell? ⟨w.heap.size + 1, 2, none⟩ = some (.slice Ac c.length k4)) := ⟨Below.refl _ _, c00, c01, c02, c10, c11, c12⟩
    have HS2 : Hid (Below w2.heap.size w2 w2.drew ∧ w2.drew.cell? ⟨w.heap.size, 0, none⟩ = some (.bool s) ∧ w2.drew.cell? ⟨w.heap.size, 1, none⟩ = some (.slice An n.length k1) ∧ w2.drew.cell? ⟨w.heap.size, 2, none⟩ = some (.slice Ad d.length k2) ∧ w2.drew.cell? ⟨w.heap.size + 1, 0, none⟩ = some (.bool t) ∧ w2.drew.cell? ⟨w.heap.size + 1, 1, none⟩ = some (.slice Am m.length k3) ∧ w2.drew.cell? ⟨w.heap.size + 1, 2, none⟩ = some (.slice Ac c.length k4)) := ⟨(Below.refl _ _).drew, c00, c01, c02, c10, c11, c12⟩
    go_region_held3 (fun W => Below w2.heap.size w2 W ∧ W.cell? ⟨w.heap.size, 0, none⟩ = some (.bool s) ∧ W.cell? ⟨w.heap.size, 1, none⟩ = some (.slice An n.length k1) ∧ W.cell? ⟨w.heap.size, 2, none⟩ = some (.slice Ad d.length k2) ∧ W.cell? ⟨w.heap.size + 1, 0, none⟩ = some (.bool t) ∧ W.cell? ⟨w.heap.size + 1, 1, none⟩ = some (.slice Am m.length k3) ∧ W.cell? ⟨w.heap.size + 1, 2, none⟩ = some (.slice Ac c.length k4))
      (first | ((repeat (with_reducible (first | exact HS4.out | exact HS3.out | exact HS2.out | exact HS0.out | refine keep6d ?_ | refine keep6s ?_ (by have h3 := SZ3.out; have h4 := SZ4.out; omega) hg _ _ | refine keep6 ?_ ((Below.refl _ _).alloc (Nat.le_refl _) _) hg))); done) | fail)
      (first
        | (have hz := z2; have hx := hk3; go_at_call 22; refine (ratNorm_any _ t m c _ dm dc ⟨_, _, rfl, hm2.after (And.left (by assumption)), hc2.after (And.left (by assumption))⟩ (by omega) (by omega)).mono ?_; rw [hT'.out, hM'.out, hC'.out]; rintro e w4 ⟨v4, rfl, ⟨yn, yd, rfl, hyn, hyd⟩, hb4⟩; have HS4 := Lib.hid (keep6 (by assumption) hb4 hg); have SZ4 := Lib.hid (Below.size (And.left HS4.out)); have hyn' := hyn; have hyd' := hyd; obtain ⟨A5, k5, rfl, m5⟩ := nt_len hyn'; obtain ⟨A6, k6, rfl, m6⟩ := nt_len hyd'; clear hyn' hyd'; have y1 := z1.call0 hb4; have y2 := z2.call0 hb4; obtain ⟨f10, f11, f12, f13, f14, f15⟩ := y1.facts; obtain ⟨f20, f21, f22, f23, f24, f25⟩ := y2.facts; have SY := Lib.hid (show w3.heap.size + 0 ≤ w4.heap.size from Nat.le_trans (by simp) hb4.size); have Q4 := Lib.hid (Q0.of 2 0 hxn hxd (by simp) hb4 hyn hyd (by simp) b2 (And.left HS4.out) hB); clear hxn hxd hyn hyd)
        | (have hz := z1; have hx := hk3; go_at_call 22; refine (ratNorm_any _ t m c _ dm dc ⟨_, _, rfl, hm2.after (And.left (by assumption)), hc2.after (And.left (by assumption))⟩ (by omega) (by omega)).mono ?_; rw [hT'.out, hM'.out, hC'.out]; rintro e w4 ⟨v4, rfl, ⟨yn, yd, rfl, hyn, hyd⟩, hb4⟩; have HS4 := Lib.hid (keep6 (by assumption) hb4 hg); have SZ4 := Lib.hid (Below.size (And.left HS4.out)); have hyn' := hyn; have hyd' := hyd; obtain ⟨A5, k5, rfl, m5⟩ := nt_len hyn'; obtain ⟨A6, k6, rfl, m6⟩ := nt_len hyd'; clear hyn' hyd'; refine (fun (hq : Below (World.heap (World.alloc w3 (.cells #[.bool false, .slice none 0 0, .slice none 0 0] 25))).size (World.alloc w3 (.cells #[.bool false, .slice none 0 0, .slice none 0 0] 25)) w4) => ?_) ?_; rotate_left; with_reducible assumption; have y1 := z1.call1 hq; have y2 := zr_one hq; obtain ⟨f10, f11, f12, f13, f14, f15⟩ := y1.facts; obtain ⟨f20, f21, f22, f23, f24, f25⟩ := y2.facts; have ne1 := z1.ne; have ne2 := ne1.symm; have SY := Lib.hid (show w3.heap.size + 1 ≤ w4.heap.size from Nat.le_trans (by simp) hb4.size); have Q4 := Lib.hid (Q0.of 1 1 hxn hxd (by simp) (((Below.refl w3.heap.size w3).alloc (Nat.le_refl _) (.cells #[.bool false, .slice none 0 0, .slice none 0 0] 25)).trans (hq.mono (by simp))) hyn hyd (by simp) b2 (And.left HS4.out) hB); clear hxn hxd hyn hyd)
        | (have hz := z1; have hx := hk3; go_at_call 22; refine (ratNorm_any _ t m c _ dm dc ⟨_, _, rfl, hm2.after (And.left (by assumption)), hc2.after (And.left (by assumption))⟩ (by omega) (by omega)).mono ?_; rw [hT'.out, hM'.out, hC'.out]; rintro e w4 ⟨v4, rfl, ⟨yn, yd, rfl, hyn, hyd⟩, hb4⟩; have HS4 := Lib.hid (keep6 (by assumption) hb4 hg); have SZ4 := Lib.hid (Below.size (And.left HS4.out)); have hyn' := hyn; have hyd' := hyd; obtain ⟨A5, k5, rfl, m5⟩ := nt_len hyn'; obtain ⟨A6, k6, rfl, m6⟩ := nt_len hyd'; clear hyn' hyd'; have y1 := z1.call0 hb4; obtain ⟨f10, f11, f12, f13, f14, f15⟩ := y1.facts; obtain ⟨ga0, ga1, ga2, ga3, ga4, ga5⟩ := y1.more (.cells #[.bool false, .slice none 0 0, .slice none 0 0] 25); obtain ⟨gb0, gb1, gb2, gb3, gb4, gb5⟩ := y1.more (.cells #[.bool S, .slice A7 (lim N).length k7, .slice A8 (lim D).length k8] 25); obtain ⟨gc0, gc1, gc2, gc3, gc4, gc5⟩ := y1.more (.cells #[.bool T, .slice A5 (lim M).length k5, .slice A6 (lim C).length k6] 25); have ne1 := y1.ne; have ne2 := ne1.symm; have SY := Lib.hid (show w3.heap.size + 0 ≤ w4.heap.size from Nat.le_trans (by simp) hb4.size); have Q4 := Lib.hid (Q0.of 1 0 hxn hxd (by simp) hb4 hyn hyd (by simp) b2 (And.left HS4.out) hB); clear hxn hxd hyn hyd)
        | (have hx := hk3; go_at_call 22; refine (ratNorm_any _ t m c _ dm dc ⟨_, _, rfl, hm2.after (And.left (by assumption)), hc2.after (And.left (by assumption))⟩ (by omega) (by omega)).mono ?_; rw [hT'.out, hM'.out, hC'.out]; rintro e w4 ⟨v4, rfl, ⟨yn, yd, rfl, hyn, hyd⟩, hb4⟩; have HS4 := Lib.hid (keep6 (by assumption) hb4 hg); have SZ4 := Lib.hid (Below.size (And.left HS4.out)); have hyn' := hyn; have hyd' := hyd; obtain ⟨A5, k5, rfl, m5⟩ := nt_len hyn'; obtain ⟨A6, k6, rfl, m6⟩ := nt_len hyd'; clear hyn' hyd'; refine (fun (hq : Below (World.heap (World.alloc (World.alloc w3 (.cells #[.bool false, .slice none 0 0, .slice none 0 0] 25)) (.cells #[.bool false, .slice none 0 0, .slice none 0 0] 25))).size (World.alloc (World.alloc w3 (.cells #[.bool false, .slice none 0 0, .slice none 0 0] 25)) (.cells #[.bool false, .slice none 0 0, .slice none 0 0] 25)) w4) => ?_) ?_; rotate_left; with_reducible assumption; obtain ⟨y1, y2⟩ := zr_two hq; obtain ⟨f10, f11, f12, f13, f14, f15⟩ := y1.facts; obtain ⟨f20, f21, f22, f23, f24, f25⟩ := y2.facts; have SY := Lib.hid (show w3.heap.size + 2 ≤ w4.heap.size from Nat.le_trans (by simp) hb4.size); have Q4 := Lib.hid (Q0.of 0 2 hxn hxd (by simp) ((((Below.refl w3.heap.size w3).alloc (Nat.le_refl _) (.cells #[.bool false, .slice none 0 0, .slice none 0 0] 25)).alloc (by simp) (.cells #[.bool false, .slice none 0 0, .slice none 0 0] 25)).trans (hq.mono (by simp; omega))) hyn hyd (by simp) b2 (And.left HS4.out) hB); clear hxn hxd hyn hyd)
        | (have hx := hk3; go_at_call 22; refine (ratNorm_any _ t m c _ dm dc ⟨_, _, rfl, hm2.after (And.left (by assumption)), hc2.after (And.left (by assumption))⟩ (by omega) (by omega)).mono ?_; rw [hT'.out, hM'.out, hC'.out]; rintro e w4 ⟨v4, rfl, ⟨yn, yd, rfl, hyn, hyd⟩, hb4⟩; have HS4 := Lib.hid (keep6 (by assumption) hb4 hg); have SZ4 := Lib.hid (Below.size (And.left HS4.out)); have hyn' := hyn; have hyd' := hyd; obtain ⟨A5, k5, rfl, m5⟩ := nt_len hyn'; obtain ⟨A6, k6, rfl, m6⟩ := nt_len hyd'; clear hyn' hyd'; refine (fun (hq : Below (World.heap (World.alloc w3 (.cells #[.bool false, .slice none 0 0, .slice none 0 0] 25))).size (World.alloc w3 (.cells #[.bool false, .slice none 0 0, .slice none 0 0] 25)) w4) => ?_) ?_; rotate_left; with_reducible assumption; have y1 := zr_one hq; obtain ⟨f10, f11, f12, f13, f14, f15⟩ := y1.facts; obtain ⟨ga0, ga1, ga2, ga3, ga4, ga5⟩ := y1.more (.cells #[.bool false, .slice none 0 0, .slice none 0 0] 25); obtain ⟨gb0, gb1, gb2, gb3, gb4, gb5⟩ := y1.more (.cells #[.bool S, .slice A7 (lim N).length k7, .slice A8 (lim D).length k8] 25); obtain ⟨gc0, gc1, gc2, gc3, gc4, gc5⟩ := y1.more (.cells #[.bool T, .slice A5 (lim M).length k5, .slice A6 (lim C).length k6] 25); have ne1 := y1.ne; have ne2 := ne1.symm; have SY := Lib.hid (show w3.heap.size + 1 ≤ w4.heap.size from Nat.le_trans (by simp) hb4.size); have Q4 := Lib.hid (Q0.of 0 1 hxn hxd (by simp) (((Below.refl w3.heap.size w3).alloc (Nat.le_refl _) (.cells #[.bool false, .slice none 0 0, .slice none 0 0] 25)).trans (hq.mono (by simp))) hyn hyd (by simp) b2 (And.left HS4.out) hB); clear hxn hxd hyn hyd)
        | (have hx := hk3; go_at_call 22; refine (ratNorm_any _ t m c _ dm dc ⟨_, _, rfl, hm2.after (And.left (by assumption)), hc2.after (And.left (by assumption))⟩ (by omega) (by omega)).mono ?_; rw [hT'.out, hM'.out, hC'.out]; rintro e w4 ⟨v4, rfl, ⟨yn, yd, rfl, hyn, hyd⟩, hb4⟩; have HS4 := Lib.hid (keep6 (by assumption) hb4 hg); have SZ4 := Lib.hid (Below.size (And.left HS4.out)); have hyn' := hyn; have hyd' := hyd; obtain ⟨A5, k5, rfl, m5⟩ := nt_len hyn'; obtain ⟨A6, k6, rfl, m6⟩ := nt_len hyd'; clear hyn' hyd'; have SY := Lib.hid (show w3.heap.size + 0 ≤ w4.heap.size from Nat.le_trans (by simp) hb4.size); have Q4 := Lib.hid (Q0.of 0 0 hxn hxd (by simp) hb4 hyn hyd (by simp) b2 (And.left HS4.out) hB); clear hxn hxd hyn hyd)
        | (go_at_call 22; refine (ratNorm_any _ s n d _ dn dd ⟨_, _, rfl, hn2.after (And.left (by assumption)), hd2.after (And.left (by assumption))⟩ (by omega) (by omega)).mono ?_; rw [hS'.out, hN'.out, hD'.out]; rintro e w3 ⟨v3, rfl, ⟨xn, xd, rfl, hxn, hxd⟩, hk3⟩; have HS3 := Lib.hid (keep6 (by assumption) hk3 hg); have SZ3 := Lib.hid (Below.size (And.left HS3.out)); have hxn' := hxn; have hxd' := hxd; obtain ⟨A7, k7, rfl, m7⟩ := nt_len hxn'; obtain ⟨A8, k8, rfl, m8⟩ := nt_len hxd'; clear hxn' hxd'; refine (fun (hq : Below (World.heap (World.drew (World.alloc (World.alloc w2 (.cells #[.bool false, .slice none 0 0, .slice none 0 0] 25)) (.cells #[.bool false, .slice none 0 0, .slice none 0 0] 25)))).size (World.drew (World.alloc (World.alloc w2 (.cells #[.bool false, .slice none 0 0, .slice none 0 0] 25)) (.cells #[.bool false, .slice none 0 0, .slice none 0 0] 25))) w3) => ?_) ?_; rotate_left; with_reducible assumption; obtain ⟨z1, z2⟩ := zr_two (below_undrew hq); have SX := Lib.hid (show w2.heap.size + 2 ≤ w3.heap.size from Nat.le_trans (by simp) hk3.size))
        | (go_at_call 22; refine (ratNorm_any _ s n d _ dn dd ⟨_, _, rfl, hn2.after (And.left (by assumption)), hd2.after (And.left (by assumption))⟩ (by omega) (by omega)).mono ?_; rw [hS'.out, hN'.out, hD'.out]; rintro e w3 ⟨v3, rfl, ⟨xn, xd, rfl, hxn, hxd⟩, hk3⟩; have HS3 := Lib.hid (keep6 (by assumption) hk3 hg); have SZ3 := Lib.hid (Below.size (And.left HS3.out)); have hxn' := hxn; have hxd' := hxd; obtain ⟨A7, k7, rfl, m7⟩ := nt_len hxn'; obtain ⟨A8, k8, rfl, m8⟩ := nt_len hxd'; clear hxn' hxd'; refine (fun (hq : Below (World.heap (World.drew (World.alloc w2 (.cells #[.bool false, .slice none 0 0, .slice none 0 0] 25)))).size (World.drew (World.alloc w2 (.cells #[.bool false, .slice none 0 0, .slice none 0 0] 25))) w3) => ?_) ?_; rotate_left; with_reducible assumption; have z1 := zr_one (below_undrew hq); have SX := Lib.hid (show w2.heap.size + 1 ≤ w3.heap.size from Nat.le_trans (by simp) hk3.size))
        | (go_at_call 22; refine (ratNorm_any _ s n d _ dn dd ⟨_, _, rfl, hn2.after (And.left (by assumption)), hd2.after (And.left (by assumption))⟩ (by omega) (by omega)).mono ?_; rw [hS'.out, hN'.out, hD'.out]; rintro e w3 ⟨v3, rfl, ⟨xn, xd, rfl, hxn, hxd⟩, hk3⟩; have HS3 := Lib.hid (keep6 (by assumption) hk3 hg); have SZ3 := Lib.hid (Below.size (And.left HS3.out)); have hxn' := hxn; have hxd' := hxd; obtain ⟨A7, k7, rfl, m7⟩ := nt_len hxn'; obtain ⟨A8, k8, rfl, m8⟩ := nt_len hxd'; clear hxn' hxd'; have SX := Lib.hid (show w2.heap.size + 0 ≤ w3.heap.size from Nat.le_trans (by simp) hk3.size))
        | fail)
    all_goals (go_wp2_with fail; go_meet)
    all_goals (have hx3 := SX.out; have hy4 := SY.out; have hw2 := SW.out)
    all_goals first
      | with_reducible exact r2_a Q4.out (by omega)
      | with_reducible exact r2_b Q4.out (by omega)
      | with_reducible exact r2_c Q4.out y1 (by omega) (by omega)
      | with_reducible exact r2_e Q4.out y1 (by omega) (by omega)
      | with_reducible exact r2_d Q4.out y1 y2 (by omega) (by omega) (by omega)
      | with_reducible exact r2_d Q4.out y2 y1 (by omega) (by omega) (by omega)
      | trace_state
  case rest =>
    obtain ⟨gx, gy, xn, xd, yn, yd, rfl, rfl, hgx, hgy, hxn, hxd, hyn, hyd, hres, hBc, hgx2, hgy2⟩ := hcut
    clear hB b0 b1 b2 hn2 hd2 hm2 hc2
    obtain ⟨A1, k1, rfl, m1⟩ := nt_len hxn
    obtain ⟨A2, k2, rfl, m2⟩ := nt_len hxd
    obtain ⟨A3, k3, rfl, m3⟩ := nt_len hyn
    obtain ⟨A4, k4, rfl, m4⟩ := nt_len hyd
    have x0 := hgx.cell 0
    have x1 := hgx.cell 1
    have x2 := hgx.cell 2
    have y0 := hgy.cell 0
    have y1 := hgy.cell 1
    have y2 := hgy.cell 2
    have kx := hgx.lt
    have ky := hgy.lt
    have dN := dig_lim N
    have dD := dig_lim D
    have dM := dig_lim M
    have dC := dig_lim C
    have nex : w.heap.size + 1 + 1 ≠ gx := Nat.ne_of_lt hgx2
    have ney : w.heap.size + 1 + 1 ≠ gy := Nat.ne_of_lt hgy2
    have hk0 : Below wc.heap.size wc wc.drew := (Below.refl _ _).drew
    have VP : Hid (val (lim N) * val (lim M) = N * M) := by show _ = _; rw [val_lim, val_lim]
    have VQ : Hid (val (lim D) * val (lim C) = D * C) := by show _ = _; rw [val_lim, val_lim]
    have lP : (lim (N * M)).length ≤ 800 := lim_mul_len dN dM (val_lim _).symm (val_lim _).symm lN lM
    have lQ : (lim (D * C)).length ≤ 800 := lim_mul_len dD dC (val_lim _).symm (val_lim _).symm lD lC
    obtain ⟨P, hP⟩ : ∃ P, N * M = P := ⟨_, rfl⟩
    obtain ⟨Q, hQ⟩ : ∃ Q, D * C = Q := ⟨_, rfl⟩
    rw [hP] at VP lP
    rw [hQ] at VQ lQ
    have HP := Lib.hid hP
    have HQ := Lib.hid hQ
    clear hP hQ
    have WP := Lib.hid (val_lim P)
    have WQ := Lib.hid (val_lim Q)
    obtain ⟨ST, hST⟩ : ∃ b, (S != T) = b := ⟨_, rfl⟩
    have HST := Lib.hid hST
    obtain ⟨FS, hFS⟩ : ∃ z, nrS ST P Q = z := ⟨_, rfl⟩
    obtain ⟨FN, hFN⟩ : ∃ z, nrN P Q = z := ⟨_, rfl⟩
    obtain ⟨FD, hFD⟩ : ∃ z, nrD P Q = z := ⟨_, rfl⟩
    have HFS := Lib.hid hFS
    have HFN := Lib.hid hFN
    have HFD := Lib.hid hFD
    clear hFS hFN hFD
    have hbe : (!(S == T)) = ST := hST
    clear hST
    go_wp2_with fail
    go_region_held3 (fun W => W.cell? ⟨gx, 0, none⟩ = some (.bool S) ∧ W.cell? ⟨gx, 1, none⟩ = some (.slice A1 (lim N).length k1) ∧ W.cell? ⟨gx, 2, none⟩ = some (.slice A2 (lim D).length k2) ∧ W.cell? ⟨gy, 0, none⟩ = some (.bool T) ∧ W.cell? ⟨gy, 1, none⟩ = some (.slice A3 (lim M).length k3) ∧ W.cell? ⟨gy, 2, none⟩ = some (.slice A4 (lim C).length k4))
      (first | exact s6g_set (s6g_of hk9 x0 x1 x2 y0 y1 y2 kx ky) nex ney | exact s6g_of hk9 x0 x1 x2 y0 y1 y2 kx ky | exact s6g_of hk8 x0 x1 x2 y0 y1 y2 kx ky | exact s6g_of hk7 x0 x1 x2 y0 y1 y2 kx ky | exact s6g_of hk0 x0 x1 x2 y0 y1 y2 kx ky | fail)
      (first
        | (have hx := hk8; go_at_call 21; refine (ratOf_any ST _ _ (lim P) (lim Q) _ (dig_lim P) (dig_lim Q) (h7.after hb8) (h8.low (Nat.zero_le _)) (by omega) (by omega)).mono ?_; rw [WP.out, WQ.out, HFS.out, HFN.out, HFD.out]; rintro e w9 ⟨v9, rfl, ⟨an, ad, rfl, han, had⟩, hb9⟩; have han' := han; have had' := had; obtain ⟨A5, k5, rfl, m5⟩ := nt_len han'; obtain ⟨A6, k6, rfl, m6⟩ := nt_len had'; clear han' had'; have hk9 : Below wc.heap.size wc w9 := hk8.trans (hb9.mono hk8.size); have q9 := hres.below hk9 hres.lt; have r0 := q9.cell 0; have r1 := q9.cell 1; have r2 := q9.cell 2; have f0 := q9.free 0; have f1 := q9.free 1; have f2 := q9.free 2)
        | (have hx := hk7; go_at_call 36; refine (refMul_any _ _ (lim D) (lim C) _ dD dC (hxd.after hk7) (hyd.after hk7) (by omega) (by omega)).mono ?_; rw [VQ.out]; rintro e w8 ⟨v8, rfl, h8, hb8⟩; have hk8 : Below wc.heap.size wc w8 := hk7.trans (hb8.mono hk7.size))
        | (go_at_call 36; refine (refMul_any _ _ (lim N) (lim M) _ dN dM hxn.drew hyn.drew (by omega) (by omega)).mono ?_; rw [VP.out]; rintro e w7 ⟨v7, rfl, h7, hb7⟩; replace h7 := h7.low (Nat.zero_le _); have hk7 : Below wc.heap.size wc w7 := Below.trans (Below.drew (Below.refl _ _)) hb7)
        | fail)
    obtain ⟨e0, e1, e2, hR, hBf⟩ := store3 q9 (hBc.trans (hk9.mono hBc.size)) (by omega) FS (.slice A5 (lim FN).length k5) (.slice A6 (lim FD).length k6) (han.low (Nat.le_trans hres.lt hk8.size)) (had.low (Nat.le_trans hres.lt hk8.size))
    have HR := Lib.hid hR
    have HBF := Lib.hid hBf
    clear r0 r1 r2 f0 f1 f2 q9 han had hR hBf h7 h8 hb7 hb8 hb9
    unfold St3 at *
    go_wp2_with fail
    generalize ((World.setCell w9 ⟨w.heap.size + 1 + 1, 0, none⟩ (.bool FS)).setCell ⟨w.heap.size + 1 + 1, 1, none⟩ (.slice A5 (lim FN).length k5)).setCell ⟨w.heap.size + 1 + 1, 2, none⟩ (.slice A6 (lim FD).length k6) = WW at *
    refine bodyPost_ret (v := .agg #[.bool FS, .slice A5 (lim FN).length k5, .slice A6 (lim FD).length k6]) ?_ rfl (by show GivesT _ _ _ _ _ _; rw [HST.out, HP.out, HQ.out, HFS.out, HFN.out, HFD.out]; exact ⟨_, rfl, HR.out, HBF.out⟩)
    simp [results, Tryz.results19, go_sem, e0, e1, e2]
end Go.Proofs.YtobmjcbjailclaaGreatDoor

/- The reference's 'Div' of numbers with a divisor by its contract. Condition: a bound on lengths; the divisor is not 0. -/
namespace Go.Proofs.YtobmjcbjailclaaGreatDoor
set_option maxRecDepth 100000
open Go.RowKit

/-- What hands back a new number, and yes. -/
def GivesTB (s : Bool) (n d : Nat) (w : World) (e : Ending) (w' : World) : Prop :=
  ∃ v', e = .returned (.tuple #[v', .bool true]) ∧ Rt w' w.heap.size w'.heap.size v' s (lim n) (lim d) ∧ Below w.heap.size w w'

set_option maxHeartbeats 3200000 in
theorem ratDiv_any (u v : Value) (s t : Bool) (n d m c : List Nat) (w : World) (dn : Dig n) (dd : Dig d) (dm : Dig m) (dc : Dig c) (h : Rt w 0 w.heap.size u s n d) (h' : Rt w 0 w.heap.size v t m c)
    (ln : n.length ≤ 400) (ld : d.length ≤ 400) (lm : m.length ≤ 400) (lc : c.length ≤ 400) (S T : Bool) (N D M C : Nat) (hS : nrS s (val n) (val d) = S) (hN : nrN (val n) (val d) = N) (hD : nrD (val n) (val d) = D)
    (hM0 : M ≠ 0) (hT : nrS t (val m) (val c) = T) (hM : nrN (val m) (val c) = M) (hC : nrD (val m) (val c) = C) :
    Calls Tryz.prog 50 #[u, v] w (GivesTB (nrS (S != T) (N * C) (D * M)) (nrN (N * C) (D * M)) (nrD (N * C) (D * M)) w) := by
  obtain ⟨vn, vd, rfl, hn, hd⟩ := h
  obtain ⟨vm, vc, rfl, hm, hc⟩ := h'
  have hS' := Lib.hid hS
  have hN' := Lib.hid hN
  have hD' := Lib.hid hD
  have hT' := Lib.hid hT
  have hM' := Lib.hid hM
  have hC' := Lib.hid hC
  have lN : (lim N).length ≤ 400 := by rw [← hN]; exact nrN_len dn ln
  have lM : (lim M).length ≤ 400 := by rw [← hM]; exact nrN_len dm lm
  have lD : (lim D).length ≤ 400 := by rw [← hD]; exact nrD_len dd ld (by omega)
  have lC : (lim C).length ≤ 400 := by rw [← hC]; exact nrD_len dc lc (by omega)
  clear hS hN hD hT hM hC
  go_enter Tryz.func50, Tryz.ntmps50
  go_wp2_with fail
  have b0 := ((Blk.new w 25 #[.bool s, vn, vd]).alloc (.cells #[.bool t, vm, vc] 25)).alloc (.cells #[.bool false, .slice none 0 0, .slice none 0 0] 25)
  have b1 := (Blk.new (w.alloc (.cells #[.bool s, vn, vd] 25)) 25 #[.bool t, vm, vc]).alloc (.cells #[.bool false, .slice none 0 0, .slice none 0 0] 25)
  have b2 := Blk.new ((w.alloc (.cells #[.bool s, vn, vd] 25)).alloc (.cells #[.bool t, vm, vc] 25)) 25 #[.bool false, .slice none 0 0, .slice none 0 0]
  have hB : Below w.heap.size w (((w.alloc (.cells #[.bool s, vn, vd] 25)).alloc (.cells #[.bool t, vm, vc] 25)).alloc (.cells #[.bool false, .slice none 0 0, .slice none 0 0] 25)) := (((Below.refl _ _).alloc (Nat.le_refl _) _).alloc (by simp) _).alloc (by simp; omega) _
  have es : (w.alloc (.cells #[.bool s, vn, vd] 25)).heap.size = w.heap.size + 1 := by simp
  have es2 : ((w.alloc (.cells #[.bool s, vn, vd] 25)).alloc (.cells #[.bool t, vm, vc] 25)).heap.size = w.heap.size + 1 + 1 := by simp
  rw [es] at b1
  rw [es2] at b2
  clear es es2
  generalize ((w.alloc (.cells #[.bool s, vn, vd] 25)).alloc (.cells #[.bool t, vm, vc] 25)).alloc (.cells #[.bool false, .slice none 0 0, .slice none 0 0] 25) = w2 at *
  have hn2 := hn.after hB
  have hd2 := hd.after hB
  have hm2 := hm.after hB
  have hc2 := hc.after hB
  clear hn hd hm hc
  go_cut [6, 7] from 8 to 11 (fun p q wx => R2 w S T N D M C p q wx)
  case first =>
    have c00 := b0.cell 0
    have c01 := b0.cell 1
    have c02 := b0.cell 2
    have c10 := b1.cell 0
    have c11 := b1.cell 1
    have c12 := b1.cell 2
    have hg := b1.lt
    have SW : Hid (w.heap.size + 2 < w2.heap.size) := b2.lt
    obtain ⟨An, k1, rfl, m1⟩ := nt_len hn2
    obtain ⟨Ad, k2, rfl, m2⟩ := nt_len hd2
    obtain ⟨Am, k3, rfl, m3⟩ := nt_len hm2
    obtain ⟨Ac, k4, rfl, m4⟩ := nt_len hc2
    have HS0 : Hid (Below w2.heap.size w2 w2 ∧ w2.cell? ⟨w.heap.size, 0, none⟩ = some (.bool s) ∧ w2.cell? ⟨w.heap.size, 1, none⟩ = some (.slice An n.length k1) ∧ w2.cell? ⟨w.heap.size, 2, none⟩ = some (.slice Ad d.length k2) ∧ w2.cell? ⟨w.heap.size + 1, 0, none⟩ = some (.bool t) ∧ w2.cell? ⟨w.heap.size + 1, 1, none⟩ = some (.slice Am m.length k3) ∧ w2.cell? ⟨w.heap.size + 1, 2, none⟩ = some (.slice Ac c.length k4)) := ⟨Below.refl _ _, c00, c01, c02, c10, c11, c12⟩
    have HS2 : Hid (Below w2.heap.size w2 w2.drew ∧ w2.drew.cell? ⟨w.heap.size, 0, none⟩ = some (.bool s) ∧ w2.drew.cell? ⟨w.heap.size, 1, none⟩ = some (.slice An n.length k1) ∧ w2.drew.cell? ⟨w.heap.size, 2, none⟩ = some (.slice Ad d.length k2) ∧ w2.drew.cell? ⟨w.heap.size + 1, 0, none⟩ = some (.bool t) ∧ w2.drew.cell? ⟨w.heap.size + 1, 1, none⟩ = some (.slice Am m.length k3) ∧ w2.drew.cell? ⟨w.heap.size + 1, 2, none⟩ = some (.slice Ac c.length k4)) := ⟨(Below.refl _ _).drew, c00, c01, c02, c10, c11, c12⟩
    go_region_held3 (fun W => Below w2.heap.size w2 W ∧ W.cell? ⟨w.heap.size, 0, none⟩ = some (.bool s) ∧ W.cell? ⟨w.heap.size, 1, none⟩ = some (.slice An n.length k1) ∧ W.cell? ⟨w.heap.size, 2, none⟩ = some (.slice Ad d.length k2) ∧ W.cell? ⟨w.heap.size + 1, 0, none⟩ = some (.bool t) ∧ W.cell? ⟨w.heap.size + 1, 1, none⟩ = some (.slice Am m.length k3) ∧ W.cell? ⟨w.heap.size + 1, 2, none⟩ = some (.slice Ac c.length k4))
      (first | ((repeat (with_reducible (first | exact HS4.out | exact HS3.out | exact HS2.out | exact HS0.out | refine keep6d ?_ | refine keep6s ?_ (by have h3 := SZ3.out; have h4 := SZ4.out; omega) hg _ _ | refine keep6 ?_ ((Below.refl _ _).alloc (Nat.le_refl _) _) hg))); done) | fail)
      (first
        | (have hz := z2; have hx := hk3; go_at_call 22; refine (ratNorm_any _ t m c _ dm dc ⟨_, _, rfl, hm2.after (And.left (by assumption)), hc2.after (And.left (by assumption))⟩ (by omega) (by omega)).mono ?_; rw [hT'.out, hM'.out, hC'.out]; rintro e w4 ⟨v4, rfl, ⟨yn, yd, rfl, hyn, hyd⟩, hb4⟩; have HS4 := Lib.hid (keep6 (by assumption) hb4 hg); have SZ4 := Lib.hid (Below.size (And.left HS4.out)); have hyn' := hyn; have hyd' := hyd; obtain ⟨A5, k5, rfl, m5⟩ := nt_len hyn'; obtain ⟨A6, k6, rfl, m6⟩ := nt_len hyd'; clear hyn' hyd'; have y1 := z1.call0 hb4; have y2 := z2.call0 hb4; obtain ⟨f10, f11, f12, f13, f14, f15⟩ := y1.facts; obtain ⟨f20, f21, f22, f23, f24, f25⟩ := y2.facts; have SY := Lib.hid (show w3.heap.size + 0 ≤ w4.heap.size from Nat.le_trans (by simp) hb4.size); have Q4 := Lib.hid (Q0.of 2 0 hxn hxd (by simp) hb4 hyn hyd (by simp) b2 (And.left HS4.out) hB); clear hxn hxd hyn hyd)
        | (have hz := z1; have hx := hk3; go_at_call 22; refine (ratNorm_any _ t m c _ dm dc ⟨_, _, rfl, hm2.after (And.left (by assumption)), hc2.after (And.left (by assumption))⟩ (by omega) (by omega)).mono ?_; rw [hT'.out, hM'.out, hC'.out]; rintro e w4 ⟨v4, rfl, ⟨yn, yd, rfl, hyn, hyd⟩, hb4⟩; have HS4 := Lib.hid (keep6 (by assumption) hb4 hg); have SZ4 := Lib.hid (Below.size (And.left HS4.out)); have hyn' := hyn; have hyd' := hyd; obtain ⟨A5, k5, rfl, m5⟩ := nt_len hyn'; obtain ⟨A6, k6, rfl, m6⟩ := nt_len hyd'; clear hyn' hyd'; refine (fun (hq : Below (World.heap (World.alloc w3 (.cells #[.bool false, .slice none 0 0, .slice none 0 0] 25))).size (World.alloc w3 (.cells #[.bool false, .slice none 0 0, .slice none 0 0] 25)) w4) => ?_) ?_; rotate_left; with_reducible assumption; have y1 := z1.call1 hq; have y2 := zr_one hq; obtain ⟨f10, f11, f12, f13, f14, f15⟩ := y1.facts; obtain ⟨f20, f21, f22, f23, f24, f25⟩ := y2.facts; have ne1 := z1.ne; have ne2 := ne1.symm; have SY := Lib.hid (show w3.heap.size + 1 ≤ w4.heap.size from Nat.le_trans (by simp) hb4.size); have Q4 := Lib.hid (Q0.of 1 1 hxn hxd (by simp) (((Below.refl w3.heap.size w3).alloc (Nat.le_refl _) (.cells #[.bool false, .slice none 0 0, .slice none 0 0] 25)).trans (hq.mono (by simp))) hyn hyd (by simp) b2 (And.left HS4.out) hB); clear hxn hxd hyn hyd)
        | (have hz := z1; have hx := hk3; go_at_call 22; refine (ratNorm_any _ t m c _ dm dc ⟨_, _, rfl, hm2.after (And.left (by assumption)), hc2.after (And.left (by assumption))⟩ (by omega) (by omega)).mono ?_; rw [hT'.out, hM'.out, hC'.out]; rintro e w4 ⟨v4, rfl, ⟨yn, yd, rfl, hyn, hyd⟩, hb4⟩; have HS4 := Lib.hid (keep6 (by assumption) hb4 hg); have SZ4 := Lib.hid (Below.size (And.left HS4.out)); have hyn' := hyn; have hyd' := hyd; obtain ⟨A5, k5, rfl, m5⟩ := nt_len hyn'; obtain ⟨A6, k6, rfl, m6⟩ := nt_len hyd'; clear hyn' hyd'; have y1 := z1.call0 hb4; obtain ⟨f10, f11, f12, f13, f14, f15⟩ := y1.facts; obtain ⟨ga0, ga1, ga2, ga3, ga4, ga5⟩ := y1.more (.cells #[.bool false, .slice none 0 0, .slice none 0 0] 25); obtain ⟨gb0, gb1, gb2, gb3, gb4, gb5⟩ := y1.more (.cells #[.bool S, .slice A7 (lim N).length k7, .slice A8 (lim D).length k8] 25); obtain ⟨gc0, gc1, gc2, gc3, gc4, gc5⟩ := y1.more (.cells #[.bool T, .slice A5 (lim M).length k5, .slice A6 (lim C).length k6] 25); have ne1 := y1.ne; have ne2 := ne1.symm; have SY := Lib.hid (show w3.heap.size + 0 ≤ w4.heap.size from Nat.le_trans (by simp) hb4.size); have Q4 := Lib.hid (Q0.of 1 0 hxn hxd (by simp) hb4 hyn hyd (by simp) b2 (And.left HS4.out) hB); clear hxn hxd hyn hyd)
        | (have hx := hk3; go_at_call 22; refine (ratNorm_any _ t m c _ dm dc ⟨_, _, rfl, hm2.after (And.left (by assumption)), hc2.after (And.left (by assumption))⟩ (by omega) (by omega)).mono ?_; rw [hT'.out, hM'.out, hC'.out]; rintro e w4 ⟨v4, rfl, ⟨yn, yd, rfl, hyn, hyd⟩, hb4⟩; have HS4 := Lib.hid (keep6 (by assumption) hb4 hg); have SZ4 := Lib.hid (Below.size (And.left HS4.out)); have hyn' := hyn; have hyd' := hyd; obtain ⟨A5, k5, rfl, m5⟩ := nt_len hyn'; obtain ⟨A6, k6, rfl, m6⟩ := nt_len hyd'; clear hyn' hyd'; refine (fun (hq : Below (World.heap (World.alloc (World.alloc w3 (.cells #[.bool false, .slice none 0 0, .slice none 0 0] 25)) (.cells #[.bool false, .slice none 0 0, .slice none 0 0] 25))).size (World.alloc (World.alloc w3 (.cells #[.bool false, .slice none 0 0, .slice none 0 0] 25)) (.cells #[.bool false, .slice none 0 0, .slice none 0 0] 25)) w4) => ?_) ?_; rotate_left; with_reducible assumption; obtain ⟨y1, y2⟩ := zr_two hq; obtain ⟨f10, f11, f12, f13, f14, f15⟩ := y1.facts; obtain ⟨f20, f21, f22, f23, f24, f25⟩ := y2.facts; have SY := Lib.hid (show w3.heap.size + 2 ≤ w4.heap.size from Nat.le_trans (by simp) hb4.size); have Q4 := Lib.hid (Q0.of 0 2 hxn hxd (by simp) ((((Below.refl w3.heap.size w3).alloc (Nat.le_refl _) (.cells #[.bool false, .slice none 0 0, .slice none 0 0] 25)).alloc (by simp) (.cells #[.bool false, .slice none 0 0, .slice none 0 0] 25)).trans (hq.mono (by simp; omega))) hyn hyd (by simp) b2 (And.left HS4.out) hB); clear hxn hxd hyn hyd)
        | (have hx := hk3; go_at_call 22; refine (ratNorm_any _ t m c _ dm dc ⟨_, _, rfl, hm2.after (And.left (by assumption)), hc2.after (And.left (by assumption))⟩ (by omega) (by omega)).mono ?_; rw [hT'.out, hM'.out, hC'.out]; rintro e w4 ⟨v4, rfl, ⟨yn, yd, rfl, hyn, hyd⟩, hb4⟩; have HS4 := Lib.hid (keep6 (by assumption) hb4 hg); have SZ4 := Lib.hid (Below.size (And.left HS4.out)); have hyn' := hyn; have hyd' := hyd; obtain ⟨A5, k5, rfl, m5⟩ := nt_len hyn'; obtain ⟨A6, k6, rfl, m6⟩ := nt_len hyd'; clear hyn' hyd'; refine (fun (hq : Below (World.heap (World.alloc w3 (.cells #[.bool false, .slice none 0 0, .slice none 0 0] 25))).size (World.alloc w3 (.cells #[.bool false, .slice none 0 0, .slice none 0 0] 25)) w4) => ?_) ?_; rotate_left; with_reducible assumption; have y1 := zr_one hq; obtain ⟨f10, f11, f12, f13, f14, f15⟩ := y1.facts; obtain ⟨ga0, ga1, ga2, ga3, ga4, ga5⟩ := y1.more (.cells #[.bool false, .slice none 0 0, .slice none 0 0] 25); obtain ⟨gb0, gb1, gb2, gb3, gb4, gb5⟩ := y1.more (.cells #[.bool S, .slice A7 (lim N).length k7, .slice A8 (lim D).length k8] 25); obtain ⟨gc0, gc1, gc2, gc3, gc4, gc5⟩ := y1.more (.cells #[.bool T, .slice A5 (lim M).length k5, .slice A6 (lim C).length k6] 25); have ne1 := y1.ne; have ne2 := ne1.symm; have SY := Lib.hid (show w3.heap.size + 1 ≤ w4.heap.size from Nat.le_trans (by simp) hb4.size); have Q4 := Lib.hid (Q0.of 0 1 hxn hxd (by simp) (((Below.refl w3.heap.size w3).alloc (Nat.le_refl _) (.cells #[.bool false, .slice none 0 0, .slice none 0 0] 25)).trans (hq.mono (by simp))) hyn hyd (by simp) b2 (And.left HS4.out) hB); clear hxn hxd hyn hyd)
        | (have hx := hk3; go_at_call 22; refine (ratNorm_any _ t m c _ dm dc ⟨_, _, rfl, hm2.after (And.left (by assumption)), hc2.after (And.left (by assumption))⟩ (by omega) (by omega)).mono ?_; rw [hT'.out, hM'.out, hC'.out]; rintro e w4 ⟨v4, rfl, ⟨yn, yd, rfl, hyn, hyd⟩, hb4⟩; have HS4 := Lib.hid (keep6 (by assumption) hb4 hg); have SZ4 := Lib.hid (Below.size (And.left HS4.out)); have hyn' := hyn; have hyd' := hyd; obtain ⟨A5, k5, rfl, m5⟩ := nt_len hyn'; obtain ⟨A6, k6, rfl, m6⟩ := nt_len hyd'; clear hyn' hyd'; have SY := Lib.hid (show w3.heap.size + 0 ≤ w4.heap.size from Nat.le_trans (by simp) hb4.size); have Q4 := Lib.hid (Q0.of 0 0 hxn hxd (by simp) hb4 hyn hyd (by simp) b2 (And.left HS4.out) hB); clear hxn hxd hyn hyd)
        | (go_at_call 22; refine (ratNorm_any _ s n d _ dn dd ⟨_, _, rfl, hn2.after (And.left (by assumption)), hd2.after (And.left (by assumption))⟩ (by omega) (by omega)).mono ?_; rw [hS'.out, hN'.out, hD'.out]; rintro e w3 ⟨v3, rfl, ⟨xn, xd, rfl, hxn, hxd⟩, hk3⟩; have HS3 := Lib.hid (keep6 (by assumption) hk3 hg); have SZ3 := Lib.hid (Below.size (And.left HS3.out)); have hxn' := hxn; have hxd' := hxd; obtain ⟨A7, k7, rfl, m7⟩ := nt_len hxn'; obtain ⟨A8, k8, rfl, m8⟩ := nt_len hxd'; clear hxn' hxd'; refine (fun (hq : Below (World.heap (World.drew (World.alloc (World.alloc w2 (.cells #[.bool false, .slice none 0 0, .slice none 0 0] 25)) (.cells #[.bool false, .slice none 0 0, .slice none 0 0] 25)))).size (World.drew (World.alloc (World.alloc w2 (.cells #[.bool false, .slice none 0 0, .slice none 0 0] 25)) (.cells #[.bool false, .slice none 0 0, .slice none 0 0] 25))) w3) => ?_) ?_; rotate_left; with_reducible assumption; obtain ⟨z1, z2⟩ := zr_two (below_undrew hq); have SX := Lib.hid (show w2.heap.size + 2 ≤ w3.heap.size from Nat.le_trans (by simp) hk3.size))
        | (go_at_call 22; refine (ratNorm_any _ s n d _ dn dd ⟨_, _, rfl, hn2.after (And.left (by assumption)), hd2.after (And.left (by assumption))⟩ (by omega) (by omega)).mono ?_; rw [hS'.out, hN'.out, hD'.out]; rintro e w3 ⟨v3, rfl, ⟨xn, xd, rfl, hxn, hxd⟩, hk3⟩; have HS3 := Lib.hid (keep6 (by assumption) hk3 hg); have SZ3 := Lib.hid (Below.size (And.left HS3.out)); have hxn' := hxn; have hxd' := hxd; obtain ⟨A7, k7, rfl, m7⟩ := nt_len hxn'; obtain ⟨A8, k8, rfl, m8⟩ := nt_len hxd'; clear hxn' hxd'; refine (fun (hq : Below (World.heap (World.drew (World.alloc w2 (.cells #[.bool false, .slice none 0 0, .slice none 0 0] 25)))).size (World.drew (World.alloc w2 (.cells #[.bool false, .slice none 0 0, .slice none 0 0] 25))) w3) => ?_) ?_; rotate_left; with_reducible assumption; have z1 := zr_one (below_undrew hq); have SX := Lib.hid (show w2.heap.size + 1 ≤ w3.heap.size from Nat.le_trans (by simp) hk3.size))
        | (go_at_call 22; refine (ratNorm_any _ s n d _ dn dd ⟨_, _, rfl, hn2.after (And.left (by assumption)), hd2.after (And.left (by assumption))⟩ (by omega) (by omega)).mono ?_; rw [hS'.out, hN'.out, hD'.out]; rintro e w3 ⟨v3, rfl, ⟨xn, xd, rfl, hxn, hxd⟩, hk3⟩; have HS3 := Lib.hid (keep6 (by assumption) hk3 hg); have SZ3 := Lib.hid (Below.size (And.left HS3.out)); have hxn' := hxn; have hxd' := hxd; obtain ⟨A7, k7, rfl, m7⟩ := nt_len hxn'; obtain ⟨A8, k8, rfl, m8⟩ := nt_len hxd'; clear hxn' hxd'; have SX := Lib.hid (show w2.heap.size + 0 ≤ w3.heap.size from Nat.le_trans (by simp) hk3.size))
        | fail)
    all_goals (go_wp2_with fail; go_meet)
    all_goals (have hx3 := SX.out; have hy4 := SY.out; have hw2 := SW.out)
    all_goals first
      | with_reducible exact r2_a Q4.out (by omega)
      | with_reducible exact r2_b Q4.out (by omega)
      | with_reducible exact r2_c Q4.out y1 (by omega) (by omega)
      | with_reducible exact r2_e Q4.out y1 (by omega) (by omega)
      | with_reducible exact r2_d Q4.out y1 y2 (by omega) (by omega) (by omega)
      | with_reducible exact r2_d Q4.out y2 y1 (by omega) (by omega) (by omega)
      | trace_state
  case rest =>
    obtain ⟨gx, gy, xn, xd, yn, yd, rfl, rfl, hgx, hgy, hxn, hxd, hyn, hyd, hres, hBc, hgx2, hgy2⟩ := hcut
    clear hB b0 b1 b2 hn2 hd2 hm2 hc2
    obtain ⟨A1, k1, rfl, m1⟩ := nt_len hxn
    obtain ⟨A2, k2, rfl, m2⟩ := nt_len hxd
    obtain ⟨A3, k3, rfl, m3⟩ := nt_len hyn
    obtain ⟨A4, k4, rfl, m4⟩ := nt_len hyd
    have x0 := hgx.cell 0
    have x1 := hgx.cell 1
    have x2 := hgx.cell 2
    have y0 := hgy.cell 0
    have y1 := hgy.cell 1
    have y2 := hgy.cell 2
    have kx := hgx.lt
    have ky := hgy.lt
    have dN := dig_lim N
    have dD := dig_lim D
    have dM := dig_lim M
    have dC := dig_lim C
    have nex : w.heap.size + 1 + 1 ≠ gx := Nat.ne_of_lt hgx2
    have ney : w.heap.size + 1 + 1 ≠ gy := Nat.ne_of_lt hgy2
    have hk0 : Below wc.heap.size wc wc.drew := (Below.refl _ _).drew
    have VP : Hid (val (lim N) * val (lim C) = N * C) := by show _ = _; rw [val_lim, val_lim]
    have VQ : Hid (val (lim D) * val (lim M) = D * M) := by show _ = _; rw [val_lim, val_lim]
    have lP : (lim (N * C)).length ≤ 800 := lim_mul_len dN dC (val_lim _).symm (val_lim _).symm lN lC
    have lQ : (lim (D * M)).length ≤ 800 := lim_mul_len dD dM (val_lim _).symm (val_lim _).symm lD lM
    obtain ⟨P, hP⟩ : ∃ P, N * C = P := ⟨_, rfl⟩
    obtain ⟨Q, hQ⟩ : ∃ Q, D * M = Q := ⟨_, rfl⟩
    rw [hP] at VP lP
    rw [hQ] at VQ lQ
    have HP := Lib.hid hP
    have HQ := Lib.hid hQ
    clear hP hQ
    have WP := Lib.hid (val_lim P)
    have WQ := Lib.hid (val_lim Q)
    obtain ⟨ST, hST⟩ : ∃ b, (S != T) = b := ⟨_, rfl⟩
    have HST := Lib.hid hST
    obtain ⟨FS, hFS⟩ : ∃ z, nrS ST P Q = z := ⟨_, rfl⟩
    obtain ⟨FN, hFN⟩ : ∃ z, nrN P Q = z := ⟨_, rfl⟩
    obtain ⟨FD, hFD⟩ : ∃ z, nrD P Q = z := ⟨_, rfl⟩
    have HFS := Lib.hid hFS
    have HFN := Lib.hid hFN
    have HFD := Lib.hid hFD
    clear hFS hFN hFD
    have hbe : (!(S == T)) = ST := hST
    clear hST
    have hlm : ((((lim M).length : Nat) : Int) == 0) = false := by
      have : (lim M).length ≠ 0 := fun hc => hM0 (lim_eq_nil.1 (List.eq_nil_of_length_eq_zero hc))
      simp [this]
    clear hM0
    go_wp2_with fail
    go_region_held3 (fun W => W.cell? ⟨gx, 0, none⟩ = some (.bool S) ∧ W.cell? ⟨gx, 1, none⟩ = some (.slice A1 (lim N).length k1) ∧ W.cell? ⟨gx, 2, none⟩ = some (.slice A2 (lim D).length k2) ∧ W.cell? ⟨gy, 0, none⟩ = some (.bool T) ∧ W.cell? ⟨gy, 1, none⟩ = some (.slice A3 (lim M).length k3) ∧ W.cell? ⟨gy, 2, none⟩ = some (.slice A4 (lim C).length k4))
      (first | exact s6g_set (s6g_of hk9 x0 x1 x2 y0 y1 y2 kx ky) nex ney | exact s6g_of hk9 x0 x1 x2 y0 y1 y2 kx ky | exact s6g_of hk8 x0 x1 x2 y0 y1 y2 kx ky | exact s6g_of hk7 x0 x1 x2 y0 y1 y2 kx ky | exact s6g_of hk0 x0 x1 x2 y0 y1 y2 kx ky | fail)
      (first
        | (have hx := hk8; go_at_call 21; refine (ratOf_any ST _ _ (lim P) (lim Q) _ (dig_lim P) (dig_lim Q) (h7.after hb8) (h8.low (Nat.zero_le _)) (by omega) (by omega)).mono ?_; rw [WP.out, WQ.out, HFS.out, HFN.out, HFD.out]; rintro e w9 ⟨v9, rfl, ⟨an, ad, rfl, han, had⟩, hb9⟩; have han' := han; have had' := had; obtain ⟨A5, k5, rfl, m5⟩ := nt_len han'; obtain ⟨A6, k6, rfl, m6⟩ := nt_len had'; clear han' had'; have hk9 : Below wc.heap.size wc w9 := hk8.trans (hb9.mono hk8.size); have q9 := hres.below hk9 hres.lt; have r0 := q9.cell 0; have r1 := q9.cell 1; have r2 := q9.cell 2; have f0 := q9.free 0; have f1 := q9.free 1; have f2 := q9.free 2)
        | (have hx := hk7; go_at_call 36; refine (refMul_any _ _ (lim D) (lim M) _ dD dM (hxd.after hk7) (hyn.after hk7) (by omega) (by omega)).mono ?_; rw [VQ.out]; rintro e w8 ⟨v8, rfl, h8, hb8⟩; have hk8 : Below wc.heap.size wc w8 := hk7.trans (hb8.mono hk7.size))
        | (go_at_call 36; refine (refMul_any _ _ (lim N) (lim C) _ dN dC hxn.drew hyd.drew (by omega) (by omega)).mono ?_; rw [VP.out]; rintro e w7 ⟨v7, rfl, h7, hb7⟩; replace h7 := h7.low (Nat.zero_le _); have hk7 : Below wc.heap.size wc w7 := Below.trans (Below.drew (Below.refl _ _)) hb7)
        | fail)
    obtain ⟨e0, e1, e2, hR, hBf⟩ := store3 q9 (hBc.trans (hk9.mono hBc.size)) (by omega) FS (.slice A5 (lim FN).length k5) (.slice A6 (lim FD).length k6) (han.low (Nat.le_trans hres.lt hk8.size)) (had.low (Nat.le_trans hres.lt hk8.size))
    have HR := Lib.hid hR
    have HBF := Lib.hid hBf
    clear r0 r1 r2 f0 f1 f2 q9 han had hR hBf h7 h8 hb7 hb8 hb9
    unfold St3 at *
    go_wp2_with fail
    generalize ((World.setCell w9 ⟨w.heap.size + 1 + 1, 0, none⟩ (.bool FS)).setCell ⟨w.heap.size + 1 + 1, 1, none⟩ (.slice A5 (lim FN).length k5)).setCell ⟨w.heap.size + 1 + 1, 2, none⟩ (.slice A6 (lim FD).length k6) = WW at *
    refine bodyPost_ret (v := .tuple #[.agg #[.bool FS, .slice A5 (lim FN).length k5, .slice A6 (lim FD).length k6], .bool true]) ?_ rfl (by show GivesTB _ _ _ _ _ _; rw [HST.out, HP.out, HQ.out, HFS.out, HFN.out, HFD.out]; exact ⟨_, rfl, HR.out, HBF.out⟩)
    simp [results, Tryz.results50, go_sem, e0, e1, e2]

theorem ratDiv_q (u v : Value) (p q : Rat) (k j : Nat) (w : World) (h : RQ w 0 w.heap.size u p k) (h' : RQ w 0 w.heap.size v q j) (hk : k ≤ 400) (hj : j ≤ 400) (hq : q ≠ 0) : Calls Tryz.prog 50 #[u, v] w (GivesFB (p / q) w) := by
  obtain ⟨s, n, d, hR, dn, dd, ln, ld, rfl⟩ := h
  obtain ⟨t, m, c, hR', dm, dc, lm, lc, rfl⟩ := h'
  obtain ⟨e1, e2, e3⟩ := nr_q s (val n) (val d)
  obtain ⟨f1, f2, f3⟩ := nr_q t (val m) (val c)
  have := ratDiv_any u v s t n d m c w dn dd dm dc hR hR' (by omega) (by omega) (by omega) (by omega) _ _ _ _ _ _ e1 e2 e3 (fun hc => hq (qN_zero.1 hc)) f1 f2 f3
  obtain ⟨g1, g2, g3⟩ := nr_q (qS (qv s (val n) (val d)) != qS (qv t (val m) (val c))) (qN (qv s (val n) (val d)) * (qv t (val m) (val c)).den) ((qv s (val n) (val d)).den * qN (qv t (val m) (val c)))
  rw [g1, g2, g3, qv_div _ _ hq] at this
  exact this
end Go.Proofs.YtobmjcbjailclaaGreatDoor

/- The twentieth law's look at sizes: one number. No condition. -/
namespace Go.Proofs.YtobmjcbjailclaaGreatDoor
set_option maxRecDepth 100000
open Go.RowKit

set_option maxHeartbeats 1600000 in
theorem big20_one (w : World) (g n1 n2 k1 k2 : Nat) (A1 A2 : Option Addr) (c1 : w.cell? ⟨g, 1, none⟩ = some (.slice A1 n1 k1)) (c2 : w.cell? ⟨g, 2, none⟩ = some (.slice A2 n2 k2)) (hg : g < w.heap.size) :
    Calls Tryz.prog 11 #[.slice (some ⟨g, 0, none⟩) 1 1] w fun e w' => (∃ b, e = .returned (.bool b) ∧ (b = false → n1 ≤ 3 ∧ n2 ≤ 3)) ∧ Below w.heap.size w w' := by
  have hB : Below w.heap.size w w := Below.refl _ _
  by_cases h1 : n1 ≤ 3
  · by_cases h2 : n2 ≤ 3
    · have i1 : ¬ (3 : Int) < (n1 : Int) := by omega
      have i2 : ¬ (3 : Int) < (n2 : Int) := by omega
      go_enter Tryz.func11, Tryz.ntmps11
      go_wp2_with fail
      go_loopw [3] (fun i wr => ∃ k : Nat, k ≤ 1 ∧ i = .int .i64 (k : Int) ∧ Below w.heap.size w wr) (fun i _ => 1 - (RowKit.intOf i).toNat)
      case atStart => exact ⟨0, by omega, rfl, hB⟩
      case round =>
        obtain ⟨k, hk, rfl, hB⟩ := hrel
        have d1 := (hB.cell (p := ⟨g, 1, none⟩) hg).trans c1
        have d2 := (hB.cell (p := ⟨g, 2, none⟩) hg).trans c2
        clear c1 c2
        have hc : k = 0 ∨ k = 1 := by omega
        rcases hc with rfl | rfl
        · go_wp2_with fail
          refine ⟨⟨1, by omega, by go_num, hB⟩, ?_⟩
          simp [RowKit.intOf]
        · go_wp2_with fail
          go_ret
          exact ⟨⟨false, rfl, fun _ => ⟨h1, h2⟩⟩, hB⟩
    · have i1 : ¬ (3 : Int) < (n1 : Int) := by omega
      have i2 : (3 : Int) < (n2 : Int) := by omega
      go_enter Tryz.func11, Tryz.ntmps11
      go_wp2_with fail
      go_loopw [3] (fun i wr => i = .int .i64 0 ∧ Below w.heap.size w wr) (fun i _ => 1 - (RowKit.intOf i).toNat)
      case atStart => exact ⟨rfl, hB⟩
      case round =>
        obtain ⟨rfl, hB⟩ := hrel
        have d1 := (hB.cell (p := ⟨g, 1, none⟩) hg).trans c1
        have d2 := (hB.cell (p := ⟨g, 2, none⟩) hg).trans c2
        clear c1 c2
        go_wp2_with fail
        go_ret
        exact ⟨⟨true, rfl, fun h => by cases h⟩, hB⟩
  · have i1 : (3 : Int) < (n1 : Int) := by omega
    go_enter Tryz.func11, Tryz.ntmps11
    go_wp2_with fail
    go_loopw [3] (fun i wr => i = .int .i64 0 ∧ Below w.heap.size w wr) (fun i _ => 1 - (RowKit.intOf i).toNat)
    case atStart => exact ⟨rfl, hB⟩
    case round =>
      obtain ⟨rfl, hB⟩ := hrel
      have d1 := (hB.cell (p := ⟨g, 1, none⟩) hg).trans c1
      have d2 := (hB.cell (p := ⟨g, 2, none⟩) hg).trans c2
      clear c1 c2
      go_wp2_with fail
      go_ret
      exact ⟨⟨true, rfl, fun h => by cases h⟩, hB⟩
end Go.Proofs.YtobmjcbjailclaaGreatDoor

/- The twentieth law's look at sizes: three numbers. No condition. -/
namespace Go.Proofs.YtobmjcbjailclaaGreatDoor
set_option maxRecDepth 100000
open Go.RowKit

/-- What is known where numbers are not more than is looked at. -/
def BigPost (P : Prop) (w : World) (e : Ending) (w' : World) : Prop := (∃ b, e = .returned (.bool b) ∧ (b = false → P)) ∧ Below w.heap.size w w'

/-- What a round of the look has shown. -/
def Big3 (n1 n2 n3 n4 n5 n6 k : Nat) : Prop := (1 ≤ k → n1 ≤ 3 ∧ n2 ≤ 3) ∧ (2 ≤ k → n3 ≤ 3 ∧ n4 ≤ 3) ∧ (3 ≤ k → n5 ≤ 3 ∧ n6 ≤ 3)

set_option maxHeartbeats 3200000 in
theorem big20_three (w : World) (g n1 n2 n3 n4 n5 n6 k1 k2 k3 k4 k5 k6 : Nat) (A1 A2 A3 A4 A5 A6 : Option Addr) (c1 : w.cell? ⟨g, 1, none⟩ = some (.slice A1 n1 k1)) (c2 : w.cell? ⟨g, 2, none⟩ = some (.slice A2 n2 k2)) (c3 : w.cell? ⟨g, 4, none⟩ = some (.slice A3 n3 k3)) (c4 : w.cell? ⟨g, 5, none⟩ = some (.slice A4 n4 k4)) (c5 : w.cell? ⟨g, 7, none⟩ = some (.slice A5 n5 k5)) (c6 : w.cell? ⟨g, 8, none⟩ = some (.slice A6 n6 k6)) (hg : g < w.heap.size) :
    Calls Tryz.prog 11 #[.slice (some ⟨g, 0, none⟩) 3 3] w (BigPost ((n1 ≤ 3 ∧ n2 ≤ 3) ∧ (n3 ≤ 3 ∧ n4 ≤ 3) ∧ (n5 ≤ 3 ∧ n6 ≤ 3)) w) := by
  have hB : Below w.heap.size w w := Below.refl _ _
  have C1 := Lib.hid c1
  have C2 := Lib.hid c2
  have C3 := Lib.hid c3
  have C4 := Lib.hid c4
  have C5 := Lib.hid c5
  have C6 := Lib.hid c6
  clear c1 c2 c3 c4 c5 c6
  go_enter Tryz.func11, Tryz.ntmps11
  go_wp2_with fail
  go_loopw [3] (fun i wr => ∃ k : Nat, k ≤ 3 ∧ i = .int .i64 (k : Int) ∧ Big3 n1 n2 n3 n4 n5 n6 k ∧ Below w.heap.size w wr) (fun i _ => 3 - (RowKit.intOf i).toNat)
  case atStart => exact ⟨0, by omega, rfl, ⟨fun h => by omega, fun h => by omega, fun h => by omega⟩, hB⟩
  case round =>
    obtain ⟨k, hk, rfl, hbig, hB⟩ := hrel
    have HBIG := Lib.hid hbig
    have HB := Lib.hid hB
    clear hbig hB
    have hc : k = 0 ∨ k = 1 ∨ k = 2 ∨ k = 3 := by omega
    clear hk
    rcases hc with rfl | rfl | rfl | rfl
    · have d1 := (HB.out.cell (p := ⟨g, 1, none⟩) hg).trans C1.out
      have d2 := (HB.out.cell (p := ⟨g, 2, none⟩) hg).trans C2.out
      by_cases h1 : n1 ≤ 3
      · have i1 : ¬ (3 : Int) < (n1 : Int) := by omega
        by_cases h2 : n2 ≤ 3
        · have i2 : ¬ (3 : Int) < (n2 : Int) := by omega
          have hnew : Hid (Big3 n1 n2 n3 n4 n5 n6 1) := ⟨fun _ => ⟨h1, h2⟩, fun h => by omega, fun h => by omega⟩
          clear h1 h2
          go_wp2_with fail
          go_roundw
          case rel => exact ⟨1, by omega, by go_num, hnew.out, HB.out⟩
          case measure => simp [RowKit.intOf]
        · have i2 : (3 : Int) < (n2 : Int) := by omega
          clear h1 h2
          go_wp2_with fail
          go_ret
          exact (show BigPost _ _ _ _ from ⟨⟨true, rfl, fun h => by cases h⟩, HB.out⟩)
      · have i1 : (3 : Int) < (n1 : Int) := by omega
        clear h1
        go_wp2_with fail
        go_ret
        exact (show BigPost _ _ _ _ from ⟨⟨true, rfl, fun h => by cases h⟩, HB.out⟩)
    · have d1 := (HB.out.cell (p := ⟨g, 4, none⟩) hg).trans C3.out
      have d2 := (HB.out.cell (p := ⟨g, 5, none⟩) hg).trans C4.out
      by_cases h1 : n3 ≤ 3
      · have i1 : ¬ (3 : Int) < (n3 : Int) := by omega
        by_cases h2 : n4 ≤ 3
        · have i2 : ¬ (3 : Int) < (n4 : Int) := by omega
          have hnew : Hid (Big3 n1 n2 n3 n4 n5 n6 2) := ⟨fun _ => HBIG.out.1 (by omega), fun h => ⟨h1, h2⟩, fun h => by omega⟩
          clear h1 h2
          go_wp2_with fail
          go_roundw
          case rel => exact ⟨2, by omega, by go_num, hnew.out, HB.out⟩
          case measure => simp [RowKit.intOf]
        · have i2 : (3 : Int) < (n4 : Int) := by omega
          clear h1 h2
          go_wp2_with fail
          go_ret
          exact (show BigPost _ _ _ _ from ⟨⟨true, rfl, fun h => by cases h⟩, HB.out⟩)
      · have i1 : (3 : Int) < (n3 : Int) := by omega
        clear h1
        go_wp2_with fail
        go_ret
        exact (show BigPost _ _ _ _ from ⟨⟨true, rfl, fun h => by cases h⟩, HB.out⟩)
    · have d1 := (HB.out.cell (p := ⟨g, 7, none⟩) hg).trans C5.out
      have d2 := (HB.out.cell (p := ⟨g, 8, none⟩) hg).trans C6.out
      by_cases h1 : n5 ≤ 3
      · have i1 : ¬ (3 : Int) < (n5 : Int) := by omega
        by_cases h2 : n6 ≤ 3
        · have i2 : ¬ (3 : Int) < (n6 : Int) := by omega
          have hnew : Hid (Big3 n1 n2 n3 n4 n5 n6 3) := ⟨fun _ => HBIG.out.1 (by omega), fun h => HBIG.out.2.1 (by omega), fun h => ⟨h1, h2⟩⟩
          clear h1 h2
          go_wp2_with fail
          go_roundw
          case rel => exact ⟨3, by omega, by go_num, hnew.out, HB.out⟩
          case measure => simp [RowKit.intOf]
        · have i2 : (3 : Int) < (n6 : Int) := by omega
          clear h1 h2
          go_wp2_with fail
          go_ret
          exact (show BigPost _ _ _ _ from ⟨⟨true, rfl, fun h => by cases h⟩, HB.out⟩)
      · have i1 : (3 : Int) < (n5 : Int) := by omega
        clear h1
        go_wp2_with fail
        go_ret
        exact (show BigPost _ _ _ _ from ⟨⟨true, rfl, fun h => by cases h⟩, HB.out⟩)
    · go_wp2_with fail
      go_ret
      exact (show BigPost _ _ _ _ from ⟨⟨false, rfl, fun _ => ⟨HBIG.out.1 (by omega), HBIG.out.2.1 (by omega), HBIG.out.2.2 (by omega)⟩⟩, HB.out⟩)
end Go.Proofs.YtobmjcbjailclaaGreatDoor

/- 'ShowBits' returns true at any number of digits. No condition. -/
namespace Go.Proofs.YtobmjcbjailclaaGreatDoor
set_option maxRecDepth 100000
open Go.RowKit

theorem bits_lt {m k : Nat} (hm : 1 ≤ m) : k < bl (m - 1) ↔ 2 ^ k < m := by
  by_cases h : m - 1 = 0
  · rw [h, bl_zero]
    have := Nat.two_pow_pos k
    omega
  · obtain ⟨a, b, c⟩ := bl_spec (m - 1) h
    constructor
    · intro hk
      have : 2 ^ k ≤ 2 ^ (bl (m - 1) - 1) := Nat.pow_le_pow_right (by omega) (by omega)
      omega
    · intro hk
      refine Nat.lt_of_not_le fun hle => ?_
      have : 2 ^ bl (m - 1) ≤ 2 ^ k := Nat.pow_le_pow_right (by omega) hle
      omega

theorem ten_pos (h : Nat) : 1 ≤ 10 ^ h := Nat.one_le_pow _ _ (by omega)

theorem bits_le {h : Nat} (hh : h ≤ 30) : bl (10 ^ h - 1) ≤ 100 := by
  refine Nat.le_of_not_lt fun hlt => ?_
  have h1 := (bits_lt (ten_pos h)).1 hlt
  have h2 : 10 ^ h ≤ 10 ^ 30 := Nat.pow_le_pow_right (by omega) hh
  have h3 : (10 : Nat) ^ 30 ≤ 2 ^ 100 := by decide
  omega

theorem cmpI_pos {a b : Nat} : 0 < cmpI (a : Int) (b : Int) ↔ b < a := by
  unfold cmpI
  by_cases h : (a : Int) < b
  · rw [if_pos h]; omega
  · rw [if_neg h]
    by_cases h2 : (b : Int) < a
    · rw [if_pos h2]; omega
    · rw [if_neg h2]; omega

set_option maxHeartbeats 3200000 in
theorem refBits20_any (d : Int) (w : World) : Calls Tryz.prog 15 #[.int .i64 d] w fun e w' => e = .returned (.int .i64 ((bl (10 ^ (hold30 d).toNat - 1) : Nat) : Int)) ∧ Below w.heap.size w w' := by
  obtain ⟨h, hh⟩ : ∃ h : Nat, (hold30 d).toNat = h := ⟨_, rfl⟩
  have hr := hold30_range d
  have hI : hold30 d = (h : Int) := by omega
  have h30 : h ≤ 30 := by omega
  rw [hh]
  have HI := Lib.hid hI
  obtain ⟨T, hT⟩ : ∃ T, bl (10 ^ h - 1) = T := ⟨_, rfl⟩
  have hT1 : T ≤ 100 := by rw [← hT]; exact bits_le h30
  have HL : Hid (∀ k, k < T ↔ 2 ^ k < 10 ^ h) := fun k => by rw [← hT]; exact bits_lt (ten_pos h)
  rw [hT]
  clear hT hh hr hI
  go_enter Tryz.func15, Tryz.ntmps15
  have hB : Below w.heap.size w w := Below.refl _ _
  go_wp2_with fail
  go_loopw [3] (fun p wr => ∃ k : Nat, k ≤ T ∧ p = .int .i64 (k : Nat) ∧ Below w.heap.size w wr)
    (fun p _ => T - (intOf p).toNat)
  case atStart => exact ⟨0, Nat.zero_le _, rfl, hB⟩
  case round =>
    obtain ⟨k, hk, rfl, hb⟩ := hrel
    clear hB
    obtain ⟨cz, hcz⟩ : ∃ cz, cmpI ((10 ^ h : Nat) : Int) ((2 ^ k : Nat) : Int) = cz := ⟨_, rfl⟩
    have hpos := cmpI_pos (a := 10 ^ h) (b := 2 ^ k)
    rw [hcz, ← HL.out k] at hpos
    have CZ := Lib.hid hcz
    have HP := Lib.hid hpos
    clear hcz hpos
    by_cases hlt : k < T
    · have hz : 0 < cz := HP.out.2 hlt
      go_wp2_with fail
      refine (refBit_any k _ (by omega)).mono ?_
      rintro e w1 ⟨v1, rfl, h1, hb1⟩
      have h1' := h1.low (Nat.zero_le _)
      have hb2 := hb.trans (hb1.mono hb.size)
      clear h1 hb1
      go_wp2_with fail
      refine (hold_any d _).mono ?_
      rintro e w2 ⟨rfl, rfl⟩
      rw [HI.out]
      go_wp2_with fail
      refine (refTen_any h _ h30).mono ?_
      rintro e w3 ⟨v3, rfl, h3, hb3⟩
      have h1'' := h1'.after hb3
      have h3' := h3.low (Nat.zero_le _)
      have hb4 := hb2.trans (hb3.mono hb2.size)
      clear h3 hb3 h1' hb2
      go_wp2_with fail
      refine (cmpBT_any _ _ k h _ (by omega) h30 h1'' h3').mono ?_
      rintro e w4 ⟨rfl, hb5⟩
      rw [CZ.out]
      have hb6 := hb4.trans (hb5.mono hb4.size)
      clear h1'' h3' hb4 hb5
      go_wp2_with fail
      go_roundw
      case rel => exact ⟨k + 1, by omega, by go_num, hb6⟩
      case measure => simp [intOf]; omega
    · have hz : ¬ 0 < cz := fun hc => hlt (HP.out.1 hc)
      obtain rfl : k = T := by omega
      go_wp2_with fail
      refine (refBit_any k _ (by omega)).mono ?_
      rintro e w1 ⟨v1, rfl, h1, hb1⟩
      have h1' := h1.low (Nat.zero_le _)
      have hb2 := hb.trans (hb1.mono hb.size)
      clear h1 hb1
      go_wp2_with fail
      refine (hold_any d _).mono ?_
      rintro e w2 ⟨rfl, rfl⟩
      rw [HI.out]
      go_wp2_with fail
      refine (refTen_any h _ h30).mono ?_
      rintro e w3 ⟨v3, rfl, h3, hb3⟩
      have h1'' := h1'.after hb3
      have h3' := h3.low (Nat.zero_le _)
      have hb4 := hb2.trans (hb3.mono hb2.size)
      clear h3 hb3 h1' hb2
      go_wp2_with fail
      refine (cmpBT_any _ _ k h _ (by omega) h30 h1'' h3').mono ?_
      rintro e w4 ⟨rfl, hb5⟩
      rw [CZ.out]
      have hb6 := hb4.trans (hb5.mono hb4.size)
      clear h1'' h3' hb4 hb5
      go_wp2_with fail
      go_ret
      exact ⟨rfl, hb6⟩

end Go.Proofs.YtobmjcbjailclaaGreatDoor
