/- Several texts in one: RefRatMul, ShowBig, OpenRat. Condition: each says its own. -/
import Derived.Deep.QuietTactic
import Derived.WalkSpells
import Derived.BigQuiet
import Derived.ProofKit
import Derived.OpenShut
import Derived.SizedLaws
import Derived.Lib.SmallJoins
import Derived.Test.YtobmjcbjailclaaPk6
import Derived.Test.YtobmjcbjailclaaPk7
import Derived.Test.YtobmjcbjailclaaPk8
/- The reference's 'Mul' and 'Div' of numbers with a divisor by their contracts. Condition: a bound on lengths. -/
namespace Go.Proofs.Ytobmjcbjailclaa
set_option maxRecDepth 100000
open Go.RowKit

theorem s6g_of {w0 W : World} {g h : Nat} {a0 a1 a2 b0 b1 b2 : Value} (hb : Below w0.heap.size w0 W) (c0 : w0.cell? ⟨g, 0, none⟩ = some a0) (c1 : w0.cell? ⟨g, 1, none⟩ = some a1) (c2 : w0.cell? ⟨g, 2, none⟩ = some a2) (d0 : w0.cell? ⟨h, 0, none⟩ = some b0) (d1 : w0.cell? ⟨h, 1, none⟩ = some b1) (d2 : w0.cell? ⟨h, 2, none⟩ = some b2) (hg : g < w0.heap.size) (hh : h < w0.heap.size) :
    W.cell? ⟨g, 0, none⟩ = some a0 ∧ W.cell? ⟨g, 1, none⟩ = some a1 ∧ W.cell? ⟨g, 2, none⟩ = some a2 ∧ W.cell? ⟨h, 0, none⟩ = some b0 ∧ W.cell? ⟨h, 1, none⟩ = some b1 ∧ W.cell? ⟨h, 2, none⟩ = some b2 :=
  ⟨(hb.cell (p := ⟨g, 0, none⟩) hg).trans c0, (hb.cell (p := ⟨g, 1, none⟩) hg).trans c1, (hb.cell (p := ⟨g, 2, none⟩) hg).trans c2, (hb.cell (p := ⟨h, 0, none⟩) hh).trans d0, (hb.cell (p := ⟨h, 1, none⟩) hh).trans d1, (hb.cell (p := ⟨h, 2, none⟩) hh).trans d2⟩

theorem s6g_set {W : World} {g h p : Nat} {a0 a1 a2 b0 b1 b2 u v z : Value} (hs : W.cell? ⟨g, 0, none⟩ = some a0 ∧ W.cell? ⟨g, 1, none⟩ = some a1 ∧ W.cell? ⟨g, 2, none⟩ = some a2 ∧ W.cell? ⟨h, 0, none⟩ = some b0 ∧ W.cell? ⟨h, 1, none⟩ = some b1 ∧ W.cell? ⟨h, 2, none⟩ = some b2) (hg : p ≠ g) (hh : p ≠ h) :
    (((W.setCell ⟨p, 0, none⟩ u).setCell ⟨p, 1, none⟩ v).setCell ⟨p, 2, none⟩ z).cell? ⟨g, 0, none⟩ = some a0 ∧ (((W.setCell ⟨p, 0, none⟩ u).setCell ⟨p, 1, none⟩ v).setCell ⟨p, 2, none⟩ z).cell? ⟨g, 1, none⟩ = some a1 ∧ (((W.setCell ⟨p, 0, none⟩ u).setCell ⟨p, 1, none⟩ v).setCell ⟨p, 2, none⟩ z).cell? ⟨g, 2, none⟩ = some a2 ∧
      (((W.setCell ⟨p, 0, none⟩ u).setCell ⟨p, 1, none⟩ v).setCell ⟨p, 2, none⟩ z).cell? ⟨h, 0, none⟩ = some b0 ∧ (((W.setCell ⟨p, 0, none⟩ u).setCell ⟨p, 1, none⟩ v).setCell ⟨p, 2, none⟩ z).cell? ⟨h, 1, none⟩ = some b1 ∧ (((W.setCell ⟨p, 0, none⟩ u).setCell ⟨p, 1, none⟩ v).setCell ⟨p, 2, none⟩ z).cell? ⟨h, 2, none⟩ = some b2 := by
  obtain ⟨a, b, c, d, e, f⟩ := hs
  exact ⟨far_set3 a hg, far_set3 b hg, far_set3 c hg, far_set3 d hh, far_set3 e hh, far_set3 f hh⟩

set_option maxHeartbeats 3200000 in
theorem ratMul_any (u v : Value) (s t : Bool) (n d m c : List Nat) (w : World) (dn : Dig n) (dd : Dig d) (dm : Dig m) (dc : Dig c) (h : Rt w 0 w.heap.size u s n d) (h' : Rt w 0 w.heap.size v t m c)
    (ln : n.length ≤ 400) (ld : d.length ≤ 400) (lm : m.length ≤ 400) (lc : c.length ≤ 400) (S T : Bool) (N D M C : Nat) (hS : nrS s (val n) (val d) = S) (hN : nrN (val n) (val d) = N) (hD : nrD (val n) (val d) = D)
    (hT : nrS t (val m) (val c) = T) (hM : nrN (val m) (val c) = M) (hC : nrD (val m) (val c) = C) :
    Calls Try.prog 9 #[u, v] w (GivesT (nrS (S != T) (N * M) (D * C)) (nrN (N * M) (D * C)) (nrD (N * M) (D * C)) w) := by
  obtain ⟨vn, vd, rfl, hn, hd⟩ := h
  obtain ⟨vm, vc, rfl, hm, hc⟩ := h'
  have hS' := Lib.hid hS
  have hN' := Lib.hid hN
  have hD' := Lib.hid hD
  have hT' := Lib.hid hT
  have hM' := Lib.hid hM
  have hC' := Lib.hid hC
  have lN : (lim N).length ≤ 400 := by rw [← hN]; exact nrN_len dn ln
  have lM : (lim M).length ≤ 400 := by rw [← hM]; exact nrN_len dm lm
  have lD : (lim D).length ≤ 400 := by rw [← hD]; exact nrD_len dd ld (by omega)
  have lC : (lim C).length ≤ 400 := by rw [← hC]; exact nrD_len dc lc (by omega)
  clear hS hN hD hT hM hC
  go_enter Try.func9, Try.ntmps9
  go_wp2_with fail
  have b0 := ((Blk.new w 24 #[.bool s, vn, vd]).alloc (.cells #[.bool t, vm, vc] 24)).alloc (.cells #[.bool false, .slice none 0 0, .slice none 0 0] 24)
  have b1 := (Blk.new (w.alloc (.cells #[.bool s, vn, vd] 24)) 24 #[.bool t, vm, vc]).alloc (.cells #[.bool false, .slice none 0 0, .slice none 0 0] 24)
  have b2 := Blk.new ((w.alloc (.cells #[.bool s, vn, vd] 24)).alloc (.cells #[.bool t, vm, vc] 24)) 24 #[.bool false, .slice none 0 0, .slice none 0 0]
  have hB : Below w.heap.size w (((w.alloc (.cells #[.bool s, vn, vd] 24)).alloc (.cells #[.bool t, vm, vc] 24)).alloc (.cells #[.bool false, .slice none 0 0, .slice none 0 0] 24)) := (((Below.refl _ _).alloc (Nat.le_refl _) _).alloc (by simp) _).alloc (by simp; omega) _
  have es : (w.alloc (.cells #[.bool s, vn, vd] 24)).heap.size = w.heap.size + 1 := by simp
  have es2 : ((w.alloc (.cells #[.bool s, vn, vd] 24)).alloc (.cells #[.bool t, vm, vc] 24)).heap.size = w.heap.size + 1 + 1 := by simp
  rw [es] at b1
  rw [es2] at b2
  clear es es2
  generalize ((w.alloc (.cells #[.bool s, vn, vd] 24)).alloc (.cells #[.bool t, vm, vc] 24)).alloc (.cells #[.bool false, .slice none 0 0, .slice none 0 0] 24) = w2 at *
  have hn2 := hn.after hB
  have hd2 := hd.after hB
  have hm2 := hm.after hB
  have hc2 := hc.after hB
  clear hn hd hm hc
  go_cut [5, 6] from 7 to 10 (fun p q wx => R2 w S T N D M C p q wx)
  case first =>
    have c00 := b0.cell 0
    have c01 := b0.cell 1
    have c02 := b0.cell 2
    have c10 := b1.cell 0
    have c11 := b1.cell 1
    have c12 := b1.cell 2
    have hg := b1.lt
    have SW : Hid (w.heap.size + 2 < w2.heap.size) := b2.lt
    obtain ⟨An, k1, rfl, m1⟩ := nt_len hn2
    obtain ⟨Ad, k2, rfl, m2⟩ := nt_len hd2
    obtain ⟨Am, k3, rfl, m3⟩ := nt_len hm2
    obtain ⟨Ac, k4, rfl, m4⟩ := nt_len hc2
    have HS0 : Hid (Below w2.heap.size w2 w2 ∧ w2.cell? ⟨w.heap.size, 0, none⟩ = some (.bool s) ∧ w2.cell? ⟨w.heap.size, 1, none⟩ = some (.slice An n.length k1) ∧ w2.cell? ⟨w.heap.size, 2, none⟩ = some (.slice Ad d.length k2) ∧ w2.cell? ⟨w.heap.size + 1, 0, none⟩ = some (.bool t) ∧ w2.cell? ⟨w.heap.size + 1, 1, none⟩ = some (.slice Am m.length k3) ∧ w2.cell? ⟨w.heap.size + 1, 2, none⟩ = some (.slice Ac c.length k4)) := ⟨Below.refl _ _, c00, c01, c02, c10, c11, c12⟩
    have HS2 : Hid (Below w2.heap.size w2 w2.drew ∧ w2.drew.cell? ⟨w.heap.size, 0, none⟩ = some (.bool s) ∧ w2.drew.cell? ⟨w.heap.size, 1, none⟩ = some (.slice An n.length k1) ∧ w2.drew.cell? ⟨w.heap.size, 2, none⟩ = some (.slice Ad d.length k2) ∧ w2.drew.cell? ⟨w.heap.size + 1, 0, none⟩ = some (.bool t) ∧ w2.drew.cell? ⟨w.heap.size + 1, 1, none⟩ = some (.slice Am m.length k3) ∧ w2.drew.cell? ⟨w.heap.size + 1, 2, none⟩ = some (.slice Ac c.length k4)) := ⟨(Below.refl _ _).drew, c00, c01, c02, c10, c11, c12⟩
    go_region_held3 (fun W => Below w2.heap.size w2 W ∧ W.cell? ⟨w.heap.size, 0, none⟩ = some (.bool s) ∧ W.cell? ⟨w.heap.size, 1, none⟩ = some (.slice An n.length k1) ∧ W.cell? ⟨w.heap.size, 2, none⟩ = some (.slice Ad d.length k2) ∧ W.cell? ⟨w.heap.size + 1, 0, none⟩ = some (.bool t) ∧ W.cell? ⟨w.heap.size + 1, 1, none⟩ = some (.slice Am m.length k3) ∧ W.cell? ⟨w.heap.size + 1, 2, none⟩ = some (.slice Ac c.length k4))
      (first | ((repeat (with_reducible (first | exact HS4.out | exact HS3.out | exact HS2.out | exact HS0.out | refine keep6d ?_ | refine keep6s ?_ (by have h3 := SZ3.out; have h4 := SZ4.out; omega) hg _ _ | refine keep6 ?_ ((Below.refl _ _).alloc (Nat.le_refl _) _) hg))); done) | fail)
      (first
        | (have hz := z2; have hx := hk3; go_at_call 7; refine (ratNorm_any _ t m c _ dm dc ⟨_, _, rfl, hm2.after (And.left (by assumption)), hc2.after (And.left (by assumption))⟩ (by omega) (by omega)).mono ?_; rw [hT'.out, hM'.out, hC'.out]; rintro e w4 ⟨v4, rfl, ⟨yn, yd, rfl, hyn, hyd⟩, hb4⟩; have HS4 := Lib.hid (keep6 (by assumption) hb4 hg); have SZ4 := Lib.hid (Below.size (And.left HS4.out)); have hyn' := hyn; have hyd' := hyd; obtain ⟨A5, k5, rfl, m5⟩ := nt_len hyn'; obtain ⟨A6, k6, rfl, m6⟩ := nt_len hyd'; clear hyn' hyd'; have y1 := z1.call0 hb4; have y2 := z2.call0 hb4; obtain ⟨f10, f11, f12, f13, f14, f15⟩ := y1.facts; obtain ⟨f20, f21, f22, f23, f24, f25⟩ := y2.facts; have SY := Lib.hid (show w3.heap.size + 0 ≤ w4.heap.size from Nat.le_trans (by simp) hb4.size); have Q4 := Lib.hid (Q0.of 2 0 hxn hxd (by simp) hb4 hyn hyd (by simp) b2 (And.left HS4.out) hB); clear hxn hxd hyn hyd)
        | (have hz := z1; have hx := hk3; go_at_call 7; refine (ratNorm_any _ t m c _ dm dc ⟨_, _, rfl, hm2.after (And.left (by assumption)), hc2.after (And.left (by assumption))⟩ (by omega) (by omega)).mono ?_; rw [hT'.out, hM'.out, hC'.out]; rintro e w4 ⟨v4, rfl, ⟨yn, yd, rfl, hyn, hyd⟩, hb4⟩; have HS4 := Lib.hid (keep6 (by assumption) hb4 hg); have SZ4 := Lib.hid (Below.size (And.left HS4.out)); have hyn' := hyn; have hyd' := hyd; obtain ⟨A5, k5, rfl, m5⟩ := nt_len hyn'; obtain ⟨A6, k6, rfl, m6⟩ := nt_len hyd'; clear hyn' hyd'; refine (fun (hq : Below (World.heap (World.alloc w3 (.cells #[.bool false, .slice none 0 0, .slice none 0 0] 24))).size (World.alloc w3 (.cells #[.bool false, .slice none 0 0, .slice none 0 0] 24)) w4) => ?_) ?_; rotate_left; with_reducible assumption; have y1 := z1.call1 hq; have y2 := zr_one hq; obtain ⟨f10, f11, f12, f13, f14, f15⟩ := y1.facts; obtain ⟨f20, f21, f22, f23, f24, f25⟩ := y2.facts; have ne1 := z1.ne; have ne2 := ne1.symm; have SY := Lib.hid (show w3.heap.size + 1 ≤ w4.heap.size from Nat.le_trans (by simp) hb4.size); have Q4 := Lib.hid (Q0.of 1 1 hxn hxd (by simp) (((Below.refl w3.heap.size w3).alloc (Nat.le_refl _) (.cells #[.bool false, .slice none 0 0, .slice none 0 0] 24)).trans (hq.mono (by simp))) hyn hyd (by simp) b2 (And.left HS4.out) hB); clear hxn hxd hyn hyd)
        | (have hz := z1; have hx := hk3; go_at_call 7; refine (ratNorm_any _ t m c _ dm dc ⟨_, _, rfl, hm2.after (And.left (by assumption)), hc2.after (And.left (by assumption))⟩ (by omega) (by omega)).mono ?_; rw [hT'.out, hM'.out, hC'.out]; rintro e w4 ⟨v4, rfl, ⟨yn, yd, rfl, hyn, hyd⟩, hb4⟩; have HS4 := Lib.hid (keep6 (by assumption) hb4 hg); have SZ4 := Lib.hid (Below.size (And.left HS4.out)); have hyn' := hyn; have hyd' := hyd; obtain ⟨A5, k5, rfl, m5⟩ := nt_len hyn'; obtain ⟨A6, k6, rfl, m6⟩ := nt_len hyd'; clear hyn' hyd'; have y1 := z1.call0 hb4; obtain ⟨f10, f11, f12, f13, f14, f15⟩ := y1.facts; obtain ⟨ga0, ga1, ga2, ga3, ga4, ga5⟩ := y1.more (.cells #[.bool false, .slice none 0 0, .slice none 0 0] 24); obtain ⟨gb0, gb1, gb2, gb3, gb4, gb5⟩ := y1.more (.cells #[.bool S, .slice A7 (lim N).length k7, .slice A8 (lim D).length k8] 24); obtain ⟨gc0, gc1, gc2, gc3, gc4, gc5⟩ := y1.more (.cells #[.bool T, .slice A5 (lim M).length k5, .slice A6 (lim C).length k6] 24); have ne1 := y1.ne; have ne2 := ne1.symm; have SY := Lib.hid (show w3.heap.size + 0 ≤ w4.heap.size from Nat.le_trans (by simp) hb4.size); have Q4 := Lib.hid (Q0.of 1 0 hxn hxd (by simp) hb4 hyn hyd (by simp) b2 (And.left HS4.out) hB); clear hxn hxd hyn hyd)
        | (have hx := hk3; go_at_call 7; refine (ratNorm_any _ t m c _ dm dc ⟨_, _, rfl, hm2.after (And.left (by assumption)), hc2.after (And.left (by assumption))⟩ (by omega) (by omega)).mono ?_; rw [hT'.out, hM'.out, hC'.out]; rintro e w4 ⟨v4, rfl, ⟨yn, yd, rfl, hyn, hyd⟩, hb4⟩; have HS4 := Lib.hid (keep6 (by assumption) hb4 hg); have SZ4 := Lib.hid (Below.size (And.left HS4.out)); have hyn' := hyn; have hyd' := hyd; obtain ⟨A5, k5, rfl, m5⟩ := nt_len hyn'; obtain ⟨A6, k6, rfl, m6⟩ := nt_len hyd'; clear hyn' hyd'; refine (fun (hq : Below (World.heap (World.alloc (World.alloc w3 (.cells #[.bool false, .slice none 0 0, .slice none 0 0] 24)) (.cells #[.bool false, .slice none 0 0, .slice none 0 0] 24))).size (World.alloc (World.alloc w3 (.cells #[.bool false, .slice none 0 0, .slice none 0 0] 24)) (.cells #[.bool false, .slice none 0 0, .slice none 0 0] 24)) w4) => ?_) ?_; rotate_left; with_reducible assumption; obtain ⟨y1, y2⟩ := zr_two hq; obtain ⟨f10, f11, f12, f13, f14, f15⟩ := y1.facts; obtain ⟨f20, f21, f22, f23, f24, f25⟩ := y2.facts; have SY := Lib.hid (show w3.heap.size + 2 ≤ w4.heap.size from Nat.le_trans (by simp) hb4.size); have Q4 := Lib.hid (Q0.of 0 2 hxn hxd (by simp) ((((Below.refl w3.heap.size w3).alloc (Nat.le_refl _) (.cells #[.bool false, .slice none 0 0, .slice none 0 0] 24)).alloc (by simp) (.cells #[.bool false, .slice none 0 0, .slice none 0 0] 24)).trans (hq.mono (by simp; omega))) hyn hyd (by simp) b2 (And.left HS4.out) hB); clear hxn hxd hyn hyd)
        | (have hx := hk3; go_at_call 7; refine (ratNorm_any _ t m c _ dm dc ⟨_, _, rfl, hm2.after (And.left (by assumption)), hc2.after (And.left (by assumption))⟩ (by omega) (by omega)).mono ?_; rw [hT'.out, hM'.out, hC'.out]; rintro e w4 ⟨v4, rfl, ⟨yn, yd, rfl, hyn, hyd⟩, hb4⟩; have HS4 := Lib.hid (keep6 (by assumption) hb4 hg); have SZ4 := Lib.hid (Below.size (And.left HS4.out)); have hyn' := hyn; have hyd' := hyd; obtain ⟨A5, k5, rfl, m5⟩ := nt_len hyn'; obtain ⟨A6, k6, rfl, m6⟩ := nt_len hyd'; clear hyn' hyd'; refine (fun (hq : Below (World.heap (World.alloc w3 (.cells #[.bool false, .slice none 0 0, .slice none 0 0] 24))).size (World.alloc w3 (.cells #[.bool false, .slice none 0 0, .slice none 0 0] 24)) w4) => ?_) ?_; rotate_left; with_reducible assumption; have y1 := zr_one hq; obtain ⟨f10, f11, f12, f13, f14, f15⟩ := y1.facts; obtain ⟨ga0, ga1, ga2, ga3, ga4, ga5⟩ := y1.more (.cells #[.bool false, .slice none 0 0, .slice none 0 0] 24); obtain ⟨gb0, gb1, gb2, gb3, gb4, gb5⟩ := y1.more (.cells #[.bool S, .slice A7 (lim N).length k7, .slice A8 (lim D).length k8] 24); obtain ⟨gc0, gc1, gc2, gc3, gc4, gc5⟩ := y1.more (.cells #[.bool T, .slice A5 (lim M).length k5, .slice A6 (lim C).length k6] 24); have ne1 := y1.ne; have ne2 := ne1.symm; have SY := Lib.hid (show w3.heap.size + 1 ≤ w4.heap.size from Nat.le_trans (by simp) hb4.size); have Q4 := Lib.hid (Q0.of 0 1 hxn hxd (by simp) (((Below.refl w3.heap.size w3).alloc (Nat.le_refl _) (.cells #[.bool false, .slice none 0 0, .slice none 0 0] 24)).trans (hq.mono (by simp))) hyn hyd (by simp) b2 (And.left HS4.out) hB); clear hxn hxd hyn hyd)
        | (have hx := hk3; go_at_call 7; refine (ratNorm_any _ t m c _ dm dc ⟨_, _, rfl, hm2.after (And.left (by assumption)), hc2.after (And.left (by assumption))⟩ (by omega) (by omega)).mono ?_; rw [hT'.out, hM'.out, hC'.out]; rintro e w4 ⟨v4, rfl, ⟨yn, yd, rfl, hyn, hyd⟩, hb4⟩; have HS4 := Lib.hid (keep6 (by assumption) hb4 hg); have SZ4 := Lib.hid (Below.size (And.left HS4.out)); have hyn' := hyn; have hyd' := hyd; obtain ⟨A5, k5, rfl, m5⟩ := nt_len hyn'; obtain ⟨A6, k6, rfl, m6⟩ := nt_len hyd'; clear hyn' hyd'; have SY := Lib.hid (show w3.heap.size + 0 ≤ w4.heap.size from Nat.le_trans (by simp) hb4.size); have Q4 := Lib.hid (Q0.of 0 0 hxn hxd (by simp) hb4 hyn hyd (by simp) b2 (And.left HS4.out) hB); clear hxn hxd hyn hyd)
        | (go_at_call 7; refine (ratNorm_any _ s n d _ dn dd ⟨_, _, rfl, hn2.after (And.left (by assumption)), hd2.after (And.left (by assumption))⟩ (by omega) (by omega)).mono ?_; rw [hS'.out, hN'.out, hD'.out]; rintro e w3 ⟨v3, rfl, ⟨xn, xd, rfl, hxn, hxd⟩, hk3⟩; have HS3 := Lib.hid (keep6 (by assumption) hk3 hg); have SZ3 := Lib.hid (Below.size (And.left HS3.out)); have hxn' := hxn; have hxd' := hxd; obtain ⟨A7, k7, rfl, m7⟩ := nt_len hxn'; obtain ⟨A8, k8, rfl, m8⟩ := nt_len hxd'; clear hxn' hxd'; refine (fun (hq : Below (World.heap (World.drew (World.alloc (World.alloc w2 (.cells #[.bool false, .slice none 0 0, .slice none 0 0] 24)) (.cells #[.bool false, .slice none 0 0, .slice none 0 0] 24)))).size (World.drew (World.alloc (World.alloc w2 (.cells #[.bool false, .slice none 0 0, .slice none 0 0] 24)) (.cells #[.bool false, .slice none 0 0, .slice none 0 0] 24))) w3) => ?_) ?_; rotate_left; with_reducible assumption; obtain ⟨z1, z2⟩ := zr_two (below_undrew hq); have SX := Lib.hid (show w2.heap.size + 2 ≤ w3.heap.size from Nat.le_trans (by simp) hk3.size))
        | (go_at_call 7; refine (ratNorm_any _ s n d _ dn dd ⟨_, _, rfl, hn2.after (And.left (by assumption)), hd2.after (And.left (by assumption))⟩ (by omega) (by omega)).mono ?_; rw [hS'.out, hN'.out, hD'.out]; rintro e w3 ⟨v3, rfl, ⟨xn, xd, rfl, hxn, hxd⟩, hk3⟩; have HS3 := Lib.hid (keep6 (by assumption) hk3 hg); have SZ3 := Lib.hid (Below.size (And.left HS3.out)); have hxn' := hxn; have hxd' := hxd; obtain ⟨A7, k7, rfl, m7⟩ := nt_len hxn'; obtain ⟨A8, k8, rfl, m8⟩ := nt_len hxd'; clear hxn' hxd'; refine (fun (hq : Below (World.heap (World.drew (World.alloc w2 (.cells #[.bool false, .slice none 0 0, .slice none 0 0] 24)))).size (World.drew (World.alloc w2 (.cells #[.bool false, .slice none 0 0, .slice none 0 0] 24))) w3) => ?_) ?_; rotate_left; with_reducible assumption; have z1 := zr_one (below_undrew hq); have SX := Lib.hid (show w2.heap.size + 1 ≤ w3.heap.size from Nat.le_trans (by simp) hk3.size))
        | (go_at_call 7; refine (ratNorm_any _ s n d _ dn dd ⟨_, _, rfl, hn2.after (And.left (by assumption)), hd2.after (And.left (by assumption))⟩ (by omega) (by omega)).mono ?_; rw [hS'.out, hN'.out, hD'.out]; rintro e w3 ⟨v3, rfl, ⟨xn, xd, rfl, hxn, hxd⟩, hk3⟩; have HS3 := Lib.hid (keep6 (by assumption) hk3 hg); have SZ3 := Lib.hid (Below.size (And.left HS3.out)); have hxn' := hxn; have hxd' := hxd; obtain ⟨A7, k7, rfl, m7⟩ := nt_len hxn'; obtain ⟨A8, k8, rfl, m8⟩ := nt_len hxd'; clear hxn' hxd'; have SX := Lib.hid (show w2.heap.size + 0 ≤ w3.heap.size from Nat.le_trans (by simp) hk3.size))
        | fail)
    all_goals (go_wp2_with fail; go_meet)
    all_goals (have hx3 := SX.out; have hy4 := SY.out; have hw2 := SW.out)
    all_goals first
      | with_reducible exact r2_a Q4.out (by omega)
      | with_reducible exact r2_b Q4.out (by omega)
      | with_reducible exact r2_c Q4.out y1 (by omega) (by omega)
      | with_reducible exact r2_e Q4.out y1 (by omega) (by omega)
      | with_reducible exact r2_d Q4.out y1 y2 (by omega) (by omega) (by omega)
      | with_reducible exact r2_d Q4.out y2 y1 (by omega) (by omega) (by omega)
      | trace_state
  case rest =>
    obtain ⟨gx, gy, xn, xd, yn, yd, rfl, rfl, hgx, hgy, hxn, hxd, hyn, hyd, hres, hBc, hgx2, hgy2⟩ := hcut
    clear hB b0 b1 b2 hn2 hd2 hm2 hc2
    obtain ⟨A1, k1, rfl, m1⟩ := nt_len hxn
    obtain ⟨A2, k2, rfl, m2⟩ := nt_len hxd
    obtain ⟨A3, k3, rfl, m3⟩ := nt_len hyn
    obtain ⟨A4, k4, rfl, m4⟩ := nt_len hyd
    have x0 := hgx.cell 0
    have x1 := hgx.cell 1
    have x2 := hgx.cell 2
    have y0 := hgy.cell 0
    have y1 := hgy.cell 1
    have y2 := hgy.cell 2
    have kx := hgx.lt
    have ky := hgy.lt
    have dN := dig_lim N
    have dD := dig_lim D
    have dM := dig_lim M
    have dC := dig_lim C
    have nex : w.heap.size + 1 + 1 ≠ gx := Nat.ne_of_lt hgx2
    have ney : w.heap.size + 1 + 1 ≠ gy := Nat.ne_of_lt hgy2
    have hk0 : Below wc.heap.size wc wc.drew := (Below.refl _ _).drew
    have VP : Hid (val (lim N) * val (lim M) = N * M) := by show _ = _; rw [val_lim, val_lim]
    have VQ : Hid (val (lim D) * val (lim C) = D * C) := by show _ = _; rw [val_lim, val_lim]
    have lP : (lim (N * M)).length ≤ 800 := lim_mul_len dN dM (val_lim _).symm (val_lim _).symm lN lM
    have lQ : (lim (D * C)).length ≤ 800 := lim_mul_len dD dC (val_lim _).symm (val_lim _).symm lD lC
    obtain ⟨P, hP⟩ : ∃ P, N * M = P := ⟨_, rfl⟩
    obtain ⟨Q, hQ⟩ : ∃ Q, D * C = Q := ⟨_, rfl⟩
    rw [hP] at VP lP
    rw [hQ] at VQ lQ
    have HP := Lib.hid hP
    have HQ := Lib.hid hQ
    clear hP hQ
    have WP := Lib.hid (val_lim P)
    have WQ := Lib.hid (val_lim Q)
    obtain ⟨ST, hST⟩ : ∃ b, (S != T) = b := ⟨_, rfl⟩
    have HST := Lib.hid hST
    obtain ⟨FS, hFS⟩ : ∃ z, nrS ST P Q = z := ⟨_, rfl⟩
    obtain ⟨FN, hFN⟩ : ∃ z, nrN P Q = z := ⟨_, rfl⟩
    obtain ⟨FD, hFD⟩ : ∃ z, nrD P Q = z := ⟨_, rfl⟩
    have HFS := Lib.hid hFS
    have HFN := Lib.hid hFN
    have HFD := Lib.hid hFD
    clear hFS hFN hFD
    have hbe : (!(S == T)) = ST := hST
    clear hST
    go_wp2_with fail
    go_region_held3 (fun W => W.cell? ⟨gx, 0, none⟩ = some (.bool S) ∧ W.cell? ⟨gx, 1, none⟩ = some (.slice A1 (lim N).length k1) ∧ W.cell? ⟨gx, 2, none⟩ = some (.slice A2 (lim D).length k2) ∧ W.cell? ⟨gy, 0, none⟩ = some (.bool T) ∧ W.cell? ⟨gy, 1, none⟩ = some (.slice A3 (lim M).length k3) ∧ W.cell? ⟨gy, 2, none⟩ = some (.slice A4 (lim C).length k4))
      (first | exact s6g_set (s6g_of hk9 x0 x1 x2 y0 y1 y2 kx ky) nex ney | exact s6g_of hk9 x0 x1 x2 y0 y1 y2 kx ky | exact s6g_of hk8 x0 x1 x2 y0 y1 y2 kx ky | exact s6g_of hk7 x0 x1 x2 y0 y1 y2 kx ky | exact s6g_of hk0 x0 x1 x2 y0 y1 y2 kx ky | fail)
      (first
        | (have hx := hk8; go_at_call 27; refine (ratOf_any ST _ _ (lim P) (lim Q) _ (dig_lim P) (dig_lim Q) (h7.after hb8) (h8.low (Nat.zero_le _)) (by omega) (by omega)).mono ?_; rw [WP.out, WQ.out, HFS.out, HFN.out, HFD.out]; rintro e w9 ⟨v9, rfl, ⟨an, ad, rfl, han, had⟩, hb9⟩; have han' := han; have had' := had; obtain ⟨A5, k5, rfl, m5⟩ := nt_len han'; obtain ⟨A6, k6, rfl, m6⟩ := nt_len had'; clear han' had'; have hk9 : Below wc.heap.size wc w9 := hk8.trans (hb9.mono hk8.size); have q9 := hres.below hk9 hres.lt; have r0 := q9.cell 0; have r1 := q9.cell 1; have r2 := q9.cell 2; have f0 := q9.free 0; have f1 := q9.free 1; have f2 := q9.free 2)
        | (have hx := hk7; go_at_call 26; refine (refMul_any _ _ (lim D) (lim C) _ dD dC (hxd.after hk7) (hyd.after hk7) (by omega) (by omega)).mono ?_; rw [VQ.out]; rintro e w8 ⟨v8, rfl, h8, hb8⟩; have hk8 : Below wc.heap.size wc w8 := hk7.trans (hb8.mono hk7.size))
        | (go_at_call 26; refine (refMul_any _ _ (lim N) (lim M) _ dN dM hxn.drew hyn.drew (by omega) (by omega)).mono ?_; rw [VP.out]; rintro e w7 ⟨v7, rfl, h7, hb7⟩; replace h7 := h7.low (Nat.zero_le _); have hk7 : Below wc.heap.size wc w7 := Below.trans (Below.drew (Below.refl _ _)) hb7)
        | fail)
    obtain ⟨e0, e1, e2, hR, hBf⟩ := store3 q9 (hBc.trans (hk9.mono hBc.size)) (by omega) FS (.slice A5 (lim FN).length k5) (.slice A6 (lim FD).length k6) (han.low (Nat.le_trans hres.lt hk8.size)) (had.low (Nat.le_trans hres.lt hk8.size))
    have HR := Lib.hid hR
    have HBF := Lib.hid hBf
    clear r0 r1 r2 f0 f1 f2 q9 han had hR hBf h7 h8 hb7 hb8 hb9
    unfold St3 at *
    go_wp2_with fail
    generalize ((World.setCell w9 ⟨w.heap.size + 1 + 1, 0, none⟩ (.bool FS)).setCell ⟨w.heap.size + 1 + 1, 1, none⟩ (.slice A5 (lim FN).length k5)).setCell ⟨w.heap.size + 1 + 1, 2, none⟩ (.slice A6 (lim FD).length k6) = WW at *
    refine bodyPost_ret (v := .agg #[.bool FS, .slice A5 (lim FN).length k5, .slice A6 (lim FD).length k6]) ?_ rfl (by show GivesT _ _ _ _ _ _; rw [HST.out, HP.out, HQ.out, HFS.out, HFN.out, HFD.out]; exact ⟨_, rfl, HR.out, HBF.out⟩)
    simp [results, Try.results9, go_sem, e0, e1, e2]
end Go.Proofs.Ytobmjcbjailclaa

/- The twentieth law's look at sizes: one number. No condition. -/
namespace Go.Proofs.Ytobmjcbjailclaa
set_option maxRecDepth 100000
open Go.RowKit

set_option maxHeartbeats 1600000 in
theorem big20_one (w : World) (g n1 n2 k1 k2 : Nat) (A1 A2 : Option Addr) (c1 : w.cell? ⟨g, 1, none⟩ = some (.slice A1 n1 k1)) (c2 : w.cell? ⟨g, 2, none⟩ = some (.slice A2 n2 k2)) (hg : g < w.heap.size) :
    Calls Try.prog 4 #[.slice (some ⟨g, 0, none⟩) 1 1] w fun e w' => (∃ b, e = .returned (.bool b) ∧ (b = false → n1 ≤ 3 ∧ n2 ≤ 3)) ∧ Below w.heap.size w w' := by
  have hB : Below w.heap.size w w := Below.refl _ _
  by_cases h1 : n1 ≤ 3
  · by_cases h2 : n2 ≤ 3
    · have i1 : ¬ (3 : Int) < (n1 : Int) := by omega
      have i2 : ¬ (3 : Int) < (n2 : Int) := by omega
      go_enter Try.func4, Try.ntmps4
      go_wp2_with fail
      go_loopw [3] (fun i wr => ∃ k : Nat, k ≤ 1 ∧ i = .int .i64 (k : Int) ∧ Below w.heap.size w wr) (fun i _ => 1 - (RowKit.intOf i).toNat)
      case atStart => exact ⟨0, by omega, rfl, hB⟩
      case round =>
        obtain ⟨k, hk, rfl, hB⟩ := hrel
        have d1 := (hB.cell (p := ⟨g, 1, none⟩) hg).trans c1
        have d2 := (hB.cell (p := ⟨g, 2, none⟩) hg).trans c2
        clear c1 c2
        have hc : k = 0 ∨ k = 1 := by omega
        rcases hc with rfl | rfl
        · go_wp2_with fail
          refine ⟨⟨1, by omega, by go_num, hB⟩, ?_⟩
          simp [RowKit.intOf]
        · go_wp2_with fail
          go_ret
          exact ⟨⟨false, rfl, fun _ => ⟨h1, h2⟩⟩, hB⟩
    · have i1 : ¬ (3 : Int) < (n1 : Int) := by omega
      have i2 : (3 : Int) < (n2 : Int) := by omega
      go_enter Try.func4, Try.ntmps4
      go_wp2_with fail
      go_loopw [3] (fun i wr => i = .int .i64 0 ∧ Below w.heap.size w wr) (fun i _ => 1 - (RowKit.intOf i).toNat)
      case atStart => exact ⟨rfl, hB⟩
      case round =>
        obtain ⟨rfl, hB⟩ := hrel
        have d1 := (hB.cell (p := ⟨g, 1, none⟩) hg).trans c1
        have d2 := (hB.cell (p := ⟨g, 2, none⟩) hg).trans c2
        clear c1 c2
        go_wp2_with fail
        go_ret
        exact ⟨⟨true, rfl, fun h => by cases h⟩, hB⟩
  · have i1 : (3 : Int) < (n1 : Int) := by omega
    go_enter Try.func4, Try.ntmps4
    go_wp2_with fail
    go_loopw [3] (fun i wr => i = .int .i64 0 ∧ Below w.heap.size w wr) (fun i _ => 1 - (RowKit.intOf i).toNat)
    case atStart => exact ⟨rfl, hB⟩
    case round =>
      obtain ⟨rfl, hB⟩ := hrel
      have d1 := (hB.cell (p := ⟨g, 1, none⟩) hg).trans c1
      have d2 := (hB.cell (p := ⟨g, 2, none⟩) hg).trans c2
      clear c1 c2
      go_wp2_with fail
      go_ret
      exact ⟨⟨true, rfl, fun h => by cases h⟩, hB⟩
end Go.Proofs.Ytobmjcbjailclaa

/- An argument that is a number with a divisor, read. Condition: what the platform bounds. -/
namespace Go.Proofs.Ytobmjcbjailclaa
set_option maxRecDepth 100000
open Go.ChangeShapes Go.WideShapes Go.ChangeAt Go.RowKit Go.Joins

theorem open_nats {H : Type} {enc : TypeId × Value → H} {P : Program} {W : World} {held : Bool} {t e : TypeId} {n : Nat} {v : Value} {y : DataW H × List MemPlace} (ht : P.underlying t = some (.slice e)) (he : P.underlying e = some (.int .u32)) (hc : P.cellsOf e = 1) (hb : P.bytesOf e = 4)
    (h : DataW.trod enc P W 0 (fun _ => true) held n t [v] = some y) (hz : ∀ k ∈ y.1.weights P t, k ≤ reachBytes) : ∃ l : List Nat, Nt W 0 W.heap.size v l ∧ Dig l ∧ l.length ≤ 70368744177664 := by
  rcases open_ints ht he hc h with ⟨hcs, _⟩ | ⟨x, len, cap, zs, hcs, _, hl, hm, hzl, hy, hcell, hwz⟩
  · have hv : v = .slice none 0 0 := by simpa using hcs
    subst hv
    exact ⟨[], Nt.nil _ _ _, (fun k hk => by cases hk), by simp⟩
  · have hv : v = .slice (some x) len cap := by simpa using hcs
    subst hv
    rw [if_pos rfl] at hzl
    obtain ⟨l, hr, hw⟩ := rd_of_nats (w := W) (a := some x) (len := len) (cap := cap) (zs := zs) (.inr ⟨x, rfl, hl, hm, hzl, hcell, hwz⟩)
    refine ⟨l, Nt.of_rd hr, hw, ?_⟩
    have hlen : l.length = len := by
      obtain ⟨A, c, hv, _⟩ := hr
      have := (Value.slice.inj hv).2.1
      rw [lv_length] at this
      exact this.symm
    have h1 := hz ((((lits .u32 (zs.take len) : List (DataW H)).length) + (lits .u32 (zs.drop len) : List (DataW H)).length) * P.bytesOf e) (by rw [hy]; simp [DataW.weights, ht])
    have h2 : (lits .u32 (zs.take len) : List (DataW H)).length = len := by unfold lits; rw [List.length_map, List.length_take]; omega
    rw [h2, hb] at h1
    have h3 := reachBytes_lt
    have h4 : (2 : Nat) ^ 47 = 140737488355328 := by decide
    omega

/-- An argument of three cells: a sign, what is divided, the divisor. -/
theorem open_rat {H : Type} {enc : TypeId × Value → H} {P : Program} {W : World} {r : Reach} {b0 : Nat} {held : Bool} {t t0 t1 e : TypeId} {f0 f1 f2 : Field} {v : Value} {d : DataW H} {p : List MemPlace} (hs : P.underlying t = some (.struct #[f0, f1, f2])) (hone : Deep.oneCellFields P #[f0, f1, f2] = true) (hC : P.cellsOf t = 3)
    (e0 : f0.type = t0) (e1 : f1.type = t1) (e2 : f2.type = t1) (hb : P.underlying t0 = some .bool) (ht : P.underlying t1 = some (.slice e)) (he : P.underlying e = some (.int .u32)) (hc : P.cellsOf e = 1) (h4 : P.bytesOf e = 4)
    (hv : Value.okWide P W r b0 t v) (h : DataW.Trod enc P W 0 (fun _ => true) held t v d p) (hz : ∀ k ∈ d.weights P t, k ≤ reachBytes) :
    ∃ (s : Bool) (n m : List Nat), Rt W 0 W.heap.size v s n m ∧ Dig n ∧ Dig m ∧ n.length ≤ 70368744177664 ∧ m.length ≤ 70368744177664 := by
  obtain ⟨v0, v1, v2, y0, y1, y2, k, rfl, rfl, rfl, h0, h1, h2⟩ := Joins.open_agg3 hs hone hC hv h
  rw [e0] at h0
  rw [e1] at h1
  rw [e2] at h2
  obtain ⟨s, hs0, _⟩ := DataW.trod_bool hb h0
  have hv0 : v0 = .bool s := by simpa using hs0
  subst hv0
  have hw : ∀ k ∈ DataW.weightsEach P [f0.type, f1.type, f2.type] [y0.1, y1.1, y2.1], k ≤ reachBytes := fun k hk => hz k (by simpa [DataW.weights, hs] using hk)
  obtain ⟨n, hn, dn, ln⟩ := open_nats ht he hc h4 h1 fun k hk => hw k (DataW.weights_mem_each (j := 1) (t := f1.type) rfl rfl k (by rw [e1]; exact hk))
  obtain ⟨m, hm, dm, lm⟩ := open_nats ht he hc h4 h2 fun k hk => hw k (DataW.weights_mem_each (j := 2) (t := f2.type) rfl rfl k (by rw [e2]; exact hk))
  exact ⟨s, n, m, ⟨_, _, rfl, hn, hm⟩, dn, dm, ln, lm⟩
end Go.Proofs.Ytobmjcbjailclaa
