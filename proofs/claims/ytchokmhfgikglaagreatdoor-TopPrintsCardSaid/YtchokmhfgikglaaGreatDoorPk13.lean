/- Several texts in one: RefSame, Goes. Condition: each says its own. -/
import Derived.Deep.DeepFit
import Derived.Test.YtchokmhfgikglaaGreatDoorRows
import Derived.KernelRfl
import GoSem.ClaimGoes
import Derived.Test.YtchokmhfgikglaaGreatDoorPk11
import Derived.Test.YtchokmhfgikglaaGreatDoorPk12
namespace Go.Proofs.YtchokmhfgikglaaGreatDoor
set_option maxRecDepth 100000
open Go.RowKit

/-- What holds behind both calls, whatever variables are made and set. -/
def Yq0 (w w2 w3 w4 : World) (k k' : Nat) (xn xd yn yd : Value) (n d m c : List Nat) (W : World) : Prop :=
  NP W (w2.heap.size + k) w3.heap.size xn xd n d ∧ NP W (w3.heap.size + k') w4.heap.size yn yd m c ∧ Below w.heap.size w W ∧ w4.heap.size ≤ W.heap.size ∧ w3.heap.size ≤ w4.heap.size ∧ w.heap.size ≤ w4.heap.size

section
variable {w w2 w3 w4 W : World} {k k' : Nat} {xn xd yn yd : Value} {n d m c : List Nat}
theorem Yq0.of (k k' : Nat) {L L' : Nat} (hx : Nt w3 L w3.heap.size xn n) (hd : Nt w3 L w3.heap.size xd d) (hL : w2.heap.size + k ≤ L) (hc : Below w3.heap.size w3 w4) (hy : Nt w4 L' w4.heap.size yn m) (hyd : Nt w4 L' w4.heap.size yd c) (hL' : w3.heap.size + k' ≤ L')
    (hw : Below w2.heap.size w2 w4) (hB : Below w.heap.size w w2) : Yq0 w w2 w3 w4 k k' xn xd yn yd n d m c w4 :=
  ⟨⟨(hx.low hL).below hc (Nat.le_refl _), (hd.low hL).below hc (Nat.le_refl _)⟩, ⟨hy.low hL', hyd.low hL'⟩, hB.trans (hw.mono hB.size), Nat.le_refl _, hc.size, Nat.le_trans hB.size hw.size⟩
theorem Yq0.alloc (h : Yq0 w w2 w3 w4 k k' xn xd yn yd n d m c W) (o : Obj) : Yq0 w w2 w3 w4 k k' xn xd yn yd n d m c (W.alloc o) := by
  obtain ⟨a, b, f, g, i, j⟩ := h
  exact ⟨a.alloc (by omega) o, b.alloc g o, f.alloc (by omega) o, by simp; omega, i, j⟩
theorem Yq0.set (h : Yq0 w w2 w3 w4 k k' xn xd yn yd n d m c W) {p : Nat} (hp : (p < w2.heap.size + k ∨ w3.heap.size ≤ p) ∧ (p < w3.heap.size + k' ∨ w4.heap.size ≤ p) ∧ w.heap.size + 1 < p) (i : Nat) (a : Value) : Yq0 w w2 w3 w4 k k' xn xd yn yd n d m c (W.setCell ⟨p, i, none⟩ a) := by
  obtain ⟨q, b, f, g, r, j⟩ := h
  obtain ⟨h1, h2, h3⟩ := hp
  exact ⟨q.set h1 i a, b.set h2 i a, f.setCell (p := ⟨p, i, none⟩) (by show w.heap.size ≤ p; omega) a, by simp [World.setCell]; exact g, r, j⟩
theorem Yq0.fin (h : Yq0 w w2 w3 w4 k k' xn xd yn yd n d m c W) {gx gy : Nat} (hx : w.heap.size + 1 < gx) (hy : w.heap.size + 1 < gy) : Nt W 0 W.heap.size xn n ∧ Nt W 0 W.heap.size xd d ∧ Nt W 0 W.heap.size yn m ∧ Nt W 0 W.heap.size yd c ∧ (Below w.heap.size w W ∧ w.heap.size + 1 < gx ∧ w.heap.size + 1 < gy) := by
  obtain ⟨q, b, f, g, r, j⟩ := h
  exact ⟨(q.1.low (Nat.zero_le _)).up (by omega), (q.2.low (Nat.zero_le _)).up (by omega), (b.1.low (Nat.zero_le _)).up g, (b.2.low (Nat.zero_le _)).up g, f, hx, hy⟩
end

/-- What the rest of the walk needs: two variables that hold the two numbers in lowest terms. -/
def Yq2 (w : World) (S T : Bool) (N D M C : Nat) (p q : Value) (wx : World) : Prop :=
  ∃ gx gy xn xd yn yd, p = .pointer (some ⟨gx, 0, none⟩) ∧ q = .pointer (some ⟨gy, 0, none⟩) ∧ Blk wx gx 60 #[.bool S, xn, xd] ∧ Blk wx gy 60 #[.bool T, yn, yd] ∧ Nt wx 0 wx.heap.size xn (lim N) ∧ Nt wx 0 wx.heap.size xd (lim D) ∧ Nt wx 0 wx.heap.size yn (lim M) ∧ Nt wx 0 wx.heap.size yd (lim C) ∧ (Below w.heap.size w wx ∧ w.heap.size + 1 < gx ∧ w.heap.size + 1 < gy)

section
variable {w w2 w3 w4 : World} {k k' : Nat} {xn xd yn yd : Value} {S T : Bool} {N D M C : Nat}
theorem yq2_a (q : Yq0 w w2 w3 w4 k k' xn xd yn yd (lim N) (lim D) (lim M) (lim C) w4) (hw : w.heap.size + 1 < w4.heap.size) : Yq2 w S T N D M C (.pointer (some ⟨w4.heap.size, 0, none⟩)) (.pointer (some ⟨w4.heap.size + 1, 0, none⟩)) ((w4.alloc (.cells #[.bool S, xn, xd] 60)).alloc (.cells #[.bool T, yn, yd] 60)) :=
  ⟨_, _, xn, xd, yn, yd, rfl, rfl, (Blk.new _ _ _).alloc _, blk_new1 _ _ _ _, ((q.alloc _).alloc _).fin hw (Nat.lt_succ_of_lt hw)⟩
theorem yq2_b (q : Yq0 w w2 w3 w4 k k' xn xd yn yd (lim N) (lim D) (lim M) (lim C) w4) (hw : w.heap.size + 1 < w4.heap.size) : Yq2 w S T N D M C (.pointer (some ⟨w4.heap.size + 1, 0, none⟩)) (.pointer (some ⟨w4.heap.size, 0, none⟩)) ((w4.alloc (.cells #[.bool T, yn, yd] 60)).alloc (.cells #[.bool S, xn, xd] 60)) :=
  ⟨_, _, xn, xd, yn, yd, rfl, rfl, blk_new1 _ _ _ _, (Blk.new _ _ _).alloc _, ((q.alloc _).alloc _).fin (Nat.lt_succ_of_lt hw) hw⟩
theorem yq2_c {g : Nat} (q : Yq0 w w2 w3 w4 k k' xn xd yn yd (lim N) (lim D) (lim M) (lim C) w4) (y : Zr w4 g) (hp : ((g < w2.heap.size + k ∨ w3.heap.size ≤ g) ∧ (g < w3.heap.size + k' ∨ w4.heap.size ≤ g) ∧ w.heap.size + 1 < g)) (hq : ((w4.heap.size < w2.heap.size + k ∨ w3.heap.size ≤ w4.heap.size) ∧ (w4.heap.size < w3.heap.size + k' ∨ w4.heap.size ≤ w4.heap.size) ∧ w.heap.size + 1 < w4.heap.size)) : Yq2 w S T N D M C (.pointer (some ⟨g, 0, none⟩)) (.pointer (some ⟨w4.heap.size, 0, none⟩)) (((((((w4.alloc (.cells #[.bool false, .slice none 0 0, .slice none 0 0] 60)).setCell ⟨g, 0, none⟩ (.bool S)).setCell ⟨g, 1, none⟩ xn).setCell ⟨g, 2, none⟩ xd).setCell ⟨w4.heap.size, 0, none⟩ (.bool T)).setCell ⟨w4.heap.size, 1, none⟩ yn).setCell ⟨w4.heap.size, 2, none⟩ yd) :=
  ⟨_, _, xn, xd, yn, yd, rfl, rfl, blk_far3 (blk_set3 (zr_alloc y)) y.ne, blk_set3 (zr_far3 (zr_new _) y.ne.symm), (((((((q.alloc _).set hp 0 _).set hp 1 _).set hp 2 _).set hq 0 _).set hq 1 _).set hq 2 _).fin hp.2.2 hq.2.2⟩
theorem yq2_d {g h : Nat} (q : Yq0 w w2 w3 w4 k k' xn xd yn yd (lim N) (lim D) (lim M) (lim C) w4) (y : Zr w4 g) (z : Zr w4 h) (hp : ((g < w2.heap.size + k ∨ w3.heap.size ≤ g) ∧ (g < w3.heap.size + k' ∨ w4.heap.size ≤ g) ∧ w.heap.size + 1 < g)) (hq : ((h < w2.heap.size + k ∨ w3.heap.size ≤ h) ∧ (h < w3.heap.size + k' ∨ w4.heap.size ≤ h) ∧ w.heap.size + 1 < h)) (hne : g ≠ h) : Yq2 w S T N D M C (.pointer (some ⟨g, 0, none⟩)) (.pointer (some ⟨h, 0, none⟩)) ((((((w4.setCell ⟨g, 0, none⟩ (.bool S)).setCell ⟨g, 1, none⟩ xn).setCell ⟨g, 2, none⟩ xd).setCell ⟨h, 0, none⟩ (.bool T)).setCell ⟨h, 1, none⟩ yn).setCell ⟨h, 2, none⟩ yd) :=
  ⟨_, _, xn, xd, yn, yd, rfl, rfl, blk_far3 (blk_set3 y) hne, blk_set3 (zr_far3 z hne.symm), ((((((q.set hp 0 _).set hp 1 _).set hp 2 _).set hq 0 _).set hq 1 _).set hq 2 _).fin hp.2.2 hq.2.2⟩
theorem yq2_e {g : Nat} (q : Yq0 w w2 w3 w4 k k' xn xd yn yd (lim N) (lim D) (lim M) (lim C) w4) (y : Zr w4 g) (hw : w.heap.size + 1 < w4.heap.size) (hp : ((g < w2.heap.size + k ∨ w3.heap.size ≤ g) ∧ (g < w3.heap.size + k' ∨ w4.heap.size ≤ g) ∧ w.heap.size + 1 < g)) : Yq2 w S T N D M C (.pointer (some ⟨w4.heap.size, 0, none⟩)) (.pointer (some ⟨g, 0, none⟩)) ((((w4.alloc (.cells #[.bool S, xn, xd] 60)).setCell ⟨g, 0, none⟩ (.bool T)).setCell ⟨g, 1, none⟩ yn).setCell ⟨g, 2, none⟩ yd) :=
  ⟨_, _, xn, xd, yn, yd, rfl, rfl, blk_far3 (Blk.new _ _ _) y.ne.symm, blk_set3 (zr_alloc y), ((((q.alloc _).set hp 0 _).set hp 1 _).set hp 2 _).fin hw hp.2.2⟩
end


set_option maxHeartbeats 3200000 in
theorem same_any (u v : Value) (s t : Bool) (n d m c : List Nat) (w : World) (dn : Dig n) (dd : Dig d) (dm : Dig m) (dc : Dig c) (h : Rt w 0 w.heap.size u s n d) (h' : Rt w 0 w.heap.size v t m c)
    (ln : n.length ≤ 400) (ld : d.length ≤ 400) (lm : m.length ≤ 400) (lc : c.length ≤ 400) (S T : Bool) (N D M C : Nat) (hS : nrS s (val n) (val d) = S) (hN : nrN (val n) (val d) = N) (hD : nrD (val n) (val d) = D)
    (hT : nrS t (val m) (val c) = T) (hM : nrN (val m) (val c) = M) (hC : nrD (val m) (val c) = C) (eS : S = T) (eN : N = M) (eD : D = C) :
    Calls Tryz.prog 25 #[u, v] w fun e w' => e = .returned (.bool true) ∧ Below w.heap.size w w' := by
  obtain ⟨vn, vd, rfl, hn, hd⟩ := h
  obtain ⟨vm, vc, rfl, hm, hc⟩ := h'
  have hS' := Lib.hid hS
  have hN' := Lib.hid hN
  have hD' := Lib.hid hD
  have hT' := Lib.hid hT
  have hM' := Lib.hid hM
  have hC' := Lib.hid hC
  have lN : (lim N).length ≤ 400 := by rw [← hN]; exact nrN_len dn ln
  have lM : (lim M).length ≤ 400 := by rw [← hM]; exact nrN_len dm lm
  have lD : (lim D).length ≤ 400 := by rw [← hD]; exact nrD_len dd ld (by omega)
  have lC : (lim C).length ≤ 400 := by rw [← hC]; exact nrD_len dc lc (by omega)
  clear hS hN hD hT hM hC
  have ES := Lib.hid (And.intro eS (And.intro eN eD))
  clear eS eN eD
  go_enter Tryz.func25, Tryz.ntmps25
  go_wp2_with fail
  have b0 := (Blk.new w 60 #[.bool s, vn, vd]).alloc (.cells #[.bool t, vm, vc] 60)
  have b1 := (Blk.new (w.alloc (.cells #[.bool s, vn, vd] 60)) 60 #[.bool t, vm, vc])
  have hB : Below w.heap.size w ((w.alloc (.cells #[.bool s, vn, vd] 60)).alloc (.cells #[.bool t, vm, vc] 60)) := ((Below.refl _ _).alloc (Nat.le_refl _) _).alloc (by simp) _
  have es : (w.alloc (.cells #[.bool s, vn, vd] 60)).heap.size = w.heap.size + 1 := by simp
  rw [es] at b1
  clear es
  generalize (w.alloc (.cells #[.bool s, vn, vd] 60)).alloc (.cells #[.bool t, vm, vc] 60) = w2 at *
  have hn2 := hn.after hB
  have hd2 := hd.after hB
  have hm2 := hm.after hB
  have hc2 := hc.after hB
  clear hn hd hm hc
  go_cut [5, 6] from 7 to 10 (fun p q wx => Yq2 w S T N D M C p q wx)
  case first =>
    have c00 := b0.cell 0
    have c01 := b0.cell 1
    have c02 := b0.cell 2
    have c10 := b1.cell 0
    have c11 := b1.cell 1
    have c12 := b1.cell 2
    have hg := b1.lt
    have SW : Hid (w.heap.size + 1 < w2.heap.size) := b1.lt
    obtain ⟨An, k1, rfl, m1⟩ := nt_len hn2
    obtain ⟨Ad, k2, rfl, m2⟩ := nt_len hd2
    obtain ⟨Am, k3, rfl, m3⟩ := nt_len hm2
    obtain ⟨Ac, k4, rfl, m4⟩ := nt_len hc2
    have HS0 : Hid (Below w2.heap.size w2 w2 ∧ w2.cell? ⟨w.heap.size, 0, none⟩ = some (.bool s) ∧ w2.cell? ⟨w.heap.size, 1, none⟩ = some (.slice An n.length k1) ∧ w2.cell? ⟨w.heap.size, 2, none⟩ = some (.slice Ad d.length k2) ∧ w2.cell? ⟨w.heap.size + 1, 0, none⟩ = some (.bool t) ∧ w2.cell? ⟨w.heap.size + 1, 1, none⟩ = some (.slice Am m.length k3) ∧ w2.cell? ⟨w.heap.size + 1, 2, none⟩ = some (.slice Ac c.length k4)) := ⟨Below.refl _ _, c00, c01, c02, c10, c11, c12⟩
    have HS2 : Hid (Below w2.heap.size w2 w2.drew ∧ w2.drew.cell? ⟨w.heap.size, 0, none⟩ = some (.bool s) ∧ w2.drew.cell? ⟨w.heap.size, 1, none⟩ = some (.slice An n.length k1) ∧ w2.drew.cell? ⟨w.heap.size, 2, none⟩ = some (.slice Ad d.length k2) ∧ w2.drew.cell? ⟨w.heap.size + 1, 0, none⟩ = some (.bool t) ∧ w2.drew.cell? ⟨w.heap.size + 1, 1, none⟩ = some (.slice Am m.length k3) ∧ w2.drew.cell? ⟨w.heap.size + 1, 2, none⟩ = some (.slice Ac c.length k4)) := ⟨(Below.refl _ _).drew, c00, c01, c02, c10, c11, c12⟩
    go_region_held3 (fun W => Below w2.heap.size w2 W ∧ W.cell? ⟨w.heap.size, 0, none⟩ = some (.bool s) ∧ W.cell? ⟨w.heap.size, 1, none⟩ = some (.slice An n.length k1) ∧ W.cell? ⟨w.heap.size, 2, none⟩ = some (.slice Ad d.length k2) ∧ W.cell? ⟨w.heap.size + 1, 0, none⟩ = some (.bool t) ∧ W.cell? ⟨w.heap.size + 1, 1, none⟩ = some (.slice Am m.length k3) ∧ W.cell? ⟨w.heap.size + 1, 2, none⟩ = some (.slice Ac c.length k4))
      (first | ((repeat (with_reducible (first | exact HS4.out | exact HS3.out | exact HS2.out | exact HS0.out | refine keep6d ?_ | refine keep6s ?_ (by have h3 := SZ3.out; have h4 := SZ4.out; omega) hg _ _ | refine keep6 ?_ ((Below.refl _ _).alloc (Nat.le_refl _) _) hg))); done) | fail)
      (first
        | (have hz := z2; have hx := hk3; go_at_call 43; refine (ratNorm_any _ t m c _ dm dc ⟨_, _, rfl, hm2.after (And.left (by assumption)), hc2.after (And.left (by assumption))⟩ (by omega) (by omega)).mono ?_; rw [hT'.out, hM'.out, hC'.out]; rintro e w4 ⟨v4, rfl, ⟨yn, yd, rfl, hyn, hyd⟩, hb4⟩; have HS4 := Lib.hid (keep6 (by assumption) hb4 hg); have SZ4 := Lib.hid (Below.size (And.left HS4.out)); have hyn' := hyn; have hyd' := hyd; obtain ⟨A5, k5, rfl, m5⟩ := nt_len hyn'; obtain ⟨A6, k6, rfl, m6⟩ := nt_len hyd'; clear hyn' hyd'; have y1 := z1.call0 hb4; have y2 := z2.call0 hb4; obtain ⟨f10, f11, f12, f13, f14, f15⟩ := y1.facts; obtain ⟨f20, f21, f22, f23, f24, f25⟩ := y2.facts; have SY := Lib.hid (show w3.heap.size + 0 ≤ w4.heap.size from Nat.le_trans (by simp) hb4.size); have Q4 := Lib.hid (Yq0.of 2 0 hxn hxd (by simp) hb4 hyn hyd (by simp) (And.left HS4.out) hB); clear hxn hxd hyn hyd)
        | (have hz := z1; have hx := hk3; go_at_call 43; refine (ratNorm_any _ t m c _ dm dc ⟨_, _, rfl, hm2.after (And.left (by assumption)), hc2.after (And.left (by assumption))⟩ (by omega) (by omega)).mono ?_; rw [hT'.out, hM'.out, hC'.out]; rintro e w4 ⟨v4, rfl, ⟨yn, yd, rfl, hyn, hyd⟩, hb4⟩; have HS4 := Lib.hid (keep6 (by assumption) hb4 hg); have SZ4 := Lib.hid (Below.size (And.left HS4.out)); have hyn' := hyn; have hyd' := hyd; obtain ⟨A5, k5, rfl, m5⟩ := nt_len hyn'; obtain ⟨A6, k6, rfl, m6⟩ := nt_len hyd'; clear hyn' hyd'; refine (fun (hq : Below (World.heap (World.alloc w3 (.cells #[.bool false, .slice none 0 0, .slice none 0 0] 60))).size (World.alloc w3 (.cells #[.bool false, .slice none 0 0, .slice none 0 0] 60)) w4) => ?_) ?_; rotate_left; with_reducible assumption; have y1 := z1.call1 hq; have y2 := zr_one hq; obtain ⟨f10, f11, f12, f13, f14, f15⟩ := y1.facts; obtain ⟨f20, f21, f22, f23, f24, f25⟩ := y2.facts; have ne1 := z1.ne; have ne2 := ne1.symm; have SY := Lib.hid (show w3.heap.size + 1 ≤ w4.heap.size from Nat.le_trans (by simp) hb4.size); have Q4 := Lib.hid (Yq0.of 1 1 hxn hxd (by simp) (((Below.refl w3.heap.size w3).alloc (Nat.le_refl _) (.cells #[.bool false, .slice none 0 0, .slice none 0 0] 60)).trans (hq.mono (by simp))) hyn hyd (by simp) (And.left HS4.out) hB); clear hxn hxd hyn hyd)
        | (have hz := z1; have hx := hk3; go_at_call 43; refine (ratNorm_any _ t m c _ dm dc ⟨_, _, rfl, hm2.after (And.left (by assumption)), hc2.after (And.left (by assumption))⟩ (by omega) (by omega)).mono ?_; rw [hT'.out, hM'.out, hC'.out]; rintro e w4 ⟨v4, rfl, ⟨yn, yd, rfl, hyn, hyd⟩, hb4⟩; have HS4 := Lib.hid (keep6 (by assumption) hb4 hg); have SZ4 := Lib.hid (Below.size (And.left HS4.out)); have hyn' := hyn; have hyd' := hyd; obtain ⟨A5, k5, rfl, m5⟩ := nt_len hyn'; obtain ⟨A6, k6, rfl, m6⟩ := nt_len hyd'; clear hyn' hyd'; have y1 := z1.call0 hb4; obtain ⟨f10, f11, f12, f13, f14, f15⟩ := y1.facts; obtain ⟨ga0, ga1, ga2, ga3, ga4, ga5⟩ := y1.more (.cells #[.bool false, .slice none 0 0, .slice none 0 0] 60); obtain ⟨gb0, gb1, gb2, gb3, gb4, gb5⟩ := y1.more (.cells #[.bool S, .slice A7 (lim N).length k7, .slice A8 (lim D).length k8] 60); obtain ⟨gc0, gc1, gc2, gc3, gc4, gc5⟩ := y1.more (.cells #[.bool T, .slice A5 (lim M).length k5, .slice A6 (lim C).length k6] 60); have ne1 := y1.ne; have ne2 := ne1.symm; have SY := Lib.hid (show w3.heap.size + 0 ≤ w4.heap.size from Nat.le_trans (by simp) hb4.size); have Q4 := Lib.hid (Yq0.of 1 0 hxn hxd (by simp) hb4 hyn hyd (by simp) (And.left HS4.out) hB); clear hxn hxd hyn hyd)
        | (have hx := hk3; go_at_call 43; refine (ratNorm_any _ t m c _ dm dc ⟨_, _, rfl, hm2.after (And.left (by assumption)), hc2.after (And.left (by assumption))⟩ (by omega) (by omega)).mono ?_; rw [hT'.out, hM'.out, hC'.out]; rintro e w4 ⟨v4, rfl, ⟨yn, yd, rfl, hyn, hyd⟩, hb4⟩; have HS4 := Lib.hid (keep6 (by assumption) hb4 hg); have SZ4 := Lib.hid (Below.size (And.left HS4.out)); have hyn' := hyn; have hyd' := hyd; obtain ⟨A5, k5, rfl, m5⟩ := nt_len hyn'; obtain ⟨A6, k6, rfl, m6⟩ := nt_len hyd'; clear hyn' hyd'; refine (fun (hq : Below (World.heap (World.alloc (World.alloc w3 (.cells #[.bool false, .slice none 0 0, .slice none 0 0] 60)) (.cells #[.bool false, .slice none 0 0, .slice none 0 0] 60))).size (World.alloc (World.alloc w3 (.cells #[.bool false, .slice none 0 0, .slice none 0 0] 60)) (.cells #[.bool false, .slice none 0 0, .slice none 0 0] 60)) w4) => ?_) ?_; rotate_left; with_reducible assumption; obtain ⟨y1, y2⟩ := zr_two hq; obtain ⟨f10, f11, f12, f13, f14, f15⟩ := y1.facts; obtain ⟨f20, f21, f22, f23, f24, f25⟩ := y2.facts; have SY := Lib.hid (show w3.heap.size + 2 ≤ w4.heap.size from Nat.le_trans (by simp) hb4.size); have Q4 := Lib.hid (Yq0.of 0 2 hxn hxd (by simp) ((((Below.refl w3.heap.size w3).alloc (Nat.le_refl _) (.cells #[.bool false, .slice none 0 0, .slice none 0 0] 60)).alloc (by simp) (.cells #[.bool false, .slice none 0 0, .slice none 0 0] 60)).trans (hq.mono (by simp; omega))) hyn hyd (by simp) (And.left HS4.out) hB); clear hxn hxd hyn hyd)
        | (have hx := hk3; go_at_call 43; refine (ratNorm_any _ t m c _ dm dc ⟨_, _, rfl, hm2.after (And.left (by assumption)), hc2.after (And.left (by assumption))⟩ (by omega) (by omega)).mono ?_; rw [hT'.out, hM'.out, hC'.out]; rintro e w4 ⟨v4, rfl, ⟨yn, yd, rfl, hyn, hyd⟩, hb4⟩; have HS4 := Lib.hid (keep6 (by assumption) hb4 hg); have SZ4 := Lib.hid (Below.size (And.left HS4.out)); have hyn' := hyn; have hyd' := hyd; obtain ⟨A5, k5, rfl, m5⟩ := nt_len hyn'; obtain ⟨A6, k6, rfl, m6⟩ := nt_len hyd'; clear hyn' hyd'; refine (fun (hq : Below (World.heap (World.alloc w3 (.cells #[.bool false, .slice none 0 0, .slice none 0 0] 60))).size (World.alloc w3 (.cells #[.bool false, .slice none 0 0, .slice none 0 0] 60)) w4) => ?_) ?_; rotate_left; with_reducible assumption; have y1 := zr_one hq; obtain ⟨f10, f11, f12, f13, f14, f15⟩ := y1.facts; obtain ⟨ga0, ga1, ga2, ga3, ga4, ga5⟩ := y1.more (.cells #[.bool false, .slice none 0 0, .slice none 0 0] 60); obtain ⟨gb0, gb1, gb2, gb3, gb4, gb5⟩ := y1.more (.cells #[.bool S, .slice A7 (lim N).length k7, .slice A8 (lim D).length k8] 60); obtain ⟨gc0, gc1, gc2, gc3, gc4, gc5⟩ := y1.more (.cells #[.bool T, .slice A5 (lim M).length k5, .slice A6 (lim C).length k6] 60); have ne1 := y1.ne; have ne2 := ne1.symm; have SY := Lib.hid (show w3.heap.size + 1 ≤ w4.heap.size from Nat.le_trans (by simp) hb4.size); have Q4 := Lib.hid (Yq0.of 0 1 hxn hxd (by simp) (((Below.refl w3.heap.size w3).alloc (Nat.le_refl _) (.cells #[.bool false, .slice none 0 0, .slice none 0 0] 60)).trans (hq.mono (by simp))) hyn hyd (by simp) (And.left HS4.out) hB); clear hxn hxd hyn hyd)
        | (have hx := hk3; go_at_call 43; refine (ratNorm_any _ t m c _ dm dc ⟨_, _, rfl, hm2.after (And.left (by assumption)), hc2.after (And.left (by assumption))⟩ (by omega) (by omega)).mono ?_; rw [hT'.out, hM'.out, hC'.out]; rintro e w4 ⟨v4, rfl, ⟨yn, yd, rfl, hyn, hyd⟩, hb4⟩; have HS4 := Lib.hid (keep6 (by assumption) hb4 hg); have SZ4 := Lib.hid (Below.size (And.left HS4.out)); have hyn' := hyn; have hyd' := hyd; obtain ⟨A5, k5, rfl, m5⟩ := nt_len hyn'; obtain ⟨A6, k6, rfl, m6⟩ := nt_len hyd'; clear hyn' hyd'; have SY := Lib.hid (show w3.heap.size + 0 ≤ w4.heap.size from Nat.le_trans (by simp) hb4.size); have Q4 := Lib.hid (Yq0.of 0 0 hxn hxd (by simp) hb4 hyn hyd (by simp) (And.left HS4.out) hB); clear hxn hxd hyn hyd)
        | (go_at_call 43; refine (ratNorm_any _ s n d _ dn dd ⟨_, _, rfl, hn2.after (And.left (by assumption)), hd2.after (And.left (by assumption))⟩ (by omega) (by omega)).mono ?_; rw [hS'.out, hN'.out, hD'.out]; rintro e w3 ⟨v3, rfl, ⟨xn, xd, rfl, hxn, hxd⟩, hk3⟩; have HS3 := Lib.hid (keep6 (by assumption) hk3 hg); have SZ3 := Lib.hid (Below.size (And.left HS3.out)); have hxn' := hxn; have hxd' := hxd; obtain ⟨A7, k7, rfl, m7⟩ := nt_len hxn'; obtain ⟨A8, k8, rfl, m8⟩ := nt_len hxd'; clear hxn' hxd'; refine (fun (hq : Below (World.heap (World.drew (World.alloc (World.alloc w2 (.cells #[.bool false, .slice none 0 0, .slice none 0 0] 60)) (.cells #[.bool false, .slice none 0 0, .slice none 0 0] 60)))).size (World.drew (World.alloc (World.alloc w2 (.cells #[.bool false, .slice none 0 0, .slice none 0 0] 60)) (.cells #[.bool false, .slice none 0 0, .slice none 0 0] 60))) w3) => ?_) ?_; rotate_left; with_reducible assumption; obtain ⟨z1, z2⟩ := zr_two (below_undrew hq); have SX := Lib.hid (show w2.heap.size + 2 ≤ w3.heap.size from Nat.le_trans (by simp) hk3.size))
        | (go_at_call 43; refine (ratNorm_any _ s n d _ dn dd ⟨_, _, rfl, hn2.after (And.left (by assumption)), hd2.after (And.left (by assumption))⟩ (by omega) (by omega)).mono ?_; rw [hS'.out, hN'.out, hD'.out]; rintro e w3 ⟨v3, rfl, ⟨xn, xd, rfl, hxn, hxd⟩, hk3⟩; have HS3 := Lib.hid (keep6 (by assumption) hk3 hg); have SZ3 := Lib.hid (Below.size (And.left HS3.out)); have hxn' := hxn; have hxd' := hxd; obtain ⟨A7, k7, rfl, m7⟩ := nt_len hxn'; obtain ⟨A8, k8, rfl, m8⟩ := nt_len hxd'; clear hxn' hxd'; refine (fun (hq : Below (World.heap (World.drew (World.alloc w2 (.cells #[.bool false, .slice none 0 0, .slice none 0 0] 60)))).size (World.drew (World.alloc w2 (.cells #[.bool false, .slice none 0 0, .slice none 0 0] 60))) w3) => ?_) ?_; rotate_left; with_reducible assumption; have z1 := zr_one (below_undrew hq); have SX := Lib.hid (show w2.heap.size + 1 ≤ w3.heap.size from Nat.le_trans (by simp) hk3.size))
        | (go_at_call 43; refine (ratNorm_any _ s n d _ dn dd ⟨_, _, rfl, hn2.after (And.left (by assumption)), hd2.after (And.left (by assumption))⟩ (by omega) (by omega)).mono ?_; rw [hS'.out, hN'.out, hD'.out]; rintro e w3 ⟨v3, rfl, ⟨xn, xd, rfl, hxn, hxd⟩, hk3⟩; have HS3 := Lib.hid (keep6 (by assumption) hk3 hg); have SZ3 := Lib.hid (Below.size (And.left HS3.out)); have hxn' := hxn; have hxd' := hxd; obtain ⟨A7, k7, rfl, m7⟩ := nt_len hxn'; obtain ⟨A8, k8, rfl, m8⟩ := nt_len hxd'; clear hxn' hxd'; have SX := Lib.hid (show w2.heap.size + 0 ≤ w3.heap.size from Nat.le_trans (by simp) hk3.size))
        | fail)
    all_goals (go_wp2_with fail; go_meet)
    all_goals (have hx3 := SX.out; have hy4 := SY.out; have hw2 := SW.out)
    all_goals first
      | with_reducible exact yq2_a Q4.out (by omega)
      | with_reducible exact yq2_b Q4.out (by omega)
      | with_reducible exact yq2_c Q4.out y1 (by omega) (by omega)
      | with_reducible exact yq2_e Q4.out y1 (by omega) (by omega)
      | with_reducible exact yq2_d Q4.out y1 y2 (by omega) (by omega) (by omega)
      | with_reducible exact yq2_d Q4.out y2 y1 (by omega) (by omega) (by omega)
      | trace_state
  case rest =>
    obtain ⟨gx, gy, xn, xd, yn, yd, rfl, rfl, hgx, hgy, hxn, hxd, hyn, hyd, hBc, hgx2, hgy2⟩ := hcut
    clear hB b0 b1 hn2 hd2 hm2 hc2
    obtain ⟨eS, eN, eD⟩ := ES.out
    clear ES
    subst eS eN eD
    obtain ⟨A1, k1, rfl, m1⟩ := nt_len hxn
    obtain ⟨A2, k2, rfl, m2⟩ := nt_len hxd
    obtain ⟨A3, k3, rfl, m3⟩ := nt_len hyn
    obtain ⟨A4, k4, rfl, m4⟩ := nt_len hyd
    have x0 := hgx.cell 0
    have x1 := hgx.cell 1
    have x2 := hgx.cell 2
    have y0 := hgy.cell 0
    have y1 := hgy.cell 1
    have y2 := hgy.cell 2
    have kx := hgx.lt
    have ky := hgy.lt
    have hbe : (S == S) = true := by simp
    go_wp2_with fail
    go_fit (refLimbs_any _ _ _ _ _ hxn hyn)
    rintro e w3 ⟨rfl, hb3⟩
    rw [show eqb (lim N) (lim N) = true from decide_eq_true rfl]
    have x2' := (hb3.cell (p := ⟨gx, 2, none⟩) kx).trans x2
    have y2' := (hb3.cell (p := ⟨gy, 2, none⟩) ky).trans y2
    go_wp2_with fail
    go_fit (refLimbs_any _ _ _ _ _ (hxd.after hb3) (hyd.after hb3))
    rintro e w4 ⟨rfl, hb4⟩
    rw [show eqb (lim D) (lim D) = true from decide_eq_true rfl]
    have hz : Below w.heap.size w w4 := hBc.trans ((hb3.trans (hb4.mono hb3.size)).mono hBc.size)
    go_wp2_with fail
    go_ret
    exact ⟨rfl, hz⟩
end Go.Proofs.YtchokmhfgikglaaGreatDoor

namespace Go.Proofs.YtchokmhfgikglaaGreatDoor
set_option maxRecDepth 100000

theorem goes_none {P : Program} (h : P.funcs.any Func.goes = false) (f : FuncId) : P.goes f = false := by
  have hall : ∀ g : Nat, (P.funcs[g]?).any Func.goes = false := fun g => by
    cases hg : P.funcs[g]? with
    | none => rfl
    | some fn =>
      obtain ⟨hl, rfl⟩ := Array.getElem?_eq_some_iff.1 hg
      rw [Option.any_some]
      cases hf : (P.funcs[g]).goes with
      | false => rfl
      | true =>
        have : P.funcs.any Func.goes = true := Array.any_eq_true.2 ⟨g, hl, hf⟩
        rw [h] at this
        cases this
  unfold Program.goes
  rw [h, Bool.and_false, Bool.or_false]
  simp only [hall, List.any_eq_false]
  intro x _
  simp

theorem goes_by_none {P : Program} {c : OpenClaim} (hs : c.start = .entering) (h : P.funcs.any Func.goes = false) : false = c.goesBy P := by
  unfold OpenClaim.goesBy Program.goesAt Program.goesFrom
  rw [hs]
  cases P.funcNamed c.func with
  | none => rfl
  | some f => rw [Option.any_some, goes_none h]; rfl

theorem none_goes : Tryz.prog.funcs.any Func.goes = false := by kernel_rfl
end Go.Proofs.YtchokmhfgikglaaGreatDoor
