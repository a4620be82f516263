/- Several texts in one: LawShowPoints. Condition: each says its own. -/
import Derived.Test.YtobmjcbjailclaaPk11
import Derived.Test.YtobmjcbjailclaaPk12
import Derived.Test.YtobmjcbjailclaaPk14
/- The twentieth law on balls of one number: the reference's 'Of' of balls, the law's walk. Condition: bounds on lengths. -/
namespace Go.Proofs.Ytobmjcbjailclaa
set_option maxRecDepth 100000
open Go.RowKit

theorem ratMul_q (u v : Value) (p q : Rat) (k j : Nat) (w : World) (h : RQ w 0 w.heap.size u p k) (h' : RQ w 0 w.heap.size v q j) (hk : k ≤ 400) (hj : j ≤ 400) : Calls Try.prog 9 #[u, v] w (GivesF (p * q) w) := by
  obtain ⟨s, n, d, hR, dn, dd, ln, ld, rfl⟩ := h
  obtain ⟨t, m, c, hR', dm, dc, lm, lc, rfl⟩ := h'
  obtain ⟨e1, e2, e3⟩ := nr_q s (val n) (val d)
  obtain ⟨f1, f2, f3⟩ := nr_q t (val m) (val c)
  have := ratMul_any u v s t n d m c w dn dd dm dc hR hR' (by omega) (by omega) (by omega) (by omega) _ _ _ _ _ _ e1 e2 e3 f1 f2 f3
  obtain ⟨g1, g2, g3⟩ := nr_q (qS (qv s (val n) (val d)) != qS (qv t (val m) (val c))) (qN (qv s (val n) (val d)) * qN (qv t (val m) (val c))) ((qv s (val n) (val d)).den * (qv t (val m) (val c)).den)
  rw [g1, g2, g3, qv_mul] at this
  exact this

set_option maxHeartbeats 3200000 in
theorem refBallOf_q (v : Value) (q : Rat) (k : Nat) (w : World) (h : RQ w 0 w.heap.size v q k) (hk : k ≤ 1000) : Calls Try.prog 6 #[v] w (GivesBall q q w) := by
  have HNO : Hid (∀ W, Below w.heap.size w W → Calls Try.prog 7 #[v] W (GivesF q W)) := fun W hb => ratNorm_q v q k W (h.after hb) hk
  obtain ⟨s0, n0, d0, ⟨un, ud, rfl, hn0, hd0⟩, rest0⟩ := h
  obtain ⟨A1, k1, rfl, m1⟩ := nt_len hn0
  obtain ⟨A2, k2, rfl, m2⟩ := nt_len hd0
  clear hn0 hd0 rest0
  go_enter Try.func6, Try.ntmps6
  go_wp2_with fail
  have b0 := (Blk.new w 24 #[.bool s0, .slice A1 n0.length k1, .slice A2 d0.length k2]).alloc (.cells #[.bool false, .slice none 0 0, .slice none 0 0, .bool false, .slice none 0 0, .slice none 0 0] 29)
  have b1 := Blk.new (w.alloc (.cells #[.bool s0, .slice A1 n0.length k1, .slice A2 d0.length k2] 24)) 29 #[.bool false, .slice none 0 0, .slice none 0 0, .bool false, .slice none 0 0, .slice none 0 0]
  have hB : Below w.heap.size w ((w.alloc (.cells #[.bool s0, .slice A1 n0.length k1, .slice A2 d0.length k2] 24)).alloc (.cells #[.bool false, .slice none 0 0, .slice none 0 0, .bool false, .slice none 0 0, .slice none 0 0] 29)) := ((Below.refl _ _).alloc (Nat.le_refl _) _).alloc (by simp) _
  have es : (w.alloc (.cells #[.bool s0, .slice A1 n0.length k1, .slice A2 d0.length k2] 24)).heap.size = w.heap.size + 1 := by simp
  rw [es] at b1
  clear es
  generalize ((w.alloc (.cells #[.bool s0, .slice A1 n0.length k1, .slice A2 d0.length k2] 24)).alloc (.cells #[.bool false, .slice none 0 0, .slice none 0 0, .bool false, .slice none 0 0, .slice none 0 0] 29)) = w2 at *
  have c0 : w2.cell? ⟨w.heap.size, 0, none⟩ = some (.bool s0) := b0.cell 0
  have c1 : w2.cell? ⟨w.heap.size, 1, none⟩ = some (.slice A1 n0.length k1) := b0.cell 1
  have c2 : w2.cell? ⟨w.heap.size, 2, none⟩ = some (.slice A2 d0.length k2) := b0.cell 2
  have hg := b0.lt
  have hk0 : Below w2.heap.size w2 w2.drew := (Below.refl _ _).drew
  have HB := Lib.hid hB
  have Q1 := Lib.hid b1
  clear b0 hB b1
  go_region_held3 (fun W => W.cell? ⟨w.heap.size, 0, none⟩ = some (.bool s0) ∧ W.cell? ⟨w.heap.size, 1, none⟩ = some (.slice A1 n0.length k1) ∧ W.cell? ⟨w.heap.size, 2, none⟩ = some (.slice A2 d0.length k2))
    (with_reducible (first | exact s3_out6 (s3_of hk4 c0 c1 c2 hg) (Nat.succ_ne_self _) | exact s3_of hk4 c0 c1 c2 hg | exact s3_of hk3 c0 c1 c2 hg | exact s3_of hk0 c0 c1 c2 hg | fail))
    (first
      | (have hx := hk3; go_at_call 7; go_fit (HNO.out _ (HB.out.trans (hk3.mono HB.out.size))); rintro e w4 ⟨v4, rfl, ⟨yn, yd, rfl, hyn, hyd⟩, hb4⟩; obtain ⟨A7, k7, rfl, m7⟩ := nt_len hyn; obtain ⟨A8, k8, rfl, m8⟩ := nt_len hyd; have hk4 : Below w2.heap.size w2 w4 := hk3.trans (hb4.mono hk3.size); have Q4 := Lib.hid (Q1.out.below hk4 Q1.out.lt); have r0 := Q4.out.cell 0; have r1 := Q4.out.cell 1; have r2 := Q4.out.cell 2; have r3 := Q4.out.cell 3; have r4 := Q4.out.cell 4; have r5 := Q4.out.cell 5; have f0 := Q4.out.free 0; have f1 := Q4.out.free 1; have f2 := Q4.out.free 2; have f3 := Q4.out.free 3; have f4 := Q4.out.free 4; have f5 := Q4.out.free 5)
      | (go_at_call 7; go_fit (HNO.out _ (HB.out.drew)); rintro e w3 ⟨v3, rfl, ⟨xn, xd, rfl, hxn, hxd⟩, hb3⟩; have hk3 : Below w2.heap.size w2 w3 := Below.trans (Below.drew (Below.refl _ _)) hb3; obtain ⟨A5, k5, rfl, m5⟩ := nt_len hxn; obtain ⟨A6, k6, rfl, m6⟩ := nt_len hxd)
      | fail)
  have hlt := Q1.out.lt
  obtain ⟨q6, hBf, hsz⟩ := store6 Q4.out (HB.out.trans (hk4.mono HB.out.size)) (Nat.le_succ w.heap.size) (qS q) (.slice A5 (lim (qN q)).length k5) (.slice A6 (lim q.den).length k6) (qS q) (.slice A7 (lim (qN q)).length k7) (.slice A8 (lim q.den).length k8)
  have hlt3 : w.heap.size + 1 < w3.heap.size := Nat.lt_of_lt_of_le hlt hk3.size
  have n1 := (((hxn.below hb4 (Nat.le_refl _)).out6 (Or.inl hlt) (qS q) (.slice A5 (lim (qN q)).length k5) (.slice A6 (lim q.den).length k6) (qS q) (.slice A7 (lim (qN q)).length k7) (.slice A8 (lim q.den).length k8)).up (Nat.le_trans hb4.size (Nat.le_of_eq hsz.symm))).low (show w.heap.size ≤ _ from HB.out.size)
  have n2 := (((hxd.below hb4 (Nat.le_refl _)).out6 (Or.inl hlt) (qS q) (.slice A5 (lim (qN q)).length k5) (.slice A6 (lim q.den).length k6) (qS q) (.slice A7 (lim (qN q)).length k7) (.slice A8 (lim q.den).length k8)).up (Nat.le_trans hb4.size (Nat.le_of_eq hsz.symm))).low (show w.heap.size ≤ _ from HB.out.size)
  have n3 := ((hyn.out6 (Or.inl hlt3) (qS q) (.slice A5 (lim (qN q)).length k5) (.slice A6 (lim q.den).length k6) (qS q) (.slice A7 (lim (qN q)).length k7) (.slice A8 (lim q.den).length k8)).up (Nat.le_of_eq hsz.symm)).low (show w.heap.size ≤ w3.heap.size from Nat.le_trans HB.out.size hk3.size)
  have n4 := ((hyd.out6 (Or.inl hlt3) (qS q) (.slice A5 (lim (qN q)).length k5) (.slice A6 (lim q.den).length k6) (qS q) (.slice A7 (lim (qN q)).length k7) (.slice A8 (lim q.den).length k8)).up (Nat.le_of_eq hsz.symm)).low (show w.heap.size ≤ w3.heap.size from Nat.le_trans HB.out.size hk3.size)
  have N1 := Lib.hid n1
  have N2 := Lib.hid n2
  have N3 := Lib.hid n3
  have N4 := Lib.hid n4
  have HBF := Lib.hid hBf
  have e0 := q6.cell 0
  have e1 := q6.cell 1
  have e2 := q6.cell 2
  have e3 := q6.cell 3
  have e4 := q6.cell 4
  have e5 := q6.cell 5
  clear n1 n2 n3 n4 hBf hsz q6 hxn hxd hyn hyd hb3 hb4 hk3 hk4 hlt hlt3 r0 r1 r2 r3 r4 r5 f0 f1 f2 f3 f4 f5
  unfold St6 at *
  go_wp2_with fail
  generalize (((((World.setCell w4 ⟨w.heap.size + 1, 0, none⟩ (.bool (qS q))).setCell ⟨w.heap.size + 1, 1, none⟩ (.slice A5 (lim (qN q)).length k5)).setCell ⟨w.heap.size + 1, 2, none⟩ (.slice A6 (lim q.den).length k6)).setCell ⟨w.heap.size + 1, 3, none⟩ (.bool (qS q))).setCell ⟨w.heap.size + 1, 4, none⟩ (.slice A7 (lim (qN q)).length k7)).setCell ⟨w.heap.size + 1, 5, none⟩ (.slice A8 (lim q.den).length k8) = WW at *
  refine bodyPost_ret (v := .agg #[.bool (qS q), .slice A5 (lim (qN q)).length k5, .slice A6 (lim q.den).length k6, .bool (qS q), .slice A7 (lim (qN q)).length k7, .slice A8 (lim q.den).length k8]) ?_ rfl (by show GivesBall _ _ _ _ _; exact ⟨_, _, _, _, rfl, N1.out, N2.out, N3.out, N4.out, HBF.out⟩)
  simp [results, Try.results6, go_sem, e0, e1, e2, e3, e4, e5]

theorem below_unalloc {W W' : World} {o : Obj} (h : Below (W.alloc o).heap.size (W.alloc o) W') : Below W.heap.size W W' := ((Below.refl _ _).alloc (Nat.le_refl _) o).trans (h.mono (by simp))

/-- Behind 'far := Ball{Norm(x), Add(x, ..)}'. -/
def R4 (w : World) (g0 : Nat) (s : Bool) (a b : Value) (p q : Rat) (r : Value) (wx : World) : Prop :=
  ∃ g A1 k1 A2 k2 A3 k3 A4 k4, r = .pointer (some ⟨g, 0, none⟩) ∧ Blk wx g 29 #[.bool (qS p), .slice A1 (lim (qN p)).length k1, .slice A2 (lim p.den).length k2, .bool (qS q), .slice A3 (lim (qN q)).length k3, .slice A4 (lim q.den).length k4] ∧
    Nt wx 0 wx.heap.size (.slice A1 (lim (qN p)).length k1) (lim (qN p)) ∧ Nt wx 0 wx.heap.size (.slice A2 (lim p.den).length k2) (lim p.den) ∧ Nt wx 0 wx.heap.size (.slice A3 (lim (qN q)).length k3) (lim (qN q)) ∧ Nt wx 0 wx.heap.size (.slice A4 (lim q.den).length k4) (lim q.den) ∧
    Below w.heap.size w wx ∧ (wx.cell? ⟨g0, 0, none⟩ = some (.bool s) ∧ wx.cell? ⟨g0, 1, none⟩ = some a ∧ wx.cell? ⟨g0, 2, none⟩ = some b) ∧ g0 < wx.heap.size

theorem r4_new {w W : World} {g0 L3 B3 L8 : Nat} {s : Bool} {a b : Value} {p q : Rat} {A1 A2 A3 A4 : Option Addr} {k1 k2 k3 k4 : Nat} (n1 : Nt W L3 B3 (.slice A1 (lim (qN p)).length k1) (lim (qN p))) (n2 : Nt W L3 B3 (.slice A2 (lim p.den).length k2) (lim p.den)) (hB3 : B3 ≤ W.heap.size)
    (n3 : Nt W L8 W.heap.size (.slice A3 (lim (qN q)).length k3) (lim (qN q))) (n4 : Nt W L8 W.heap.size (.slice A4 (lim q.den).length k4) (lim q.den)) (hB : Below w.heap.size w W) (hc : W.cell? ⟨g0, 0, none⟩ = some (.bool s) ∧ W.cell? ⟨g0, 1, none⟩ = some a ∧ W.cell? ⟨g0, 2, none⟩ = some b) (hg : g0 < W.heap.size) :
    R4 w g0 s a b p q (.pointer (some ⟨W.heap.size, 0, none⟩)) (W.alloc (.cells #[.bool (qS p), .slice A1 (lim (qN p)).length k1, .slice A2 (lim p.den).length k2, .bool (qS q), .slice A3 (lim (qN q)).length k3, .slice A4 (lim q.den).length k4] 29)) := by
  have hal := (Below.refl W.heap.size W).alloc (Nat.le_refl _) (.cells #[.bool (qS p), .slice A1 (lim (qN p)).length k1, .slice A2 (lim p.den).length k2, .bool (qS q), .slice A3 (lim (qN q)).length k3, .slice A4 (lim q.den).length k4] 29)
  refine ⟨_, A1, k1, A2, k2, A3, k3, A4, k4, rfl, Blk.new _ _ _, ?_, ?_, ?_, ?_, hB.trans (hal.mono hB.size), ?_, Nat.lt_of_lt_of_le hg hal.size⟩
  · exact ((n1.low (Nat.zero_le _)).up hB3).after hal
  · exact ((n2.low (Nat.zero_le _)).up hB3).after hal
  · exact (n3.low (Nat.zero_le _)).after hal
  · exact (n4.low (Nat.zero_le _)).after hal
  · exact s3_of hal hc.1 hc.2.1 hc.2.2 hg

theorem r4_set {w W : World} {g g0 L3 B3 L8 : Nat} {s : Bool} {a b z0 z1 z2 z3 z4 z5 : Value} {p q : Rat} {A1 A2 A3 A4 : Option Addr} {k1 k2 k3 k4 : Nat} (n1 : Nt W L3 B3 (.slice A1 (lim (qN p)).length k1) (lim (qN p))) (n2 : Nt W L3 B3 (.slice A2 (lim p.den).length k2) (lim p.den)) (hB3 : B3 ≤ W.heap.size)
    (n3 : Nt W L8 W.heap.size (.slice A3 (lim (qN q)).length k3) (lim (qN q))) (n4 : Nt W L8 W.heap.size (.slice A4 (lim q.den).length k4) (lim q.den)) (hB : Below w.heap.size w W) (hc : W.cell? ⟨g0, 0, none⟩ = some (.bool s) ∧ W.cell? ⟨g0, 1, none⟩ = some a ∧ W.cell? ⟨g0, 2, none⟩ = some b) (hg : g0 < W.heap.size)
    (z : Blk W g 29 #[z0, z1, z2, z3, z4, z5]) (h3 : g < L3 ∨ B3 ≤ g) (h8 : g < L8) (hgw : w.heap.size ≤ g) (hne : g ≠ g0) :
    R4 w g0 s a b p q (.pointer (some ⟨g, 0, none⟩)) ((((((W.setCell ⟨g, 0, none⟩ (.bool (qS p))).setCell ⟨g, 1, none⟩ (.slice A1 (lim (qN p)).length k1)).setCell ⟨g, 2, none⟩ (.slice A2 (lim p.den).length k2)).setCell ⟨g, 3, none⟩ (.bool (qS q))).setCell ⟨g, 4, none⟩ (.slice A3 (lim (qN q)).length k3)).setCell ⟨g, 5, none⟩ (.slice A4 (lim q.den).length k4)) := by
  obtain ⟨q6, hBf, hsz⟩ := store6 z hB hgw (qS p) (.slice A1 (lim (qN p)).length k1) (.slice A2 (lim p.den).length k2) (qS q) (.slice A3 (lim (qN q)).length k3) (.slice A4 (lim q.den).length k4)
  have hsz' := Nat.le_of_eq hsz.symm
  refine ⟨_, A1, k1, A2, k2, A3, k3, A4, k4, rfl, q6, ?_, ?_, ?_, ?_, hBf, s3_out6 hc hne, Nat.lt_of_lt_of_le hg hsz'⟩
  · exact ((n1.out6 h3 _ _ _ _ _ _).low (Nat.zero_le _)).up (Nat.le_trans hB3 hsz')
  · exact ((n2.out6 h3 _ _ _ _ _ _).low (Nat.zero_le _)).up (Nat.le_trans hB3 hsz')
  · exact ((n3.out6 (Or.inl h8) _ _ _ _ _ _).low (Nat.zero_le _)).up hsz'
  · exact ((n4.out6 (Or.inl h8) _ _ _ _ _ _).low (Nat.zero_le _)).up hsz'

theorem half_same (q : Rat) : (q + q) / 2 = q := by grind
theorem wide_far (q t : Rat) (h : 0 < t) : t < (q + t * 2) - q := by grind
theorem le_far (q t : Rat) (h : 0 < t) : cmpQ q (q + t * 2) ≤ 0 := by
  have : q < q + t * 2 := by grind
  rw [cmpQ_lt this]
  decide

theorem sk_call {w0 W W' : World} {g : Nat} {a b c : Value} (hS : Below w0.heap.size w0 W ∧ W.cell? ⟨g, 0, none⟩ = some a ∧ W.cell? ⟨g, 1, none⟩ = some b ∧ W.cell? ⟨g, 2, none⟩ = some c) (hb : Below W.heap.size W W') (hg : g < w0.heap.size) :
    Below w0.heap.size w0 W' ∧ W'.cell? ⟨g, 0, none⟩ = some a ∧ W'.cell? ⟨g, 1, none⟩ = some b ∧ W'.cell? ⟨g, 2, none⟩ = some c := by
  obtain ⟨h, x, y, z⟩ := hS
  have hz := h.size
  exact ⟨h.trans (hb.mono hz), (hb.cell (p := ⟨g, 0, none⟩) (by show g < _; omega)).trans x, (hb.cell (p := ⟨g, 1, none⟩) (by show g < _; omega)).trans y, (hb.cell (p := ⟨g, 2, none⟩) (by show g < _; omega)).trans z⟩
theorem sk_alloc {w0 W : World} {g : Nat} {a b c : Value} {o : Obj} (hS : Below w0.heap.size w0 W ∧ W.cell? ⟨g, 0, none⟩ = some a ∧ W.cell? ⟨g, 1, none⟩ = some b ∧ W.cell? ⟨g, 2, none⟩ = some c) (hg : g < w0.heap.size) :
    Below w0.heap.size w0 (W.alloc o) ∧ (W.alloc o).cell? ⟨g, 0, none⟩ = some a ∧ (W.alloc o).cell? ⟨g, 1, none⟩ = some b ∧ (W.alloc o).cell? ⟨g, 2, none⟩ = some c := sk_call hS ((Below.refl _ _).alloc (Nat.le_refl _) _) hg
theorem sk_allocd {w0 W : World} {g : Nat} {a b c : Value} {o : Obj} (hS : Below w0.heap.size w0 W ∧ W.cell? ⟨g, 0, none⟩ = some a ∧ W.cell? ⟨g, 1, none⟩ = some b ∧ W.cell? ⟨g, 2, none⟩ = some c) (hg : g < w0.heap.size) :
    Below w0.heap.size w0 (W.alloc o).drew ∧ (W.alloc o).drew.cell? ⟨g, 0, none⟩ = some a ∧ (W.alloc o).drew.cell? ⟨g, 1, none⟩ = some b ∧ (W.alloc o).drew.cell? ⟨g, 2, none⟩ = some c := sk_call hS (((Below.refl _ _).alloc (Nat.le_refl _) _).drew) hg
theorem sk_set6 {w0 W : World} {g p : Nat} {v0 v1 v2 : Value} {s : Bool} {a b : Value} {r : Bool} {c d : Value} (hS : Below w0.heap.size w0 W ∧ W.cell? ⟨g, 0, none⟩ = some v0 ∧ W.cell? ⟨g, 1, none⟩ = some v1 ∧ W.cell? ⟨g, 2, none⟩ = some v2) (hg : g < w0.heap.size) (hp : w0.heap.size ≤ p) :
    Below w0.heap.size w0 ((((((W.setCell ⟨p, 0, none⟩ (.bool s)).setCell ⟨p, 1, none⟩ a).setCell ⟨p, 2, none⟩ b).setCell ⟨p, 3, none⟩ (.bool r)).setCell ⟨p, 4, none⟩ c).setCell ⟨p, 5, none⟩ d) ∧
      ((((((W.setCell ⟨p, 0, none⟩ (.bool s)).setCell ⟨p, 1, none⟩ a).setCell ⟨p, 2, none⟩ b).setCell ⟨p, 3, none⟩ (.bool r)).setCell ⟨p, 4, none⟩ c).setCell ⟨p, 5, none⟩ d).cell? ⟨g, 0, none⟩ = some v0 ∧
      ((((((W.setCell ⟨p, 0, none⟩ (.bool s)).setCell ⟨p, 1, none⟩ a).setCell ⟨p, 2, none⟩ b).setCell ⟨p, 3, none⟩ (.bool r)).setCell ⟨p, 4, none⟩ c).setCell ⟨p, 5, none⟩ d).cell? ⟨g, 1, none⟩ = some v1 ∧
      ((((((W.setCell ⟨p, 0, none⟩ (.bool s)).setCell ⟨p, 1, none⟩ a).setCell ⟨p, 2, none⟩ b).setCell ⟨p, 3, none⟩ (.bool r)).setCell ⟨p, 4, none⟩ c).setCell ⟨p, 5, none⟩ d).cell? ⟨g, 2, none⟩ = some v2 := by
  obtain ⟨h, x⟩ := hS
  exact ⟨(((((h.setCell (p := ⟨p, 0, none⟩) hp _).setCell (p := ⟨p, 1, none⟩) hp _).setCell (p := ⟨p, 2, none⟩) hp _).setCell (p := ⟨p, 3, none⟩) hp _).setCell (p := ⟨p, 4, none⟩) hp _).setCell (p := ⟨p, 5, none⟩) hp _, s3_out6 x (by omega)⟩

theorem dec_norm (p q : Rat) (k D : Nat) (A1 A2 A3 A4 : Option Addr) (k1 k2 k3 k4 : Nat) (W : World) (hD : D ≤ 30) (hk : k ≤ 30) (hk1 : 1 ≤ k) (hp : Sz p k) (hq : Sz q k) (hle : cmpQ p q ≤ 0)
    (n1 : Nt W 0 W.heap.size (.slice A1 (lim (qN p)).length k1) (lim (qN p))) (n2 : Nt W 0 W.heap.size (.slice A2 (lim p.den).length k2) (lim p.den)) (n3 : Nt W 0 W.heap.size (.slice A3 (lim (qN q)).length k3) (lim (qN q))) (n4 : Nt W 0 W.heap.size (.slice A4 (lim q.den).length k4) (lim q.den)) :
    Calls Try.prog 5 #[.agg #[.bool (qS p), .slice A1 (lim (qN p)).length k1, .slice A2 (lim p.den).length k2, .bool (qS q), .slice A3 (lim (qN q)).length k3, .slice A4 (lim q.den).length k4], .int .i64 (D : Int)] W (ShowPost p q D W) := by
  refine showDec_yes _ _ _ _ _ _ _ _ _ _ _ _ _ _ (D : Int) W p q k D (by unfold hold30; omega) (fun V hb => ?_) (RQ.of ⟨_, _, rfl, n1, n2⟩ hp) (RQ.of ⟨_, _, rfl, n3, n4⟩ hq) hk hk1
  have := ballIs_any (qS p) (qS q) (.slice A1 (lim (qN p)).length k1) (.slice A2 (lim p.den).length k2) (.slice A3 (lim (qN q)).length k3) (.slice A4 (lim q.den).length k4) (lim (qN p)) (lim p.den) (lim (qN q)) (lim q.den) p q V (dig_lim _) (dig_lim _) (dig_lim _) (dig_lim _)
    ⟨_, _, rfl, n1.after hb, n2.after hb⟩ ⟨_, _, rfl, n3.after hb, n4.after hb⟩ (by have := hp.1; omega) (by have := hp.2; omega) (by have := hq.1; omega) (by have := hq.2; omega) (by rw [val_lim, val_lim]; exact qv_self p) (by rw [val_lim, val_lim]; exact qv_self q)
  rw [isR_norm, isR_norm, decide_eq_true hle] at this
  exact this

set_option maxHeartbeats 6400000 in
theorem lawShowPoints_any (u : Value) (s : Bool) (n m : List Nat) (d : Int) (w : World) (dn : Dig n) (dm : Dig m) (R : Rt w 0 w.heap.size u s n m) (ln : n.length ≤ 70368744177664) (lm : m.length ≤ 70368744177664) :
    Calls Try.prog 3 #[u, .int .i64 d] w fun e w' => e = .returned (.bool true) ∧ Below w.heap.size w w' := by
  obtain ⟨vn, vd, rfl, hn, hd⟩ := R
  have hn' := hn
  have hd' := hd
  obtain ⟨A1, k1, rfl, m1⟩ := nt_len hn'
  obtain ⟨A2, k2, rfl, m2⟩ := nt_len hd'
  clear hn' hd'
  have HR := Lib.hid (show Rt w 0 w.heap.size (.agg #[.bool s, .slice A1 n.length k1, .slice A2 m.length k2]) s n m from ⟨_, _, rfl, hn, hd⟩)
  clear hn hd
  have b0 := Blk.new w 24 #[.bool s, .slice A1 n.length k1, .slice A2 m.length k2]
  have hB : Below w.heap.size w (w.alloc (.cells #[.bool s, .slice A1 n.length k1, .slice A2 m.length k2] 24)) := (Below.refl _ _).alloc (Nat.le_refl _) _
  have b1 := Blk.new (w.alloc (.cells #[.bool s, .slice A1 n.length k1, .slice A2 m.length k2] 24)) 24 #[.bool s, .slice A1 n.length k1, .slice A2 m.length k2]
  have es : (w.alloc (.cells #[.bool s, .slice A1 n.length k1, .slice A2 m.length k2] 24)).heap.size = w.heap.size + 1 := by simp
  rw [es] at b1
  have hbig := big20_one _ (w.heap.size + 1) n.length m.length k1 k2 A1 A2 (b1.cell 1) (b1.cell 2) b1.lt
  have HBIG := Lib.hid hbig
  have B0 := Lib.hid (b0.alloc (.cells #[.bool s, .slice A1 n.length k1, .slice A2 m.length k2] 24))
  have HB := Lib.hid (hB.alloc hB.size (.cells #[.bool s, .slice A1 n.length k1, .slice A2 m.length k2] 24))
  clear b0 b1 hB es hbig
  go_enter Try.func3, Try.ntmps3
  go_wp2_with fail
  go_fit (HBIG.out)
  rintro e w2 ⟨⟨b, rfl, hb⟩, hb2⟩
  replace HB := Lib.hid (HB.out.trans (hb2.mono HB.out.size))
  replace B0 := Lib.hid (B0.out.below hb2 B0.out.lt)
  clear hb2 HBIG
  cases b
  · obtain ⟨ln3, lm3⟩ := hb rfl
    clear hb ln lm
    by_cases h0 : d < 0
    · go_wp2_with fail
      go_ret
      exact ⟨rfl, HB.out⟩
    · by_cases h20 : 20 < d
      · go_wp2_with fail
        go_ret
        exact ⟨rfl, HB.out⟩
      · obtain ⟨D, rfl⟩ : ∃ D : Nat, d = (D : Int) := ⟨d.toNat, by omega⟩
        have hD : D ≤ 20 := by omega
        clear h0 h20
        obtain ⟨q, hq⟩ : ∃ q, qv s (val n) (val m) = q := ⟨_, rfl⟩
        have HRQ : Hid (∀ W, Below w.heap.size w W → RQ W 0 W.heap.size (.agg #[.bool s, .slice A1 n.length k1, .slice A2 m.length k2]) q 3) := fun W hb => ⟨s, n, m, HR.out.after hb, dn, dm, ln3, lm3, hq⟩
        have zq : Sz q 3 := (HRQ.out w (Below.refl _ _)).sz (by omega)
        have zt : Sz (tenth D * 2) 5 := by
          have h1 : Sz (tenth D) 4 := Sz.qv (by rw [lim_one (by omega) (by omega)]; simp) (ten_len4 (by omega)) (by omega)
          exact Sz.mul h1 (⟨by show (lim 2).length ≤ 1; exact lim_length_le (by omega), by show (lim 1).length ≤ 1; exact lim_length_le (by omega)⟩ : Sz (2 : Rat) 1) (by omega)
        have zf : Sz (q + tenth D * 2) 9 := Sz.add zq zt
        have HOF : Hid (∀ W, Below w.heap.size w W → Calls Try.prog 6 #[.agg #[.bool s, .slice A1 n.length k1, .slice A2 m.length k2]] W (GivesBall q q W)) := fun W hb => refBallOf_q _ q 3 W (HRQ.out W hb) (by omega)
        have HNO : Hid (∀ W, Below w.heap.size w W → Calls Try.prog 7 #[.agg #[.bool s, .slice A1 n.length k1, .slice A2 m.length k2]] W (GivesF q W)) := fun W hb => ratNorm_q _ q 3 W (HRQ.out W hb) (by omega)
        have HFX : Hid (∀ W, Below w.heap.size w W → Calls Try.prog 12 #[.agg #[.bool s, .slice A1 n.length k1, .slice A2 m.length k2], .int .i64 (D : Int)] W fun e w' => e = .returned (.string (strN (fixT q D))) ∧ Below W.heap.size W w') := fun W hb => refFixed_q _ q 3 D W (HRQ.out W hb) (by omega) (by omega) (by omega)
        have HTEN : Hid (∀ W, Calls Try.prog 10 #[.int .i64 (D : Int)] W (GivesT false 1 (10 ^ D) W)) := fun W => refTen_any D W (by omega)
        have HINT : Hid (∀ W, Calls Try.prog 11 #[.int .i64 2] W (GivesF 2 W)) := fun W => refInt_any 2 W (by omega)
        have e2 : Sz (2 : Rat) 1 := ⟨by show (lim 2).length ≤ 1; exact lim_length_le (by omega), by show (lim 1).length ≤ 1; exact lim_length_le (by omega)⟩
        have HMUL : Hid (∀ W u v, RQ W 0 W.heap.size u (tenth D) 4 → RQ W 0 W.heap.size v 2 1 → Calls Try.prog 9 #[u, v] W (GivesF (tenth D * 2) W)) := fun W u v hu hv => ratMul_q u v _ _ 4 1 W hu hv (by omega) (by omega)
        have HADD : Hid (∀ W v, Below w.heap.size w W → RQ W 0 W.heap.size v (tenth D * 2) 5 → Calls Try.prog 8 #[.agg #[.bool s, .slice A1 n.length k1, .slice A2 m.length k2], v] W (GivesF (q + tenth D * 2) W)) := fun W v hb hv => ratAdd_q _ v _ _ 3 5 W (HRQ.out W hb) hv (by omega) (by omega)
        have hle1 : cmpQ q q ≤ 0 := by rw [cmpQ_eq rfl]; omega
        have HD1 : Hid (∀ (W : World) (A1 A2 A3 A4 : Option Addr) (k1 k2 k3 k4 : Nat), Nt W 0 W.heap.size (.slice A1 (lim (qN q)).length k1) (lim (qN q)) → Nt W 0 W.heap.size (.slice A2 (lim q.den).length k2) (lim q.den) → Nt W 0 W.heap.size (.slice A3 (lim (qN q)).length k3) (lim (qN q)) → Nt W 0 W.heap.size (.slice A4 (lim q.den).length k4) (lim q.den) →
            Calls Try.prog 5 #[.agg #[.bool (qS q), .slice A1 (lim (qN q)).length k1, .slice A2 (lim q.den).length k2, .bool (qS q), .slice A3 (lim (qN q)).length k3, .slice A4 (lim q.den).length k4], .int .i64 (D : Int)] W fun e w' => e = .returned (.tuple #[.string (strN (fixT q D)), .bool true]) ∧ Below W.heap.size W w') := fun W A1 A2 A3 A4 k1 k2 k3 k4 n1 n2 n3 n4 => by
          have := dec_norm q q 3 D A1 A2 A3 A4 k1 k2 k3 k4 W (by omega) (by omega) (by omega) zq zq hle1 n1 n2 n3 n4
          unfold ShowPost at this
          have hw : ¬ tenth D < q - q := by
            rw [Rat.sub_self]
            have h1 := tenth_pos D
            intro h2
            grind
          rw [if_neg hw, if_neg hw, half_same] at this
          exact this
        have HD2 : Hid (∀ (W : World) (A1 A2 A3 A4 : Option Addr) (k1 k2 k3 k4 : Nat), Nt W 0 W.heap.size (.slice A1 (lim (qN q)).length k1) (lim (qN q)) → Nt W 0 W.heap.size (.slice A2 (lim q.den).length k2) (lim q.den) → Nt W 0 W.heap.size (.slice A3 (lim (qN (q + tenth D * 2))).length k3) (lim (qN (q + tenth D * 2))) → Nt W 0 W.heap.size (.slice A4 (lim (q + tenth D * 2).den).length k4) (lim (q + tenth D * 2).den) →
            Calls Try.prog 5 #[.agg #[.bool (qS q), .slice A1 (lim (qN q)).length k1, .slice A2 (lim q.den).length k2, .bool (qS (q + tenth D * 2)), .slice A3 (lim (qN (q + tenth D * 2))).length k3, .slice A4 (lim (q + tenth D * 2).den).length k4], .int .i64 (D : Int)] W fun e w' => e = .returned (.tuple #[.string ⟨#[]⟩, .bool false]) ∧ Below W.heap.size W w') := fun W A1 A2 A3 A4 k1 k2 k3 k4 n1 n2 n3 n4 => by
          have := dec_norm q (q + tenth D * 2) 9 D A1 A2 A3 A4 k1 k2 k3 k4 W (by omega) (by omega) (by omega) (zq.mono (by omega)) zf (le_far q _ (tenth_pos D)) n1 n2 n3 n4
          unfold ShowPost at this
          rw [if_pos (wide_far q _ (tenth_pos D)), if_pos (wide_far q _ (tenth_pos D))] at this
          exact this
        have ZT := Lib.hid zt
        have E2 := Lib.hid e2
        have HT4 : Hid (∀ (w w' : World) v, Rt w' w.heap.size w'.heap.size v false (lim 1) (lim (10 ^ D)) → RQ w' 0 w'.heap.size v (tenth D) 4) := fun w w' v h => rq_tenth4 (by omega) h
        clear zq zt zf e2 hle1 HRQ HR hq dn dm
        generalize hf : q + tenth D * 2 = far at *
        clear hf
        generalize tenth D * 2 = t2 at *
        generalize tenth D = t1 at *
        generalize 10 ^ D = X at *
        generalize strN (fixT q D) = TXT at *
        have c0 := B0.out.cell 0
        have c1 := B0.out.cell 1
        have c2 := B0.out.cell 2
        go_wp2_with fail
        go_fit (HOF.out _ HB.out)
        rintro e w3 ⟨v1, v2, v3, v4, rfl, x1, x2, x3, x4, hb3⟩
        obtain ⟨C1, j1, rfl, q1⟩ := nt_len x1
        obtain ⟨C2, j2, rfl, q2⟩ := nt_len x2
        obtain ⟨C3, j3, rfl, q3⟩ := nt_len x3
        obtain ⟨C4, j4, rfl, q4⟩ := nt_len x4
        replace x1 := x1.low (Nat.zero_le _)
        replace x2 := x2.low (Nat.zero_le _)
        replace x3 := x3.low (Nat.zero_le _)
        replace x4 := x4.low (Nat.zero_le _)
        replace HB := Lib.hid (HB.out.trans (hb3.mono HB.out.size))
        replace B0 := Lib.hid (B0.out.below hb3 B0.out.lt)
        clear hb3 HOF c0 c1 c2
        go_wp2_with fail
        go_fit (HD1.out _ _ _ _ _ _ _ _ _ x1 x2 x3 x4)
        rintro e w4 ⟨rfl, hb4⟩
        replace HB := Lib.hid (HB.out.trans (hb4.mono HB.out.size))
        replace B0 := Lib.hid (B0.out.below hb4 B0.out.lt)
        clear hb4 HD1 x1 x2 x3 x4 q1 q2 q3 q4
        go_wp2_with fail
        have hg4 : w.heap.size < w4.heap.size := B0.out.lt
        go_cut [7] from 28 to 36 (fun p wx => R4 w w.heap.size s (.slice A1 n.length k1) (.slice A2 m.length k2) q far p wx)
        case first =>
          have c0 : w4.cell? ⟨w.heap.size, 0, none⟩ = some (.bool s) := B0.out.cell 0
          have c1 : w4.cell? ⟨w.heap.size, 1, none⟩ = some (.slice A1 n.length k1) := B0.out.cell 1
          have c2 : w4.cell? ⟨w.heap.size, 2, none⟩ = some (.slice A2 m.length k2) := B0.out.cell 2
          have HS0 : Hid (Below w4.heap.size w4 w4.drew ∧ w4.drew.cell? ⟨w.heap.size, 0, none⟩ = some (.bool s) ∧ w4.drew.cell? ⟨w.heap.size, 1, none⟩ = some (.slice A1 n.length k1) ∧ w4.drew.cell? ⟨w.heap.size, 2, none⟩ = some (.slice A2 m.length k2)) := ⟨(Below.refl _ _).drew, c0, c1, c2⟩
          have HS00 : Hid (Below w4.heap.size w4 w4 ∧ w4.cell? ⟨w.heap.size, 0, none⟩ = some (.bool s) ∧ w4.cell? ⟨w.heap.size, 1, none⟩ = some (.slice A1 n.length k1) ∧ w4.cell? ⟨w.heap.size, 2, none⟩ = some (.slice A2 m.length k2)) := ⟨Below.refl _ _, c0, c1, c2⟩
          clear c0 c1 c2
          go_region_held3 (fun W => Below w4.heap.size w4 W ∧ W.cell? ⟨w.heap.size, 0, none⟩ = some (.bool s) ∧ W.cell? ⟨w.heap.size, 1, none⟩ = some (.slice A1 n.length k1) ∧ W.cell? ⟨w.heap.size, 2, none⟩ = some (.slice A2 m.length k2))
            (with_reducible (first | exact HS0.out | exact sk_allocd HS00.out hg4 | exact sk_alloc (by assumption) hg4 | exact sk_call (by assumption) (by assumption) hg4 | exact sk_set6 (by assumption) hg4 ZG.out | exact sk_alloc S9.out hg4 | fail))
            (first
              | (have hx := hb8
                 go_at_call 8
                 go_fit (HADD.out _ _ (HB.out.trans (Below.mono (And.left (by assumption)) HB.out.size)) (by first | with_reducible exact t8 | with_reducible exact t8.after ((Below.refl _ _).alloc (Nat.le_refl _) _)))
                 rintro e w9 ⟨v9, rfl, ⟨yn, yd, rfl, hyn, hyd⟩, hb9⟩
                 obtain ⟨A7, k7, rfl, m7⟩ := nt_len hyn
                 obtain ⟨A8, k8, rfl, m8⟩ := nt_len hyd
                 have K9 := Lib.hid (show Below w8.heap.size w8 w9 from (by first | with_reducible exact hb9 | with_reducible exact below_unalloc hb9))
                 have S9 := Lib.hid (sk_call (by assumption) hb9 hg4)
                 (first
                   | (have H8 := Lib.hid z.lt; replace z := z.below K9.out z.lt; have r0 := z.cell 0; have r1 := z.cell 1; have r2 := z.cell 2; have r3 := z.cell 3; have r4 := z.cell 4; have r5 := z.cell 5; have f0 := z.free 0; have f1 := z.free 1; have f2 := z.free 2; have f3 := z.free 3; have f4 := z.free 4; have f5 := z.free 5)
                   | (have z := (Blk.new w8 29 #[.bool false, .slice none 0 0, .slice none 0 0, .bool false, .slice none 0 0, .slice none 0 0]).below hb9 (Blk.new w8 29 #[.bool false, .slice none 0 0, .slice none 0 0, .bool false, .slice none 0 0, .slice none 0 0]).lt; have H8 := Lib.hid (Blk.new w8 29 #[.bool false, .slice none 0 0, .slice none 0 0, .bool false, .slice none 0 0, .slice none 0 0]).lt; have ZG : Hid (w4.heap.size ≤ w8.heap.size) := (And.left S8.out).size; have ZO : Hid (w5.heap.size ≤ w8.heap.size) := Nat.le_trans K6.out.size (Nat.le_trans K7.out.size K8.out.size); have r0 := z.cell 0; have r1 := z.cell 1; have r2 := z.cell 2; have r3 := z.cell 3; have r4 := z.cell 4; have r5 := z.cell 5; have f0 := z.free 0; have f1 := z.free 1; have f2 := z.free 2; have f3 := z.free 3; have f4 := z.free 4; have f5 := z.free 5)
                   | skip))
              | (have hx := hb7
                 go_at_call 9
                 go_fit (HMUL.out _ _ _ (by first | with_reducible exact t6 | with_reducible exact t6.after ((Below.refl _ _).alloc (Nat.le_refl _) _)) (by first | with_reducible exact t7 | with_reducible exact t7.after ((Below.refl _ _).alloc (Nat.le_refl _) _)))
                 rintro e w8 ⟨v8, rfl, h8, hb8⟩
                 have K8 := Lib.hid (show Below w7.heap.size w7 w8 from (by first | with_reducible exact hb8 | with_reducible exact below_unalloc hb8))
                 have S8 := Lib.hid (sk_call (by assumption) hb8 hg4)
                 have t8 : RQ w8 0 w8.heap.size v8 t2 5 := RQ.of (h8.low (Nat.zero_le _)) ZT.out
                 (first
                   | (replace z := z.below K8.out z.lt)
                   | (have z := (Blk.new w7 29 #[.bool false, .slice none 0 0, .slice none 0 0, .bool false, .slice none 0 0, .slice none 0 0]).below hb8 (Blk.new w7 29 #[.bool false, .slice none 0 0, .slice none 0 0, .bool false, .slice none 0 0, .slice none 0 0]).lt; have ZG : Hid (w4.heap.size ≤ w7.heap.size) := (And.left S7.out).size; have ZO : Hid (w5.heap.size ≤ w7.heap.size) := Nat.le_trans K6.out.size K7.out.size)
                   | skip))
              | (have hx := hb6
                 go_at_call 11
                 go_fit (HINT.out _)
                 rintro e w7 ⟨v7, rfl, h7, hb7⟩
                 have K7 := Lib.hid (show Below w6.heap.size w6 w7 from (by first | with_reducible exact hb7 | with_reducible exact below_unalloc hb7))
                 have S7 := Lib.hid (sk_call (by assumption) hb7 hg4)
                 have t7 : RQ w7 0 w7.heap.size v7 2 1 := RQ.of (h7.low (Nat.zero_le _)) E2.out
                 replace t6 := t6.after K7.out
                 (first
                   | (replace z := z.below K7.out z.lt)
                   | (have z := (Blk.new w6 29 #[.bool false, .slice none 0 0, .slice none 0 0, .bool false, .slice none 0 0, .slice none 0 0]).below hb7 (Blk.new w6 29 #[.bool false, .slice none 0 0, .slice none 0 0, .bool false, .slice none 0 0, .slice none 0 0]).lt; have ZG : Hid (w4.heap.size ≤ w6.heap.size) := (And.left S6.out).size; have ZO : Hid (w5.heap.size ≤ w6.heap.size) := K6.out.size)
                   | skip))
              | (have hx := hb5
                 go_at_call 10
                 go_fit (HTEN.out _)
                 rintro e w6 ⟨v6, rfl, h6, hb6⟩
                 have K6 := Lib.hid (show Below w5.heap.size w5 w6 from (by first | with_reducible exact hb6 | with_reducible exact below_unalloc hb6))
                 have S6 := Lib.hid (sk_call (by assumption) hb6 hg4)
                 have t6 := HT4.out _ _ _ h6
                 (first
                   | (replace z := z.below K6.out z.lt)
                   | (have z := (Blk.new w5 29 #[.bool false, .slice none 0 0, .slice none 0 0, .bool false, .slice none 0 0, .slice none 0 0]).below hb6 (Blk.new w5 29 #[.bool false, .slice none 0 0, .slice none 0 0, .bool false, .slice none 0 0, .slice none 0 0]).lt; have ZG : Hid (w4.heap.size ≤ w5.heap.size) := (And.left S5.out).size; have ZO : Hid (w5.heap.size ≤ w5.heap.size) := Nat.le_refl _)
                   | skip))
              | (go_at_call 7
                 go_fit (HNO.out _ (HB.out.trans (Below.mono (And.left (by assumption)) HB.out.size)))
                 rintro e w5 ⟨v5, rfl, ⟨xn, xd, rfl, hxn, hxd⟩, hb5⟩
                 obtain ⟨A5, k5, rfl, m5⟩ := nt_len hxn
                 obtain ⟨A6, k6, rfl, m6⟩ := nt_len hxd
                 have S5 := Lib.hid (sk_call (by assumption) hb5 hg4)
                 (first
                   | (have z := (Blk.new w4 29 #[.bool false, .slice none 0 0, .slice none 0 0, .bool false, .slice none 0 0, .slice none 0 0]).drew.below hb5 (Blk.new w4 29 #[.bool false, .slice none 0 0, .slice none 0 0, .bool false, .slice none 0 0, .slice none 0 0]).drew.lt; have ZG : Hid (w4.heap.size ≤ w4.heap.size) := Nat.le_refl _; have ZO := Lib.hid (Blk.new w4 29 #[.bool false, .slice none 0 0, .slice none 0 0, .bool false, .slice none 0 0, .slice none 0 0]).drew.lt)
                   | skip))
              | fail)
          all_goals (go_wp2_with fail; go_meet)
          all_goals (have K59 := K6.out.trans ((K7.out.trans ((K8.out.trans (K9.out.mono K8.out.size)).mono K7.out.size)).mono K6.out.size); have N1 := hxn.below K59 (Nat.le_refl _); have N2 := hxd.below K59 (Nat.le_refl _))
          all_goals first
            | with_reducible exact r4_new N1 N2 K59.size hyn hyd (HB.out.trans ((And.left S9.out).mono HB.out.size)) S9.out.2 (Nat.lt_of_lt_of_le hg4 (And.left S9.out).size)
            | with_reducible exact r4_set N1 N2 K59.size hyn hyd (HB.out.trans ((And.left S9.out).mono HB.out.size)) S9.out.2 (Nat.lt_of_lt_of_le hg4 (And.left S9.out).size) z (Or.inl ZO.out) H8.out (Nat.le_trans (Nat.le_of_lt hg4) ZG.out) (Nat.ne_of_gt (Nat.lt_of_lt_of_le hg4 ZG.out))
            | with_reducible exact r4_set N1 N2 K59.size hyn hyd (HB.out.trans ((And.left S9.out).mono HB.out.size)) S9.out.2 (Nat.lt_of_lt_of_le hg4 (And.left S9.out).size) z (Or.inr ZO.out) H8.out (Nat.le_trans (Nat.le_of_lt hg4) ZG.out) (Nat.ne_of_gt (Nat.lt_of_lt_of_le hg4 ZG.out))
            | trace_state
        case rest =>
          obtain ⟨g, C1, j1, C2, j2, C3, j3, C4, j4, rfl, hbk, x1, x2, x3, x4, hBw, ⟨c0, c1, c2⟩, hg0⟩ := hcut
          have HB9 := Lib.hid hBw
          have r0 := hbk.cell 0
          have r1 := hbk.cell 1
          have r2 := hbk.cell 2
          have r3 := hbk.cell 3
          have r4 := hbk.cell 4
          have r5 := hbk.cell 5
          clear hBw hbk HNO HADD HMUL HTEN HINT HT4 ZT E2 B0 HB
          go_wp2_with fail
          go_fit (HD2.out _ _ _ _ _ _ _ _ _ x1 x2 x3 x4)
          rintro e w6 ⟨rfl, hb6⟩
          have c0' := (hb6.cell (p := ⟨w.heap.size, 0, none⟩) hg0).trans c0
          have c1' := (hb6.cell (p := ⟨w.heap.size, 1, none⟩) hg0).trans c1
          have c2' := (hb6.cell (p := ⟨w.heap.size, 2, none⟩) hg0).trans c2
          replace HB9 := Lib.hid (HB9.out.trans (hb6.mono HB9.out.size))
          clear hb6 r0 r1 r2 r3 r4 r5 c0 c1 c2 x1 x2 x3 x4 HD2
          go_wp2_with fail
          go_fit (HFX.out _ HB9.out)
          rintro e w7 ⟨rfl, hb7⟩
          replace HB9 := Lib.hid (HB9.out.trans (hb7.mono HB9.out.size))
          clear hb7 c0' c1' c2' HFX
          go_wp2_with fail
          go_fit (known20_any _)
          rintro e w8 ⟨rfl, hb8⟩
          replace HB9 := Lib.hid (HB9.out.trans (hb8.mono HB9.out.size))
          clear hb8
          go_wp2_with fail
          go_ret
          exact ⟨rfl, HB9.out⟩
  · clear hb
    go_wp2_with fail
    go_ret
    exact ⟨rfl, HB.out⟩
end Go.Proofs.Ytobmjcbjailclaa
