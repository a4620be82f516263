/- Several texts in one: NearB, NearC, NearD. Condition: each says its own. -/
import Derived.Test.YtobmjcbjailclaaGreatDoorPk18
/- The program's 'zero', 'Neg', 'around', 'Abs' of balls of one number by their contracts. Condition: bounds on lengths. -/
namespace Go.Proofs.YtobmjcbjailclaaGreatDoor
set_option maxRecDepth 100000
open Go.RowKit

theorem c6b_of {w W : World} {g : Nat} {v0 v1 v2 v3 v4 v5 : Value} (hb : Below w.heap.size w W) (c0 : w.cell? ⟨g, 0, none⟩ = some v0) (c1 : w.cell? ⟨g, 1, none⟩ = some v1) (c2 : w.cell? ⟨g, 2, none⟩ = some v2) (c3 : w.cell? ⟨g, 3, none⟩ = some v3) (c4 : w.cell? ⟨g, 4, none⟩ = some v4) (c5 : w.cell? ⟨g, 5, none⟩ = some v5) (hg : g < w.heap.size) :
    W.cell? ⟨g, 0, none⟩ = some v0 ∧ W.cell? ⟨g, 1, none⟩ = some v1 ∧ W.cell? ⟨g, 2, none⟩ = some v2 ∧ W.cell? ⟨g, 3, none⟩ = some v3 ∧ W.cell? ⟨g, 4, none⟩ = some v4 ∧ W.cell? ⟨g, 5, none⟩ = some v5 :=
  ⟨(hb.cell (p := ⟨g, 0, none⟩) hg).trans c0, (hb.cell (p := ⟨g, 1, none⟩) hg).trans c1, (hb.cell (p := ⟨g, 2, none⟩) hg).trans c2, (hb.cell (p := ⟨g, 3, none⟩) hg).trans c3, (hb.cell (p := ⟨g, 4, none⟩) hg).trans c4, (hb.cell (p := ⟨g, 5, none⟩) hg).trans c5⟩

theorem c6b_out6 {W : World} {g p : Nat} {v0 v1 v2 v3 v4 v5 : Value} {s : Bool} {a b : Value} {r : Bool} {c d : Value} (h : W.cell? ⟨g, 0, none⟩ = some v0 ∧ W.cell? ⟨g, 1, none⟩ = some v1 ∧ W.cell? ⟨g, 2, none⟩ = some v2 ∧ W.cell? ⟨g, 3, none⟩ = some v3 ∧ W.cell? ⟨g, 4, none⟩ = some v4 ∧ W.cell? ⟨g, 5, none⟩ = some v5) (hp : p ≠ g) :
    ((((((W.setCell ⟨p, 0, none⟩ (.bool s)).setCell ⟨p, 1, none⟩ a).setCell ⟨p, 2, none⟩ b).setCell ⟨p, 3, none⟩ (.bool r)).setCell ⟨p, 4, none⟩ c).setCell ⟨p, 5, none⟩ d).cell? ⟨g, 0, none⟩ = some v0 ∧
    ((((((W.setCell ⟨p, 0, none⟩ (.bool s)).setCell ⟨p, 1, none⟩ a).setCell ⟨p, 2, none⟩ b).setCell ⟨p, 3, none⟩ (.bool r)).setCell ⟨p, 4, none⟩ c).setCell ⟨p, 5, none⟩ d).cell? ⟨g, 1, none⟩ = some v1 ∧
    ((((((W.setCell ⟨p, 0, none⟩ (.bool s)).setCell ⟨p, 1, none⟩ a).setCell ⟨p, 2, none⟩ b).setCell ⟨p, 3, none⟩ (.bool r)).setCell ⟨p, 4, none⟩ c).setCell ⟨p, 5, none⟩ d).cell? ⟨g, 2, none⟩ = some v2 ∧
    ((((((W.setCell ⟨p, 0, none⟩ (.bool s)).setCell ⟨p, 1, none⟩ a).setCell ⟨p, 2, none⟩ b).setCell ⟨p, 3, none⟩ (.bool r)).setCell ⟨p, 4, none⟩ c).setCell ⟨p, 5, none⟩ d).cell? ⟨g, 3, none⟩ = some v3 ∧
    ((((((W.setCell ⟨p, 0, none⟩ (.bool s)).setCell ⟨p, 1, none⟩ a).setCell ⟨p, 2, none⟩ b).setCell ⟨p, 3, none⟩ (.bool r)).setCell ⟨p, 4, none⟩ c).setCell ⟨p, 5, none⟩ d).cell? ⟨g, 4, none⟩ = some v4 ∧
    ((((((W.setCell ⟨p, 0, none⟩ (.bool s)).setCell ⟨p, 1, none⟩ a).setCell ⟨p, 2, none⟩ b).setCell ⟨p, 3, none⟩ (.bool r)).setCell ⟨p, 4, none⟩ c).setCell ⟨p, 5, none⟩ d).cell? ⟨g, 5, none⟩ = some v5 := by
  have far : ∀ (V : World) (i j : Nat) (u : Value), (V.setCell ⟨p, i, none⟩ u).cell? ⟨g, j, none⟩ = V.cell? ⟨g, j, none⟩ := fun V i j u => World.cell?_setCell_far _ _ _ _ hp
  obtain ⟨h0, h1, h2, h3, h4, h5⟩ := h
  refine ⟨?_, ?_, ?_, ?_, ?_, ?_⟩
  · rw [far, far, far, far, far, far]; exact h0
  · rw [far, far, far, far, far, far]; exact h1
  · rw [far, far, far, far, far, far]; exact h2
  · rw [far, far, far, far, far, far]; exact h3
  · rw [far, far, far, far, far, far]; exact h4
  · rw [far, far, far, far, far, far]; exact h5

set_option maxHeartbeats 1600000 in
theorem ballZero_q (w : World) : Calls Tryz.prog 96 #[] w (GivesF 0 w) := by
  obtain ⟨q0, hq0⟩ : ∃ q, (0 : Rat) = q := ⟨_, rfl⟩
  have HI : Hid (∀ W, Calls Tryz.prog 45 #[.int .i64 0] W (GivesF q0 W)) := fun W => by
    have := prInt_any 0 W (by omega)
    have e : ((0 : Nat) : Rat) = 0 := rfl
    rw [e, hq0] at this
    exact this
  rw [hq0]
  clear hq0
  have b0 := Blk.new w 25 #[.bool false, .slice none 0 0, .slice none 0 0]
  have hB : Below w.heap.size w (w.alloc (.cells #[.bool false, .slice none 0 0, .slice none 0 0] 25)) := (Below.refl _ _).alloc (Nat.le_refl _) _
  go_enter Tryz.func96, Tryz.ntmps96
  go_wp2_with fail
  go_fit (HI.out _)
  rintro e w4 ⟨v4, rfl, ⟨xn, xd, rfl, h3, h4⟩, hb4⟩
  have q4 := b0.below hb4 b0.lt
  have hB4 := hB.trans (hb4.mono hB.size)
  replace h3 := h3.low (show w.heap.size + 1 ≤ _ from b0.lt)
  replace h4 := h4.low (show w.heap.size + 1 ≤ _ from b0.lt)
  obtain ⟨A1, k1, rfl, m1⟩ := nt_len h3
  obtain ⟨A2, k2, rfl, m2⟩ := nt_len h4
  have r0 := q4.cell 0
  have r1 := q4.cell 1
  have r2 := q4.cell 2
  have f0 := q4.free 0
  have f1 := q4.free 1
  have f2 := q4.free 2
  obtain ⟨e0, e1, e2, hR, hBf⟩ := store3 q4 hB4 (Nat.le_refl _) (qS q0) (.slice A1 (lim (qN q0)).length k1) (.slice A2 (lim q0.den).length k2) h3 h4
  have HR := Lib.hid hR
  have HBF := Lib.hid hBf
  clear b0 hB q4 hB4 hb4 h3 h4 hR hBf HI
  unfold St3 at *
  go_wp2_with fail
  clear r0 r1 r2 f0 f1 f2
  generalize ((World.setCell w4 ⟨w.heap.size, 0, none⟩ (.bool (qS q0))).setCell ⟨w.heap.size, 1, none⟩ (.slice A1 (lim (qN q0)).length k1)).setCell ⟨w.heap.size, 2, none⟩ (.slice A2 (lim q0.den).length k2) = WW at *
  refine bodyPost_ret (v := .agg #[.bool (qS q0), .slice A1 (lim (qN q0)).length k1, .slice A2 (lim q0.den).length k2]) ?_ rfl ⟨_, rfl, HR.out, HBF.out⟩
  simp [results, Tryz.results96, go_sem, e0, e1, e2]

set_option maxHeartbeats 3200000 in
theorem ballNeg_q (s t : Bool) (A1 A2 A3 A4 : Option Addr) (n1 n2 n3 n4 k1 k2 k3 k4 : Nat) (p q : Rat) (k : Nat) (w : World) (h1 : RQ w 0 w.heap.size (.agg #[.bool s, .slice A1 n1 k1, .slice A2 n2 k2]) p k) (h2 : RQ w 0 w.heap.size (.agg #[.bool t, .slice A3 n3 k3, .slice A4 n4 k4]) q k) (hk : k ≤ 1000) :
    Calls Tryz.prog 98 #[.agg #[.bool s, .slice A1 n1 k1, .slice A2 n2 k2, .bool t, .slice A3 n3 k3, .slice A4 n4 k4]] w (GivesBall (-q) (-p) w) := by
  have HP : Hid (∀ W, Below w.heap.size w W → Calls Tryz.prog 99 #[.agg #[.bool s, .slice A1 n1 k1, .slice A2 n2 k2]] W (GivesF (-p) W)) := fun W hb => prNeg_q _ p k W (h1.after hb) hk
  have HQ : Hid (∀ W, Below w.heap.size w W → Calls Tryz.prog 99 #[.agg #[.bool t, .slice A3 n3 k3, .slice A4 n4 k4]] W (GivesF (-q) W)) := fun W hb => prNeg_q _ q k W (h2.after hb) hk
  clear h1 h2
  obtain ⟨p, rfl⟩ : ∃ p', p = -p' := ⟨-p, by rw [Rat.neg_neg]⟩
  obtain ⟨q, rfl⟩ : ∃ q', q = -q' := ⟨-q, by rw [Rat.neg_neg]⟩
  rw [Rat.neg_neg] at HP HQ
  rw [Rat.neg_neg, Rat.neg_neg]
  go_enter Tryz.func98, Tryz.ntmps98
  go_wp2_with fail
  have b0 := (Blk.new w 36 #[.bool s, .slice A1 n1 k1, .slice A2 n2 k2, .bool t, .slice A3 n3 k3, .slice A4 n4 k4]).alloc (.cells #[.bool false, .slice none 0 0, .slice none 0 0, .bool false, .slice none 0 0, .slice none 0 0] 36)
  have b1 := Blk.new (w.alloc (.cells #[.bool s, .slice A1 n1 k1, .slice A2 n2 k2, .bool t, .slice A3 n3 k3, .slice A4 n4 k4] 36)) 36 #[.bool false, .slice none 0 0, .slice none 0 0, .bool false, .slice none 0 0, .slice none 0 0]
  have hB : Below w.heap.size w ((w.alloc (.cells #[.bool s, .slice A1 n1 k1, .slice A2 n2 k2, .bool t, .slice A3 n3 k3, .slice A4 n4 k4] 36)).alloc (.cells #[.bool false, .slice none 0 0, .slice none 0 0, .bool false, .slice none 0 0, .slice none 0 0] 36)) := ((Below.refl _ _).alloc (Nat.le_refl _) _).alloc (by simp) _
  have es : (w.alloc (.cells #[.bool s, .slice A1 n1 k1, .slice A2 n2 k2, .bool t, .slice A3 n3 k3, .slice A4 n4 k4] 36)).heap.size = w.heap.size + 1 := by simp
  rw [es] at b1
  clear es
  generalize ((w.alloc (.cells #[.bool s, .slice A1 n1 k1, .slice A2 n2 k2, .bool t, .slice A3 n3 k3, .slice A4 n4 k4] 36)).alloc (.cells #[.bool false, .slice none 0 0, .slice none 0 0, .bool false, .slice none 0 0, .slice none 0 0] 36)) = w2 at *
  have c0 : w2.cell? ⟨w.heap.size, 0, none⟩ = some (.bool s) := b0.cell 0
  have c1 : w2.cell? ⟨w.heap.size, 1, none⟩ = some (.slice A1 n1 k1) := b0.cell 1
  have c2 : w2.cell? ⟨w.heap.size, 2, none⟩ = some (.slice A2 n2 k2) := b0.cell 2
  have c3 : w2.cell? ⟨w.heap.size, 3, none⟩ = some (.bool t) := b0.cell 3
  have c4 : w2.cell? ⟨w.heap.size, 4, none⟩ = some (.slice A3 n3 k3) := b0.cell 4
  have c5 : w2.cell? ⟨w.heap.size, 5, none⟩ = some (.slice A4 n4 k4) := b0.cell 5
  have hg := b0.lt
  have hk0 : Below w2.heap.size w2 w2.drew := (Below.refl _ _).drew
  have HB := Lib.hid hB
  have Q1 := Lib.hid b1
  clear b0 hB b1
  go_region_held3 (fun W => W.cell? ⟨w.heap.size, 0, none⟩ = some (.bool s) ∧ W.cell? ⟨w.heap.size, 1, none⟩ = some (.slice A1 n1 k1) ∧ W.cell? ⟨w.heap.size, 2, none⟩ = some (.slice A2 n2 k2) ∧ W.cell? ⟨w.heap.size, 3, none⟩ = some (.bool t) ∧ W.cell? ⟨w.heap.size, 4, none⟩ = some (.slice A3 n3 k3) ∧ W.cell? ⟨w.heap.size, 5, none⟩ = some (.slice A4 n4 k4))
    (with_reducible (first | exact c6b_out6 (c6b_of hk4 c0 c1 c2 c3 c4 c5 hg) (Nat.succ_ne_self _) | exact c6b_of hk4 c0 c1 c2 c3 c4 c5 hg | exact c6b_of hk3 c0 c1 c2 c3 c4 c5 hg | exact c6b_of hk0 c0 c1 c2 c3 c4 c5 hg | fail))
    (first
      | (have hx := hk3; go_at_call 99; go_fit (HP.out _ (HB.out.trans (hk3.mono HB.out.size))); rintro e w4 ⟨v4, rfl, ⟨yn, yd, rfl, hyn, hyd⟩, hb4⟩; obtain ⟨A7, k7, rfl, m7⟩ := nt_len hyn; obtain ⟨A8, k8, rfl, m8⟩ := nt_len hyd; have hk4 : Below w2.heap.size w2 w4 := hk3.trans (hb4.mono hk3.size); have Q4 := Lib.hid (Q1.out.below hk4 Q1.out.lt); have r0 := Q4.out.cell 0; have r1 := Q4.out.cell 1; have r2 := Q4.out.cell 2; have r3 := Q4.out.cell 3; have r4 := Q4.out.cell 4; have r5 := Q4.out.cell 5; have f0 := Q4.out.free 0; have f1 := Q4.out.free 1; have f2 := Q4.out.free 2; have f3 := Q4.out.free 3; have f4 := Q4.out.free 4; have f5 := Q4.out.free 5)
      | (go_at_call 99; go_fit (HQ.out _ (HB.out.drew)); rintro e w3 ⟨v3, rfl, ⟨xn, xd, rfl, hxn, hxd⟩, hb3⟩; have hk3 : Below w2.heap.size w2 w3 := Below.trans (Below.drew (Below.refl _ _)) hb3; obtain ⟨A5, k5, rfl, m5⟩ := nt_len hxn; obtain ⟨A6, k6, rfl, m6⟩ := nt_len hxd)
      | fail)
  have hlt := Q1.out.lt
  obtain ⟨q6, hBf, hsz⟩ := store6 Q4.out (HB.out.trans (hk4.mono HB.out.size)) (Nat.le_succ w.heap.size) (qS q) (.slice A5 (lim (qN q)).length k5) (.slice A6 (lim q.den).length k6) (qS p) (.slice A7 (lim (qN p)).length k7) (.slice A8 (lim p.den).length k8)
  have hlt3 : w.heap.size + 1 < w3.heap.size := Nat.lt_of_lt_of_le hlt hk3.size
  have n1 := (((hxn.below hb4 (Nat.le_refl _)).out6 (Or.inl hlt) (qS q) (.slice A5 (lim (qN q)).length k5) (.slice A6 (lim q.den).length k6) (qS p) (.slice A7 (lim (qN p)).length k7) (.slice A8 (lim p.den).length k8)).up (Nat.le_trans hb4.size (Nat.le_of_eq hsz.symm))).low (show w.heap.size ≤ _ from HB.out.size)
  have n2 := (((hxd.below hb4 (Nat.le_refl _)).out6 (Or.inl hlt) (qS q) (.slice A5 (lim (qN q)).length k5) (.slice A6 (lim q.den).length k6) (qS p) (.slice A7 (lim (qN p)).length k7) (.slice A8 (lim p.den).length k8)).up (Nat.le_trans hb4.size (Nat.le_of_eq hsz.symm))).low (show w.heap.size ≤ _ from HB.out.size)
  have n3 := ((hyn.out6 (Or.inl hlt3) (qS q) (.slice A5 (lim (qN q)).length k5) (.slice A6 (lim q.den).length k6) (qS p) (.slice A7 (lim (qN p)).length k7) (.slice A8 (lim p.den).length k8)).up (Nat.le_of_eq hsz.symm)).low (show w.heap.size ≤ w3.heap.size from Nat.le_trans HB.out.size hk3.size)
  have n4 := ((hyd.out6 (Or.inl hlt3) (qS q) (.slice A5 (lim (qN q)).length k5) (.slice A6 (lim q.den).length k6) (qS p) (.slice A7 (lim (qN p)).length k7) (.slice A8 (lim p.den).length k8)).up (Nat.le_of_eq hsz.symm)).low (show w.heap.size ≤ w3.heap.size from Nat.le_trans HB.out.size hk3.size)
  have N1 := Lib.hid n1
  have N2 := Lib.hid n2
  have N3 := Lib.hid n3
  have N4 := Lib.hid n4
  have HBF := Lib.hid hBf
  have e0 := q6.cell 0
  have e1 := q6.cell 1
  have e2 := q6.cell 2
  have e3 := q6.cell 3
  have e4 := q6.cell 4
  have e5 := q6.cell 5
  clear n1 n2 n3 n4 hBf hsz q6 hxn hxd hyn hyd hb3 hb4 hk3 hk4 hlt hlt3 r0 r1 r2 r3 r4 r5 f0 f1 f2 f3 f4 f5
  unfold St6 at *
  go_wp2_with fail
  generalize (((((World.setCell w4 ⟨w.heap.size + 1, 0, none⟩ (.bool (qS q))).setCell ⟨w.heap.size + 1, 1, none⟩ (.slice A5 (lim (qN q)).length k5)).setCell ⟨w.heap.size + 1, 2, none⟩ (.slice A6 (lim q.den).length k6)).setCell ⟨w.heap.size + 1, 3, none⟩ (.bool (qS p))).setCell ⟨w.heap.size + 1, 4, none⟩ (.slice A7 (lim (qN p)).length k7)).setCell ⟨w.heap.size + 1, 5, none⟩ (.slice A8 (lim p.den).length k8) = WW at *
  refine bodyPost_ret (v := .agg #[.bool (qS q), .slice A5 (lim (qN q)).length k5, .slice A6 (lim q.den).length k6, .bool (qS p), .slice A7 (lim (qN p)).length k7, .slice A8 (lim p.den).length k8]) ?_ rfl (by show GivesBall _ _ _ _ _; exact ⟨_, _, _, _, rfl, N1.out, N2.out, N3.out, N4.out, HBF.out⟩)
  simp [results, Tryz.results98, go_sem, e0, e1, e2, e3, e4, e5]
end Go.Proofs.YtobmjcbjailclaaGreatDoor

/- The program's 'around' of one number twice, 'Abs' of balls of one number by their contracts. Condition: bounds on lengths. -/
namespace Go.Proofs.YtobmjcbjailclaaGreatDoor
set_option maxRecDepth 100000
open Go.RowKit

set_option maxHeartbeats 3200000 in
theorem around_same (s t : Bool) (A1 A2 A3 A4 : Option Addr) (n1 n2 n3 n4 k1 k2 k3 k4 : Nat) (q : Rat) (k gx : Nat) (w : World) (h1 : RQ w 0 w.heap.size (.agg #[.bool s, .slice A1 n1 k1, .slice A2 n2 k2]) q k) (h2 : RQ w 0 w.heap.size (.agg #[.bool t, .slice A3 n3 k3, .slice A4 n4 k4]) q k) (hk : k ≤ 400) (hk1 : 1 ≤ k)
    (c0 : w.cell? ⟨gx, 0, none⟩ = some (.bool t)) (c1 : w.cell? ⟨gx, 1, none⟩ = some (.slice A3 n3 k3)) (c2 : w.cell? ⟨gx, 2, none⟩ = some (.slice A4 n4 k4)) (hgx : gx < w.heap.size) :
    Calls Tryz.prog 97 #[.agg #[.bool s, .slice A1 n1 k1, .slice A2 n2 k2], .slice (some ⟨gx, 0, none⟩) 1 1] w (GivesBall q q w) := by
  have hz := h1.sz hk1
  have HOF : Hid (∀ W, Below w.heap.size w W → Calls Tryz.prog 59 #[.agg #[.bool s, .slice A1 n1 k1, .slice A2 n2 k2]] W (GivesBall q q W)) := fun W hb => ballOf_q _ q k W (h1.after hb) (by omega)
  have HCM : Hid (∀ W (v : Value), Below w.heap.size w W → RQ W 0 W.heap.size v q k → Calls Tryz.prog 40 #[.agg #[.bool t, .slice A3 n3 k3, .slice A4 n4 k4], v] W fun e w' => e = .returned (.int .i64 0) ∧ Below W.heap.size W w') := fun W v hb hv => by
    have := prCmp_q _ v q q k k W (h2.after hb) hv hk hk
    rw [cmpQ_eq rfl] at this
    exact this
  have HSZ := Lib.hid hz
  have C0 := Lib.hid c0
  have C1 := Lib.hid c1
  have C2 := Lib.hid c2
  clear h1 h2 hz c0 c1 c2
  go_enter Tryz.func97, Tryz.ntmps97
  go_wp2_with fail
  have b1 := Blk.new (w.alloc (.cells #[.bool s, .slice A1 n1 k1, .slice A2 n2 k2] 25)) 36 #[.bool false, .slice none 0 0, .slice none 0 0, .bool false, .slice none 0 0, .slice none 0 0]
  have hB : Below w.heap.size w ((w.alloc (.cells #[.bool s, .slice A1 n1 k1, .slice A2 n2 k2] 25)).alloc (.cells #[.bool false, .slice none 0 0, .slice none 0 0, .bool false, .slice none 0 0, .slice none 0 0] 36)) := ((Below.refl _ _).alloc (Nat.le_refl _) _).alloc (by simp) _
  have es : (w.alloc (.cells #[.bool s, .slice A1 n1 k1, .slice A2 n2 k2] 25)).heap.size = w.heap.size + 1 := by simp
  rw [es] at b1
  clear es
  generalize ((w.alloc (.cells #[.bool s, .slice A1 n1 k1, .slice A2 n2 k2] 25)).alloc (.cells #[.bool false, .slice none 0 0, .slice none 0 0, .bool false, .slice none 0 0, .slice none 0 0] 36)) = w2 at *
  go_fit (HOF.out _ hB)
  rintro e w3 ⟨v1, v2, v3, v4, rfl, x1, x2, x3, x4, hb3⟩
  obtain ⟨D1, j1, rfl, q1⟩ := nt_len x1
  obtain ⟨D2, j2, rfl, q2⟩ := nt_len x2
  obtain ⟨D3, j3, rfl, q3⟩ := nt_len x3
  obtain ⟨D4, j4, rfl, q4⟩ := nt_len x4
  have hlt := b1.lt
  replace b1 := (b1.below hb3 b1.lt).alloc (.cells #[.bool (qS q), .slice D1 (lim (qN q)).length j1, .slice D2 (lim q.den).length j2, .bool (qS q), .slice D3 (lim (qN q)).length j3, .slice D4 (lim q.den).length j4] 36)
  have b5 := Blk.new w3 36 #[.bool (qS q), .slice D1 (lim (qN q)).length j1, .slice D2 (lim q.den).length j2, .bool (qS q), .slice D3 (lim (qN q)).length j3, .slice D4 (lim q.den).length j4]
  have hal : Below w3.heap.size w3 (w3.alloc (.cells #[.bool (qS q), .slice D1 (lim (qN q)).length j1, .slice D2 (lim q.den).length j2, .bool (qS q), .slice D3 (lim (qN q)).length j3, .slice D4 (lim q.den).length j4] 36)) := (Below.refl _ _).alloc (Nat.le_refl _) _
  replace hB := hB.trans (hb3.mono hB.size)
  replace hB := hB.trans (hal.mono hB.size)
  replace x1 := (x1.low (show w.heap.size + 1 + 1 ≤ _ from hlt)).after hal
  replace x2 := (x2.low (show w.heap.size + 1 + 1 ≤ _ from hlt)).after hal
  replace x3 := (x3.low (show w.heap.size + 1 + 1 ≤ _ from hlt)).after hal
  replace x4 := (x4.low (show w.heap.size + 1 + 1 ≤ _ from hlt)).after hal
  have hg5 : w.heap.size + 1 + 1 ≤ w3.heap.size := Nat.le_trans hlt hb3.size
  clear hb3 hal hlt HOF
  go_wp2_with fail
  generalize w3.alloc (.cells #[.bool (qS q), .slice D1 (lim (qN q)).length j1, .slice D2 (lim q.den).length j2, .bool (qS q), .slice D3 (lim (qN q)).length j3, .slice D4 (lim q.den).length j4] 36) = w4 at *
  generalize w3.heap.size = g5 at *
  have B1 := Lib.hid b1
  have B5 := Lib.hid b5
  have HB := Lib.hid hB
  have X1 := Lib.hid x1
  have X2 := Lib.hid x2
  have X3 := Lib.hid x3
  have X4 := Lib.hid x4
  clear b1 b5 hB x1 x2 x3 x4
  go_loopw [12] (fun i wr => ∃ n : Nat, n ≤ 1 ∧ i = .int .i64 (n : Int) ∧ Below w4.heap.size w4 wr) (fun i _ => 1 - (intOf i).toNat)
  case atStart => exact ⟨0, by omega, rfl, Below.refl _ _⟩
  case round =>
    obtain ⟨n, hn, rfl, hbr⟩ := hrel
    have HBR := Lib.hid hbr
    clear hbr
    have hc : n = 0 ∨ n = 1 := by omega
    clear hn
    rcases hc with rfl | rfl
    · have bw := HB.out.trans (HBR.out.mono HB.out.size)
      have d0 := (bw.cell (p := ⟨gx, 0, none⟩) hgx).trans C0.out
      have d1 := (bw.cell (p := ⟨gx, 1, none⟩) hgx).trans C1.out
      have d2 := (bw.cell (p := ⟨gx, 2, none⟩) hgx).trans C2.out
      have q5 := (B5.out.below HBR.out B5.out.lt).alloc (.cells #[.bool t, .slice A3 n3 k3, .slice A4 n4 k4] 25)
      have hal : Below wr.heap.size wr (wr.alloc (.cells #[.bool t, .slice A3 n3 k3, .slice A4 n4 k4] 25)) := (Below.refl _ _).alloc (Nat.le_refl _) _
      have b7 := Blk.new wr 25 #[.bool t, .slice A3 n3 k3, .slice A4 n4 k4]
      have bw2 := Lib.hid (bw.trans (hal.mono bw.size))
      have HBR2 := Lib.hid (HBR.out.trans (hal.mono HBR.out.size))
      clear bw hal
      obtain ⟨wx, hwx⟩ : ∃ z, wr.alloc (.cells #[.bool t, .slice A3 n3 k3, .slice A4 n4 k4] 25) = z := ⟨_, rfl⟩
      rw [hwx] at q5 b7 bw2 HBR2
      have e0 := q5.cell 0
      have e1 := q5.cell 1
      have e2 := q5.cell 2
      have f0 := b7.cell 0
      have f1 := b7.cell 1
      have f2 := b7.cell 2
      have Q5 := Lib.hid q5
      have B7 := Lib.hid b7
      clear q5 b7
      go_wp2_with fail
      go_fit (HCM.out _ _ bw2.out (RQ.of ⟨_, _, rfl, (X1.out.after HBR2.out).low (Nat.zero_le _), (X2.out.after HBR2.out).low (Nat.zero_le _)⟩ HSZ.out))
      rintro e w6 ⟨rfl, hb6⟩
      have q6 := Q5.out.below hb6 Q5.out.lt
      have b8 := B7.out.below hb6 B7.out.lt
      have bw3 := Lib.hid (bw2.out.trans (hb6.mono bw2.out.size))
      have HBR3 := Lib.hid (HBR2.out.trans (hb6.mono HBR2.out.size))
      clear e0 e1 e2 f0 f1 f2 hb6 hwx d0 d1 d2
      have e3 := q6.cell 3
      have e4 := q6.cell 4
      have e5 := q6.cell 5
      have f0 := b8.cell 0
      have f1 := b8.cell 1
      have f2 := b8.cell 2
      clear q6 b8
      go_wp2_with fail
      go_fit (HCM.out _ _ bw3.out (RQ.of ⟨_, _, rfl, (X3.out.after HBR3.out).low (Nat.zero_le _), (X4.out.after HBR3.out).low (Nat.zero_le _)⟩ HSZ.out))
      rintro e w7 ⟨rfl, hb7⟩
      have HBR4 := Lib.hid (HBR3.out.trans (hb7.mono HBR3.out.size))
      clear e3 e4 e5 f0 f1 f2 hb7
      go_wp2_with fail
      go_roundw
      case rel => exact ⟨1, by omega, rfl, HBR4.out⟩
      case measure => simp [intOf]
    · have bw := HB.out.trans (HBR.out.mono HB.out.size)
      have q5 := B5.out.below HBR.out B5.out.lt
      have q1' := B1.out.below HBR.out B1.out.lt
      have y1 := X1.out.after HBR.out
      have y2 := X2.out.after HBR.out
      have y3 := X3.out.after HBR.out
      have y4 := X4.out.after HBR.out
      obtain ⟨q6, hBf, hsz⟩ := store6 q1' bw (Nat.le_succ w.heap.size) (qS q) (.slice D1 (lim (qN q)).length j1) (.slice D2 (lim q.den).length j2) (qS q) (.slice D3 (lim (qN q)).length j3) (.slice D4 (lim q.den).length j4)
      have N1 := Lib.hid (((y1.out6 (g := w.heap.size + 1) (Or.inl (Nat.lt_succ_self _)) (qS q) (.slice D1 (lim (qN q)).length j1) (.slice D2 (lim q.den).length j2) (qS q) (.slice D3 (lim (qN q)).length j3) (.slice D4 (lim q.den).length j4)).up (Nat.le_of_eq hsz.symm)).low (show w.heap.size ≤ _ from Nat.le_trans (Nat.le_succ _) (Nat.le_succ _)))
      have N2 := Lib.hid (((y2.out6 (g := w.heap.size + 1) (Or.inl (Nat.lt_succ_self _)) (qS q) (.slice D1 (lim (qN q)).length j1) (.slice D2 (lim q.den).length j2) (qS q) (.slice D3 (lim (qN q)).length j3) (.slice D4 (lim q.den).length j4)).up (Nat.le_of_eq hsz.symm)).low (show w.heap.size ≤ _ from Nat.le_trans (Nat.le_succ _) (Nat.le_succ _)))
      have N3 := Lib.hid (((y3.out6 (g := w.heap.size + 1) (Or.inl (Nat.lt_succ_self _)) (qS q) (.slice D1 (lim (qN q)).length j1) (.slice D2 (lim q.den).length j2) (qS q) (.slice D3 (lim (qN q)).length j3) (.slice D4 (lim q.den).length j4)).up (Nat.le_of_eq hsz.symm)).low (show w.heap.size ≤ _ from Nat.le_trans (Nat.le_succ _) (Nat.le_succ _)))
      have N4 := Lib.hid (((y4.out6 (g := w.heap.size + 1) (Or.inl (Nat.lt_succ_self _)) (qS q) (.slice D1 (lim (qN q)).length j1) (.slice D2 (lim q.den).length j2) (qS q) (.slice D3 (lim (qN q)).length j3) (.slice D4 (lim q.den).length j4)).up (Nat.le_of_eq hsz.symm)).low (show w.heap.size ≤ _ from Nat.le_trans (Nat.le_succ _) (Nat.le_succ _)))
      have HBF := Lib.hid hBf
      have r0 := q5.cell 0
      have r1 := q5.cell 1
      have r2 := q5.cell 2
      have r3 := q5.cell 3
      have r4 := q5.cell 4
      have r5 := q5.cell 5
      have s0 := q1'.cell 0
      have s1 := q1'.cell 1
      have s2 := q1'.cell 2
      have s3 := q1'.cell 3
      have s4 := q1'.cell 4
      have s5 := q1'.cell 5
      have f0 := q1'.free 0
      have f1 := q1'.free 1
      have f2 := q1'.free 2
      have f3 := q1'.free 3
      have f4 := q1'.free 4
      have f5 := q1'.free 5
      have e0 := q6.cell 0
      have e1 := q6.cell 1
      have e2 := q6.cell 2
      have e3 := q6.cell 3
      have e4 := q6.cell 4
      have e5 := q6.cell 5
      clear bw q5 q1' y1 y2 y3 y4 q6 hBf hsz HCM
      unfold St6 at *
      go_wp2_with fail
      clear r0 r1 r2 r3 r4 r5 s0 s1 s2 s3 s4 s5 f0 f1 f2 f3 f4 f5
      generalize (((((World.setCell wr ⟨w.heap.size + 1, 0, none⟩ (.bool (qS q))).setCell ⟨w.heap.size + 1, 1, none⟩ (.slice D1 (lim (qN q)).length j1)).setCell ⟨w.heap.size + 1, 2, none⟩ (.slice D2 (lim q.den).length j2)).setCell ⟨w.heap.size + 1, 3, none⟩ (.bool (qS q))).setCell ⟨w.heap.size + 1, 4, none⟩ (.slice D3 (lim (qN q)).length j3)).setCell ⟨w.heap.size + 1, 5, none⟩ (.slice D4 (lim q.den).length j4) = WW at *
      refine bodyPost_ret (v := .agg #[.bool (qS q), .slice D1 (lim (qN q)).length j1, .slice D2 (lim q.den).length j2, .bool (qS q), .slice D3 (lim (qN q)).length j3, .slice D4 (lim q.den).length j4]) ?_ rfl (by show GivesBall _ _ _ _ _; exact ⟨_, _, _, _, rfl, N1.out, N2.out, N3.out, N4.out, HBF.out⟩)
      simp [results, Tryz.results97, go_sem, e0, e1, e2, e3, e4, e5]
end Go.Proofs.YtobmjcbjailclaaGreatDoor

/- The program's 'Abs' of balls of one number by its contract. Condition: bounds on lengths. -/
namespace Go.Proofs.YtobmjcbjailclaaGreatDoor
set_option maxRecDepth 100000
open Go.RowKit

theorem t3_of {w W : World} {g : Nat} {v0 v1 v2 : Value} (hb : Below w.heap.size w W) (c0 : w.cell? ⟨g, 3, none⟩ = some v0) (c1 : w.cell? ⟨g, 4, none⟩ = some v1) (c2 : w.cell? ⟨g, 5, none⟩ = some v2) (hg : g < w.heap.size) :
    W.cell? ⟨g, 3, none⟩ = some v0 ∧ W.cell? ⟨g, 4, none⟩ = some v1 ∧ W.cell? ⟨g, 5, none⟩ = some v2 :=
  ⟨(hb.cell (p := ⟨g, 3, none⟩) hg).trans c0, (hb.cell (p := ⟨g, 4, none⟩) hg).trans c1, (hb.cell (p := ⟨g, 5, none⟩) hg).trans c2⟩

/-- A number without its sign. -/
def absQ (q : Rat) : Rat := if q < 0 then -q else q

set_option maxHeartbeats 3200000 in
theorem ballAbs_q (s t : Bool) (A1 A2 A3 A4 : Option Addr) (n1 n2 n3 n4 k1 k2 k3 k4 : Nat) (q : Rat) (k : Nat) (w : World) (h1 : RQ w 0 w.heap.size (.agg #[.bool s, .slice A1 n1 k1, .slice A2 n2 k2]) q k) (h2 : RQ w 0 w.heap.size (.agg #[.bool t, .slice A3 n3 k3, .slice A4 n4 k4]) q k) (hk : k ≤ 400) (hk1 : 1 ≤ k) :
    Calls Tryz.prog 58 #[.agg #[.bool s, .slice A1 n1 k1, .slice A2 n2 k2, .bool t, .slice A3 n3 k3, .slice A4 n4 k4]] w (GivesBall (absQ q) (absQ q) w) := by
  have HC1 : Hid (∀ W (v : Value), Below w.heap.size w W → RQ W 0 W.heap.size v 0 1 → Calls Tryz.prog 40 #[.agg #[.bool s, .slice A1 n1 k1, .slice A2 n2 k2], v] W fun e w' => e = .returned (.int .i64 (cmpQ q 0)) ∧ Below W.heap.size W w') := fun W v hb hv => prCmp_q _ v q 0 k 1 W (h1.after hb) hv hk (by omega)
  have HC2 : Hid (∀ W (v : Value), Below w.heap.size w W → RQ W 0 W.heap.size v 0 1 → Calls Tryz.prog 40 #[.agg #[.bool t, .slice A3 n3 k3, .slice A4 n4 k4], v] W fun e w' => e = .returned (.int .i64 (cmpQ q 0)) ∧ Below W.heap.size W w') := fun W v hb hv => prCmp_q _ v q 0 k 1 W (h2.after hb) hv hk (by omega)
  have HNE : Hid (∀ W, Below w.heap.size w W → Calls Tryz.prog 98 #[.agg #[.bool s, .slice A1 n1 k1, .slice A2 n2 k2, .bool t, .slice A3 n3 k3, .slice A4 n4 k4]] W (GivesBall (-q) (-q) W)) := fun W hb => ballNeg_q _ _ _ _ _ _ _ _ _ _ _ _ _ _ q q k W (h1.after hb) (h2.after hb) (by omega)
  have HAR : Hid (∀ W gx, Below w.heap.size w W → W.cell? ⟨gx, 0, none⟩ = some (.bool t) → W.cell? ⟨gx, 1, none⟩ = some (.slice A3 n3 k3) → W.cell? ⟨gx, 2, none⟩ = some (.slice A4 n4 k4) → gx < W.heap.size → Calls Tryz.prog 97 #[.agg #[.bool s, .slice A1 n1 k1, .slice A2 n2 k2], .slice (some ⟨gx, 0, none⟩) 1 1] W (GivesBall q q W)) := fun W gx hb c0 c1 c2 hgx =>
    around_same s t A1 A2 A3 A4 n1 n2 n3 n4 k1 k2 k3 k4 q k gx W (h1.after hb) (h2.after hb) hk hk1 c0 c1 c2 hgx
  have HZE : Hid (∀ W, Calls Tryz.prog 96 #[] W fun e w' => ∃ v', e = .returned v' ∧ RQ w' 0 w'.heap.size v' 0 1 ∧ Below W.heap.size W w') := fun W => (ballZero_q W).mono fun e w' h => by
    obtain ⟨v', rfl, h1, hb⟩ := h
    exact ⟨v', rfl, RQ.of (h1.low (Nat.zero_le _)) ⟨by show (lim 0).length ≤ 1; rw [lim_zero]; simp, by show (lim 1).length ≤ 1; rw [lim_one (by omega) (by omega)]; simp⟩, hb⟩
  have b0 := (Blk.new w 36 #[.bool s, .slice A1 n1 k1, .slice A2 n2 k2, .bool t, .slice A3 n3 k3, .slice A4 n4 k4]).alloc (.cells #[.bool false, .slice none 0 0, .slice none 0 0, .bool false, .slice none 0 0, .slice none 0 0] 36)
  have b1 := Blk.new (w.alloc (.cells #[.bool s, .slice A1 n1 k1, .slice A2 n2 k2, .bool t, .slice A3 n3 k3, .slice A4 n4 k4] 36)) 36 #[.bool false, .slice none 0 0, .slice none 0 0, .bool false, .slice none 0 0, .slice none 0 0]
  have hB : Below w.heap.size w ((w.alloc (.cells #[.bool s, .slice A1 n1 k1, .slice A2 n2 k2, .bool t, .slice A3 n3 k3, .slice A4 n4 k4] 36)).alloc (.cells #[.bool false, .slice none 0 0, .slice none 0 0, .bool false, .slice none 0 0, .slice none 0 0] 36)) := ((Below.refl _ _).alloc (Nat.le_refl _) _).alloc (by simp) _
  have es : (w.alloc (.cells #[.bool s, .slice A1 n1 k1, .slice A2 n2 k2, .bool t, .slice A3 n3 k3, .slice A4 n4 k4] 36)).heap.size = w.heap.size + 1 := by simp
  rw [es] at b1
  clear es
  obtain ⟨w2, hw2⟩ : ∃ z, ((w.alloc (.cells #[.bool s, .slice A1 n1 k1, .slice A2 n2 k2, .bool t, .slice A3 n3 k3, .slice A4 n4 k4] 36)).alloc (.cells #[.bool false, .slice none 0 0, .slice none 0 0, .bool false, .slice none 0 0, .slice none 0 0] 36)) = z := ⟨_, rfl⟩
  rw [hw2] at b0 b1 hB
  have c0 : w2.cell? ⟨w.heap.size, 0, none⟩ = some (.bool s) := b0.cell 0
  have c1 : w2.cell? ⟨w.heap.size, 1, none⟩ = some (.slice A1 n1 k1) := b0.cell 1
  have c2 : w2.cell? ⟨w.heap.size, 2, none⟩ = some (.slice A2 n2 k2) := b0.cell 2
  have HB := Lib.hid hB
  have B0 := Lib.hid b0
  have B1 := Lib.hid b1
  have hg := b0.lt
  have hk0 : Below w2.heap.size w2 w2.drew := (Below.refl _ _).drew
  clear h1 h2 b0 b1 hB
  by_cases hq : q < 0
  · have ea : absQ q = -q := if_pos hq
    rw [ea]
    have hcm : cmpQ q 0 = -1 := cmpQ_lt hq
    rw [hcm] at HC1 HC2
    clear ea hcm hq HAR
    generalize -q = p at *
    go_enter Tryz.func58, Tryz.ntmps58
    go_wp2_with fail
    clear hw2
    go_region_held3 (fun W => W.cell? ⟨w.heap.size, 0, none⟩ = some (.bool s) ∧ W.cell? ⟨w.heap.size, 1, none⟩ = some (.slice A1 n1 k1) ∧ W.cell? ⟨w.heap.size, 2, none⟩ = some (.slice A2 n2 k2))
      (with_reducible (first | exact s3_of hk4 c0 c1 c2 hg | exact s3_of hk3 c0 c1 c2 hg | exact s3_of hk0 c0 c1 c2 hg | fail))
      (first
        | (go_at_call 96; go_fit (HZE.out _); rintro e w3 ⟨v3, rfl, z3, hb3⟩; have hk3 : Below w2.heap.size w2 w3 := Below.trans (Below.drew (Below.refl _ _)) hb3)
        | (go_at_call 40; go_fit (HC1.out _ _ (HB.out.trans (hk3.mono HB.out.size)) z3); rintro e w4 ⟨rfl, hb4⟩; have hk4 : Below w2.heap.size w2 w4 := hk3.trans (hb4.mono hk3.size))
        | fail)
    go_wp2_with fail
    have B2 := Lib.hid (B0.out.below hk4 B0.out.lt)
    have B3 := Lib.hid (B1.out.below hk4 B1.out.lt)
    replace HB := Lib.hid (HB.out.trans (hk4.mono HB.out.size))
    clear B0 B1 hk3 hk4 hk0 z3 hb3 hb4 c0 c1 c2 HC1
    have c3 : w4.cell? ⟨w.heap.size, 3, none⟩ = some (.bool t) := B2.out.cell 3
    have c4 : w4.cell? ⟨w.heap.size, 4, none⟩ = some (.slice A3 n3 k3) := B2.out.cell 4
    have c5 : w4.cell? ⟨w.heap.size, 5, none⟩ = some (.slice A4 n4 k4) := B2.out.cell 5
    have hg4 := B2.out.lt
    have hk5 : Below w4.heap.size w4 w4.drew := (Below.refl _ _).drew
    go_region_held3 (fun W => W.cell? ⟨w.heap.size, 3, none⟩ = some (.bool t) ∧ W.cell? ⟨w.heap.size, 4, none⟩ = some (.slice A3 n3 k3) ∧ W.cell? ⟨w.heap.size, 5, none⟩ = some (.slice A4 n4 k4))
      (with_reducible (first | exact t3_of hk7 c3 c4 c5 hg4 | exact t3_of hk6 c3 c4 c5 hg4 | exact t3_of hk5 c3 c4 c5 hg4 | fail))
      (first
        | (go_at_call 96; go_fit (HZE.out _); rintro e w6 ⟨v6, rfl, z6, hb6⟩; have hk6 : Below w4.heap.size w4 w6 := Below.trans (Below.drew (Below.refl _ _)) hb6)
        | (go_at_call 40; go_fit (HC2.out _ _ (HB.out.trans (hk6.mono HB.out.size)) z6); rintro e w7 ⟨rfl, hb7⟩; have hk7 : Below w4.heap.size w4 w7 := hk6.trans (hb7.mono hk6.size))
        | fail)
    have B4 := Lib.hid (B2.out.below hk7 B2.out.lt)
    have B5 := Lib.hid (B3.out.below hk7 B3.out.lt)
    replace HB := Lib.hid (HB.out.trans (hk7.mono HB.out.size))
    clear B2 B3 hk5 hk6 hk7 z6 hb6 hb7 c3 c4 c5 HC2
    have d0 := B4.out.cell 0
    have d1 := B4.out.cell 1
    have d2 := B4.out.cell 2
    have d3 := B4.out.cell 3
    have d4 := B4.out.cell 4
    have d5 := B4.out.cell 5
    go_wp2_with fail
    go_fit (HNE.out _ HB.out)
    clear HNE d0 d1 d2 d3 d4 d5
    rintro e w8 ⟨v1, v2, v3, v4, rfl, x1, x2, x3, x4, hb8⟩
    replace HB := Lib.hid (HB.out.trans (hb8.mono HB.out.size))
    have B6 := Lib.hid (B5.out.below hb8 B5.out.lt)
    have hlt := B5.out.lt
    clear B5 B4 hb8
    obtain ⟨D1, j1, rfl, q1⟩ := nt_len x1
    obtain ⟨D2, j2, rfl, q2⟩ := nt_len x2
    obtain ⟨D3, j3, rfl, q3⟩ := nt_len x3
    obtain ⟨D4, j4, rfl, q4⟩ := nt_len x4
    obtain ⟨q6, hBf, hsz⟩ := store6 B6.out HB.out (Nat.le_succ w.heap.size) (qS p) (.slice D1 (lim (qN p)).length j1) (.slice D2 (lim p.den).length j2) (qS p) (.slice D3 (lim (qN p)).length j3) (.slice D4 (lim p.den).length j4)
    have N1 := Lib.hid (((x1.out6 (g := w.heap.size + 1) (Or.inl hlt) (qS p) (.slice D1 (lim (qN p)).length j1) (.slice D2 (lim p.den).length j2) (qS p) (.slice D3 (lim (qN p)).length j3) (.slice D4 (lim p.den).length j4)).up (Nat.le_of_eq hsz.symm)).low (show w.heap.size ≤ _ from Nat.le_trans (Nat.le_succ _) (Nat.le_of_lt hlt)))
    have N2 := Lib.hid (((x2.out6 (g := w.heap.size + 1) (Or.inl hlt) (qS p) (.slice D1 (lim (qN p)).length j1) (.slice D2 (lim p.den).length j2) (qS p) (.slice D3 (lim (qN p)).length j3) (.slice D4 (lim p.den).length j4)).up (Nat.le_of_eq hsz.symm)).low (show w.heap.size ≤ _ from Nat.le_trans (Nat.le_succ _) (Nat.le_of_lt hlt)))
    have N3 := Lib.hid (((x3.out6 (g := w.heap.size + 1) (Or.inl hlt) (qS p) (.slice D1 (lim (qN p)).length j1) (.slice D2 (lim p.den).length j2) (qS p) (.slice D3 (lim (qN p)).length j3) (.slice D4 (lim p.den).length j4)).up (Nat.le_of_eq hsz.symm)).low (show w.heap.size ≤ _ from Nat.le_trans (Nat.le_succ _) (Nat.le_of_lt hlt)))
    have N4 := Lib.hid (((x4.out6 (g := w.heap.size + 1) (Or.inl hlt) (qS p) (.slice D1 (lim (qN p)).length j1) (.slice D2 (lim p.den).length j2) (qS p) (.slice D3 (lim (qN p)).length j3) (.slice D4 (lim p.den).length j4)).up (Nat.le_of_eq hsz.symm)).low (show w.heap.size ≤ _ from Nat.le_trans (Nat.le_succ _) (Nat.le_of_lt hlt)))
    have HBF := Lib.hid hBf
    have r0 := B6.out.cell 0
    have f0 := B6.out.free 0
    have e0 := q6.cell 0
    have r1 := B6.out.cell 1
    have f1 := B6.out.free 1
    have e1 := q6.cell 1
    have r2 := B6.out.cell 2
    have f2 := B6.out.free 2
    have e2 := q6.cell 2
    have r3 := B6.out.cell 3
    have f3 := B6.out.free 3
    have e3 := q6.cell 3
    have r4 := B6.out.cell 4
    have f4 := B6.out.free 4
    have e4 := q6.cell 4
    have r5 := B6.out.cell 5
    have f5 := B6.out.free 5
    have e5 := q6.cell 5
    clear x1 x2 x3 x4 hBf hsz q6 hlt B6 HB
    unfold St6 at *
    go_wp2_with fail
    clear r0 r1 r2 r3 r4 r5 f0 f1 f2 f3 f4 f5
    generalize (((((World.setCell w8 ⟨w.heap.size + 1, 0, none⟩ (.bool (qS p))).setCell ⟨w.heap.size + 1, 1, none⟩ (.slice D1 (lim (qN p)).length j1)).setCell ⟨w.heap.size + 1, 2, none⟩ (.slice D2 (lim p.den).length j2)).setCell ⟨w.heap.size + 1, 3, none⟩ (.bool (qS p))).setCell ⟨w.heap.size + 1, 4, none⟩ (.slice D3 (lim (qN p)).length j3)).setCell ⟨w.heap.size + 1, 5, none⟩ (.slice D4 (lim p.den).length j4) = WW at *
    refine bodyPost_ret (v := .agg #[.bool (qS p), .slice D1 (lim (qN p)).length j1, .slice D2 (lim p.den).length j2, .bool (qS p), .slice D3 (lim (qN p)).length j3, .slice D4 (lim p.den).length j4]) ?_ rfl (by show GivesBall _ _ _ _ _; exact ⟨_, _, _, _, rfl, N1.out, N2.out, N3.out, N4.out, HBF.out⟩)
    simp [results, Tryz.results58, go_sem, e0, e1, e2, e3, e4, e5]
  · have ea : absQ q = q := if_neg hq
    rw [ea]
    have hcm : 0 ≤ cmpQ q 0 := by unfold cmpQ; rw [if_neg hq]; split <;> omega
    clear ea hq HNE HC2
    generalize cmpQ q 0 = cz at *
    go_enter Tryz.func58, Tryz.ntmps58
    go_wp2_with fail
    clear hw2
    go_region_held3 (fun W => W.cell? ⟨w.heap.size, 0, none⟩ = some (.bool s) ∧ W.cell? ⟨w.heap.size, 1, none⟩ = some (.slice A1 n1 k1) ∧ W.cell? ⟨w.heap.size, 2, none⟩ = some (.slice A2 n2 k2))
      (with_reducible (first | exact s3_of hk4 c0 c1 c2 hg | exact s3_of hk3 c0 c1 c2 hg | exact s3_of hk0 c0 c1 c2 hg | fail))
      (first
        | (go_at_call 96; go_fit (HZE.out _); rintro e w3 ⟨v3, rfl, z3, hb3⟩; have hk3 : Below w2.heap.size w2 w3 := Below.trans (Below.drew (Below.refl _ _)) hb3)
        | (go_at_call 40; go_fit (HC1.out _ _ (HB.out.trans (hk3.mono HB.out.size)) z3); rintro e w4 ⟨rfl, hb4⟩; have hk4 : Below w2.heap.size w2 w4 := hk3.trans (hb4.mono hk3.size))
        | fail)
    have B4 := Lib.hid (B0.out.below hk4 B0.out.lt)
    have B5 := Lib.hid (B1.out.below hk4 B1.out.lt)
    replace HB := Lib.hid (HB.out.trans (hk4.mono HB.out.size))
    clear B0 B1 hk3 hk4 hk0 z3 hb3 hb4 c0 c1 c2 HC1
    have d0 := B4.out.cell 0
    have d1 := B4.out.cell 1
    have d2 := B4.out.cell 2
    have d3 := B4.out.cell 3
    have d4 := B4.out.cell 4
    have d5 := B4.out.cell 5
    have hal : Below w4.heap.size w4 (w4.alloc (.cells #[.bool t, .slice A3 n3 k3, .slice A4 n4 k4] 25)) := (Below.refl _ _).alloc (Nat.le_refl _) _
    have b9 := Blk.new w4 25 #[.bool t, .slice A3 n3 k3, .slice A4 n4 k4]
    have HB9 := Lib.hid (HB.out.trans (hal.mono HB.out.size))
    have B9 := Lib.hid b9
    have B5' := Lib.hid (B5.out.below hal B5.out.lt)
    clear hal b9
    go_wp2_with fail
    go_fit (HAR.out _ _ HB9.out (B9.out.cell 0) (B9.out.cell 1) (B9.out.cell 2) B9.out.lt)
    clear HAR d0 d1 d2 d3 d4 d5
    rintro e w8 ⟨v1, v2, v3, v4, rfl, x1, x2, x3, x4, hb8⟩
    replace HB := Lib.hid (HB9.out.trans (hb8.mono HB9.out.size))
    have B6 := Lib.hid (B5'.out.below hb8 B5'.out.lt)
    have hlt := B5'.out.lt
    clear B5 B4 B5' B9 HB9 hb8
    obtain ⟨D1, j1, rfl, q1⟩ := nt_len x1
    obtain ⟨D2, j2, rfl, q2⟩ := nt_len x2
    obtain ⟨D3, j3, rfl, q3⟩ := nt_len x3
    obtain ⟨D4, j4, rfl, q4⟩ := nt_len x4
    obtain ⟨q6, hBf, hsz⟩ := store6 B6.out HB.out (Nat.le_succ w.heap.size) (qS q) (.slice D1 (lim (qN q)).length j1) (.slice D2 (lim q.den).length j2) (qS q) (.slice D3 (lim (qN q)).length j3) (.slice D4 (lim q.den).length j4)
    have N1 := Lib.hid (((x1.out6 (g := w.heap.size + 1) (Or.inl hlt) (qS q) (.slice D1 (lim (qN q)).length j1) (.slice D2 (lim q.den).length j2) (qS q) (.slice D3 (lim (qN q)).length j3) (.slice D4 (lim q.den).length j4)).up (Nat.le_of_eq hsz.symm)).low (show w.heap.size ≤ _ from Nat.le_trans (Nat.le_succ _) (Nat.le_of_lt hlt)))
    have N2 := Lib.hid (((x2.out6 (g := w.heap.size + 1) (Or.inl hlt) (qS q) (.slice D1 (lim (qN q)).length j1) (.slice D2 (lim q.den).length j2) (qS q) (.slice D3 (lim (qN q)).length j3) (.slice D4 (lim q.den).length j4)).up (Nat.le_of_eq hsz.symm)).low (show w.heap.size ≤ _ from Nat.le_trans (Nat.le_succ _) (Nat.le_of_lt hlt)))
    have N3 := Lib.hid (((x3.out6 (g := w.heap.size + 1) (Or.inl hlt) (qS q) (.slice D1 (lim (qN q)).length j1) (.slice D2 (lim q.den).length j2) (qS q) (.slice D3 (lim (qN q)).length j3) (.slice D4 (lim q.den).length j4)).up (Nat.le_of_eq hsz.symm)).low (show w.heap.size ≤ _ from Nat.le_trans (Nat.le_succ _) (Nat.le_of_lt hlt)))
    have N4 := Lib.hid (((x4.out6 (g := w.heap.size + 1) (Or.inl hlt) (qS q) (.slice D1 (lim (qN q)).length j1) (.slice D2 (lim q.den).length j2) (qS q) (.slice D3 (lim (qN q)).length j3) (.slice D4 (lim q.den).length j4)).up (Nat.le_of_eq hsz.symm)).low (show w.heap.size ≤ _ from Nat.le_trans (Nat.le_succ _) (Nat.le_of_lt hlt)))
    have HBF := Lib.hid hBf
    have r0 := B6.out.cell 0
    have f0 := B6.out.free 0
    have e0 := q6.cell 0
    have r1 := B6.out.cell 1
    have f1 := B6.out.free 1
    have e1 := q6.cell 1
    have r2 := B6.out.cell 2
    have f2 := B6.out.free 2
    have e2 := q6.cell 2
    have r3 := B6.out.cell 3
    have f3 := B6.out.free 3
    have e3 := q6.cell 3
    have r4 := B6.out.cell 4
    have f4 := B6.out.free 4
    have e4 := q6.cell 4
    have r5 := B6.out.cell 5
    have f5 := B6.out.free 5
    have e5 := q6.cell 5
    clear x1 x2 x3 x4 hBf hsz q6 hlt B6 HB
    unfold St6 at *
    go_wp2_with fail
    clear r0 r1 r2 r3 r4 r5 f0 f1 f2 f3 f4 f5
    generalize (((((World.setCell w8 ⟨w.heap.size + 1, 0, none⟩ (.bool (qS q))).setCell ⟨w.heap.size + 1, 1, none⟩ (.slice D1 (lim (qN q)).length j1)).setCell ⟨w.heap.size + 1, 2, none⟩ (.slice D2 (lim q.den).length j2)).setCell ⟨w.heap.size + 1, 3, none⟩ (.bool (qS q))).setCell ⟨w.heap.size + 1, 4, none⟩ (.slice D3 (lim (qN q)).length j3)).setCell ⟨w.heap.size + 1, 5, none⟩ (.slice D4 (lim q.den).length j4) = WW at *
    refine bodyPost_ret (v := .agg #[.bool (qS q), .slice D1 (lim (qN q)).length j1, .slice D2 (lim q.den).length j2, .bool (qS q), .slice D3 (lim (qN q)).length j3, .slice D4 (lim q.den).length j4]) ?_ rfl (by show GivesBall _ _ _ _ _; exact ⟨_, _, _, _, rfl, N1.out, N2.out, N3.out, N4.out, HBF.out⟩)
    simp [results, Tryz.results58, go_sem, e0, e1, e2, e3, e4, e5]
end Go.Proofs.YtobmjcbjailclaaGreatDoor
