/- Several texts in one: RefRatCmp, RatC, PrQ, PrAdd, PrMul. Condition: each says its own. -/
import Derived.Deep.DeepFit
import Derived.Test.YtobmjcbjailclaaPk2
import Derived.Test.YtobmjcbjailclaaPk3
import Derived.Test.YtobmjcbjailclaaPk7
import Derived.Test.YtobmjcbjailclaaPk8
/- The reference's 'Sub' and 'Cmp' of numbers with a divisor by their contracts. Condition: a bound on lengths. -/
namespace Go.Proofs.Ytobmjcbjailclaa
set_option maxRecDepth 100000
open Go.RowKit

theorem s6_of {w0 W : World} {g : Nat} {a0 a1 a2 b0 b1 b2 : Value} (hb : Below w0.heap.size w0 W) (c0 : w0.cell? ⟨g, 0, none⟩ = some a0) (c1 : w0.cell? ⟨g, 1, none⟩ = some a1) (c2 : w0.cell? ⟨g, 2, none⟩ = some a2) (d0 : w0.cell? ⟨g + 1, 0, none⟩ = some b0) (d1 : w0.cell? ⟨g + 1, 1, none⟩ = some b1) (d2 : w0.cell? ⟨g + 1, 2, none⟩ = some b2) (hg : g + 1 < w0.heap.size) :
    W.cell? ⟨g, 0, none⟩ = some a0 ∧ W.cell? ⟨g, 1, none⟩ = some a1 ∧ W.cell? ⟨g, 2, none⟩ = some a2 ∧ W.cell? ⟨g + 1, 0, none⟩ = some b0 ∧ W.cell? ⟨g + 1, 1, none⟩ = some b1 ∧ W.cell? ⟨g + 1, 2, none⟩ = some b2 := by
  have k1 : g < w0.heap.size := by omega
  exact ⟨(hb.cell (p := ⟨g, 0, none⟩) k1).trans c0, (hb.cell (p := ⟨g, 1, none⟩) k1).trans c1, (hb.cell (p := ⟨g, 2, none⟩) k1).trans c2, (hb.cell (p := ⟨g + 1, 0, none⟩) hg).trans d0, (hb.cell (p := ⟨g + 1, 1, none⟩) hg).trans d1, (hb.cell (p := ⟨g + 1, 2, none⟩) hg).trans d2⟩
theorem s6_set {W : World} {g : Nat} {a0 a1 a2 b0 b1 b2 u v z : Value} (h : W.cell? ⟨g, 0, none⟩ = some a0 ∧ W.cell? ⟨g, 1, none⟩ = some a1 ∧ W.cell? ⟨g, 2, none⟩ = some a2 ∧ W.cell? ⟨g + 1, 0, none⟩ = some b0 ∧ W.cell? ⟨g + 1, 1, none⟩ = some b1 ∧ W.cell? ⟨g + 1, 2, none⟩ = some b2) :
    (((W.setCell ⟨g + 1 + 1, 0, none⟩ u).setCell ⟨g + 1 + 1, 1, none⟩ v).setCell ⟨g + 1 + 1, 2, none⟩ z).cell? ⟨g, 0, none⟩ = some a0 ∧ (((W.setCell ⟨g + 1 + 1, 0, none⟩ u).setCell ⟨g + 1 + 1, 1, none⟩ v).setCell ⟨g + 1 + 1, 2, none⟩ z).cell? ⟨g, 1, none⟩ = some a1 ∧
      (((W.setCell ⟨g + 1 + 1, 0, none⟩ u).setCell ⟨g + 1 + 1, 1, none⟩ v).setCell ⟨g + 1 + 1, 2, none⟩ z).cell? ⟨g, 2, none⟩ = some a2 ∧ (((W.setCell ⟨g + 1 + 1, 0, none⟩ u).setCell ⟨g + 1 + 1, 1, none⟩ v).setCell ⟨g + 1 + 1, 2, none⟩ z).cell? ⟨g + 1, 0, none⟩ = some b0 ∧
      (((W.setCell ⟨g + 1 + 1, 0, none⟩ u).setCell ⟨g + 1 + 1, 1, none⟩ v).setCell ⟨g + 1 + 1, 2, none⟩ z).cell? ⟨g + 1, 1, none⟩ = some b1 ∧ (((W.setCell ⟨g + 1 + 1, 0, none⟩ u).setCell ⟨g + 1 + 1, 1, none⟩ v).setCell ⟨g + 1 + 1, 2, none⟩ z).cell? ⟨g + 1, 2, none⟩ = some b2 := by
  obtain ⟨a, b, c, d, e, f⟩ := h
  exact ⟨far_set3 a (by omega), far_set3 b (by omega), far_set3 c (by omega), far_set3 d (by omega), far_set3 e (by omega), far_set3 f (by omega)⟩

theorem nr_gcd {n d : Nat} (hn : n ≠ 0) (hd : d ≠ 0) : Nat.gcd (nrN n d) (nrD n d) = 1 := by
  have h := nr_some (s := false) hn hd
  rw [h.2.1, h.2.2]
  exact Nat.gcd_div_gcd_div_gcd_of_pos_left (Nat.pos_of_ne_zero hn)

/-- A number in lowest terms is in lowest terms. -/
theorem nr_idem (n d : Nat) : nrN (nrN n d) (nrD n d) = nrN n d ∧ nrD (nrN n d) (nrD n d) = nrD n d := by
  by_cases h : n = 0 ∨ d = 0
  · have z := nr_zero (s := false) h
    rw [z.2.1, z.2.2]
    exact ⟨rfl, rfl⟩
  · have hn : n ≠ 0 := by omega
    have hd : d ≠ 0 := by omega
    have e1 : nrN n d ≠ 0 := fun e => h (nrN_zero.1 e)
    have e2 : nrD n d ≠ 0 := Nat.ne_of_gt (nrD_pos n d)
    have l := nr_low (s := false) (nr_gcd hn hd) e1 e2
    exact ⟨l.2.1, l.2.2⟩

theorem nrS_neg (s : Bool) (n d : Nat) : nrS (!s && decide (0 < nrN n d)) (nrN n d) (nrD n d) = (!s && decide (0 < nrN n d)) := by
  by_cases h : nrN n d = 0
  · rw [(nr_zero (Or.inl h)).1, h]
    simp
  · unfold nrS
    rw [if_neg (by have := nrD_pos n d; omega)]

theorem cmp_sum {S T T' : Bool} {N C M D : Nat} (h : T' = (!T && decide (0 < M))) :
    (addN S T' (N * C) (M * D) = 0 → cmpI (sg S N * (C : Int)) (sg T M * (D : Int)) = 0) ∧ (addN S T' (N * C) (M * D) ≠ 0 → addS S T' (N * C) (M * D) = true → cmpI (sg S N * (C : Int)) (sg T M * (D : Int)) = -1) ∧
      (addN S T' (N * C) (M * D) ≠ 0 → addS S T' (N * C) (M * D) = false → cmpI (sg S N * (C : Int)) (sg T M * (D : Int)) = 1) := by
  have e1 : sg S (N * C) = sg S N * (C : Int) := by unfold sg; cases S <;> simp [Int.neg_mul]
  have e2 : sg T' (M * D) = -(sg T M * (D : Int)) := by
    subst h
    by_cases hM : M = 0
    · subst hM; unfold sg; cases T <;> simp
    · have hd : decide (0 < M) = true := decide_eq_true (by omega)
      rw [hd]
      unfold sg
      cases T <;> simp [Int.neg_mul]
  refine ⟨fun h0 => ?_, fun h0 h1 => ?_, fun h0 h1 => ?_⟩
  · have := addN_zero.1 h0
    unfold cmpI
    rw [if_neg (by omega), if_neg (by omega)]
  · have := (addS_neg h0).1 h1
    unfold cmpI
    rw [if_pos (by omega)]
  · have k1 : ¬ (sg S (N * C) + sg T' (M * D) < 0) := fun hc => by rw [(addS_neg h0).2 hc] at h1; cases h1
    have k2 : sg S (N * C) + sg T' (M * D) ≠ 0 := fun hc => h0 (addN_zero.2 hc)
    unfold cmpI
    rw [if_neg (by omega), if_pos (by omega)]

end Go.Proofs.Ytobmjcbjailclaa

/- The reference's numbers with a divisor as rationals: contracts. Condition: bounds on lengths. -/
namespace Go.Proofs.Ytobmjcbjailclaa
set_option maxRecDepth 100000
open Go.RowKit

/-- A value that tells this rational, of at most so many limbs. -/
def RQ (w : World) (L B : Nat) (v : Value) (q : Rat) (k : Nat) : Prop := ∃ s n d, Rt w L B v s n d ∧ Dig n ∧ Dig d ∧ n.length ≤ k ∧ d.length ≤ k ∧ qv s (val n) (val d) = q

/-- What hands back a new number in lowest terms. -/
def GivesF (q : Rat) (w : World) : Ending → World → Prop := GivesT (qS q) (qN q) q.den w

/-- How many limbs a rational takes. -/
def Sz (q : Rat) (k : Nat) : Prop := (lim (qN q)).length ≤ k ∧ (lim q.den).length ≤ k

theorem RQ.after {w w' : World} {L : Nat} {v : Value} {q : Rat} {k : Nat} (h : RQ w L w.heap.size v q k) (hb : Below w.heap.size w w') : RQ w' L w'.heap.size v q k := by
  obtain ⟨s, n, d, hR, rest⟩ := h
  exact ⟨s, n, d, hR.after hb, rest⟩
theorem RQ.low {w : World} {L L' B : Nat} {v : Value} {q : Rat} {k : Nat} (h : RQ w L B v q k) (hL : L' ≤ L) : RQ w L' B v q k := by
  obtain ⟨s, n, d, hR, rest⟩ := h
  exact ⟨s, n, d, hR.low hL, rest⟩
theorem RQ.drew {w : World} {L B : Nat} {v : Value} {q : Rat} {k : Nat} (h : RQ w L B v q k) : RQ w.drew L B v q k := h
theorem RQ.of {w : World} {L B : Nat} {v : Value} {q : Rat} {k : Nat} (h : Rt w L B v (qS q) (lim (qN q)) (lim q.den)) (hz : Sz q k) : RQ w L B v q k :=
  ⟨_, _, _, h, dig_lim _, dig_lim _, hz.1, hz.2, by rw [val_lim, val_lim]; exact qv_self q⟩
theorem RQ.sz {w : World} {L B : Nat} {v : Value} {q : Rat} {k : Nat} (h : RQ w L B v q k) (hk : 1 ≤ k) : Sz q k := by
  obtain ⟨s, n, d, hR, dn, dd, ln, ld, rfl⟩ := h
  obtain ⟨_, e2, e3⟩ := nr_q s (val n) (val d)
  unfold Sz
  rw [← e2, ← e3]
  exact ⟨nrN_len dn ln, nrD_len dd ld (by omega)⟩

theorem len_mul {a b m n : Nat} (h1 : (lim a).length ≤ m) (h2 : (lim b).length ≤ n) : (lim (a * b)).length ≤ m + n := lim_mul_len (dig_lim a) (dig_lim b) (val_lim _).symm (val_lim _).symm h1 h2
theorem len_add {a b n : Nat} (h1 : (lim a).length ≤ n) (h2 : (lim b).length ≤ n) : (lim (a + b)).length ≤ n + 1 := lim_add_len (dig_lim a) (dig_lim b) (val_lim _).symm (val_lim _).symm h1 h2

theorem Sz.qv {s : Bool} {n d k : Nat} (h1 : (lim n).length ≤ k) (h2 : (lim d).length ≤ k) (hk : 1 ≤ k) : Sz (qv s n d) k := by
  obtain ⟨_, e2, e3⟩ := nr_q s n d
  unfold Sz
  rw [← e2, ← e3]
  refine ⟨Nat.le_trans (lim_len_mono (nrN_le _ _)) h1, ?_⟩
  by_cases hd : d = 0
  · rw [(nr_zero (s := s) (Or.inr hd : n = 0 ∨ d = 0)).2.2, lim_one (by omega) (by omega)]; exact hk
  · exact Nat.le_trans (lim_len_mono (nrD_le (Nat.le_refl _) (by omega))) h2

theorem Sz.mono {q : Rat} {k j : Nat} (h : Sz q k) (hk : k ≤ j) : Sz q j := ⟨Nat.le_trans h.1 hk, Nat.le_trans h.2 hk⟩
theorem Sz.neg {q : Rat} {k : Nat} (h : Sz q k) : Sz (-q) k := by
  unfold Sz
  rw [qN_neg, Rat.neg_den]
  exact h
theorem Sz.add {p q : Rat} {k j : Nat} (hp : Sz p k) (hq : Sz q j) : Sz (p + q) (k + j + 1) := by
  rw [← qv_add p q]
  refine Sz.qv (Nat.le_trans (lim_len_mono (addN_le _ _ _ _)) (len_add (n := k + j) (len_mul hp.1 hq.2) ?_)) (Nat.le_trans (len_mul hp.2 hq.2) (by omega)) (by omega)
  rw [Nat.add_comm k j]
  exact len_mul hq.1 hp.2
theorem Sz.mul {p q : Rat} {k j : Nat} (hp : Sz p k) (hq : Sz q j) (hk : 1 ≤ k) : Sz (p * q) (k + j) := by
  rw [← qv_mul p q]
  exact Sz.qv (len_mul hp.1 hq.1) (len_mul hp.2 hq.2) (by omega)
theorem Sz.div {p q : Rat} {k j : Nat} (hp : Sz p k) (hq : Sz q j) (hk : 1 ≤ k) : Sz (p / q) (k + j) := by
  by_cases h : q = 0
  · rw [h, Rat.div_def, Rat.inv_zero, Rat.mul_zero]
    refine ⟨?_, ?_⟩
    · show (lim 0).length ≤ _
      rw [lim_zero]; simp
    · show (lim 1).length ≤ _
      rw [lim_one (by omega) (by omega)]; simp; omega
  · rw [← qv_div p q h]
    refine Sz.qv (len_mul hp.1 hq.2) ?_ (by omega)
    exact len_mul hp.2 hq.1

theorem ratNorm_q (v : Value) (q : Rat) (k : Nat) (w : World) (h : RQ w 0 w.heap.size v q k) (hk : k ≤ 1000) : Calls Try.prog 7 #[v] w (GivesF q w) := by
  obtain ⟨s, n, d, hR, dn, dd, ln, ld, rfl⟩ := h
  have := ratNorm_any v s n d w dn dd hR (by omega) (by omega)
  obtain ⟨e1, e2, e3⟩ := nr_q s (val n) (val d)
  rw [e1, e2, e3] at this
  exact this

theorem ratOf_q (s : Bool) (vn vd : Value) (n d : List Nat) (w : World) (dn : Dig n) (dd : Dig d) (hn : Nt w 0 w.heap.size vn n) (hd : Nt w 0 w.heap.size vd d) (ln : n.length ≤ 1000) (ld : d.length ≤ 1000) :
    Calls Try.prog 27 #[.bool s, vn, vd] w (GivesF (qv s (val n) (val d)) w) := by
  have := ratOf_any s vn vd n d w dn dd hn hd ln ld
  obtain ⟨e1, e2, e3⟩ := nr_q s (val n) (val d)
  rw [e1, e2, e3] at this
  exact this

theorem ratAdd_q (u v : Value) (p q : Rat) (k j : Nat) (w : World) (h : RQ w 0 w.heap.size u p k) (h' : RQ w 0 w.heap.size v q j) (hk : k ≤ 400) (hj : j ≤ 400) : Calls Try.prog 8 #[u, v] w (GivesF (p + q) w) := by
  obtain ⟨s, n, d, hR, dn, dd, ln, ld, rfl⟩ := h
  obtain ⟨t, m, c, hR', dm, dc, lm, lc, rfl⟩ := h'
  obtain ⟨e1, e2, e3⟩ := nr_q s (val n) (val d)
  obtain ⟨f1, f2, f3⟩ := nr_q t (val m) (val c)
  have := ratAdd_any u v s t n d m c w dn dd dm dc hR hR' (by omega) (by omega) (by omega) (by omega) _ _ _ _ _ _ e1 e2 e3 f1 f2 f3
  obtain ⟨g1, g2, g3⟩ := nr_q (addS (qS (qv s (val n) (val d))) (qS (qv t (val m) (val c))) (qN (qv s (val n) (val d)) * (qv t (val m) (val c)).den) (qN (qv t (val m) (val c)) * (qv s (val n) (val d)).den)) (addN (qS (qv s (val n) (val d))) (qS (qv t (val m) (val c))) (qN (qv s (val n) (val d)) * (qv t (val m) (val c)).den) (qN (qv t (val m) (val c)) * (qv s (val n) (val d)).den)) ((qv s (val n) (val d)).den * (qv t (val m) (val c)).den)
  rw [g1, g2, g3, qv_add] at this
  exact this

end Go.Proofs.Ytobmjcbjailclaa

/- The program's numbers with a divisor, as Lean's: 'Norm', 'signed', 'Neg', 'Int'. Condition: a bound on lengths. -/
namespace Go.Proofs.Ytobmjcbjailclaa
set_option maxRecDepth 100000
open Go.RowKit

theorem prNorm_q (v : Value) (q : Rat) (k : Nat) (w : World) (h : RQ w 0 w.heap.size v q k) (hk : k ≤ 1000) : Calls Try.prog 40 #[v] w (GivesF q w) := by
  obtain ⟨s, n, d, hR, dn, dd, ln, ld, rfl⟩ := h
  have := prNorm_any v s n d w dn dd hR (by omega) (by omega)
  obtain ⟨e1, e2, e3⟩ := nr_q s (val n) (val d)
  rw [e1, e2, e3] at this
  exact this

theorem qS_len (q : Rat) : (!qS q && decide (0 < (lim (qN q)).length)) = qS (-q) := by
  rw [qS_neg]
  congr 1
  refine decide_eq_decide.2 ⟨fun h => Nat.pos_of_ne_zero fun h0 => ?_, fun h => Nat.pos_of_ne_zero fun h0 => ?_⟩
  · rw [h0, lim_zero] at h
    exact absurd h (by simp)
  · have := lim_eq_nil.1 (List.eq_nil_of_length_eq_zero h0)
    omega

set_option maxHeartbeats 3200000 in
theorem prSigned_any (neg : Bool) (v : Value) (s : Bool) (n d : List Nat) (L : Nat) (w : World) (h : Rt w L w.heap.size v s n d) :
    Calls Try.prog 74 #[.bool neg, v] w fun e w' => ∃ v', e = .returned v' ∧ Rt w' L w'.heap.size v' (neg && decide (0 < n.length)) n d ∧ Below w.heap.size w w' := by
  obtain ⟨vn, vd, rfl, hn, hd⟩ := h
  have hn' := hn
  have hd' := hd
  obtain ⟨A1, c1, rfl, m1⟩ := nt_len hn'
  obtain ⟨A2, c2, rfl, m2⟩ := nt_len hd'
  clear hn' hd'
  have HN := Lib.hid hn
  have HD := Lib.hid hd
  clear hn hd
  cases neg
  · have b1 := Blk.new (w.alloc (.cells #[.bool false, .slice A1 n.length c1, .slice A2 d.length c2] 24)) 24 #[.bool false, .slice A1 n.length c1, .slice A2 d.length c2]
    have hB : Below w.heap.size w ((w.alloc (.cells #[.bool false, .slice A1 n.length c1, .slice A2 d.length c2] 24)).alloc (.cells #[.bool false, .slice A1 n.length c1, .slice A2 d.length c2] 24)) := ((Below.refl _ _).alloc (Nat.le_refl _) _).alloc (by simp) _
    have es : (w.alloc (.cells #[.bool false, .slice A1 n.length c1, .slice A2 d.length c2] 24)).heap.size = w.heap.size + 1 := by simp
    rw [es] at b1
    have e0 := b1.cell 0
    have e1 := b1.cell 1
    have e2 := b1.cell 2
    have HE0 := Lib.hid e0
    have HE1 := Lib.hid e1
    have HE2 := Lib.hid e2
    have HBB := Lib.hid hB
    clear hB b1 es e0 e1 e2
    go_enter Try.func74, Try.ntmps74
    go_wp2_with fail
    generalize (w.alloc (.cells #[.bool false, .slice A1 n.length c1, .slice A2 d.length c2] 24)).alloc (.cells #[.bool false, .slice A1 n.length c1, .slice A2 d.length c2] 24) = wz at *
    have e0 := HE0.out
    have e1 := HE1.out
    have e2 := HE2.out
    refine bodyPost_ret (v := .agg #[.bool false, .slice A1 n.length c1, .slice A2 d.length c2]) ?_ rfl ⟨_, rfl, ⟨_, _, rfl, HN.out.after HBB.out, HD.out.after HBB.out⟩, HBB.out⟩
    simp [results, Try.results74, go_sem, e0, e1, e2]
  · have b1 := Blk.new (w.alloc (.cells #[.bool (decide (0 < n.length)), .slice A1 n.length c1, .slice A2 d.length c2] 24)) 24 #[.bool (decide (0 < n.length)), .slice A1 n.length c1, .slice A2 d.length c2]
    have hB : Below w.heap.size w ((w.alloc (.cells #[.bool (decide (0 < n.length)), .slice A1 n.length c1, .slice A2 d.length c2] 24)).alloc (.cells #[.bool (decide (0 < n.length)), .slice A1 n.length c1, .slice A2 d.length c2] 24)) := ((Below.refl _ _).alloc (Nat.le_refl _) _).alloc (by simp) _
    have es : (w.alloc (.cells #[.bool (decide (0 < n.length)), .slice A1 n.length c1, .slice A2 d.length c2] 24)).heap.size = w.heap.size + 1 := by simp
    rw [es] at b1
    have e0 := b1.cell 0
    have e1 := b1.cell 1
    have e2 := b1.cell 2
    have HE0 := Lib.hid e0
    have HE1 := Lib.hid e1
    have HE2 := Lib.hid e2
    have HBB := Lib.hid hB
    clear hB b1 es e0 e1 e2
    go_enter Try.func74, Try.ntmps74
    go_wp2_with fail
    generalize (w.alloc (.cells #[.bool (decide (0 < n.length)), .slice A1 n.length c1, .slice A2 d.length c2] 24)).alloc (.cells #[.bool (decide (0 < n.length)), .slice A1 n.length c1, .slice A2 d.length c2] 24) = wz at *
    have e0 := HE0.out
    have e1 := HE1.out
    have e2 := HE2.out
    refine bodyPost_ret (v := .agg #[.bool (decide (0 < n.length)), .slice A1 n.length c1, .slice A2 d.length c2]) ?_ rfl ⟨_, rfl, ⟨_, _, rfl, HN.out.after HBB.out, HD.out.after HBB.out⟩, HBB.out⟩
    simp [results, Try.results74, go_sem, e0, e1, e2]

set_option maxHeartbeats 3200000 in
theorem prNeg_q (v : Value) (q : Rat) (k : Nat) (w : World) (h : RQ w 0 w.heap.size v q k) (hk : k ≤ 1000) : Calls Try.prog 62 #[v] w (GivesF (-q) w) := by
  have hcon := fun (w : World) (v : Value) (h : RQ w 0 w.heap.size v q k) => prNorm_q v q k w h hk
  have HC := Lib.hid hcon
  have HR := Lib.hid h
  obtain ⟨s, n, d, ⟨vn, vd, rfl, hn, hd⟩, rest⟩ := h
  have hn' := hn
  have hd' := hd
  obtain ⟨A1, c1, rfl, m1⟩ := nt_len hn'
  obtain ⟨A2, c2, rfl, m2⟩ := nt_len hd'
  have HS := Lib.hid (qS_len q)
  have HN := Lib.hid (qN_neg q)
  have HD := Lib.hid (Rat.neg_den (a := q))
  clear hn' hd' hn hd rest hcon
  go_enter Try.func62, Try.ntmps62
  go_wp2_with fail
  have b0 := (Blk.new w 24 #[.bool s, .slice A1 n.length c1, .slice A2 d.length c2]).alloc (.cells #[.bool false, .slice none 0 0, .slice none 0 0] 24)
  have b1 := Blk.new (w.alloc (.cells #[.bool s, .slice A1 n.length c1, .slice A2 d.length c2] 24)) 24 #[.bool false, .slice none 0 0, .slice none 0 0]
  have hB : Below w.heap.size w ((w.alloc (.cells #[.bool s, .slice A1 n.length c1, .slice A2 d.length c2] 24)).alloc (.cells #[.bool false, .slice none 0 0, .slice none 0 0] 24)) := ((Below.refl _ _).alloc (Nat.le_refl _) _).alloc (by simp) _
  have es : (w.alloc (.cells #[.bool s, .slice A1 n.length c1, .slice A2 d.length c2] 24)).heap.size = w.heap.size + 1 := by simp
  rw [es] at b1
  clear es
  generalize ((w.alloc (.cells #[.bool s, .slice A1 n.length c1, .slice A2 d.length c2] 24)).alloc (.cells #[.bool false, .slice none 0 0, .slice none 0 0] 24)) = w2 at *
  have hRW := HR.out.after hB
  have c0 := b0.cell 0
  have c1' := b0.cell 1
  have c2' := b0.cell 2
  go_wp2_with fail
  refine (HC.out _ _ hRW).mono ?_
  rintro e w3 ⟨v3, rfl, ⟨an, ad, rfl, han, had⟩, hb⟩
  have han' := han
  have had' := had
  obtain ⟨A8, c8, rfl, m8⟩ := nt_len han'
  obtain ⟨A9, c9, rfl, m9⟩ := nt_len had'
  replace han := han.low (show w.heap.size + 2 ≤ _ from b1.lt)
  replace had := had.low (show w.heap.size + 2 ≤ _ from b1.lt)
  replace b0 := b0.below hb b0.lt
  replace b1 := b1.below hb b1.lt
  replace hB := hB.trans (hb.mono hB.size)
  clear han' had' hRW HR HC hb c0 c1' c2'
  have r0 := b0.cell 0
  have r1 := b0.cell 1
  have r2 := b0.cell 2
  have f0 := b0.free 0
  have f1 := b0.free 1
  have f2 := b0.free 2
  have p0 := ((b0.put 0 (.bool (qS q))).put 1 (.slice A8 (lim (qN q)).length c8)).put 2 (.slice A9 (lim q.den).length c9)
  have q1 := ((b1.far (p := ⟨w.heap.size, 0, none⟩) (by simp) (.bool (qS q))).far (p := ⟨w.heap.size, 1, none⟩) (by simp) (.slice A8 (lim (qN q)).length c8)).far (p := ⟨w.heap.size, 2, none⟩) (by simp) (.slice A9 (lim q.den).length c9)
  have hB2 := ((hB.setCell (p := ⟨w.heap.size, 0, none⟩) (Nat.le_refl _) (.bool (qS q))).setCell (p := ⟨w.heap.size, 1, none⟩) (Nat.le_refl _) (.slice A8 (lim (qN q)).length c8)).setCell (p := ⟨w.heap.size, 2, none⟩) (Nat.le_refl _) (.slice A9 (lim q.den).length c9)
  have x6 := ((han.put3 (g := w.heap.size) (by omega) 0 (.bool (qS q))).put3 (g := w.heap.size) (by omega) 1 (.slice A8 (lim (qN q)).length c8)).put3 (g := w.heap.size) (by omega) 2 (.slice A9 (lim q.den).length c9)
  have y6 := ((had.put3 (g := w.heap.size) (by omega) 0 (.bool (qS q))).put3 (g := w.heap.size) (by omega) 1 (.slice A8 (lim (qN q)).length c8)).put3 (g := w.heap.size) (by omega) 2 (.slice A9 (lim q.den).length c9)
  clear b0 b1 hB han had
  go_wp2_with fail
  clear r0 r1 r2 f0 f1 f2
  generalize ((World.setCell w3 ⟨w.heap.size, 0, none⟩ (.bool (qS q))).setCell ⟨w.heap.size, 1, none⟩ (.slice A8 (lim (qN q)).length c8)).setCell ⟨w.heap.size, 2, none⟩ (.slice A9 (lim q.den).length c9) = w4 at *
  have hsg := prSigned_any (!qS q) _ (qS q) (lim (qN q)) (lim q.den) (w.heap.size + 2) w4 ⟨_, _, rfl, x6, y6⟩
  rw [HS.out] at hsg
  refine hsg.mono ?_
  rintro e w5 ⟨v5, rfl, ⟨an, ad, rfl, han, had⟩, hb⟩
  have han2 := han
  have had2 := had
  obtain ⟨A5, c5, rfl, m5⟩ := nt_len han2
  obtain ⟨A6, c6, rfl, m6⟩ := nt_len had2
  replace q1 := q1.below hb q1.lt
  replace hB2 := hB2.trans (hb.mono hB2.size)
  obtain ⟨e0, e1, e2, hR, hBf⟩ := store3 q1 hB2 (by omega) (qS (-q)) (.slice A5 (lim (qN q)).length c5) (.slice A6 (lim q.den).length c6) han had
  have r0 := q1.cell 0
  have r1 := q1.cell 1
  have r2 := q1.cell 2
  have f0 := q1.free 0
  have f1 := q1.free 1
  have f2 := q1.free 2
  have HRR := Lib.hid hR
  have HBF := Lib.hid hBf
  clear han had han2 had2 x6 y6 hsg hb hR hBf q1 hB2 p0 HS
  unfold St3 at *
  go_wp2_with fail
  clear r0 r1 r2 f0 f1 f2
  generalize ((World.setCell w5 ⟨w.heap.size + 1, 0, none⟩ (.bool (qS (-q)))).setCell ⟨w.heap.size + 1, 1, none⟩ (.slice A5 (lim (qN q)).length c5)).setCell ⟨w.heap.size + 1, 2, none⟩ (.slice A6 (lim q.den).length c6) = wz at *
  refine bodyPost_ret (v := .agg #[.bool (qS (-q)), .slice A5 (lim (qN q)).length c5, .slice A6 (lim q.den).length c6]) ?_ rfl (by
    show GivesT _ _ _ _ _ _
    rw [HN.out, HD.out]
    exact ⟨_, rfl, HRR.out, HBF.out⟩)
  simp [results, Try.results62, go_sem, e0, e1, e2]
end Go.Proofs.Ytobmjcbjailclaa

/- The program's 'Add' and 'Mul' of numbers with a divisor by their contracts. Condition: a bound on lengths. -/
namespace Go.Proofs.Ytobmjcbjailclaa
set_option maxRecDepth 100000
open Go.RowKit

theorem blk_put3 {W : World} {g : Nat} {t : TypeId} {x y z a b c : Value} (h : Blk W g t #[x, y, z]) : Blk (((W.setCell ⟨g, 0, none⟩ a).setCell ⟨g, 1, none⟩ b).setCell ⟨g, 2, none⟩ c) g t #[a, b, c] := ((Blk.put h 0 a).put 1 b).put 2 c
theorem below_set3 {w W : World} {B g : Nat} (h : Below B w W) (hg : B ≤ g) (a b c : Value) : Below B w (((W.setCell ⟨g, 0, none⟩ a).setCell ⟨g, 1, none⟩ b).setCell ⟨g, 2, none⟩ c) :=
  ((h.setCell (p := ⟨g, 0, none⟩) hg a).setCell (p := ⟨g, 1, none⟩) hg b).setCell (p := ⟨g, 2, none⟩) hg c
theorem nt_set3 {W : World} {L g : Nat} {v : Value} {x : List Nat} (h : Nt W L W.heap.size v x) (hg : g < L) (a b c : Value) : Nt (((W.setCell ⟨g, 0, none⟩ a).setCell ⟨g, 1, none⟩ b).setCell ⟨g, 2, none⟩ c) L (((W.setCell ⟨g, 0, none⟩ a).setCell ⟨g, 1, none⟩ b).setCell ⟨g, 2, none⟩ c).heap.size v x :=
  ((h.put3 hg 0 a).put3 hg 1 b).put3 hg 2 c

/-- Behind 'a, b = Norm(a), Norm(b)': both numbers in lowest terms in their blocks, the result's block as it was made. -/
def P2 (w : World) (S T : Bool) (N D M C : Nat) (wx : World) : Prop :=
  ∃ xn xd yn yd, Blk wx w.heap.size 24 #[.bool S, xn, xd] ∧ Blk wx (w.heap.size + 1) 24 #[.bool T, yn, yd] ∧ Blk wx (w.heap.size + 1 + 1) 24 #[.bool false, .slice none 0 0, .slice none 0 0] ∧
    Nt wx 0 wx.heap.size xn (lim N) ∧ Nt wx 0 wx.heap.size xd (lim D) ∧ Nt wx 0 wx.heap.size yn (lim M) ∧ Nt wx 0 wx.heap.size yd (lim C) ∧ Below w.heap.size w wx

theorem p2_of {w W : World} {S T : Bool} {N D M C : Nat} {xn xd yn yd a0 a1 a2 b0 b1 b2 : Value} (r0 : Blk W w.heap.size 24 #[a0, a1, a2]) (r1 : Blk W (w.heap.size + 1) 24 #[b0, b1, b2]) (r2 : Blk W (w.heap.size + 1 + 1) 24 #[.bool false, .slice none 0 0, .slice none 0 0])
    (hxn : Nt W (w.heap.size + 1 + 1 + 1) W.heap.size xn (lim N)) (hxd : Nt W (w.heap.size + 1 + 1 + 1) W.heap.size xd (lim D)) (hyn : Nt W (w.heap.size + 1 + 1 + 1) W.heap.size yn (lim M)) (hyd : Nt W (w.heap.size + 1 + 1 + 1) W.heap.size yd (lim C)) (hB : Below w.heap.size w W) :
    P2 w S T N D M C ((((((W.setCell ⟨w.heap.size, 0, none⟩ (.bool S)).setCell ⟨w.heap.size, 1, none⟩ xn).setCell ⟨w.heap.size, 2, none⟩ xd).setCell ⟨w.heap.size + 1, 0, none⟩ (.bool T)).setCell ⟨w.heap.size + 1, 1, none⟩ yn).setCell ⟨w.heap.size + 1, 2, none⟩ yd) := by
  refine ⟨xn, xd, yn, yd, blk_far3 (blk_put3 r0) (by omega), blk_put3 (blk_far3 r1 (by omega)), blk_far3 (blk_far3 r2 (by omega)) (by omega), ?_, ?_, ?_, ?_, below_set3 (below_set3 hB (Nat.le_refl _) _ _ _) (Nat.le_succ _) _ _ _⟩
  all_goals (exact (nt_set3 (nt_set3 (by assumption) (by omega) _ _ _) (by omega) _ _ _).low (Nat.zero_le _))

theorem c6_of {w0 W : World} {g h : Nat} {a0 a1 a2 b0 b1 b2 : Value} (hb : Below w0.heap.size w0 W) (c0 : w0.cell? ⟨g, 0, none⟩ = some a0) (c1 : w0.cell? ⟨g, 1, none⟩ = some a1) (c2 : w0.cell? ⟨g, 2, none⟩ = some a2) (d0 : w0.cell? ⟨h, 0, none⟩ = some b0) (d1 : w0.cell? ⟨h, 1, none⟩ = some b1) (d2 : w0.cell? ⟨h, 2, none⟩ = some b2) (hg : g < w0.heap.size) (hh : h < w0.heap.size) :
    W.cell? ⟨g, 0, none⟩ = some a0 ∧ W.cell? ⟨g, 1, none⟩ = some a1 ∧ W.cell? ⟨g, 2, none⟩ = some a2 ∧ W.cell? ⟨h, 0, none⟩ = some b0 ∧ W.cell? ⟨h, 1, none⟩ = some b1 ∧ W.cell? ⟨h, 2, none⟩ = some b2 :=
  ⟨(hb.cell (p := ⟨g, 0, none⟩) hg).trans c0, (hb.cell (p := ⟨g, 1, none⟩) hg).trans c1, (hb.cell (p := ⟨g, 2, none⟩) hg).trans c2, (hb.cell (p := ⟨h, 0, none⟩) hh).trans d0, (hb.cell (p := ⟨h, 1, none⟩) hh).trans d1, (hb.cell (p := ⟨h, 2, none⟩) hh).trans d2⟩

theorem c6_set {W : World} {g h p : Nat} {a0 a1 a2 b0 b1 b2 u v z : Value} (hs : W.cell? ⟨g, 0, none⟩ = some a0 ∧ W.cell? ⟨g, 1, none⟩ = some a1 ∧ W.cell? ⟨g, 2, none⟩ = some a2 ∧ W.cell? ⟨h, 0, none⟩ = some b0 ∧ W.cell? ⟨h, 1, none⟩ = some b1 ∧ W.cell? ⟨h, 2, none⟩ = some b2) (hg : p ≠ g) (hh : p ≠ h) :
    (((W.setCell ⟨p, 0, none⟩ u).setCell ⟨p, 1, none⟩ v).setCell ⟨p, 2, none⟩ z).cell? ⟨g, 0, none⟩ = some a0 ∧ (((W.setCell ⟨p, 0, none⟩ u).setCell ⟨p, 1, none⟩ v).setCell ⟨p, 2, none⟩ z).cell? ⟨g, 1, none⟩ = some a1 ∧ (((W.setCell ⟨p, 0, none⟩ u).setCell ⟨p, 1, none⟩ v).setCell ⟨p, 2, none⟩ z).cell? ⟨g, 2, none⟩ = some a2 ∧
      (((W.setCell ⟨p, 0, none⟩ u).setCell ⟨p, 1, none⟩ v).setCell ⟨p, 2, none⟩ z).cell? ⟨h, 0, none⟩ = some b0 ∧ (((W.setCell ⟨p, 0, none⟩ u).setCell ⟨p, 1, none⟩ v).setCell ⟨p, 2, none⟩ z).cell? ⟨h, 1, none⟩ = some b1 ∧ (((W.setCell ⟨p, 0, none⟩ u).setCell ⟨p, 1, none⟩ v).setCell ⟨p, 2, none⟩ z).cell? ⟨h, 2, none⟩ = some b2 := by
  obtain ⟨a, b, c, d, e, f⟩ := hs
  exact ⟨far_set3 a hg, far_set3 b hg, far_set3 c hg, far_set3 d hh, far_set3 e hh, far_set3 f hh⟩

set_option maxHeartbeats 3200000 in
theorem prAdd_any (u v : Value) (s t : Bool) (n d m c : List Nat) (w : World) (dn : Dig n) (dd : Dig d) (dm : Dig m) (dc : Dig c) (h : Rt w 0 w.heap.size u s n d) (h' : Rt w 0 w.heap.size v t m c)
    (ln : n.length ≤ 400) (ld : d.length ≤ 400) (lm : m.length ≤ 400) (lc : c.length ≤ 400) (S T : Bool) (N D M C : Nat) (hS : nrS s (val n) (val d) = S) (hN : nrN (val n) (val d) = N) (hD : nrD (val n) (val d) = D)
    (hT : nrS t (val m) (val c) = T) (hM : nrN (val m) (val c) = M) (hC : nrD (val m) (val c) = C) :
    Calls Try.prog 20 #[u, v] w (GivesT (nrS (addS S T (N * C) (M * D)) (addN S T (N * C) (M * D)) (D * C)) (nrN (addN S T (N * C) (M * D)) (D * C)) (nrD (addN S T (N * C) (M * D)) (D * C)) w) := by
  have lN : (lim N).length ≤ 400 := by rw [← hN]; exact nrN_len dn ln
  have lM : (lim M).length ≤ 400 := by rw [← hM]; exact nrN_len dm lm
  have lD : (lim D).length ≤ 400 := by rw [← hD]; exact nrD_len dd ld (by omega)
  have lC : (lim C).length ≤ 400 := by rw [← hC]; exact nrD_len dc lc (by omega)
  have HC1 : Hid (∀ W, Below w.heap.size w W → Calls Try.prog 40 #[u] W (GivesT S N D W)) := fun W hb => by
    have := prNorm_any u s n d W dn dd (h.after hb) (by omega) (by omega)
    rw [hS, hN, hD] at this
    exact this
  have HC2 : Hid (∀ W, Below w.heap.size w W → Calls Try.prog 40 #[v] W (GivesT T M C W)) := fun W hb => by
    have := prNorm_any v t m c W dm dc (h'.after hb) (by omega) (by omega)
    rw [hT, hM, hC] at this
    exact this
  obtain ⟨un, ud, rfl, hn, hd⟩ := h
  obtain ⟨vm, vc, rfl, hm, hc⟩ := h'
  obtain ⟨A1, k1, rfl, m1⟩ := nt_len hn
  obtain ⟨A2, k2, rfl, m2⟩ := nt_len hd
  obtain ⟨A3, k3, rfl, m3⟩ := nt_len hm
  obtain ⟨A4, k4, rfl, m4⟩ := nt_len hc
  clear hn hd hm hc hS hN hD hT hM hC dn dd dm dc
  go_enter Try.func20, Try.ntmps20
  go_wp2_with fail
  have b0 := ((Blk.new w 24 #[.bool s, .slice A1 n.length k1, .slice A2 d.length k2]).alloc (.cells #[.bool t, .slice A3 m.length k3, .slice A4 c.length k4] 24)).alloc (.cells #[.bool false, .slice none 0 0, .slice none 0 0] 24)
  have b1 := (Blk.new (w.alloc (.cells #[.bool s, .slice A1 n.length k1, .slice A2 d.length k2] 24)) 24 #[.bool t, .slice A3 m.length k3, .slice A4 c.length k4]).alloc (.cells #[.bool false, .slice none 0 0, .slice none 0 0] 24)
  have b2 := Blk.new ((w.alloc (.cells #[.bool s, .slice A1 n.length k1, .slice A2 d.length k2] 24)).alloc (.cells #[.bool t, .slice A3 m.length k3, .slice A4 c.length k4] 24)) 24 #[.bool false, .slice none 0 0, .slice none 0 0]
  have hB : Below w.heap.size w (((w.alloc (.cells #[.bool s, .slice A1 n.length k1, .slice A2 d.length k2] 24)).alloc (.cells #[.bool t, .slice A3 m.length k3, .slice A4 c.length k4] 24)).alloc (.cells #[.bool false, .slice none 0 0, .slice none 0 0] 24)) := (((Below.refl _ _).alloc (Nat.le_refl _) _).alloc (by simp) _).alloc (by simp; omega) _
  have es : (w.alloc (.cells #[.bool s, .slice A1 n.length k1, .slice A2 d.length k2] 24)).heap.size = w.heap.size + 1 := by simp
  have es2 : ((w.alloc (.cells #[.bool s, .slice A1 n.length k1, .slice A2 d.length k2] 24)).alloc (.cells #[.bool t, .slice A3 m.length k3, .slice A4 c.length k4] 24)).heap.size = w.heap.size + 1 + 1 := by simp
  rw [es] at b1
  rw [es2] at b2
  clear es es2
  generalize (((w.alloc (.cells #[.bool s, .slice A1 n.length k1, .slice A2 d.length k2] 24)).alloc (.cells #[.bool t, .slice A3 m.length k3, .slice A4 c.length k4] 24)).alloc (.cells #[.bool false, .slice none 0 0, .slice none 0 0] 24)) = w2 at *
  go_cut [] from 12 to 15 (fun wx => P2 w S T N D M C wx)
  case first =>
    have a0 := b0.cell 0
    have a1 := b0.cell 1
    have a2 := b0.cell 2
    have e0 := b1.cell 0
    have e1 := b1.cell 1
    have e2 := b1.cell 2
    have HB2 : Hid (Below w.heap.size w w2.drew) := hB.drew
    have Q0 := Lib.hid b0
    have Q1 := Lib.hid b1
    have Q2 := Lib.hid b2
    clear b0 b1 b2 hB
    go_region_with
      (first
        | (have hx := HB3
           go_at_call 40
           go_fit (HC2.out _ HB3.out)
           rintro e w5 ⟨v5, rfl, ⟨xm, xc, rfl, hxm, hxc⟩, hk5⟩
           have hxm' := hxm
           have hxc' := hxc
           obtain ⟨A7, k7, rfl, m7⟩ := nt_len hxm'
           obtain ⟨A8, k8, rfl, m8⟩ := nt_len hxc'
           clear hxm' hxc' hx
           have HB5 := Lib.hid (HB3.out.trans (hk5.mono HB3.out.size))
           have R0 := Lib.hid (Q3.out.below hk5 Q3.out.lt)
           have R1 := Lib.hid (Q4.out.below hk5 Q4.out.lt)
           have R2 := Lib.hid (Q5.out.below hk5 Q5.out.lt)
           have HXN := Lib.hid (NX.out.after hk5)
           have HXD := Lib.hid (DX.out.after hk5)
           have HYN := Lib.hid (hxm.low (show w.heap.size + 1 + 1 + 1 ≤ _ from Q5.out.lt))
           have HYD := Lib.hid (hxc.low (show w.heap.size + 1 + 1 + 1 ≤ _ from Q5.out.lt))
           clear e0_3 e1_3 e2_3
           have f0 := R0.out.free 0
           have f1 := R0.out.free 1
           have f2 := R0.out.free 2
           have a0_5 := R0.out.cell 0
           have a1_5 := R0.out.cell 1
           have a2_5 := R0.out.cell 2
           have S1 := blk_far3 (p := w.heap.size) (a := .bool S) (b := .slice A5 (lim N).length k5) (c := .slice A6 (lim D).length k6) R1.out (by omega)
           have g0 := S1.free 0
           have g1 := S1.free 1
           have g2 := S1.free 2
           have e0_5 := S1.cell 0
           have e1_5 := S1.cell 1
           have e2_5 := S1.cell 2
           have HB6 := Lib.hid (below_set3 HB5.out (Nat.le_refl w.heap.size) (.bool S) (.slice A5 (lim N).length k5) (.slice A6 (lim D).length k6))
           have HB7 := Lib.hid (below_set3 HB6.out (Nat.le_succ w.heap.size) (.bool T) (.slice A7 (lim M).length k7) (.slice A8 (lim C).length k8))
           clear hxm hxc hk5 S1)
        | (go_at_call 40
           go_fit (HC1.out _ HB2.out)
           rintro e w3 ⟨v3, rfl, ⟨xn, xd, rfl, hxn, hxd⟩, hk3⟩
           have hxn' := hxn
           have hxd' := hxd
           obtain ⟨A5, k5, rfl, m5⟩ := nt_len hxn'
           obtain ⟨A6, k6, rfl, m6⟩ := nt_len hxd'
           clear hxn' hxd'
           have HB3 := Lib.hid (HB2.out.trans (hk3.mono HB2.out.size))
           have Q3 := Lib.hid (Q0.out.drew.below hk3 Q0.out.drew.lt)
           have Q4 := Lib.hid (Q1.out.drew.below hk3 Q1.out.drew.lt)
           have Q5 := Lib.hid (Q2.out.drew.below hk3 Q2.out.drew.lt)
           have NX := Lib.hid (hxn.low (show w.heap.size + 1 + 1 + 1 ≤ _ from Q2.out.lt))
           have DX := Lib.hid (hxd.low (show w.heap.size + 1 + 1 + 1 ≤ _ from Q2.out.lt))
           have e0_3 := Q4.out.cell 0
           have e1_3 := Q4.out.cell 1
           have e2_3 := Q4.out.cell 2
           clear hxn hxd hk3 a0 a1 a2)
        | fail)
    all_goals (go_wp2_with fail; go_meet)
    all_goals with_reducible exact p2_of R0.out R1.out R2.out HXN.out HXD.out HYN.out HYD.out HB5.out
  case rest =>
    obtain ⟨xn, xd, yn, yd, hgx, hgy, hres, hxn, hxd, hyn, hyd, hBc⟩ := hcut
    clear hB b0 b1 b2 HC1 HC2
    obtain ⟨B1, j1, rfl, q1⟩ := nt_len hxn
    obtain ⟨B2, j2, rfl, q2⟩ := nt_len hxd
    obtain ⟨B3, j3, rfl, q3⟩ := nt_len hyn
    obtain ⟨B4, j4, rfl, q4⟩ := nt_len hyd
    have x0 : wc.cell? ⟨w.heap.size, 0, none⟩ = some (.bool S) := hgx.cell 0
    have x1 : wc.cell? ⟨w.heap.size, 1, none⟩ = some (.slice B1 (lim N).length j1) := hgx.cell 1
    have x2 : wc.cell? ⟨w.heap.size, 2, none⟩ = some (.slice B2 (lim D).length j2) := hgx.cell 2
    have y0 : wc.cell? ⟨w.heap.size + 1, 0, none⟩ = some (.bool T) := hgy.cell 0
    have y1 : wc.cell? ⟨w.heap.size + 1, 1, none⟩ = some (.slice B3 (lim M).length j3) := hgy.cell 1
    have y2 : wc.cell? ⟨w.heap.size + 1, 2, none⟩ = some (.slice B4 (lim C).length j4) := hgy.cell 2
    have kx := hgx.lt
    have ky := hgy.lt
    have dN := dig_lim N
    have dD := dig_lim D
    have dM := dig_lim M
    have dC := dig_lim C
    have hk0 : Below wc.heap.size wc wc.drew := (Below.refl _ _).drew
    have VP : Hid (val (lim N) * val (lim C) = N * C) := by show _ = _; rw [val_lim, val_lim]
    have VQ : Hid (val (lim M) * val (lim D) = M * D) := by show _ = _; rw [val_lim, val_lim]
    have VD : Hid (val (lim D) * val (lim C) = D * C) := by show _ = _; rw [val_lim, val_lim]
    go_wp2_with fail
    go_region_held3 (fun W => Below wc.heap.size wc W ∧ W.cell? ⟨w.heap.size, 1, none⟩ = some (.slice B1 (lim N).length j1) ∧ W.cell? ⟨w.heap.size, 2, none⟩ = some (.slice B2 (lim D).length j2) ∧ W.cell? ⟨w.heap.size + 1, 1, none⟩ = some (.slice B3 (lim M).length j3) ∧ W.cell? ⟨w.heap.size + 1, 2, none⟩ = some (.slice B4 (lim C).length j4))
      (first | exact s4_of hk9 x1 x2 y1 y2 kx ky | exact s4_of hk8 x1 x2 y1 y2 kx ky | exact s4_of hk7 x1 x2 y1 y2 kx ky | exact s4_of hk0 x1 x2 y1 y2 kx ky | fail)
      (first
        | (have hx := hk8; go_at_call 42; go_fit (mul_any _ _ (lim D) (lim C) _ dD dC (hxd.after hk8) (hyd.after hk8) (by omega) (by omega)); rw [VD.out]; rintro e w9 ⟨v9, rfl, h9, hb9⟩; have hk9 : Below wc.heap.size wc w9 := hk8.trans (hb9.mono hk8.size))
        | (have hx := hk7; go_at_call 42; go_fit (mul_any _ _ (lim M) (lim D) _ dM dD (hyn.after hk7) (hxd.after hk7) (by omega) (by omega)); rw [VQ.out]; rintro e w8 ⟨v8, rfl, h8, hb8⟩; have hk8 : Below wc.heap.size wc w8 := hk7.trans (hb8.mono hk7.size))
        | (go_at_call 42; go_fit (mul_any _ _ (lim N) (lim C) _ dN dC hxn.drew hyd.drew (by omega) (by omega)); rw [VP.out]; rintro e w7 ⟨v7, rfl, h7, hb7⟩; have hk7 : Below wc.heap.size wc w7 := Below.trans (Below.drew (Below.refl _ _)) hb7)
        | fail)
    replace h7 := ((h7.low (Nat.zero_le _)).after hb8).after hb9
    replace h8 := (h8.low (Nat.zero_le _)).after hb9
    replace h9 := h9.low (Nat.zero_le _)
    have kx9 : w.heap.size < w9.heap.size := Nat.lt_of_lt_of_le kx hk9.size
    have ky9 : w.heap.size + 1 < w9.heap.size := Nat.lt_of_lt_of_le ky hk9.size
    have nex : w.heap.size + 1 + 1 ≠ w.heap.size := by omega
    have ney : w.heap.size + 1 + 1 ≠ w.heap.size + 1 := by omega
    have x0' := (hk9.cell (p := ⟨w.heap.size, 0, none⟩) kx).trans x0
    have y0' := (hk9.cell (p := ⟨w.heap.size + 1, 0, none⟩) ky).trans y0
    have res := hres.below hk9 hres.lt
    have hB9 := hBc.trans (hk9.mono hBc.size)
    have dP := dig_lim (N * C)
    have dQ := dig_lim (M * D)
    have dR := dig_lim (D * C)
    have lP : (lim (N * C)).length ≤ 800 := lim_mul_len dN dC (val_lim N).symm (val_lim C).symm lN lC
    have lQ : (lim (M * D)).length ≤ 800 := lim_mul_len dM dD (val_lim M).symm (val_lim D).symm lM lD
    have lR : (lim (D * C)).length ≤ 800 := lim_mul_len dD dC (val_lim D).symm (val_lim C).symm lD lC
    have WP := Lib.hid (val_lim (N * C))
    have WQ := Lib.hid (val_lim (M * D))
    have WR := Lib.hid (val_lim (D * C))
    clear hb7 hb8 hb9 hk7 hk8 hk0 x0 x1 x2 y0 y1 y2 hres hgx hgy hxn hxd hyn hyd VP VQ VD dN dD dM dC lN lM lD lC hBc hk9 kx ky
    generalize N * C = P at *
    generalize M * D = Q at *
    generalize D * C = R at *
    by_cases hST : S = T
    · subst hST
      have ES : Hid (addS S S P Q = S) := if_pos rfl
      have EN : Hid (addN S S P Q = P + Q) := if_pos rfl
      have hbe : (S == S) = true := beq_self_eq_true S
      have lS : (lim (P + Q)).length ≤ 801 := lim_add_len dP dQ (val_lim P).symm (val_lim Q).symm lP lQ
      obtain ⟨U, hU⟩ : ∃ U, P + Q = U := ⟨_, rfl⟩
      rw [hU] at lS
      have HU := Lib.hid hU
      obtain ⟨FS, hFS⟩ : ∃ z, nrS S U R = z := ⟨_, rfl⟩
      obtain ⟨FN, hFN⟩ : ∃ z, nrN U R = z := ⟨_, rfl⟩
      obtain ⟨FD, hFD⟩ : ∃ z, nrD U R = z := ⟨_, rfl⟩
      have HFS := Lib.hid hFS
      have HFN := Lib.hid hFN
      have HFD := Lib.hid hFD
      clear hFS hFN hFD hU
      go_wp2_with fail
      go_region_held3 (fun W => W.cell? ⟨w.heap.size, 0, none⟩ = some (.bool S))
        (first | exact far_set3 ((hk11.cell (p := ⟨w.heap.size, 0, none⟩) kx9).trans x0') nex | exact (hk11.cell (p := ⟨w.heap.size, 0, none⟩) kx9).trans x0' | exact (hk10.cell (p := ⟨w.heap.size, 0, none⟩) kx9).trans x0' | exact x0' | fail)
        (first
          | (have hx := hk10; go_at_call 37; go_fit (prOf_any S _ _ (lim U) (lim R) _ (dig_lim _) dR (h10.low (Nat.zero_le _)) (h9.after hk10) (by omega) (by omega)); rw [val_lim, WR.out, HFS.out, HFN.out, HFD.out]; rintro e w11 ⟨v11, rfl, ⟨an, ad, rfl, han, had⟩, hb11⟩; have han' := han; have had' := had; obtain ⟨A9, k9, rfl, m9⟩ := nt_len han'; obtain ⟨A10, k10, rfl, m10⟩ := nt_len had'; have hk11 : Below w9.heap.size w9 w11 := hk10.trans (hb11.mono hk10.size); have q11 := res.below hk11 res.lt; have r0 := q11.cell 0; have r1 := q11.cell 1; have r2 := q11.cell 2; have f0 := q11.free 0; have f1 := q11.free 1; have f2 := q11.free 2)
          | (go_at_call 43; go_fit (add_any _ _ (lim P) (lim Q) _ dP dQ h7.drew h8.drew (by omega) (by omega)); rw [WP.out, WQ.out, HU.out]; rintro e w10 ⟨v10, rfl, h10, hb10⟩; have hk10 : Below w9.heap.size w9 w10 := Below.trans (Below.drew (Below.refl _ _)) hb10)
          | fail)
      have hB11 := hB9.trans (hk11.mono hB9.size)
      obtain ⟨e0, e1, e2, hR, hBf⟩ := store3 q11 hB11 (by omega) FS (.slice A9 (lim FN).length k9) (.slice A10 (lim FD).length k10) (han.low (Nat.le_trans res.lt hk10.size)) (had.low (Nat.le_trans res.lt hk10.size))
      have HR := Lib.hid hR
      have HBF := Lib.hid hBf
      clear r0 r1 r2 f0 f1 f2 q11 han had hR hBf h7 h8 h9 h10 hb10 hb11 hk10 hk11
      unfold St3 at *
      go_wp2_with fail
      generalize ((World.setCell w11 ⟨w.heap.size + 1 + 1, 0, none⟩ (.bool FS)).setCell ⟨w.heap.size + 1 + 1, 1, none⟩ (.slice A9 (lim FN).length k9)).setCell ⟨w.heap.size + 1 + 1, 2, none⟩ (.slice A10 (lim FD).length k10) = WW at *
      refine bodyPost_ret (v := .agg #[.bool FS, .slice A9 (lim FN).length k9, .slice A10 (lim FD).length k10]) ?_ rfl (by show GivesT _ _ _ _ _ _; rw [ES.out, EN.out, HU.out, HFS.out, HFN.out, HFD.out]; exact ⟨_, rfl, HR.out, HBF.out⟩)
      simp [results, Try.results20, go_sem, e0, e1, e2]
    · have hbe : (S == T) = false := beq_eq_false_iff_ne.2 hST
      have HSUB : Hid (∀ W v7 v8, Nt W 0 W.heap.size v7 (lim P) → Nt W 0 W.heap.size v8 (lim Q) → Calls Try.prog 44 #[v7, v8] W (GivesB (lim (P - Q)) (decide (Q ≤ P)) W)) := fun W v7 v8 h7 h8 => by
        have := sub_any v7 v8 (lim P) (lim Q) W dP dQ h7 h8 (by omega) (by omega)
        rw [WP.out, WQ.out] at this
        exact this
      have HSUB' : Hid (∀ W v7 v8, Nt W 0 W.heap.size v7 (lim P) → Nt W 0 W.heap.size v8 (lim Q) → Calls Try.prog 44 #[v8, v7] W (GivesB (lim (Q - P)) (decide (P ≤ Q)) W)) := fun W v7 v8 h7 h8 => by
        have := sub_any v8 v7 (lim Q) (lim P) W dQ dP h8 h7 (by omega) (by omega)
        rw [WP.out, WQ.out] at this
        exact this
      by_cases hle : Q ≤ P
      · have ES : Hid (addS S T P Q = S) := by show _ = _; unfold addS; rw [if_neg hST, if_pos hle]
        have EN : Hid (addN S T P Q = P - Q) := by show _ = _; unfold addN; rw [if_neg hST, if_pos hle]
        have lS : (lim (P - Q)).length ≤ 800 := Nat.le_trans (lim_len_mono (Nat.sub_le _ _)) lP
        have HB := HSUB.out
        rw [decide_eq_true hle] at HB
        replace HB := Lib.hid HB
        obtain ⟨U, hU⟩ : ∃ U, P - Q = U := ⟨_, rfl⟩
        rw [hU] at lS HB
        have HU := Lib.hid hU
        obtain ⟨FS, hFS⟩ : ∃ z, nrS S U R = z := ⟨_, rfl⟩
        obtain ⟨FN, hFN⟩ : ∃ z, nrN U R = z := ⟨_, rfl⟩
        obtain ⟨FD, hFD⟩ : ∃ z, nrD U R = z := ⟨_, rfl⟩
        have HFS := Lib.hid hFS
        have HFN := Lib.hid hFN
        have HFD := Lib.hid hFD
        clear hFS hFN hFD hU HSUB HSUB' hle
        go_wp2_with fail
        go_fit (HB.out _ _ _ h7 h8)
        rintro e w10 ⟨v10, rfl, h10, hb10⟩
        replace h10 := h10.low (Nat.zero_le _)
        have c10 := (hb10.cell (p := ⟨w.heap.size, 0, none⟩) kx9).trans x0'
        replace h9 := h9.after hb10
        replace res := res.below hb10 res.lt
        replace hB9 := hB9.trans (hb10.mono hB9.size)
        clear h7 h8 hb10 HB
        go_wp2_with fail
        go_fit (prOf_any S _ _ (lim U) (lim R) _ (dig_lim _) dR h10 h9 (by omega) (by omega))
        rw [val_lim, WR.out, HFS.out, HFN.out, HFD.out]
        rintro e w11 ⟨v11, rfl, ⟨an, ad, rfl, han, had⟩, hb11⟩
        have han' := han
        have had' := had
        obtain ⟨A9, k9, rfl, m9⟩ := nt_len han'
        obtain ⟨A10, k10, rfl, m10⟩ := nt_len had'
        clear han' had'
        have q11 := res.below hb11 res.lt
        have r0 := q11.cell 0
        have r1 := q11.cell 1
        have r2 := q11.cell 2
        have f0 := q11.free 0
        have f1 := q11.free 1
        have f2 := q11.free 2
        have hB11 := hB9.trans (hb11.mono hB9.size)
        obtain ⟨e0, e1, e2, hR, hBf⟩ := store3 q11 hB11 (by omega) FS (.slice A9 (lim FN).length k9) (.slice A10 (lim FD).length k10) (han.low res.lt) (had.low res.lt)
        have HR := Lib.hid hR
        have HBF := Lib.hid hBf
        clear q11 han had hR hBf h9 h10 hb11
        unfold St3 at *
        go_wp2_with fail
        clear r0 r1 r2 f0 f1 f2
        generalize ((World.setCell w11 ⟨w.heap.size + 1 + 1, 0, none⟩ (.bool FS)).setCell ⟨w.heap.size + 1 + 1, 1, none⟩ (.slice A9 (lim FN).length k9)).setCell ⟨w.heap.size + 1 + 1, 2, none⟩ (.slice A10 (lim FD).length k10) = WW at *
        refine bodyPost_ret (v := .agg #[.bool FS, .slice A9 (lim FN).length k9, .slice A10 (lim FD).length k10]) ?_ rfl (by show GivesT _ _ _ _ _ _; rw [ES.out, EN.out, HU.out, HFS.out, HFN.out, HFD.out]; exact ⟨_, rfl, HR.out, HBF.out⟩)
        simp [results, Try.results20, go_sem, e0, e1, e2]
      · have ES : Hid (addS S T P Q = T) := by show _ = _; unfold addS; rw [if_neg hST, if_neg hle]
        have EN : Hid (addN S T P Q = Q - P) := by show _ = _; unfold addN; rw [if_neg hST, if_neg hle]
        have lS : (lim (Q - P)).length ≤ 800 := Nat.le_trans (lim_len_mono (Nat.sub_le _ _)) lQ
        have HB := HSUB.out
        rw [decide_eq_false hle] at HB
        replace HB := Lib.hid HB
        have HB' := HSUB'.out
        replace HB' := Lib.hid HB'
        obtain ⟨U, hU⟩ : ∃ U, Q - P = U := ⟨_, rfl⟩
        rw [hU] at lS HB'
        have HU := Lib.hid hU
        obtain ⟨FS, hFS⟩ : ∃ z, nrS T U R = z := ⟨_, rfl⟩
        obtain ⟨FN, hFN⟩ : ∃ z, nrN U R = z := ⟨_, rfl⟩
        obtain ⟨FD, hFD⟩ : ∃ z, nrD U R = z := ⟨_, rfl⟩
        have HFS := Lib.hid hFS
        have HFN := Lib.hid hFN
        have HFD := Lib.hid hFD
        clear hFS hFN hFD hU HSUB HSUB' hle
        go_wp2_with fail
        go_fit (HB.out _ _ _ h7 h8)
        rintro e w12 ⟨v12, rfl, h12, hb12⟩
        replace h7 := h7.after hb12
        replace h8 := h8.after hb12
        replace h9 := h9.after hb12
        replace res := res.below hb12 res.lt
        replace hB9 := hB9.trans (hb12.mono hB9.size)
        have y12 := (hb12.cell (p := ⟨w.heap.size + 1, 0, none⟩) ky9).trans y0'
        replace ky9 := Nat.lt_of_lt_of_le ky9 hb12.size
        clear HB h12 hb12
        go_wp2_with fail
        go_fit (HB'.out _ _ _ h7 h8)
        rintro e w10 ⟨v10, rfl, h10, hb10⟩
        replace h10 := h10.low (Nat.zero_le _)
        have c10 := (hb10.cell (p := ⟨w.heap.size + 1, 0, none⟩) ky9).trans y12
        replace h9 := h9.after hb10
        replace res := res.below hb10 res.lt
        replace hB9 := hB9.trans (hb10.mono hB9.size)
        clear h7 h8 hb10 HB'
        go_wp2_with fail
        go_fit (prOf_any T _ _ (lim U) (lim R) _ (dig_lim _) dR h10 h9 (by omega) (by omega))
        rw [val_lim, WR.out, HFS.out, HFN.out, HFD.out]
        rintro e w11 ⟨v11, rfl, ⟨an, ad, rfl, han, had⟩, hb11⟩
        have han' := han
        have had' := had
        obtain ⟨A9, k9, rfl, m9⟩ := nt_len han'
        obtain ⟨A10, k10, rfl, m10⟩ := nt_len had'
        clear han' had'
        have q11 := res.below hb11 res.lt
        have r0 := q11.cell 0
        have r1 := q11.cell 1
        have r2 := q11.cell 2
        have f0 := q11.free 0
        have f1 := q11.free 1
        have f2 := q11.free 2
        have hB11 := hB9.trans (hb11.mono hB9.size)
        obtain ⟨e0, e1, e2, hR, hBf⟩ := store3 q11 hB11 (by omega) FS (.slice A9 (lim FN).length k9) (.slice A10 (lim FD).length k10) (han.low res.lt) (had.low res.lt)
        have HR := Lib.hid hR
        have HBF := Lib.hid hBf
        clear q11 han had hR hBf h9 h10 hb11
        unfold St3 at *
        go_wp2_with fail
        clear r0 r1 r2 f0 f1 f2
        generalize ((World.setCell w11 ⟨w.heap.size + 1 + 1, 0, none⟩ (.bool FS)).setCell ⟨w.heap.size + 1 + 1, 1, none⟩ (.slice A9 (lim FN).length k9)).setCell ⟨w.heap.size + 1 + 1, 2, none⟩ (.slice A10 (lim FD).length k10) = WW at *
        refine bodyPost_ret (v := .agg #[.bool FS, .slice A9 (lim FN).length k9, .slice A10 (lim FD).length k10]) ?_ rfl (by show GivesT _ _ _ _ _ _; rw [ES.out, EN.out, HU.out, HFS.out, HFN.out, HFD.out]; exact ⟨_, rfl, HR.out, HBF.out⟩)
        simp [results, Try.results20, go_sem, e0, e1, e2]
end Go.Proofs.Ytobmjcbjailclaa

/- The program's 'Mul' of numbers with a divisor by its contract. Condition: a bound on lengths. -/
namespace Go.Proofs.Ytobmjcbjailclaa
set_option maxRecDepth 100000
open Go.RowKit

set_option maxHeartbeats 3200000 in
theorem prMul_any (u v : Value) (s t : Bool) (n d m c : List Nat) (w : World) (dn : Dig n) (dd : Dig d) (dm : Dig m) (dc : Dig c) (h : Rt w 0 w.heap.size u s n d) (h' : Rt w 0 w.heap.size v t m c)
    (ln : n.length ≤ 400) (ld : d.length ≤ 400) (lm : m.length ≤ 400) (lc : c.length ≤ 400) (S T : Bool) (N D M C : Nat) (hS : nrS s (val n) (val d) = S) (hN : nrN (val n) (val d) = N) (hD : nrD (val n) (val d) = D)
    (hT : nrS t (val m) (val c) = T) (hM : nrN (val m) (val c) = M) (hC : nrD (val m) (val c) = C) :
    Calls Try.prog 41 #[u, v] w (GivesT (nrS (S != T) (N * M) (D * C)) (nrN (N * M) (D * C)) (nrD (N * M) (D * C)) w) := by
  have lN : (lim N).length ≤ 400 := by rw [← hN]; exact nrN_len dn ln
  have lM : (lim M).length ≤ 400 := by rw [← hM]; exact nrN_len dm lm
  have lD : (lim D).length ≤ 400 := by rw [← hD]; exact nrD_len dd ld (by omega)
  have lC : (lim C).length ≤ 400 := by rw [← hC]; exact nrD_len dc lc (by omega)
  have HC1 : Hid (∀ W, Below w.heap.size w W → Calls Try.prog 40 #[u] W (GivesT S N D W)) := fun W hb => by
    have := prNorm_any u s n d W dn dd (h.after hb) (by omega) (by omega)
    rw [hS, hN, hD] at this
    exact this
  have HC2 : Hid (∀ W, Below w.heap.size w W → Calls Try.prog 40 #[v] W (GivesT T M C W)) := fun W hb => by
    have := prNorm_any v t m c W dm dc (h'.after hb) (by omega) (by omega)
    rw [hT, hM, hC] at this
    exact this
  obtain ⟨un, ud, rfl, hn, hd⟩ := h
  obtain ⟨vm, vc, rfl, hm, hc⟩ := h'
  obtain ⟨A1, k1, rfl, m1⟩ := nt_len hn
  obtain ⟨A2, k2, rfl, m2⟩ := nt_len hd
  obtain ⟨A3, k3, rfl, m3⟩ := nt_len hm
  obtain ⟨A4, k4, rfl, m4⟩ := nt_len hc
  clear hn hd hm hc hS hN hD hT hM hC dn dd dm dc
  go_enter Try.func41, Try.ntmps41
  go_wp2_with fail
  have b0 := ((Blk.new w 24 #[.bool s, .slice A1 n.length k1, .slice A2 d.length k2]).alloc (.cells #[.bool t, .slice A3 m.length k3, .slice A4 c.length k4] 24)).alloc (.cells #[.bool false, .slice none 0 0, .slice none 0 0] 24)
  have b1 := (Blk.new (w.alloc (.cells #[.bool s, .slice A1 n.length k1, .slice A2 d.length k2] 24)) 24 #[.bool t, .slice A3 m.length k3, .slice A4 c.length k4]).alloc (.cells #[.bool false, .slice none 0 0, .slice none 0 0] 24)
  have b2 := Blk.new ((w.alloc (.cells #[.bool s, .slice A1 n.length k1, .slice A2 d.length k2] 24)).alloc (.cells #[.bool t, .slice A3 m.length k3, .slice A4 c.length k4] 24)) 24 #[.bool false, .slice none 0 0, .slice none 0 0]
  have hB : Below w.heap.size w (((w.alloc (.cells #[.bool s, .slice A1 n.length k1, .slice A2 d.length k2] 24)).alloc (.cells #[.bool t, .slice A3 m.length k3, .slice A4 c.length k4] 24)).alloc (.cells #[.bool false, .slice none 0 0, .slice none 0 0] 24)) := (((Below.refl _ _).alloc (Nat.le_refl _) _).alloc (by simp) _).alloc (by simp; omega) _
  have es : (w.alloc (.cells #[.bool s, .slice A1 n.length k1, .slice A2 d.length k2] 24)).heap.size = w.heap.size + 1 := by simp
  have es2 : ((w.alloc (.cells #[.bool s, .slice A1 n.length k1, .slice A2 d.length k2] 24)).alloc (.cells #[.bool t, .slice A3 m.length k3, .slice A4 c.length k4] 24)).heap.size = w.heap.size + 1 + 1 := by simp
  rw [es] at b1
  rw [es2] at b2
  clear es es2
  generalize (((w.alloc (.cells #[.bool s, .slice A1 n.length k1, .slice A2 d.length k2] 24)).alloc (.cells #[.bool t, .slice A3 m.length k3, .slice A4 c.length k4] 24)).alloc (.cells #[.bool false, .slice none 0 0, .slice none 0 0] 24)) = w2 at *
  go_cut [] from 5 to 8 (fun wx => P2 w S T N D M C wx)
  case first =>
    have a0 := b0.cell 0
    have a1 := b0.cell 1
    have a2 := b0.cell 2
    have e0 := b1.cell 0
    have e1 := b1.cell 1
    have e2 := b1.cell 2
    have HB2 : Hid (Below w.heap.size w w2.drew) := hB.drew
    have Q0 := Lib.hid b0
    have Q1 := Lib.hid b1
    have Q2 := Lib.hid b2
    clear b0 b1 b2 hB
    go_region_with
      (first
        | (have hx := HB3
           go_at_call 40
           go_fit (HC2.out _ HB3.out)
           rintro e w5 ⟨v5, rfl, ⟨xm, xc, rfl, hxm, hxc⟩, hk5⟩
           have hxm' := hxm
           have hxc' := hxc
           obtain ⟨A7, k7, rfl, m7⟩ := nt_len hxm'
           obtain ⟨A8, k8, rfl, m8⟩ := nt_len hxc'
           clear hxm' hxc' hx
           have HB5 := Lib.hid (HB3.out.trans (hk5.mono HB3.out.size))
           have R0 := Lib.hid (Q3.out.below hk5 Q3.out.lt)
           have R1 := Lib.hid (Q4.out.below hk5 Q4.out.lt)
           have R2 := Lib.hid (Q5.out.below hk5 Q5.out.lt)
           have HXN := Lib.hid (NX.out.after hk5)
           have HXD := Lib.hid (DX.out.after hk5)
           have HYN := Lib.hid (hxm.low (show w.heap.size + 1 + 1 + 1 ≤ _ from Q5.out.lt))
           have HYD := Lib.hid (hxc.low (show w.heap.size + 1 + 1 + 1 ≤ _ from Q5.out.lt))
           clear e0_3 e1_3 e2_3
           have f0 := R0.out.free 0
           have f1 := R0.out.free 1
           have f2 := R0.out.free 2
           have a0_5 := R0.out.cell 0
           have a1_5 := R0.out.cell 1
           have a2_5 := R0.out.cell 2
           have S1 := blk_far3 (p := w.heap.size) (a := .bool S) (b := .slice A5 (lim N).length k5) (c := .slice A6 (lim D).length k6) R1.out (by omega)
           have g0 := S1.free 0
           have g1 := S1.free 1
           have g2 := S1.free 2
           have e0_5 := S1.cell 0
           have e1_5 := S1.cell 1
           have e2_5 := S1.cell 2
           have HB6 := Lib.hid (below_set3 HB5.out (Nat.le_refl w.heap.size) (.bool S) (.slice A5 (lim N).length k5) (.slice A6 (lim D).length k6))
           have HB7 := Lib.hid (below_set3 HB6.out (Nat.le_succ w.heap.size) (.bool T) (.slice A7 (lim M).length k7) (.slice A8 (lim C).length k8))
           clear hxm hxc hk5 S1)
        | (go_at_call 40
           go_fit (HC1.out _ HB2.out)
           rintro e w3 ⟨v3, rfl, ⟨xn, xd, rfl, hxn, hxd⟩, hk3⟩
           have hxn' := hxn
           have hxd' := hxd
           obtain ⟨A5, k5, rfl, m5⟩ := nt_len hxn'
           obtain ⟨A6, k6, rfl, m6⟩ := nt_len hxd'
           clear hxn' hxd'
           have HB3 := Lib.hid (HB2.out.trans (hk3.mono HB2.out.size))
           have Q3 := Lib.hid (Q0.out.drew.below hk3 Q0.out.drew.lt)
           have Q4 := Lib.hid (Q1.out.drew.below hk3 Q1.out.drew.lt)
           have Q5 := Lib.hid (Q2.out.drew.below hk3 Q2.out.drew.lt)
           have NX := Lib.hid (hxn.low (show w.heap.size + 1 + 1 + 1 ≤ _ from Q2.out.lt))
           have DX := Lib.hid (hxd.low (show w.heap.size + 1 + 1 + 1 ≤ _ from Q2.out.lt))
           have e0_3 := Q4.out.cell 0
           have e1_3 := Q4.out.cell 1
           have e2_3 := Q4.out.cell 2
           clear hxn hxd hk3 a0 a1 a2)
        | fail)
    all_goals (go_wp2_with fail; go_meet)
    all_goals with_reducible exact p2_of R0.out R1.out R2.out HXN.out HXD.out HYN.out HYD.out HB5.out
  case rest =>
    obtain ⟨xn, xd, yn, yd, hgx, hgy, hres, hxn, hxd, hyn, hyd, hBc⟩ := hcut
    clear hB b0 b1 b2 HC1 HC2
    obtain ⟨B1, j1, rfl, q1⟩ := nt_len hxn
    obtain ⟨B2, j2, rfl, q2⟩ := nt_len hxd
    obtain ⟨B3, j3, rfl, q3⟩ := nt_len hyn
    obtain ⟨B4, j4, rfl, q4⟩ := nt_len hyd
    have x0 : wc.cell? ⟨w.heap.size, 0, none⟩ = some (.bool S) := hgx.cell 0
    have x1 : wc.cell? ⟨w.heap.size, 1, none⟩ = some (.slice B1 (lim N).length j1) := hgx.cell 1
    have x2 : wc.cell? ⟨w.heap.size, 2, none⟩ = some (.slice B2 (lim D).length j2) := hgx.cell 2
    have y0 : wc.cell? ⟨w.heap.size + 1, 0, none⟩ = some (.bool T) := hgy.cell 0
    have y1 : wc.cell? ⟨w.heap.size + 1, 1, none⟩ = some (.slice B3 (lim M).length j3) := hgy.cell 1
    have y2 : wc.cell? ⟨w.heap.size + 1, 2, none⟩ = some (.slice B4 (lim C).length j4) := hgy.cell 2
    have kx := hgx.lt
    have ky := hgy.lt
    have dN := dig_lim N
    have dD := dig_lim D
    have dM := dig_lim M
    have dC := dig_lim C
    have hk0 : Below wc.heap.size wc wc.drew := (Below.refl _ _).drew
    have nex : w.heap.size + 1 + 1 ≠ w.heap.size := by omega
    have ney : w.heap.size + 1 + 1 ≠ w.heap.size + 1 := by omega
    have VP : Hid (val (lim N) * val (lim M) = N * M) := by show _ = _; rw [val_lim, val_lim]
    have VQ : Hid (val (lim D) * val (lim C) = D * C) := by show _ = _; rw [val_lim, val_lim]
    have lP : (lim (N * M)).length ≤ 800 := lim_mul_len dN dM (val_lim _).symm (val_lim _).symm lN lM
    have lQ : (lim (D * C)).length ≤ 800 := lim_mul_len dD dC (val_lim _).symm (val_lim _).symm lD lC
    obtain ⟨P, hP⟩ : ∃ P, N * M = P := ⟨_, rfl⟩
    obtain ⟨Q, hQ⟩ : ∃ Q, D * C = Q := ⟨_, rfl⟩
    rw [hP] at VP lP
    rw [hQ] at VQ lQ
    have HP := Lib.hid hP
    have HQ := Lib.hid hQ
    clear hP hQ
    have WP := Lib.hid (val_lim P)
    have WQ := Lib.hid (val_lim Q)
    obtain ⟨ST, hST⟩ : ∃ b, (S != T) = b := ⟨_, rfl⟩
    have HST := Lib.hid hST
    obtain ⟨FS, hFS⟩ : ∃ z, nrS ST P Q = z := ⟨_, rfl⟩
    obtain ⟨FN, hFN⟩ : ∃ z, nrN P Q = z := ⟨_, rfl⟩
    obtain ⟨FD, hFD⟩ : ∃ z, nrD P Q = z := ⟨_, rfl⟩
    have HFS := Lib.hid hFS
    have HFN := Lib.hid hFN
    have HFD := Lib.hid hFD
    have hbe : (!(S == T)) = ST := hST
    clear hFS hFN hFD hST
    go_wp2_with fail
    go_region_held3 (fun W => W.cell? ⟨w.heap.size, 0, none⟩ = some (.bool S) ∧ W.cell? ⟨w.heap.size, 1, none⟩ = some (.slice B1 (lim N).length j1) ∧ W.cell? ⟨w.heap.size, 2, none⟩ = some (.slice B2 (lim D).length j2) ∧ W.cell? ⟨w.heap.size + 1, 0, none⟩ = some (.bool T) ∧ W.cell? ⟨w.heap.size + 1, 1, none⟩ = some (.slice B3 (lim M).length j3) ∧ W.cell? ⟨w.heap.size + 1, 2, none⟩ = some (.slice B4 (lim C).length j4))
      (with_reducible (first | exact c6_set (c6_of hk9 x0 x1 x2 y0 y1 y2 kx ky) nex ney | exact c6_of hk9 x0 x1 x2 y0 y1 y2 kx ky | exact c6_of hk8 x0 x1 x2 y0 y1 y2 kx ky | exact c6_of hk7 x0 x1 x2 y0 y1 y2 kx ky | exact c6_of hk0 x0 x1 x2 y0 y1 y2 kx ky | fail))
      (first
        | (have hx := hk8; go_at_call 37; go_fit (prOf_any ST _ _ (lim P) (lim Q) _ (dig_lim P) (dig_lim Q) (h7.after hb8) (h8.low (Nat.zero_le _)) (by omega) (by omega)); rw [WP.out, WQ.out, HFS.out, HFN.out, HFD.out]; rintro e w9 ⟨v9, rfl, ⟨an, ad, rfl, han, had⟩, hb9⟩; have han' := han; have had' := had; obtain ⟨A9, k9, rfl, m9⟩ := nt_len han'; obtain ⟨A10, k10, rfl, m10⟩ := nt_len had'; have hk9 : Below wc.heap.size wc w9 := hk8.trans (hb9.mono hk8.size); have q9 := hres.below hk9 hres.lt; have r0 := q9.cell 0; have r1 := q9.cell 1; have r2 := q9.cell 2; have f0 := q9.free 0; have f1 := q9.free 1; have f2 := q9.free 2)
        | (have hx := hk7; go_at_call 42; go_fit (mul_any _ _ (lim D) (lim C) _ dD dC (hxd.after hk7) (hyd.after hk7) (by omega) (by omega)); rw [VQ.out]; rintro e w8 ⟨v8, rfl, h8, hb8⟩; have hk8 : Below wc.heap.size wc w8 := hk7.trans (hb8.mono hk7.size))
        | (go_at_call 42; go_fit (mul_any _ _ (lim N) (lim M) _ dN dM hxn.drew hyn.drew (by omega) (by omega)); rw [VP.out]; rintro e w7 ⟨v7, rfl, h7, hb7⟩; replace h7 := h7.low (Nat.zero_le _); have hk7 : Below wc.heap.size wc w7 := Below.trans (Below.drew (Below.refl _ _)) hb7)
        | fail)
    obtain ⟨e0, e1, e2, hR, hBf⟩ := store3 q9 (hBc.trans (hk9.mono hBc.size)) (by omega) FS (.slice A9 (lim FN).length k9) (.slice A10 (lim FD).length k10) (han.low (Nat.le_trans hres.lt hk8.size)) (had.low (Nat.le_trans hres.lt hk8.size))
    have HR := Lib.hid hR
    have HBF := Lib.hid hBf
    clear r0 r1 r2 f0 f1 f2 q9 han had hR hBf h7 h8 hb7 hb8 hb9
    unfold St3 at *
    go_wp2_with fail
    generalize ((World.setCell w9 ⟨w.heap.size + 1 + 1, 0, none⟩ (.bool FS)).setCell ⟨w.heap.size + 1 + 1, 1, none⟩ (.slice A9 (lim FN).length k9)).setCell ⟨w.heap.size + 1 + 1, 2, none⟩ (.slice A10 (lim FD).length k10) = WW at *
    refine bodyPost_ret (v := .agg #[.bool FS, .slice A9 (lim FN).length k9, .slice A10 (lim FD).length k10]) ?_ rfl (by show GivesT _ _ _ _ _ _; rw [HST.out, HP.out, HQ.out, HFS.out, HFN.out, HFD.out]; exact ⟨_, rfl, HR.out, HBF.out⟩)
    simp [results, Try.results41, go_sem, e0, e1, e2]
end Go.Proofs.Ytobmjcbjailclaa
