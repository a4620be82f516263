import Derived.Test.YtobmjcbjailclaaGreatDoorNums
import Derived.Test.YtobmjcbjailclaaGreatDoorRefRatCmp
import Derived.Test.YtobmjcbjailclaaGreatDoorDecB
import Derived.Test.YtobmjcbjailclaaGreatDoorPrint
import Derived.Test.YtobmjcbjailclaaGreatDoorStrAdd
import Derived.Laws.Concat
import Derived.Test.YtobmjcbjailclaaGreatDoorShiftAny
import Derived.Test.YtobmjcbjailclaaGreatDoorLimTen
import Derived.Test.YtobmjcbjailclaaGreatDoorOfs
import Derived.Test.YtobmjcbjailclaaGreatDoorAdds2
import Derived.Test.YtobmjcbjailclaaGreatDoorRefSub
import Derived.Test.YtobmjcbjailclaaGreatDoorRefMul
import Derived.Deep.DeepFit
import Derived.Test.YtobmjcbjailclaaGreatDoorAdds
import Derived.Test.YtobmjcbjailclaaGreatDoorDecA
import Derived.Shelf.Strings.Search2
import Derived.Shelf.Small.Wraps
import Derived.Test.YtobmjcbjailclaaGreatDoorStore3
import Derived.Test.YtobmjcbjailclaaGreatDoorTrims
import Derived.Maps.AppendAt
import Derived.WalkLawsBesides
import Derived.WalkSpells
import Derived.Deep.QuietTactic
import Derived.BigQuiet
/- Numbers with a divisor as rationals; in plain Lean. No condition on a program. -/
namespace Go.Proofs.YtobmjcbjailclaaGreatDoor

/-- The rational that a sign, a number and a divisor tell; 0 if the divisor is 0. -/
def qv (s : Bool) (n d : Nat) : Rat := mkRat (sg s n) d
/-- A rational's sign and how great what is divided is. -/
def qS (q : Rat) : Bool := decide (q.num < 0)
def qN (q : Rat) : Nat := q.num.natAbs

theorem sg_natAbs (s : Bool) (n : Nat) : (sg s n).natAbs = n := by
  unfold sg
  cases s
  · simp
  · simp

theorem sg_qS (q : Rat) : sg (qS q) (qN q) = q.num := by
  unfold sg qS qN
  by_cases h : q.num < 0
  · rw [decide_eq_true h]
    simp only [if_true]
    omega
  · rw [decide_eq_false h]
    simp only [Bool.false_eq_true, if_false]
    omega

theorem qv_self (q : Rat) : qv (qS q) (qN q) q.den = q := by
  unfold qv
  rw [sg_qS, Rat.mkRat_self]

theorem nr_q (s : Bool) (n d : Nat) : nrS s n d = qS (qv s n d) ∧ nrN n d = qN (qv s n d) ∧ nrD n d = (qv s n d).den := by
  by_cases hd : d = 0
  · obtain ⟨e1, e2, e3⟩ := nr_zero (s := s) (Or.inr hd : n = 0 ∨ d = 0)
    rw [e1, e2, e3]
    unfold qv
    rw [hd, Rat.mkRat_zero]
    exact ⟨rfl, rfl, rfl⟩
  · have hnum : (qv s n d).num = sg s n / ((d.gcd n : Nat) : Int) := by
      unfold qv
      rw [Rat.num_mkRat, if_neg hd, sg_natAbs]
    have hden : (qv s n d).den = d / d.gcd n := by
      unfold qv
      rw [Rat.den_mkRat, if_neg hd, sg_natAbs]
    by_cases hn : n = 0
    · obtain ⟨e1, e2, e3⟩ := nr_zero (s := s) (Or.inl hn : n = 0 ∨ d = 0)
      rw [e1, e2, e3]
      have hz : qv s n d = 0 := by
        unfold qv
        rw [hn]
        cases s <;> simp [sg, Rat.zero_mkRat]
      rw [hz]
      exact ⟨rfl, rfl, rfl⟩
    · obtain ⟨e1, e2, e3⟩ := nr_some (s := s) hn hd
      rw [e1, e2, e3]
      have hg : 0 < n.gcd d := Nat.gcd_pos_of_pos_left d (Nat.pos_of_ne_zero hn)
      have hq : 0 < n / n.gcd d := Nat.div_pos (Nat.gcd_le_left d (Nat.pos_of_ne_zero hn)) hg
      have hnum2 : (qv s n d).num = sg s (n / n.gcd d) := by
        rw [hnum, Nat.gcd_comm d n]
        cases s
        · simp [sg]
        · have hdvd : ((n.gcd d : Nat) : Int) ∣ (n : Int) := Int.natCast_dvd_natCast.2 (Nat.gcd_dvd_left n d)
          simp only [sg, if_true]
          rw [Int.neg_ediv_of_dvd hdvd]
          simp
      refine ⟨?_, ?_, ?_⟩
      · unfold qS
        rw [hnum2]
        generalize n / n.gcd d = k at *
        unfold sg
        cases s
        · simp only [Bool.false_eq_true, if_false]
          rw [eq_comm, decide_eq_false_iff_not]
          omega
        · simp only [if_true]
          rw [eq_comm, decide_eq_true_iff]
          omega
      · unfold qN
        rw [hnum2, sg_natAbs]
      · rw [hden, Nat.gcd_comm d n]

/-- The components of a rational in lowest terms are its own. -/
theorem nr_own (q : Rat) : nrS (qS q) (qN q) q.den = qS q ∧ nrN (qN q) q.den = qN q ∧ nrD (qN q) q.den = q.den := by
  obtain ⟨e1, e2, e3⟩ := nr_q (qS q) (qN q) q.den
  rw [qv_self] at e1 e2 e3
  exact ⟨e1, e2, e3⟩

theorem sg_add (s t : Bool) (p q : Nat) : sg (addS s t p q) (addN s t p q) = sg s p + sg t q := by
  unfold addS addN sg
  cases s <;> cases t <;> simp only [Bool.false_eq_true, reduceCtorEq, if_true, if_false] <;> (try split) <;> (try simp only [Bool.false_eq_true, if_true, if_false]) <;> omega

theorem sg_mul (s t : Bool) (p q : Nat) : sg (s != t) (p * q) = sg s p * sg t q := by
  cases s <;> cases t <;> simp [sg, Int.neg_mul, Int.mul_neg]

theorem sg_scale (s : Bool) (p q : Nat) : sg s (p * q) = sg s p * (q : Int) := by
  cases s <;> simp [sg, Int.neg_mul]

theorem qv_add (p q : Rat) : qv (addS (qS p) (qS q) (qN p * q.den) (qN q * p.den)) (addN (qS p) (qS q) (qN p * q.den) (qN q * p.den)) (p.den * q.den) = p + q := by
  unfold qv
  rw [sg_add, sg_scale, sg_scale, sg_qS, sg_qS, ← Rat.mkRat_add_mkRat _ _ p.den_nz q.den_nz, Rat.mkRat_self, Rat.mkRat_self]

theorem qv_mul (p q : Rat) : qv (qS p != qS q) (qN p * qN q) (p.den * q.den) = p * q := by
  unfold qv
  rw [sg_mul, sg_qS, sg_qS, ← Rat.mkRat_mul_mkRat, Rat.mkRat_self, Rat.mkRat_self]

theorem qv_neg (s : Bool) (n d : Nat) : qv (!s) n d = -qv s n d := by
  unfold qv
  rw [Rat.neg_mkRat]
  cases s <;> simp [sg]

theorem qS_neg (q : Rat) : qS (-q) = (!qS q && decide (0 < qN q)) := by
  unfold qS qN
  rw [Rat.neg_num]
  rcases Int.lt_trichotomy q.num 0 with h | h | h
  · rw [decide_eq_true h, decide_eq_false (by omega)]; rfl
  · rw [h]; rfl
  · rw [decide_eq_false (by omega : ¬ q.num < 0), decide_eq_true (by omega : -q.num < 0), decide_eq_true (by omega)]; rfl
theorem qN_neg (q : Rat) : qN (-q) = qN q := by unfold qN; rw [Rat.neg_num, Int.natAbs_neg]

/-- Which of two rationals is greater. -/
def cmpQ (a b : Rat) : Int := if a < b then -1 else if b < a then 1 else 0

theorem cmp_q (p q : Rat) : cmpI (sg (qS p) (qN p) * (q.den : Int)) (sg (qS q) (qN q) * (p.den : Int)) = cmpQ p q := by
  unfold cmpI cmpQ
  rw [sg_qS, sg_qS]
  simp only [Rat.lt_iff]

theorem cmpQ_lt {a b : Rat} (h : a < b) : cmpQ a b = -1 := if_pos h
theorem cmpQ_gt {a b : Rat} (h : b < a) : cmpQ a b = 1 := by
  unfold cmpQ
  rw [if_neg (by grind), if_pos h]
theorem cmpQ_eq {a b : Rat} (h : a = b) : cmpQ a b = 0 := by
  unfold cmpQ
  rw [if_neg (by grind), if_neg (by grind)]

theorem qN_zero {q : Rat} : qN q = 0 ↔ q = 0 := by
  unfold qN
  rw [Int.natAbs_eq_zero]
  constructor
  · intro h
    have h1 := q.reduced
    rw [h] at h1
    have h2 : q.den = 1 := by simpa [Nat.Coprime] using h1
    exact Rat.ext h h2
  · intro h; rw [h]; rfl

/-- One by the other: what is divided and the divisor change places. -/
theorem qv_div (p q : Rat) (h : q ≠ 0) : qv (qS p != qS q) (qN p * q.den) (p.den * qN q) = p / q := by
  have hq : qN q ≠ 0 := fun hc => h (qN_zero.1 hc)
  have hinv : qv (qS q) q.den (qN q) = q⁻¹ := by
    have h1 : qv (qS q) q.den (qN q) * q = 1 := by
      conv => lhs; rhs; rw [← qv_self q]
      unfold qv
      rw [Rat.mkRat_mul_mkRat, ← sg_mul, Nat.mul_comm q.den]
      have e : sg (qS q != qS q) (qN q * q.den) = 1 * ((qN q * q.den : Nat) : Int) := by cases qS q <;> simp [sg]
      rw [e]
      have h2 : qN q * q.den ≠ 0 := Nat.mul_ne_zero hq q.den_nz
      have := Rat.mkRat_mul_right (n := 1) (d := 1) (a := qN q * q.den) h2
      rw [Nat.one_mul] at this
      rw [this]
      rfl
    grind
  have h3 : qv (qS p != qS q) (qN p * q.den) (p.den * qN q) = qv (qS p) (qN p) p.den * qv (qS q) q.den (qN q) := by
    unfold qv
    rw [sg_mul, Rat.mkRat_mul_mkRat]
  rw [h3, qv_self, hinv, Rat.div_def]
end Go.Proofs.YtobmjcbjailclaaGreatDoor

/- The reference's numbers with a divisor as rationals: contracts. Condition: bounds on lengths. -/
namespace Go.Proofs.YtobmjcbjailclaaGreatDoor
set_option maxRecDepth 100000
open Go.RowKit

/-- A value that tells this rational, of at most so many limbs. -/
def RQ (w : World) (L B : Nat) (v : Value) (q : Rat) (k : Nat) : Prop := ∃ s n d, Rt w L B v s n d ∧ Dig n ∧ Dig d ∧ n.length ≤ k ∧ d.length ≤ k ∧ qv s (val n) (val d) = q

/-- What hands back a new number in lowest terms. -/
def GivesF (q : Rat) (w : World) : Ending → World → Prop := GivesT (qS q) (qN q) q.den w

/-- How many limbs a rational takes. -/
def Sz (q : Rat) (k : Nat) : Prop := (lim (qN q)).length ≤ k ∧ (lim q.den).length ≤ k

theorem RQ.after {w w' : World} {L : Nat} {v : Value} {q : Rat} {k : Nat} (h : RQ w L w.heap.size v q k) (hb : Below w.heap.size w w') : RQ w' L w'.heap.size v q k := by
  obtain ⟨s, n, d, hR, rest⟩ := h
  exact ⟨s, n, d, hR.after hb, rest⟩
theorem RQ.low {w : World} {L L' B : Nat} {v : Value} {q : Rat} {k : Nat} (h : RQ w L B v q k) (hL : L' ≤ L) : RQ w L' B v q k := by
  obtain ⟨s, n, d, hR, rest⟩ := h
  exact ⟨s, n, d, hR.low hL, rest⟩
theorem RQ.drew {w : World} {L B : Nat} {v : Value} {q : Rat} {k : Nat} (h : RQ w L B v q k) : RQ w.drew L B v q k := h
theorem RQ.of {w : World} {L B : Nat} {v : Value} {q : Rat} {k : Nat} (h : Rt w L B v (qS q) (lim (qN q)) (lim q.den)) (hz : Sz q k) : RQ w L B v q k :=
  ⟨_, _, _, h, dig_lim _, dig_lim _, hz.1, hz.2, by rw [val_lim, val_lim]; exact qv_self q⟩
theorem RQ.sz {w : World} {L B : Nat} {v : Value} {q : Rat} {k : Nat} (h : RQ w L B v q k) (hk : 1 ≤ k) : Sz q k := by
  obtain ⟨s, n, d, hR, dn, dd, ln, ld, rfl⟩ := h
  obtain ⟨_, e2, e3⟩ := nr_q s (val n) (val d)
  unfold Sz
  rw [← e2, ← e3]
  exact ⟨nrN_len dn ln, nrD_len dd ld (by omega)⟩

theorem len_mul {a b m n : Nat} (h1 : (lim a).length ≤ m) (h2 : (lim b).length ≤ n) : (lim (a * b)).length ≤ m + n := lim_mul_len (dig_lim a) (dig_lim b) (val_lim _).symm (val_lim _).symm h1 h2
theorem len_add {a b n : Nat} (h1 : (lim a).length ≤ n) (h2 : (lim b).length ≤ n) : (lim (a + b)).length ≤ n + 1 := lim_add_len (dig_lim a) (dig_lim b) (val_lim _).symm (val_lim _).symm h1 h2

theorem Sz.qv {s : Bool} {n d k : Nat} (h1 : (lim n).length ≤ k) (h2 : (lim d).length ≤ k) (hk : 1 ≤ k) : Sz (qv s n d) k := by
  obtain ⟨_, e2, e3⟩ := nr_q s n d
  unfold Sz
  rw [← e2, ← e3]
  refine ⟨Nat.le_trans (lim_len_mono (nrN_le _ _)) h1, ?_⟩
  by_cases hd : d = 0
  · rw [(nr_zero (s := s) (Or.inr hd : n = 0 ∨ d = 0)).2.2, lim_one (by omega) (by omega)]; exact hk
  · exact Nat.le_trans (lim_len_mono (nrD_le (Nat.le_refl _) (by omega))) h2

theorem Sz.mono {q : Rat} {k j : Nat} (h : Sz q k) (hk : k ≤ j) : Sz q j := ⟨Nat.le_trans h.1 hk, Nat.le_trans h.2 hk⟩
theorem Sz.neg {q : Rat} {k : Nat} (h : Sz q k) : Sz (-q) k := by
  unfold Sz
  rw [qN_neg, Rat.neg_den]
  exact h
theorem Sz.add {p q : Rat} {k j : Nat} (hp : Sz p k) (hq : Sz q j) : Sz (p + q) (k + j + 1) := by
  rw [← qv_add p q]
  refine Sz.qv (Nat.le_trans (lim_len_mono (addN_le _ _ _ _)) (len_add (n := k + j) (len_mul hp.1 hq.2) ?_)) (Nat.le_trans (len_mul hp.2 hq.2) (by omega)) (by omega)
  rw [Nat.add_comm k j]
  exact len_mul hq.1 hp.2
theorem Sz.mul {p q : Rat} {k j : Nat} (hp : Sz p k) (hq : Sz q j) (hk : 1 ≤ k) : Sz (p * q) (k + j) := by
  rw [← qv_mul p q]
  exact Sz.qv (len_mul hp.1 hq.1) (len_mul hp.2 hq.2) (by omega)
theorem Sz.div {p q : Rat} {k j : Nat} (hp : Sz p k) (hq : Sz q j) (hk : 1 ≤ k) : Sz (p / q) (k + j) := by
  by_cases h : q = 0
  · rw [h, Rat.div_def, Rat.inv_zero, Rat.mul_zero]
    refine ⟨?_, ?_⟩
    · show (lim 0).length ≤ _
      rw [lim_zero]; simp
    · show (lim 1).length ≤ _
      rw [lim_one (by omega) (by omega)]; simp; omega
  · rw [← qv_div p q h]
    refine Sz.qv (len_mul hp.1 hq.2) ?_ (by omega)
    exact len_mul hp.2 hq.1

theorem ratNorm_q (v : Value) (q : Rat) (k : Nat) (w : World) (h : RQ w 0 w.heap.size v q k) (hk : k ≤ 1000) : Calls Tryz.prog 22 #[v] w (GivesF q w) := by
  obtain ⟨s, n, d, hR, dn, dd, ln, ld, rfl⟩ := h
  have := ratNorm_any v s n d w dn dd hR (by omega) (by omega)
  obtain ⟨e1, e2, e3⟩ := nr_q s (val n) (val d)
  rw [e1, e2, e3] at this
  exact this

theorem ratOf_q (s : Bool) (vn vd : Value) (n d : List Nat) (w : World) (dn : Dig n) (dd : Dig d) (hn : Nt w 0 w.heap.size vn n) (hd : Nt w 0 w.heap.size vd d) (ln : n.length ≤ 1000) (ld : d.length ≤ 1000) :
    Calls Tryz.prog 21 #[.bool s, vn, vd] w (GivesF (qv s (val n) (val d)) w) := by
  have := ratOf_any s vn vd n d w dn dd hn hd ln ld
  obtain ⟨e1, e2, e3⟩ := nr_q s (val n) (val d)
  rw [e1, e2, e3] at this
  exact this

theorem ratNeg_q (v : Value) (q : Rat) (k : Nat) (w : World) (h : RQ w 0 w.heap.size v q k) (hk : k ≤ 1000) : Calls Tryz.prog 100 #[v] w (GivesF (-q) w) := by
  obtain ⟨s, n, d, hR, dn, dd, ln, ld, rfl⟩ := h
  have := ratNeg_any v s n d w dn dd hR (by omega) (by omega)
  obtain ⟨e1, e2, e3⟩ := nr_q s (val n) (val d)
  rw [e1, e2, e3, ← qS_neg, ← qN_neg, ← Rat.neg_den] at this
  exact this

theorem ratAdd_q (u v : Value) (p q : Rat) (k j : Nat) (w : World) (h : RQ w 0 w.heap.size u p k) (h' : RQ w 0 w.heap.size v q j) (hk : k ≤ 400) (hj : j ≤ 400) : Calls Tryz.prog 23 #[u, v] w (GivesF (p + q) w) := by
  obtain ⟨s, n, d, hR, dn, dd, ln, ld, rfl⟩ := h
  obtain ⟨t, m, c, hR', dm, dc, lm, lc, rfl⟩ := h'
  obtain ⟨e1, e2, e3⟩ := nr_q s (val n) (val d)
  obtain ⟨f1, f2, f3⟩ := nr_q t (val m) (val c)
  have := ratAdd_any u v s t n d m c w dn dd dm dc hR hR' (by omega) (by omega) (by omega) (by omega) _ _ _ _ _ _ e1 e2 e3 f1 f2 f3
  obtain ⟨g1, g2, g3⟩ := nr_q (addS (qS (qv s (val n) (val d))) (qS (qv t (val m) (val c))) (qN (qv s (val n) (val d)) * (qv t (val m) (val c)).den) (qN (qv t (val m) (val c)) * (qv s (val n) (val d)).den)) (addN (qS (qv s (val n) (val d))) (qS (qv t (val m) (val c))) (qN (qv s (val n) (val d)) * (qv t (val m) (val c)).den) (qN (qv t (val m) (val c)) * (qv s (val n) (val d)).den)) ((qv s (val n) (val d)).den * (qv t (val m) (val c)).den)
  rw [g1, g2, g3, qv_add] at this
  exact this

theorem ratSub_q (u v : Value) (p q : Rat) (k j : Nat) (w : World) (h : RQ w 0 w.heap.size u p k) (h' : RQ w 0 w.heap.size v q j) (hk : k ≤ 400) (hj : j ≤ 400) : Calls Tryz.prog 62 #[u, v] w (GivesF (p - q) w) := by
  obtain ⟨s, n, d, hR, dn, dd, ln, ld, rfl⟩ := h
  obtain ⟨t, m, c, hR', dm, dc, lm, lc, rfl⟩ := h'
  obtain ⟨e1, e2, e3⟩ := nr_q s (val n) (val d)
  obtain ⟨f1, f2, f3⟩ := nr_q t (val m) (val c)
  obtain ⟨p, hp⟩ : ∃ p, qv s (val n) (val d) = p := ⟨_, rfl⟩
  obtain ⟨q, hq⟩ : ∃ q, qv t (val m) (val c) = q := ⟨_, rfl⟩
  rw [hp] at e1 e2 e3 ⊢
  rw [hq] at f1 f2 f3 ⊢
  have := ratSub_any u v s t n d m c w dn dd dm dc hR hR' (by omega) (by omega) (by omega) (by omega) _ (qS (-q)) _ _ (qN (-q)) (-q).den e1 e2 e3 (by rw [f1, f2, qS_neg]) (by rw [f2, qN_neg]) (by rw [f3, Rat.neg_den])
  obtain ⟨g1, g2, g3⟩ := nr_q (addS (qS p) (qS (-q)) (qN p * (-q).den) (qN (-q) * p.den)) (addN (qS p) (qS (-q)) (qN p * (-q).den) (qN (-q) * p.den)) (p.den * (-q).den)
  rw [g1, g2, g3, qv_add, ← Rat.sub_eq_add_neg] at this
  exact this

theorem ratCmp_q (u v : Value) (p q : Rat) (k j : Nat) (w : World) (h : RQ w 0 w.heap.size u p k) (h' : RQ w 0 w.heap.size v q j) (hk : k ≤ 400) (hj : j ≤ 400) :
    Calls Tryz.prog 48 #[u, v] w fun e w' => e = .returned (.int .i64 (cmpQ p q)) ∧ Below w.heap.size w w' := by
  obtain ⟨s, n, d, hR, dn, dd, ln, ld, rfl⟩ := h
  obtain ⟨t, m, c, hR', dm, dc, lm, lc, rfl⟩ := h'
  obtain ⟨e1, e2, e3⟩ := nr_q s (val n) (val d)
  obtain ⟨f1, f2, f3⟩ := nr_q t (val m) (val c)
  have := ratCmp_any u v s t n d m c w dn dd dm dc hR hR' (by omega) (by omega) (by omega) (by omega) _ _ _ _ _ _ e1 e2 e3 f1 f2 f3
  rw [cmp_q] at this
  exact this
end Go.Proofs.YtobmjcbjailclaaGreatDoor

/- The program's 'Fixed' of numbers with a divisor by its contract. Condition: bounds on lengths. -/
namespace Go.Proofs.YtobmjcbjailclaaGreatDoor
set_option maxRecDepth 100000
open Go.RowKit Go.Shelf Go.Lib

/-- A sign as bytes. -/
def sgn (s : Bool) : List Nat := if s then [45] else []

theorem sgn_len (s : Bool) : (sgn s).length ≤ 1 := by cases s <;> simp [sgn]

set_option maxHeartbeats 1600000 in
theorem sign_any (v : Value) (s : Bool) (vn vd : Value) (w : World) (hv : v = .agg #[.bool s, vn, vd]) :
    Calls Tryz.prog 78 #[v] w fun e w' => e = .returned (.string (strN (sgn s))) ∧ Below w.heap.size w w' := by
  subst hv
  have hB : Below w.heap.size w (w.alloc (.cells #[.bool s, vn, vd] 25)) := (Below.refl _ _).alloc (Nat.le_refl _) _
  cases s
  · go_enter Tryz.func78, Tryz.ntmps78
    go_wp2_with fail
    go_ret
    exact ⟨rfl, hB⟩
  · go_enter Tryz.func78, Tryz.ntmps78
    go_wp2_with fail
    go_ret
    exact ⟨rfl, hB⟩

/-- Digits with a point ahead of the last so many. -/
def pnt (cs : List Nat) (n : Nat) : List Nat := if n = 0 then cs else
  (List.replicate (n + 1 - cs.length) 48 ++ cs).take ((List.replicate (n + 1 - cs.length) 48 ++ cs).length - n) ++ [46] ++ (List.replicate (n + 1 - cs.length) 48 ++ cs).drop ((List.replicate (n + 1 - cs.length) 48 ++ cs).length - n)

theorem strN_take (cs : List Nat) (M : Nat) : (strN cs).extract 0 M = strN (cs.take M) := by
  unfold strN
  apply ByteArray.ext
  rw [ByteArray.data_extract]
  apply Array.toList_inj.1
  simp [List.map_take]
theorem strN_drop (cs : List Nat) (M L : Nat) (h : cs.length ≤ L) : (strN cs).extract M L = strN (cs.drop M) := by
  unfold strN
  apply ByteArray.ext
  rw [ByteArray.data_extract]
  apply Array.toList_inj.1
  have h2 : (List.drop M (List.map UInt8.ofNat cs)).length ≤ L - M := by rw [List.length_drop, List.length_map]; omega
  simp [List.map_drop]
  exact List.take_of_length_le h2

set_option maxHeartbeats 1600000 in
theorem pointed_any (cs : List Nat) (n : Nat) (w : World) (hl : cs.length ≤ 100000) (hn : n ≤ 1000) :
    Calls Tryz.prog 80 #[.string (strN cs), .int .i64 (n : Int)] w fun e w' => e = .returned (.string (strN (pnt cs n))) ∧ Below w.heap.size w w' := by
  by_cases h0 : n = 0
  · subst h0
    go_enter Tryz.func80, Tryz.ntmps80
    go_wp2_with fail
    go_ret
    exact ⟨rfl, Below.refl _ _⟩
  · have hnI : ((n : Int) == 0) = false := beq_eq_false_iff_ne.2 (by omega)
    have hsz := strN_size cs
    obtain ⟨Z, hZ⟩ : ∃ Z, n + 1 - cs.length = Z := ⟨_, rfl⟩
    have hmx : max (0 : Int) ((n : Int) + 1 - (cs.length : Int)) = (Z : Int) := by omega
    have hp : Hid (pnt cs n = (List.replicate Z 48 ++ cs).take ((List.replicate Z 48 ++ cs).length - n) ++ [46] ++ (List.replicate Z 48 ++ cs).drop ((List.replicate Z 48 ++ cs).length - n)) := by
      show _ = _
      unfold pnt
      rw [if_neg h0, hZ]
    have hrep : ∀ w, Calls Tryz.prog 115 #[.string ⟨#[48]⟩, .int .i64 (Z : Int)] w fun e w' => e = .returned (.string (strN (List.replicate Z 48))) ∧ Below w.heap.size w w' := fun w => by
      have h := Any.strings_Repeat Tryz.lays105 Tryz.Builder_Extra_105 ⟨#[48]⟩ Z w (by omega) (by show 1 * Z ≤ _; omega)
      have e : (⟨(Lib.repeatL [48] Z).toArray⟩ : ByteArray) = strN (List.replicate Z 48) := by
        unfold strN
        rw [List.map_replicate]
        congr 2
        clear hZ hmx hp h0 h
        induction Z with
        | zero => rfl
        | succ z ih => rw [Lib.repeatL, ih, List.replicate_succ]; rfl
      show Calls Tryz.prog 115 _ _ _
      rw [← e]
      exact h
    have HREP := Lib.hid hrep
    obtain ⟨cs2, hcs⟩ : ∃ c, List.replicate Z 48 ++ cs = c := ⟨_, rfl⟩
    have hadd : Hid (∀ W : World, (Op.stringOp .add (strN (List.replicate Z 48)) (strN cs)).run Tryz.prog W = .ok (.string (strN cs2)) W) := fun W => by rw [← hcs]; exact add_str _ _ (by simp; omega) W
    have hl2 : n < cs2.length ∧ cs2.length ≤ 102000 := by rw [← hcs]; simp; omega
    rw [hcs] at hp
    clear hrep hcs hZ
    go_enter Tryz.func80, Tryz.ntmps80
    go_wp2_with fail
    refine (HREP.out _).mono ?_
    rintro e w1 ⟨rfl, hb⟩
    have hadd1 := hadd.out w1
    clear HREP hadd
    obtain ⟨L, hL⟩ : ∃ L, cs2.length = L := ⟨_, rfl⟩
    obtain ⟨M, hM⟩ : ∃ M, L - n = M := ⟨_, rfl⟩
    have s2 : (strN cs2).size = L := by rw [strN_size, hL]
    have x1 : (strN cs2).extract 0 M = strN (cs2.take M) := strN_take _ _
    have x2 : (strN cs2).extract M L = strN (cs2.drop M) := strN_drop _ _ _ (Nat.le_of_eq hL)
    have w1' : IntKind.i64.wrap ((L : Int) - (n : Int)) = (M : Int) := by rw [IntWalk.i64_in _ (by omega)]; omega
    have hML : (M : Int) ≤ (L : Int) := by omega
    have a1 : ∀ W : World, (Op.stringOp .add (strN (cs2.take M)) ⟨#[46]⟩).run Tryz.prog W = .ok (.string (strN (cs2.take M ++ [46]))) W := fun W => add_str (cs2.take M) [46] (by rw [List.length_take]; simp; omega) W
    have a2 : ∀ W : World, (Op.stringOp .add (strN (cs2.take M ++ [46])) (strN (cs2.drop M))).run Tryz.prog W = .ok (.string (strN (cs2.take M ++ [46] ++ cs2.drop M))) W := fun W => add_str (cs2.take M ++ [46]) (cs2.drop M) (by simp; omega) W
    rw [hL, hM] at hp
    generalize strN cs2 = t at *
    generalize strN (cs2.take M) = t1 at *
    generalize strN (cs2.drop M) = t2 at *
    generalize strN (cs2.take M ++ [46]) = t3 at *
    have HPE := Lib.hid (congrArg strN hp.out)
    generalize strN (cs2.take M ++ [46] ++ cs2.drop M) = t4 at *
    clear hL hM hp
    subst s2
    go_wp2_with fail
    go_quiet (fail)
    go_wp2_with fail
    go_ret
    exact ⟨by rw [HPE.out]; rfl, ⟨hb.os, hb.tape, hb.output, hb.size, hb.block⟩⟩

theorem ten_len10 {k : Nat} (h : k ≤ 60) : (lim (10 ^ k)).length ≤ 10 := by
  refine lim_length_le (Nat.lt_of_le_of_lt (Nat.pow_le_pow_right (by omega) h) ?_)
  rw [show 60 = 6 * 10 from rfl, Nat.pow_mul]
  exact Nat.pow_lt_pow_left (by omega) (by omega)

theorem nrS_idem (s : Bool) (n d : Nat) : nrS (nrS s n d) (nrN n d) (nrD n d) = nrS s n d := by
  by_cases h : n = 0 ∨ d = 0
  · obtain ⟨e1, e2, e3⟩ := nr_zero (s := s) h
    rw [e1, e2, e3]
    rfl
  · have h1 : nrN n d ≠ 0 := fun hc => h (nrN_zero.1 hc)
    have h2 : nrD n d ≠ 0 := by have := nrD_pos n d; omega
    exact (nr_some h1 h2).1

theorem pnt_len (cs : List Nat) (n : Nat) : (pnt cs n).length ≤ cs.length + n + 2 := by
  unfold pnt
  split
  · omega
  · simp; omega

theorem prn_len_of {U k : Nat} (h : (lim U).length ≤ k) : (prn U).length ≤ 10 * k + 1 := by
  have h1 : U < 10 ^ (10 * k) := by
    have h2 := val_lt (dig_lim U)
    rw [val_lim] at h2
    rw [Nat.pow_mul]
    exact Nat.lt_of_lt_of_le h2 (Nat.le_trans (Nat.pow_le_pow_right (by omega) h) (Nat.pow_le_pow_left (by omega) _))
  have h3 := dec_length_le _ _ h1
  unfold prn
  split
  · simp
  · unfold digs
    rw [List.length_reverse, List.length_map]
    omega

set_option maxHeartbeats 3200000 in
theorem fixed_any (v : Value) (s : Bool) (n d : List Nat) (k : Int) (w : World) (dn : Dig n) (dd : Dig d) (h : Rt w 0 w.heap.size v s n d) (ln : n.length ≤ 70) (ld : d.length ≤ 70)
    (S : Bool) (N D K U : Nat) (hS : nrS s (val n) (val d) = S) (hN : nrN (val n) (val d) = N) (hD : nrD (val n) (val d) = D) (hK : hold60 k = (K : Int)) (hU : rhe (N * 10 ^ K) D = U) :
    Calls Tryz.prog 30 #[v, .int .i64 k] w fun e w' => e = .returned (.string (strN (sgn (nrS S U (10 ^ K)) ++ pnt (prn U) K))) ∧ Below w.heap.size w w' := by
  obtain ⟨vn, vd, rfl, hn, hd⟩ := h
  have hr := hold60_range k
  have hK60 : K ≤ 60 := by omega
  have hD0 : D ≠ 0 := by have := nrD_pos (val n) (val d); omega
  have lN : (lim N).length ≤ 70 := by rw [← hN]; exact Nat.le_trans (lim_len_mono (nrN_le _ _)) (Nat.le_trans (lim_val_length n dn) ln)
  have lD : (lim D).length ≤ 71 := by rw [← hD]; exact nrD_len2 dd (by omega) (by omega)
  have dN := dig_lim N
  have dD := dig_lim D
  have VN := Lib.hid (val_lim N)
  have VD := Lib.hid (val_lim D)
  have dU := dig_lim U
  have lT := ten_len10 hK60
  have lU : (lim U).length ≤ 90 := by
    rw [← hU]
    refine Nat.le_trans (lim_len_mono (rhe_le _ _)) ?_
    have l1 : (lim (N * 10 ^ K)).length ≤ 80 := lim_mul_len (dig_lim N) (dig_lim (10 ^ K)) (val_lim _).symm (val_lim _).symm lN lT
    exact Nat.le_trans (lim_add_len (dig_lim (N * 10 ^ K)) (dig_lim 1) (val_lim _).symm (val_lim _).symm l1 (lim_length_le (by omega) : (lim 1).length ≤ 80)) (by omega)
  have lP : (prn U).length ≤ 2000 := by
    have := prn_len_of lU
    omega
  have hnorm := fun w (hR : Rt w 0 w.heap.size (.agg #[.bool s, vn, vd]) s n d) => prNorm_any (.agg #[.bool s, vn, vd]) s n d w dn dd hR (by omega) (by omega)
  have E1 : nrS S (val (lim N)) (val (lim D)) = S := by rw [val_lim, val_lim, ← hS, ← hN, ← hD]; exact nrS_idem _ _ _
  have E2 : nrN (val (lim N)) (val (lim D)) = N := by rw [val_lim, val_lim, ← hN, ← hD]; exact (nr_idem _ _).1
  have E3 : nrD (val (lim N)) (val (lim D)) = D := by rw [val_lim, val_lim, ← hN, ← hD]; exact (nr_idem _ _).2
  rw [hS, hN, hD] at hnorm
  have HNORM := Lib.hid hnorm
  have hheld := fun w => dheld_any k w
  rw [hK] at hheld
  have HHELD := Lib.hid hheld
  have hKK : hold60 (K : Int) = (K : Int) := by unfold hold60; omega
  have hrnd := fun v w (hR : Rt w 0 w.heap.size v S (lim N) (lim D)) => round_any v S (lim N) (lim D) (K : Int) w dN dD hR (by omega) (by omega) S N D K U E1 E2 E3 hKK hU
  have HRND := Lib.hid hrnd
  have HU := Lib.hid hU
  obtain ⟨FS, hFS⟩ : ∃ z, nrS S U (10 ^ K) = z := ⟨_, rfl⟩
  obtain ⟨TXT, hTXT⟩ : ∃ z, strN (sgn FS ++ pnt (prn U) K) = z := ⟨_, rfl⟩
  have hadd : Hid (∀ W : World, (Op.stringOp .add (strN (sgn FS)) (strN (pnt (prn U) K))).run Tryz.prog W = .ok (.string TXT) W) := fun W => by
    rw [← hTXT]
    exact add_str _ _ (by have h1 := pnt_len (prn U) K; have h2 := sgn_len FS; omega) W
  rw [hFS, hTXT]
  have HFS := Lib.hid hFS
  clear hnorm hheld hS hN hD hK hr hU hFS hTXT hrnd E1 E2 E3 hKK
  go_enter Tryz.func30, Tryz.ntmps30
  go_wp2_with fail
  have b0 := Blk.new w 25 #[.bool s, vn, vd]
  have hB : Below w.heap.size w (w.alloc (.cells #[.bool s, vn, vd] 25)) := (Below.refl _ _).alloc (Nat.le_refl _) _
  generalize w.alloc (.cells #[.bool s, vn, vd] 25) = w2 at *
  replace hn := (hn.below hB (Nat.le_refl _)).up hB.size
  replace hd := (hd.below hB (Nat.le_refl _)).up hB.size
  have c0 := b0.cell 0
  have c1 := b0.cell 1
  have c2 := b0.cell 2
  go_wp2_with fail
  refine (HNORM.out _ ⟨vn, vd, rfl, hn, hd⟩).mono ?_
  rintro e w3 ⟨v3, rfl, ⟨an, ad, rfl, h1, h2⟩, hb⟩
  have q0 := b0.below hb b0.lt
  replace h1 := h1.low (show w.heap.size + 1 ≤ _ from b0.lt)
  replace h2 := h2.low (show w.heap.size + 1 ≤ _ from b0.lt)
  replace hB := hB.trans (hb.mono hB.size)
  have hl1 := h1
  have hl2 := h2
  obtain ⟨A6, c6, rfl, m6⟩ := nt_len hl1
  obtain ⟨A7, c7, rfl, m7⟩ := nt_len hl2
  have r0 := q0.cell 0
  have r1 := q0.cell 1
  have r2 := q0.cell 2
  have f0 := q0.free 0
  have f1 := q0.free 1
  have f2 := q0.free 2
  clear hl1 hl2 hb b0 c0 c1 c2 hn hd HNORM
  go_wp2_with fail
  refine (HHELD.out _).mono ?_
  rintro e w4 ⟨rfl, rfl⟩
  clear HHELD
  have p3 := ((q0.put 0 (.bool S)).put 1 (.slice A6 (lim N).length c6)).put 2 (.slice A7 (lim D).length c7)
  have hBB := ((hB.setCell (p := ⟨w.heap.size, 0, none⟩) (Nat.le_refl _) (.bool S)).setCell (p := ⟨w.heap.size, 1, none⟩) (Nat.le_refl _) (.slice A6 (lim N).length c6)).setCell (p := ⟨w.heap.size, 2, none⟩) (Nat.le_refl _) (.slice A7 (lim D).length c7)
  have t1 := ((h1.put3 (g := w.heap.size) (by omega) 0 (.bool S)).put3 (g := w.heap.size) (by omega) 1 (.slice A6 (lim N).length c6)).put3 (g := w.heap.size) (by omega) 2 (.slice A7 (lim D).length c7)
  have t2 := ((h2.put3 (g := w.heap.size) (by omega) 0 (.bool S)).put3 (g := w.heap.size) (by omega) 1 (.slice A6 (lim N).length c6)).put3 (g := w.heap.size) (by omega) 2 (.slice A7 (lim D).length c7)
  have P3 := Lib.hid p3
  have HBB := Lib.hid hBB
  have T1 := Lib.hid t1
  have T2 := Lib.hid t2
  clear p3 hBB t1 t2 h1 h2 hB q0
  go_wp2_with fail
  clear r0 r1 r2 f0 f1 f2
  replace P3 := P3.out
  replace HBB := HBB.out
  replace T1 := T1.out
  replace T2 := T2.out
  generalize ((World.setCell w3 ⟨w.heap.size, 0, none⟩ (.bool S)).setCell ⟨w.heap.size, 1, none⟩ (.slice A6 (lim N).length c6)).setCell ⟨w.heap.size, 2, none⟩ (.slice A7 (lim D).length c7) = w5 at *
  have c0 : w5.cell? ⟨w.heap.size, 0, none⟩ = some (.bool S) := by rw [P3.cell]; rfl
  have c1 : w5.cell? ⟨w.heap.size, 1, none⟩ = some (.slice A6 (lim N).length c6) := by rw [P3.cell]; rfl
  have c2 : w5.cell? ⟨w.heap.size, 2, none⟩ = some (.slice A7 (lim D).length c7) := by rw [P3.cell]; rfl
  have hg := P3.lt
  have hk5 : Below w5.heap.size w5 w5.drew := (Below.refl _ _).drew
  have hun := fun w (hR : Rt w 0 w.heap.size (.agg #[.bool S, .slice A6 (lim N).length c6, .slice A7 (lim D).length c7]) S (lim N) (lim D)) => units_any (.agg #[.bool S, .slice A6 (lim N).length c6, .slice A7 (lim D).length c7]) S (lim N) (lim D) K w dN dD hR (by omega) (by omega) hK60 (by rw [VD.out]; exact hD0)
  rw [VN.out, VD.out, HU.out] at hun
  have HUN := Lib.hid hun
  have HPR : Hid (∀ v w, Nt w 0 w.heap.size v (lim U) → Calls Tryz.prog 81 #[v] w fun e w' => e = .returned (.string (strN (prn U))) ∧ Below w.heap.size w w') := fun v w h => by
    have := print_any v (lim U) w dU h (by omega)
    rw [val_lim] at this
    exact this
  have HPT : Hid (∀ w, Calls Tryz.prog 80 #[.string (strN (prn U)), .int .i64 (K : Int)] w fun e w' => e = .returned (.string (strN (pnt (prn U) K))) ∧ Below w.heap.size w w') := fun w => pointed_any (prn U) K w (by omega) (by omega)
  clear hun P3
  generalize strN (prn U) = tp at *
  generalize strN (pnt (prn U) K) = tq at *
  have hadd1 := hadd.out
  clear hadd
  go_region_held3 (fun W => W.cell? ⟨w.heap.size, 0, none⟩ = some (.bool S) ∧ W.cell? ⟨w.heap.size, 1, none⟩ = some (.slice A6 (lim N).length c6) ∧ W.cell? ⟨w.heap.size, 2, none⟩ = some (.slice A7 (lim D).length c7))
    (first | exact s3_of hk10 c0 c1 c2 hg | exact s3_of hk9 c0 c1 c2 hg | exact s3_of hk8 c0 c1 c2 hg | exact s3_of hk7 c0 c1 c2 hg | exact s3_of hk6 c0 c1 c2 hg | exact s3_of hk5 c0 c1 c2 hg | fail)
    (first
      | (go_at_call 79; refine (HRND.out _ _ ⟨_, _, rfl, (T1.low (Nat.zero_le _)).drew, (T2.low (Nat.zero_le _)).drew⟩).mono ?_; rw [HFS.out]; rintro e w6 ⟨v6, rfl, ⟨rn, rd, rfl, h6n, h6d⟩, hb6⟩; have hk6 : Below w5.heap.size w5 w6 := Below.trans hk5 hb6)
      | (go_at_call 78; refine (sign_any (.agg #[.bool FS, rn, rd]) FS rn rd _ rfl).mono ?_; rintro e w7 ⟨rfl, hb7⟩; have hk7 : Below w5.heap.size w5 w7 := hk6.trans (hb7.mono hk6.size))
      | (go_at_call 82; refine (HUN.out _ ⟨_, _, rfl, (T1.low (Nat.zero_le _)).after hk7, (T2.low (Nat.zero_le _)).after hk7⟩).mono ?_; rintro e w8 ⟨v8, rfl, h8, hb8⟩; replace h8 := h8.low (Nat.zero_le _); have hk8 : Below w5.heap.size w5 w8 := hk7.trans (hb8.mono hk7.size))
      | (go_at_call 81; refine (HPR.out _ _ h8).mono ?_; rintro e w9 ⟨rfl, hb9⟩; have hk9 : Below w5.heap.size w5 w9 := hk8.trans (hb9.mono hk8.size))
      | (go_at_call 80; refine (HPT.out _).mono ?_; rintro e w10 ⟨rfl, hb10⟩; have hk10 : Below w5.heap.size w5 w10 := hk9.trans (hb10.mono hk9.size))
      | fail)
  have hBF := HBB.trans (hk10.mono HBB.size)
  clear hk5 hk6 hk7 hk8 hk9 hk10 hb6 hb7 hb8 hb9 hb10 h8 T1 T2 c0 c1 c2 h6n h6d
  go_wp2_with fail
  go_ret
  exact ⟨rfl, hBF⟩
end Go.Proofs.YtobmjcbjailclaaGreatDoor

/- The law's 'known' about halves. No condition. -/
namespace Go.Proofs.YtobmjcbjailclaaGreatDoor
set_option maxRecDepth 100000
open Go.RowKit Go.Shelf Go.Lib

theorem fix_one (w : World) (v : Value) (h : Rt w 0 w.heap.size v false [5] [2]) : Calls Tryz.prog 30 #[v, .int .i64 0] w fun e w' => e = .returned (.string (strN [50])) ∧ Below w.heap.size w w' := by
  have hv5 : val [5] = 5 := rfl
  have hv2 : val [2] = 2 := rfl
  have := fixed_any v false [5] [2] 0 w (by intro x hx; simp at hx; omega) (by intro x hx; simp at hx; omega) h (by simp) (by simp) false 5 2 0 2 (by rw [hv5, hv2]; exact (nr_low (by decide) (by decide) (by decide)).1) (by rw [hv5, hv2]; exact (nr_low (s := false) (by decide) (by decide) (by decide)).2.1) (by rw [hv5, hv2]; exact (nr_low (s := false) (by decide) (by decide) (by decide)).2.2) (by decide) (by decide)
  have e : sgn (nrS false 2 (10 ^ 0)) ++ pnt (prn 2) 0 = [50] := by
    unfold prn digs
    rw [if_neg (by omega), dec_pos (by omega), show 2 / 10 = 0 from rfl, dec_zero]
    rfl
  rw [e] at this
  exact this

theorem fix_two (w : World) (v : Value) (h : Rt w 0 w.heap.size v true [1] [8]) : Calls Tryz.prog 30 #[v, .int .i64 2] w fun e w' => e = .returned (.string (strN [45, 48, 46, 49, 50])) ∧ Below w.heap.size w w' := by
  have hv5 : val [1] = 1 := rfl
  have hv2 : val [8] = 8 := rfl
  have := fixed_any v true [1] [8] 2 w (by intro x hx; simp at hx; omega) (by intro x hx; simp at hx; omega) h (by simp) (by simp) true 1 8 2 12 (by rw [hv5, hv2]; exact (nr_low (by decide) (by decide) (by decide)).1) (by rw [hv5, hv2]; exact (nr_low (s := false) (by decide) (by decide) (by decide)).2.1) (by rw [hv5, hv2]; exact (nr_low (s := false) (by decide) (by decide) (by decide)).2.2) (by decide) (by decide)
  have e : sgn (nrS true 12 (10 ^ 2)) ++ pnt (prn 12) 2 = [45, 48, 46, 49, 50] := by
    unfold prn digs
    rw [if_neg (by omega), dec_pos (by omega), show 12 / 10 = 1 from rfl, dec_pos (by omega), show 1 / 10 = 0 from rfl, dec_zero]
    rfl
  rw [e] at this
  exact this

theorem rt_laid (w : World) (e : TypeId) (s : Bool) (x y : Nat) :
    Rt ((w.alloc (.cells #[.int .u32 (x : Int)] e)).alloc (.cells #[.int .u32 (y : Int)] e)) 0 ((w.alloc (.cells #[.int .u32 (x : Int)] e)).alloc (.cells #[.int .u32 (y : Int)] e)).heap.size (.agg #[.bool s, .slice (some ⟨w.heap.size, 0, none⟩) 1 1, .slice (some ⟨w.heap.size + 1, 0, none⟩) 1 1]) s [x] [y] ∧
      Below w.heap.size w ((w.alloc (.cells #[.int .u32 (x : Int)] e)).alloc (.cells #[.int .u32 (y : Int)] e)) := by
  obtain ⟨h1, b1⟩ := nt_laid w e [x] (by simp)
  obtain ⟨h2, b2⟩ := nt_laid (w.alloc (.cells #[.int .u32 (x : Int)] e)) e [y] (by simp)
  have e1 : (w.alloc (.cells #[.int .u32 (x : Int)] e)).heap.size = w.heap.size + 1 := by simp
  rw [e1] at h2
  exact ⟨⟨_, _, rfl, (h1.alloc (Nat.le_refl _) _).up (by simp), h2⟩, b1.trans (b2.mono b1.size)⟩

set_option maxHeartbeats 1600000 in
theorem known3_any (w : World) : Calls Tryz.prog 8 #[] w fun e w' => e = .returned (.bool true) ∧ Below w.heap.size w w' := by
  obtain ⟨h1, hB⟩ := rt_laid w 43 false 5 2
  have hcon := fix_one _ _ h1
  have t1 : (strN [50]).toList = [50] := by rw [ByteArray.toList_eq]; rfl
  have t2 : (strN [45, 48, 46, 49, 50]).toList = [45, 48, 46, 49, 50] := by rw [ByteArray.toList_eq]; rfl
  clear h1
  go_enter Tryz.func8, Tryz.ntmps8
  go_wp2_with fail
  refine hcon.mono ?_
  rintro e w1 ⟨rfl, hb⟩
  have hB1 := hB.trans (hb.mono hB.size)
  obtain ⟨h2, hB2⟩ := rt_laid w1 43 true 1 8
  have hcon2 := fix_two _ _ h2
  have hB3 := hB1.trans (hB2.mono hB1.size)
  clear hcon hb h2 hB2 hB1
  go_wp2_with fail
  refine hcon2.mono ?_
  rintro e w2 ⟨rfl, hb⟩
  have hB4 := hB3.trans (hb.mono hB3.size)
  clear hcon2 hb hB3
  go_wp2_with fail
  go_ret
  exact ⟨rfl, hB4⟩
end Go.Proofs.YtobmjcbjailclaaGreatDoor

/- Texts as numbers: two ways to read them give the same; in plain Lean. No condition on a program. -/
namespace Go.Proofs.YtobmjcbjailclaaGreatDoor

/-- A digit. -/
def isD (x : Nat) : Bool := decide (48 ≤ x ∧ x ≤ 57)
/-- Digits that may be read. -/
def okD (l : List Nat) : Bool := decide (1 ≤ l.length) && (decide (l.length ≤ 400) && l.all isD)
/-- The number that digits tell. -/
def numD (l : List Nat) : Nat := undec (l.map (· - 48))

/-- What stands ahead of a sign, and whether it stands there. -/
def cutB (c : Nat) (l : List Nat) : List Nat × List Nat × Bool :=
  (l.takeWhile (· != c), (l.dropWhile (· != c)).drop 1, l.contains c)

/-- The program's way: cut at a point, else at a stroke. -/
def wayA (neg : Bool) (r : List Nat) : Option (Bool × Nat × Nat) :=
  if r.contains 46 then
    (if (r.takeWhile (· != 46)).length ≠ 0 ∧ okD ((r.dropWhile (· != 46)).drop 1) = true ∧ okD (r.takeWhile (· != 46) ++ (r.dropWhile (· != 46)).drop 1) = true then
      some (neg, numD (r.takeWhile (· != 46) ++ (r.dropWhile (· != 46)).drop 1), 10 ^ ((r.dropWhile (· != 46)).drop 1).length) else none)
  else if r.contains 47 then
    (if okD (r.takeWhile (· != 47)) = true ∧ okD ((r.dropWhile (· != 47)).drop 1) = true ∧ numD ((r.dropWhile (· != 47)).drop 1) ≠ 0 then
      some (neg, numD (r.takeWhile (· != 47)), numD ((r.dropWhile (· != 47)).drop 1)) else none)
  else (if okD r = true then some (neg, numD r, 1) else none)

/-- The reference's way: so many digits, then what follows. -/
def wayB (neg : Bool) (r : List Nat) : Option (Bool × Nat × Nat) :=
  if r.takeWhile isD = [] then none
  else match r.dropWhile isD with
    | [] => some (neg, numD (r.takeWhile isD), 1)
    | c :: t =>
      if (t.takeWhile isD).length = 0 ∨ (t.takeWhile isD).length ≠ t.length ∨ (c ≠ 46 ∧ c ≠ 47) then none
      else if c = 47 then (if numD t = 0 then none else some (neg, numD (r.takeWhile isD), numD t))
      else some (neg, numD (r.takeWhile isD) * 10 ^ t.length + numD t, 10 ^ t.length)

theorem fold_start : ∀ (m : List Nat) (a : Nat), m.foldl (fun a x => a * 10 + x) a = a * 10 ^ m.length + m.foldl (fun a x => a * 10 + x) 0
  | [], a => by simp
  | x :: m, a => by
    rw [List.foldl_cons, List.foldl_cons, fold_start m (a * 10 + x), fold_start m (0 * 10 + x), List.length_cons, Nat.pow_succ]
    grind

theorem undec_append (l m : List Nat) : undec (l ++ m) = undec l * 10 ^ m.length + undec m := by
  unfold undec
  rw [List.foldl_append, fold_start]

theorem numD_append (l m : List Nat) : numD (l ++ m) = numD l * 10 ^ m.length + numD m := by
  unfold numD
  rw [List.map_append, undec_append, List.length_map]

theorem tw_all {p : Nat → Bool} : ∀ l : List Nat, (l.takeWhile p).length = l.length ↔ l.all p = true
  | [] => by simp
  | a :: r => by
    by_cases h : p a = true
    · simp [h, tw_all r]
    · simp [h]

theorem mem_tw {p : Nat → Bool} {x : Nat} : ∀ l : List Nat, x ∈ l.takeWhile p → p x = true
  | a :: r, h => by
    by_cases ha : p a = true
    · rw [List.takeWhile_cons, if_pos ha] at h
      rcases List.mem_cons.1 h with rfl | h
      · exact ha
      · exact mem_tw r h
    · rw [List.takeWhile_cons, if_neg ha] at h
      cases h

theorem dw_head {p : Nat → Bool} {c : Nat} {t : List Nat} : ∀ l : List Nat, l.dropWhile p = c :: t → p c = false
  | a :: r, h => by
    by_cases ha : p a = true
    · rw [List.dropWhile_cons, if_pos ha] at h
      exact dw_head r h
    · rw [List.dropWhile_cons, if_neg ha] at h
      have := (List.cons.inj h).1
      subst this
      simpa using ha

theorem cut_at {w t : List Nat} {c : Nat} (hw : c ∉ w) : (w ++ c :: t).takeWhile (· != c) = w ∧ (w ++ c :: t).dropWhile (· != c) = c :: t := by
  induction w with
  | nil => simp
  | cons a r ih =>
    have h1 : a ≠ c := fun h => hw (by simp [h])
    have h2 := ih fun h => hw (by simp [h])
    have h3 : (a != c) = true := bne_iff_ne.2 h1
    rw [List.cons_append, List.takeWhile_cons, List.dropWhile_cons, if_pos h3, if_pos h3, h2.1, h2.2]
    exact ⟨rfl, rfl⟩

theorem okD_mem {l : List Nat} {x : Nat} (hx : x ∈ l) (hn : isD x = false) : okD l = false := by
  have : l.all isD = false := by
    apply Bool.eq_false_iff.2
    intro h
    rw [List.all_eq_true.1 h x hx] at hn
    cases hn
  unfold okD
  rw [this]
  simp

theorem okD_of {l : List Nat} (h1 : 1 ≤ l.length) (h2 : l.length ≤ 400) (h3 : l.all isD = true) : okD l = true := by
  unfold okD
  rw [decide_eq_true h1, decide_eq_true h2, h3]
  rfl

theorem okD_iff {l : List Nat} (h2 : l.length ≤ 400) : okD l = true ↔ l.length ≠ 0 ∧ l.all isD = true := by
  unfold okD
  simp only [Bool.and_eq_true, decide_eq_true_eq]
  constructor
  · rintro ⟨a, _, c⟩; exact ⟨by omega, c⟩
  · rintro ⟨a, c⟩; exact ⟨by omega, h2, c⟩

theorem takeWhile_pre {p : Nat → Bool} {w r : List Nat} (h : ∀ x ∈ w, p x = true) : (w ++ r).takeWhile p = w ++ r.takeWhile p := by
  induction w with
  | nil => rfl
  | cons a t ih => rw [List.cons_append, List.takeWhile_cons, if_pos (h a (by simp)), ih fun x hx => h x (by simp [hx]), List.cons_append]

/-- The two ways agree on texts that are not too long. -/
theorem ways_same (neg : Bool) (r : List Nat) (hl : r.length ≤ 400) : wayA neg r = wayB neg r := by
  have hsplit : r.takeWhile isD ++ r.dropWhile isD = r := List.takeWhile_append_dropWhile
  have hw : ∀ x ∈ r.takeWhile isD, isD x = true := fun x hx => mem_tw r hx
  have d46 : isD 46 = false := by decide
  have d47 : isD 47 = false := by decide
  obtain ⟨w, hwe⟩ : ∃ w, r.takeWhile isD = w := ⟨_, rfl⟩
  obtain ⟨q, hqe⟩ : ∃ q, r.dropWhile isD = q := ⟨_, rfl⟩
  have hwall : w.all isD = true := List.all_eq_true.2 (hwe ▸ hw)
  have n46 : 46 ∉ w := fun h => by have := hw 46 (hwe ▸ h); rw [d46] at this; cases this
  have n47 : 47 ∉ w := fun h => by have := hw 47 (hwe ▸ h); rw [d47] at this; cases this
  unfold wayB
  rw [hwe, hqe]
  rw [hwe, hqe] at hsplit
  cases q with
  | nil =>
    rw [List.append_nil] at hsplit
    subst hsplit
    have c46 : w.contains 46 = false := by simpa using n46
    have c47 : w.contains 47 = false := by simpa using n47
    unfold wayA
    rw [c46, c47]
    simp only [Bool.false_eq_true, if_false]
    by_cases h0 : w = []
    · subst h0
      rfl
    · rw [if_neg h0, if_pos ((okD_iff hl).2 ⟨fun h => h0 (List.eq_nil_of_length_eq_zero h), hwall⟩)]
  | cons c t =>
    change wayA neg r = (if w = [] then none else if (t.takeWhile isD).length = 0 ∨ (t.takeWhile isD).length ≠ t.length ∨ (c ≠ 46 ∧ c ≠ 47) then none else if c = 47 then (if numD t = 0 then none else some (neg, numD w, numD t)) else some (neg, numD w * 10 ^ t.length + numD t, 10 ^ t.length))
    have hc : isD c = false := dw_head r hqe
    have hlen : w.length + (t.length + 1) = r.length := by rw [← hsplit]; simp
    have htl : t.length ≤ 400 := by omega
    have hcr : c ∈ r := by rw [← hsplit]; simp
    by_cases h46 : c = 46
    · subst h46
      have hr46 : r.contains 46 = true := by simpa using hcr
      obtain ⟨e1, e2⟩ := cut_at (t := t) n46
      rw [hsplit] at e1 e2
      unfold wayA
      rw [if_pos hr46, e1, e2]
      simp only [List.drop_succ_cons, List.drop_zero]
      by_cases h0 : w = []
      · rw [if_pos h0, if_neg (by rintro ⟨h, _⟩; exact h (by rw [h0]; rfl))]
      · have h0' : w.length ≠ 0 := fun h => h0 (List.eq_nil_of_length_eq_zero h)
        rw [if_neg h0]
        by_cases hk : okD t = true
        · obtain ⟨k1, k2⟩ := (okD_iff htl).1 hk
          have hwt : okD (w ++ t) = true := (okD_iff (by rw [List.length_append]; omega)).2 ⟨by rw [List.length_append]; omega, by rw [List.all_append, hwall, k2]; rfl⟩
          have ht := (tw_all t).2 k2
          rw [if_pos ⟨h0', hk, hwt⟩, if_neg (by rw [ht]; omega), if_neg (by omega), numD_append]
        · rw [if_neg (by rintro ⟨_, h, _⟩; exact hk h)]
          rw [if_pos ?_]
          by_cases hz : (t.takeWhile isD).length = 0
          · exact Or.inl hz
          · right; left
            intro he
            refine hk ((okD_iff htl).2 ⟨by omega, (tw_all t).1 he⟩)
    · by_cases h47 : c = 47
      · subst h47
        by_cases ht46 : 46 ∈ t
        · have hr46 : r.contains 46 = true := by
            have : 46 ∈ r := by rw [← hsplit]; simp [ht46]
            simpa using this
          have hpre : r.takeWhile (· != 46) = w ++ 47 :: t.takeWhile (· != 46) := by
            rw [← hsplit, takeWhile_pre (p := (· != 46)) (w := w) (fun x hx => bne_iff_ne.2 fun h => n46 (h ▸ hx)), List.takeWhile_cons, if_pos (by decide)]
          unfold wayA
          rw [if_pos hr46, hpre, if_neg (by rintro ⟨_, _, h⟩; rw [okD_mem (x := 47) (by simp) d47] at h; cases h)]
          have hne : (t.takeWhile isD).length ≠ t.length := fun h => by
            have := List.all_eq_true.1 ((tw_all t).1 h) 46 ht46
            rw [d46] at this; cases this
          by_cases h0 : w = []
          · rw [if_pos h0]
          · rw [if_neg h0, if_pos (Or.inr (Or.inl hne))]
        · have hr46 : r.contains 46 = false := by
            have : 46 ∉ r := by rw [← hsplit]; simp [n46, ht46]
            simpa using this
          have hr47 : r.contains 47 = true := by simpa using hcr
          obtain ⟨e1, e2⟩ := cut_at (t := t) n47
          rw [hsplit] at e1 e2
          unfold wayA
          rw [hr46, hr47, e1, e2]
          simp only [Bool.false_eq_true, if_false, if_true, List.drop_succ_cons, List.drop_zero]
          by_cases h0 : w = []
          · rw [if_pos h0, h0]
            rfl
          · have hkw : okD w = true := (okD_iff (by omega)).2 ⟨fun h => h0 (List.eq_nil_of_length_eq_zero h), hwall⟩
            rw [if_neg h0]
            by_cases hk : okD t = true
            · obtain ⟨k1, k2⟩ := (okD_iff htl).1 hk
              have ht := (tw_all t).2 k2
              have hcond : ¬ ((t.takeWhile isD).length = 0 ∨ (t.takeWhile isD).length ≠ t.length ∨ ((47 : Nat) ≠ 46 ∧ (47 : Nat) ≠ 47)) := by rw [ht]; omega
              rw [if_neg hcond]
              by_cases hz : numD t = 0
              · rw [if_pos hz, if_neg (show ¬ (okD w = true ∧ okD t = true ∧ numD t ≠ 0) from fun h => h.2.2 hz)]
              · rw [if_neg hz, if_pos (show okD w = true ∧ okD t = true ∧ numD t ≠ 0 from ⟨hkw, hk, hz⟩)]
            · have hcond : (t.takeWhile isD).length = 0 ∨ (t.takeWhile isD).length ≠ t.length ∨ ((47 : Nat) ≠ 46 ∧ (47 : Nat) ≠ 47) := by
                by_cases hz : (t.takeWhile isD).length = 0
                · exact Or.inl hz
                · right; left
                  intro he
                  exact hk ((okD_iff htl).2 ⟨by omega, (tw_all t).1 he⟩)
              rw [if_pos hcond, if_neg (show ¬ (okD w = true ∧ okD t = true ∧ numD t ≠ 0) from fun h => hk h.2.1)]
      · have hB : (if w = [] then (none : Option (Bool × Nat × Nat)) else if (t.takeWhile isD).length = 0 ∨ (t.takeWhile isD).length ≠ t.length ∨ (c ≠ 46 ∧ c ≠ 47) then none
            else if c = 47 then (if numD t = 0 then none else some (neg, numD w, numD t)) else some (neg, numD w * 10 ^ t.length + numD t, 10 ^ t.length)) = none := by
          split
          · rfl
          · rw [if_pos (Or.inr (Or.inr ⟨h46, h47⟩))]
        have e : wayA neg r = none := by
          have hpre : ∀ d, d ∉ w → c ≠ d → c ∈ r.takeWhile (· != d) := fun d hd hcd => by
            rw [← hsplit, takeWhile_pre (p := (· != d)) (w := w) (fun x hx => bne_iff_ne.2 fun h => hd (h ▸ hx)), List.takeWhile_cons, if_pos (bne_iff_ne.2 hcd)]
            simp
          unfold wayA
          split
          · rw [if_neg]
            rintro ⟨_, _, h⟩
            rw [okD_mem (x := c) (List.mem_append_left _ (hpre 46 n46 h46)) hc] at h
            cases h
          · split
            · rw [if_neg]
              rintro ⟨h, _⟩
              rw [okD_mem (x := c) (hpre 47 n47 h47) hc] at h
              cases h
            · rw [okD_mem hcr hc]
              rfl
        rw [e]
        exact hB.symm
end Go.Proofs.YtobmjcbjailclaaGreatDoor

/- The program's 'Parse' of digits by its contract. Condition: none. -/
namespace Go.Proofs.YtobmjcbjailclaaGreatDoor
set_option maxRecDepth 100000
open Go.RowKit Go.Shelf Go.Lib

/-- A text's bytes as numbers. -/
def byts (s : ByteArray) : List Nat := s.data.toList.map (·.toNat)
/-- A text of digits that may be read. -/
def okS (s : ByteArray) : Prop := 1 ≤ s.size ∧ s.size ≤ 400 ∧ ∀ x ∈ byts s, 48 ≤ x ∧ x ≤ 57
/-- The number that digits tell. -/
def numS (s : ByteArray) : Nat := undec ((byts s).map (· - 48))

theorem byts_length (s : ByteArray) : (byts s).length = s.size := by unfold byts; rw [List.length_map]; rfl
theorem byts_get (s : ByteArray) (i : Nat) (h : i < s.size) : (byts s)[i]'(by rw [byts_length]; exact h) = (s[i]'h).toNat := by
  unfold byts
  rw [List.getElem_map]
  rfl

theorem dropWhile_nil {α : Type} (p : α → Bool) : ∀ l : List α, l.dropWhile p = [] ↔ ∀ x ∈ l, p x = true
  | [] => by simp
  | a :: r => by
    rw [List.dropWhile_cons]
    by_cases h : p a = true
    · rw [if_pos h, dropWhile_nil p r]
      simp [h]
    · rw [if_neg h]
      simp [h]

theorem digit_in (b : UInt8) : ([48, 49, 50, 51, 52, 53, 54, 55, 56, 57] : List UInt8).contains b = decide (48 ≤ b.toNat ∧ b.toNat ≤ 57) := by
  have h : ∀ n : Fin 256, ([48, 49, 50, 51, 52, 53, 54, 55, 56, 57] : List UInt8).contains (UInt8.ofNat n.val) = decide (48 ≤ n.val ∧ n.val ≤ 57) := by decide +kernel
  have := h ⟨b.toNat, b.toNat_lt⟩
  simpa using this

theorem trim_digits (l : List UInt8) : Lib.trimS l [48, 49, 50, 51, 52, 53, 54, 55, 56, 57] = [] ↔ ∀ x ∈ l.map (·.toNat), 48 ≤ x ∧ x ≤ 57 := by
  have hp : ∀ x : UInt8, ([48, 49, 50, 51, 52, 53, 54, 55, 56, 57] : List UInt8).contains x = true ↔ (48 ≤ x.toNat ∧ x.toNat ≤ 57) := fun x => by rw [digit_in, decide_eq_true_iff]
  unfold Lib.trimS Lib.trimLeftS
  rw [dropWhile_nil]
  constructor
  · intro h
    have h2 : Lib.trimRightS l [48, 49, 50, 51, 52, 53, 54, 55, 56, 57] = [] := by
      unfold Lib.trimRightS at h ⊢
      rw [List.reverse_eq_nil_iff]
      cases hd : List.dropWhile (fun x => ([48, 49, 50, 51, 52, 53, 54, 55, 56, 57] : List UInt8).contains x) l.reverse with
      | nil => rfl
      | cons x r =>
        have h3 := h x (by rw [hd]; simp)
        have h4 := List.head_dropWhile_not (p := fun x => ([48, 49, 50, 51, 52, 53, 54, 55, 56, 57] : List UInt8).contains x) (l := l.reverse) (by rw [hd]; simp)
        simp only [hd, List.head_cons] at h4
        rw [h3] at h4
        cases h4
    unfold Lib.trimRightS at h2
    rw [List.reverse_eq_nil_iff, dropWhile_nil] at h2
    intro x hx
    obtain ⟨y, hy, rfl⟩ := List.mem_map.1 hx
    exact (hp y).1 (h2 y (List.mem_reverse.2 hy))
  · intro h
    have h2 : Lib.trimRightS l [48, 49, 50, 51, 52, 53, 54, 55, 56, 57] = [] := by
      unfold Lib.trimRightS
      rw [List.reverse_eq_nil_iff, dropWhile_nil]
      intro x hx
      exact (hp x).2 (h _ (List.mem_map.2 ⟨x, List.mem_reverse.1 hx, rfl⟩))
    rw [h2]
    simp

set_option maxHeartbeats 3200000 in
theorem trimAll (s : ByteArray) (w : World) (hs : s.size ≤ 400) :
    Calls Tryz.prog 70 #[.string s, .string ⟨#[48, 49, 50, 51, 52, 53, 54, 55, 56, 57]⟩] w fun e w' => e = .returned (.string ⟨(Lib.trimS s.data.toList [48, 49, 50, 51, 52, 53, 54, 55, 56, 57]).toArray⟩) ∧ Below w.heap.size w w' :=
  Any.strings_Trim_laid Tryz.lays160 (by kernel_rfl) s ⟨#[48, 49, 50, 51, 52, 53, 54, 55, 56, 57]⟩ w (by omega) (by decide) (ascii_of_all (by decide))

theorem undec_take (s : ByteArray) (k : Nat) (h : k < s.size) : undec (((byts s).take (k + 1)).map (· - 48)) = undec (((byts s).take k).map (· - 48)) * 10 + ((s[k]'h).toNat - 48) := by
  have h1 : k < (byts s).length := by rw [byts_length]; exact h
  rw [List.take_add_one, List.getElem?_eq_getElem h1, Option.toList_some, List.map_append, List.map_singleton, undec_snoc, byts_get s k h]

theorem undec_len (s : ByteArray) (k : Nat) (hk : okS s) : (lim (undec (((byts s).take k).map (· - 48)))).length ≤ 400 := by
  have hl : (((byts s).take k).map (· - 48)).length ≤ 400 := by rw [List.length_map, List.length_take, byts_length]; have := hk.2.1; omega
  have h1 : undec (((byts s).take k).map (· - 48)) < 10 ^ (((byts s).take k).map (· - 48)).length := undec_lt fun x hx => by
    obtain ⟨y, hy, rfl⟩ := List.mem_map.1 hx
    have := hk.2.2 y (List.mem_of_mem_take hy)
    omega
  exact lim_ten h1 hl

set_option maxHeartbeats 3200000 in
theorem parse_any (s : ByteArray) (w : World) (hk : okS s) :
    Calls Tryz.prog 27 #[.string s] w (GivesB (lim (numS s)) true w) := by
  have hemp : s.toList.isEmpty = false := by
    rw [ByteArray.toList_eq]
    have := hk.1
    cases h : s.data.toList with
    | nil =>
      have h2 : s.size = s.data.toList.length := rfl
      rw [h, List.length_nil] at h2
      omega
    | cons => rfl
  have hbig : decide ((400 : Int) < (s.size : Int)) = false := decide_eq_false (by have := hk.2.1; omega)
  have htr := trimAll s w hk.2.1
  rw [(trim_digits s.data.toList).2 hk.2.2] at htr
  have hs4 := hk.2.1
  have HK := Lib.hid hk
  clear hk
  go_enter Tryz.func27, Tryz.ntmps27
  go_wp2_with fail
  refine htr.mono ?_
  rintro e w1 ⟨rfl, hb⟩
  go_wp2_with fail
  go_loopw [4, 20] (fun a i wr => ∃ k : Nat, k ≤ s.size ∧ i = .int .i64 (k : Int) ∧ Nt wr w.heap.size wr.heap.size a (lim (undec (((byts s).take k).map (· - 48)))) ∧ Below w.heap.size w wr) (fun _ i _ => s.size - (RowKit.intOf i).toNat)
  case atStart => exact ⟨0, Nat.zero_le _, rfl, by rw [List.take_zero, List.map_nil, show undec [] = 0 from rfl, lim_zero]; exact Nt.nil _ _ _, hb⟩
  case round =>
    obtain ⟨k, hk, rfl, ha, hB⟩ := hrel
    have hll := undec_len s k HK.out
    by_cases hlt : k < s.size
    · have HU := Lib.hid (undec_take s k hlt)
      have hkI : (k : Int) < (s.size : Int) := by omega
      have hdg := HK.out.2.2 _ (List.getElem_mem (by rw [byts_length]; exact hlt : k < (byts s).length))
      rw [byts_get s k hlt] at hdg
      generalize undec (((byts s).take k).map (· - 48)) = m at *
      have ten : Hid (∀ W : World, Nt (W.alloc (.cells #[.int .u32 10] 43)) 0 (W.alloc (.cells #[.int .u32 10] 43)).heap.size (.slice (some ⟨W.heap.size, 0, none⟩) 1 1) [10]) := fun W => (nt_laid W 43 [10] (by simp)).1
      obtain ⟨d, hd⟩ : ∃ d, s[k].toNat = 48 + d := ⟨s[k].toNat - 48, by omega⟩
      have hd9 : d < 10 := by omega
      have hdI : ((s[k].toNat : Nat) : Int) = 48 + (d : Int) := by omega
      have hu : IntKind.u8.wrap (d : Int) = (d : Int) := by unfold IntKind.wrap; simp [IntKind.bits, IntKind.signed]; omega
      have hsb : (48 : Int) + (d : Int) - 48 = (d : Int) := by omega
      have hu64 : IntKind.u64.wrap (d : Int) = (d : Int) := IntWalk.u64_in _ (by omega)
      rw [hd, Nat.add_sub_cancel_left] at HU
      have HA : Hid (∀ o, Nt (wr.alloc o) 0 (wr.alloc o).heap.size u4 (lim m)) := fun o => ((ha.low (Nat.zero_le _)).alloc (Nat.le_refl _) o).up (by simp)
      have DL := Lib.hid (dig_lim m)
      have D10 : Dig [10] := by intro x hx; simp at hx; omega
      have VM : Hid (val (lim m) = m) := val_lim m
      have HOF : Hid (∀ W, Calls Tryz.prog 54 #[.int .u64 (d : Int)] W (Gives (lim d) W)) := fun W => of_any d W (by omega)
      have hnx : Hid ((lim (undec (((byts s).take (k + 1)).map (· - 48)))).length ≤ 400) := undec_len s (k + 1) HK.out
      have HL3 : Hid ((lim (val (lim m) * val [10])).length ≤ 100000) := by
        show _ ≤ _
        exact Nat.le_trans (lim_mul_len DL.out D10 rfl rfl hll (by simp : [10].length ≤ 1)) (by omega)
      have HL4 : Hid ((lim d).length ≤ 100000) := by
        show _ ≤ _
        have : (lim d).length ≤ 1 := lim_length_le (by omega)
        omega
      have HV5 : Hid (val (lim (val (lim m) * val [10])) + val (lim d) = undec (((byts s).take (k + 1)).map (· - 48))) := by
        show _ = _
        rw [val_lim, val_lim, val_lim, HU.out]
        rfl
      clear hd hdg ha
      go_wp2_with fail
      go_region_held3 (fun W => Below wr.heap.size wr W)
        (first | assumption | exact Below.drew (Below.refl _ _) | exact Below.drew (by assumption) | exact Below.alloc (Below.drew (Below.refl _ _)) (Nat.le_refl _) _)
        (first
          | (go_at_call 72; refine (mul_any _ _ (lim m) [10] _ DL.out D10 (HA.out _).drew (ten.out _).drew (by omega) (by simp)).mono ?_; rintro e3 w3 ⟨v3, rfl, h3, hb3⟩; have hbk : Below wr.heap.size wr w3 := Below.trans (Below.drew (Below.alloc (Below.refl _ _) (Nat.le_refl _) _)) (hb3.mono (by simp)))
          | (go_at_call 54; refine (HOF.out _).mono ?_; rintro e4 w4 ⟨v4, rfl, h4, hb4⟩; have hbk4 : Below wr.heap.size wr w4 := hbk.trans (hb4.mono hbk.size); replace h3 := (h3.low (Nat.zero_le _)).after hb4; replace h4 := h4.low (Nat.zero_le _))
          | (go_at_call 71; refine (add_any _ _ _ _ _ (dig_lim _) (dig_lim _) h3 h4 HL3.out HL4.out).mono ?_; rintro e5 w5 ⟨v5, rfl, h5, hb5⟩; have hbk5 : Below wr.heap.size wr w5 := hbk4.trans (hb5.mono hbk4.size))
          | fail)
      all_goals
        rw [HV5.out] at h5
        replace h5 := h5.low (Nat.le_trans hB.size hbk4.size)
        have hBB := hB.trans (hbk5.mono hB.size)
        clear hb3 hbk hb4 hbk4 h3 h4 hb5 hbk5 HU HA HV5
        go_wp2_with fail
        refine ⟨⟨k + 1, by omega, by go_num, h5, hBB⟩, ?_⟩
        simp [RowKit.intOf]
        omega
    · obtain rfl : k = s.size := by omega
      have hall : Hid (undec (((byts s).take s.size).map (· - 48)) = numS s) := by
        show _ = _
        rw [List.take_of_length_le (by rw [byts_length]; omega)]
        rfl
      rw [hall.out] at ha
      go_wp2_with fail
      go_ret2
      exact ⟨_, rfl, ha, hB⟩

theorem isEmpty_size (s : ByteArray) : s.toList.isEmpty = decide (s.size = 0) := by
  rw [ByteArray.toList_eq]
  have h2 : s.size = s.data.toList.length := rfl
  rw [h2]
  cases s.data.toList <;> simp

set_option maxHeartbeats 3200000 in
theorem parse_no (s : ByteArray) (w : World) (hk : ¬ okS s) :
    Calls Tryz.prog 27 #[.string s] w (GivesB [] false w) := by
  have hem := isEmpty_size s
  by_cases h1 : s.size = 0
  · rw [h1] at hem
    replace hem : s.toList.isEmpty = true := hem
    clear hk h1
    go_enter Tryz.func27, Tryz.ntmps27
    go_wp2_with fail
    go_ret2
    exact ⟨_, rfl, Nt.nil _ _ _, Below.refl _ _⟩
  · replace hem : s.toList.isEmpty = false := hem.trans (decide_eq_false h1)
    by_cases h2 : s.size ≤ 400
    · have hbig : decide ((400 : Int) < (s.size : Int)) = false := decide_eq_false (by omega)
      have htr := trimAll s w h2
      have hne : Lib.trimS s.data.toList [48, 49, 50, 51, 52, 53, 54, 55, 56, 57] ≠ [] := fun h => hk ⟨by omega, h2, (trim_digits _).1 h⟩
      have hte : (⟨(Lib.trimS s.data.toList [48, 49, 50, 51, 52, 53, 54, 55, 56, 57]).toArray⟩ : ByteArray).toList.isEmpty = false := by
        rw [ByteArray.toList_mk]
        cases h : Lib.trimS s.data.toList [48, 49, 50, 51, 52, 53, 54, 55, 56, 57] with
        | nil => exact absurd h hne
        | cons => rfl
      generalize (⟨(Lib.trimS s.data.toList [48, 49, 50, 51, 52, 53, 54, 55, 56, 57]).toArray⟩ : ByteArray) = t at htr hte
      clear hk h1 hne h2
      go_enter Tryz.func27, Tryz.ntmps27
      go_wp2_with fail
      refine htr.mono ?_
      rintro e w1 ⟨rfl, hb⟩
      clear htr
      go_wp2_with fail
      go_ret2
      exact ⟨_, rfl, Nt.nil _ _ _, hb⟩
    · have hbig : decide ((400 : Int) < (s.size : Int)) = true := decide_eq_true (by omega)
      clear hk h1 h2
      go_enter Tryz.func27, Tryz.ntmps27
      go_wp2_with fail
      go_ret2
      exact ⟨_, rfl, Nt.nil _ _ _, Below.refl _ _⟩
end Go.Proofs.YtobmjcbjailclaaGreatDoor

/- The reference's 'Parse' of digits by its contract. Condition: none. -/
namespace Go.Proofs.YtobmjcbjailclaaGreatDoor
set_option maxRecDepth 100000
open Go.RowKit Go.Shelf Go.Lib

set_option maxHeartbeats 3200000 in
theorem refParse_any (s : ByteArray) (w : World) (hk : okS s) :
    Calls Tryz.prog 33 #[.string s] w (GivesB (lim (numS s)) true w) := by
  have hsm : decide ((s.size : Int) < 1) = false := decide_eq_false (by have := hk.1; omega)
  have hbig : decide ((400 : Int) < (s.size : Int)) = false := decide_eq_false (by have := hk.2.1; omega)
  have hs4 := hk.2.1
  have HK := Lib.hid hk
  clear hk
  go_enter Tryz.func33, Tryz.ntmps33
  have hb : Below w.heap.size w w := Below.refl _ _
  go_wp2_with fail
  go_loopw [4, 5] (fun a i wr => ∃ k : Nat, k ≤ s.size ∧ i = .int .i64 (k : Int) ∧ Nt wr w.heap.size wr.heap.size a (lim (undec (((byts s).take k).map (· - 48)))) ∧ Below w.heap.size w wr) (fun _ i _ => s.size - (RowKit.intOf i).toNat)
  case atStart => exact ⟨0, Nat.zero_le _, rfl, by rw [List.take_zero, List.map_nil, show undec [] = 0 from rfl, lim_zero]; exact Nt.nil _ _ _, hb⟩
  case round =>
    obtain ⟨k, hk, rfl, ha, hB⟩ := hrel
    have hll := undec_len s k HK.out
    by_cases hlt : k < s.size
    · have HU := Lib.hid (undec_take s k hlt)
      have hkI : (k : Int) < (s.size : Int) := by omega
      have hdg := HK.out.2.2 _ (List.getElem_mem (by rw [byts_length]; exact hlt : k < (byts s).length))
      rw [byts_get s k hlt] at hdg
      generalize undec (((byts s).take k).map (· - 48)) = m at *
      have ten : Hid (∀ W : World, Nt (W.alloc (.cells #[.int .u32 10] 43)) 0 (W.alloc (.cells #[.int .u32 10] 43)).heap.size (.slice (some ⟨W.heap.size, 0, none⟩) 1 1) [10]) := fun W => (nt_laid W 43 [10] (by simp)).1
      obtain ⟨d, hd⟩ : ∃ d, s[k].toNat = 48 + d := ⟨s[k].toNat - 48, by omega⟩
      have hd9 : d < 10 := by omega
      have hdI : ((s[k].toNat : Nat) : Int) = 48 + (d : Int) := by omega
      have hu : IntKind.u8.wrap (d : Int) = (d : Int) := by unfold IntKind.wrap; simp [IntKind.bits, IntKind.signed]; omega
      have hsb : (48 : Int) + (d : Int) - 48 = (d : Int) := by omega
      have hu32 : IntKind.u32.wrap (d : Int) = (d : Int) := by unfold IntKind.wrap; simp [IntKind.bits, IntKind.signed]; omega
      rw [hd, Nat.add_sub_cancel_left] at HU
      have HA : Hid (∀ o, Nt (wr.alloc o) 0 (wr.alloc o).heap.size u4 (lim m)) := fun o => ((ha.low (Nat.zero_le _)).alloc (Nat.le_refl _) o).up (by simp)
      have DL := Lib.hid (dig_lim m)
      have D10 : Dig [10] := by intro x hx; simp at hx; omega
      have VM : Hid (val (lim m) = m) := val_lim m
      have dl : Hid (∀ W : World, Nt (W.alloc (.cells #[.int .u32 (d : Int)] 43)) 0 (W.alloc (.cells #[.int .u32 (d : Int)] 43)).heap.size (.slice (some ⟨W.heap.size, 0, none⟩) 1 1) [d]) := fun W => (nt_laid W 43 [d] (by simp)).1
      have DD : Dig [d] := by intro x hx; simp at hx; omega
      have hnx : Hid ((lim (undec (((byts s).take (k + 1)).map (· - 48)))).length ≤ 400) := undec_len s (k + 1) HK.out
      have HL3 : Hid ((lim (val (lim m) * val [10])).length ≤ 100000) := by
        show _ ≤ _
        exact Nat.le_trans (lim_mul_len DL.out D10 rfl rfl hll (by simp : [10].length ≤ 1)) (by omega)
      have HV5 : Hid (val (lim (val (lim m) * val [10])) + val [d] = undec (((byts s).take (k + 1)).map (· - 48))) := by
        show _ = _
        rw [val_lim, val_lim, HU.out]
        simp [val]
      have HZ : ∀ o : Obj, (wr.alloc o).heap.size = wr.heap.size + 1 := fun o => by simp
      have HA1 : Hid (∀ o, Nt (wr.alloc o).drew 0 (wr.alloc o).drew.heap.size u4 (lim m)) := fun o => HA.out o
      have HA2 : Hid (∀ o o', Nt ((wr.alloc o).alloc o').drew 0 ((wr.alloc o).alloc o').drew.heap.size u4 (lim m)) := fun o o' => ((HA.out o).alloc (Nat.le_refl _) o').up (by simp)
      have T1 : Hid (∀ W : World, Nt (W.alloc (.cells #[.int .u32 10] 43)).drew 0 (W.alloc (.cells #[.int .u32 10] 43)).drew.heap.size (.slice (some ⟨W.heap.size, 0, none⟩) 1 1) [10]) := fun W => ten.out W
      have T2 : Hid (∀ o, Nt ((wr.alloc (.cells #[.int .u32 10] 43)).alloc o).drew 0 ((wr.alloc (.cells #[.int .u32 10] 43)).alloc o).drew.heap.size (.slice (some ⟨wr.heap.size, 0, none⟩) 1 1) [10]) := fun o => ((ten.out wr).alloc (Nat.le_refl _) o).up (by simp)
      have D3 : Hid (∀ o, Nt ((wr.alloc (.cells #[.int .u32 (d : Int)] 43)).alloc o).drew 0 ((wr.alloc (.cells #[.int .u32 (d : Int)] 43)).alloc o).drew.heap.size (.slice (some ⟨wr.heap.size, 0, none⟩) 1 1) [d]) := fun o => ((dl.out wr).alloc (Nat.le_refl _) o).up (by simp)
      have T3 : Hid (∀ o, Nt ((wr.alloc o).alloc (.cells #[.int .u32 10] 43)).drew 0 ((wr.alloc o).alloc (.cells #[.int .u32 10] 43)).drew.heap.size (.slice (some ⟨wr.heap.size + 1, 0, none⟩) 1 1) [10]) := fun o => by have h := ten.out (wr.alloc o); rw [HZ o] at h; exact h
      have D2 : Hid (∀ o, Nt ((wr.alloc o).alloc (.cells #[.int .u32 (d : Int)] 43)).drew 0 ((wr.alloc o).alloc (.cells #[.int .u32 (d : Int)] 43)).drew.heap.size (.slice (some ⟨wr.heap.size + 1, 0, none⟩) 1 1) [d]) := fun o => by have h := dl.out (wr.alloc o); rw [HZ o] at h; exact h
      have HBB : Hid (∀ o o', Below wr.heap.size wr ((wr.alloc o).alloc o').drew) := fun o o' => Below.drew (Below.alloc (Below.alloc (Below.refl _ _) (Nat.le_refl _) _) (by simp) _)
      have HB1 : Hid (∀ o, Below wr.heap.size wr (wr.alloc o).drew) := fun o => Below.drew (Below.alloc (Below.refl _ _) (Nat.le_refl _) _)
      clear HZ
      have HLM : Hid ((lim m).length ≤ 100000) := Nat.le_trans hll (by omega)
      have H1 : Hid ([10].length ≤ 100000) := by show 1 ≤ _; omega
      have HD1 : Hid ([d].length ≤ 100000) := by show 1 ≤ _; omega
      clear hd hdg ha
      go_wp2_with fail
      go_region_held3 (fun W => Below wr.heap.size wr W)
        (with_reducible (first | assumption | exact Below.drew (Below.refl _ _) | exact HB1.out _ | exact HBB.out _ _ | exact Below.alloc hbk hbk.size _))
        (first
          | (go_at_call 36; go_fit (refMul_any _ _ (lim m) [10] _ DL.out D10 (HA2.out _ _) (T2.out _) HLM.out H1.out); rintro e3 w3 ⟨v3, rfl, h3, hb3⟩; have h4 := (D2.out _).after hb3; have hbk : Below wr.heap.size wr w3 := Below.trans (HBB.out _ _) (hb3.mono (HBB.out _ _).size))
          | (go_at_call 36; go_fit (refMul_any _ _ (lim m) [10] _ DL.out D10 (HA2.out _ _) (T3.out _) HLM.out H1.out); rintro e3 w3 ⟨v3, rfl, h3, hb3⟩; have h4 := (D3.out _).after hb3; have hbk : Below wr.heap.size wr w3 := Below.trans (HBB.out _ _) (hb3.mono (HBB.out _ _).size))
          | (go_at_call 36; go_fit (refMul_any _ _ (lim m) [10] _ DL.out D10 (HA1.out _) (T1.out _) HLM.out H1.out); rintro e3 w3 ⟨v3, rfl, h3, hb3⟩; have hbk : Below wr.heap.size wr w3 := Below.trans (HB1.out _) (hb3.mono (HB1.out _).size))
          | (go_at_call 35; go_fit (refAdd_any _ _ _ _ _ (dig_lim _) DD (h3.low (Nat.zero_le _)) h4 HL3.out HD1.out); rintro e5 w5 ⟨v5, rfl, h5, hb5⟩; have hbk4 : Below wr.heap.size wr w3 := hbk; have hbk5 : Below wr.heap.size wr w5 := hbk4.trans (hb5.mono hbk4.size))
          | (go_at_call 35; have hh := Nt.up (B' := (w3.alloc (.cells #[.int .u32 (d : Int)] 43)).heap.size) ((h3.low (Nat.zero_le _)).alloc (Nat.le_refl _) (.cells #[.int .u32 (d : Int)] 43)) (by simp); go_fit (refAdd_any _ _ _ _ _ (dig_lim _) DD hh (dl.out _) HL3.out HD1.out); rintro e5 w5 ⟨v5, rfl, h5, hb5⟩; have hbk4 : Below wr.heap.size wr (w3.alloc (.cells #[.int .u32 (d : Int)] 43)) := Below.alloc hbk hbk.size _; have hbk5 : Below wr.heap.size wr w5 := hbk4.trans (hb5.mono hbk4.size))
          | fail)
      all_goals
        rw [HV5.out] at h5
        replace h5 := h5.low (Nat.le_trans hB.size hbk4.size)
        have hBB := hB.trans (hbk5.mono hB.size)
        clear hb3 hbk hbk4 h3 hb5 hbk5 HU HA HV5
        go_wp2_with fail
        refine ⟨⟨k + 1, by omega, by go_num, h5, hBB⟩, ?_⟩
        simp [RowKit.intOf]
        omega
    · obtain rfl : k = s.size := by omega
      have hall : Hid (undec (((byts s).take s.size).map (· - 48)) = numS s) := by
        show _ = _
        rw [List.take_of_length_le (by rw [byts_length]; omega)]
        rfl
      rw [hall.out] at ha
      go_wp2_with fail
      go_ret2
      exact ⟨_, rfl, ha, hB⟩

end Go.Proofs.YtobmjcbjailclaaGreatDoor

/- The reference's 'Parse' of texts that are no digits, or too many. Condition: none. -/
namespace Go.Proofs.YtobmjcbjailclaaGreatDoor
set_option maxRecDepth 100000
open Go.RowKit Go.Shelf Go.Lib

theorem undec_len2 (s : ByteArray) (k : Nat) (h4 : s.size ≤ 400) (hg : ∀ x ∈ (byts s).take k, 48 ≤ x ∧ x ≤ 57) : (lim (undec (((byts s).take k).map (· - 48)))).length ≤ 400 := by
  have hl : (((byts s).take k).map (· - 48)).length ≤ 400 := by rw [List.length_map, List.length_take, byts_length]; omega
  have h1 : undec (((byts s).take k).map (· - 48)) < 10 ^ (((byts s).take k).map (· - 48)).length := undec_lt fun x hx => by
    obtain ⟨y, hy, rfl⟩ := List.mem_map.1 hx
    have := hg y hy
    omega
  exact lim_ten h1 hl

set_option maxHeartbeats 3200000 in
theorem refParse_bad (s : ByteArray) (w : World) (h1 : 1 ≤ s.size) (h4 : s.size ≤ 400) (hbad : ∃ x ∈ byts s, ¬ (48 ≤ x ∧ x ≤ 57)) :
    Calls Tryz.prog 33 #[.string s] w (GivesB [] false w) := by
  have hsm : decide ((s.size : Int) < 1) = false := decide_eq_false (by omega)
  have hbig : decide ((400 : Int) < (s.size : Int)) = false := decide_eq_false (by omega)
  have HBAD := Lib.hid hbad
  clear hbad
  go_enter Tryz.func33, Tryz.ntmps33
  have hb : Below w.heap.size w w := Below.refl _ _
  go_wp2_with fail
  go_loopw [4, 5] (fun a i wr => ∃ k : Nat, k ≤ s.size ∧ i = .int .i64 (k : Int) ∧ Nt wr w.heap.size wr.heap.size a (lim (undec (((byts s).take k).map (· - 48)))) ∧ Hid (∀ x ∈ (byts s).take k, 48 ≤ x ∧ x ≤ 57) ∧ Below w.heap.size w wr) (fun _ i _ => s.size - (RowKit.intOf i).toNat)
  case atStart => exact ⟨0, Nat.zero_le _, rfl, by rw [List.take_zero, List.map_nil, show undec [] = 0 from rfl, lim_zero]; exact Nt.nil _ _ _, Lib.hid (fun x hx => by rw [List.take_zero] at hx; cases hx), hb⟩
  case round =>
    obtain ⟨k, hk, rfl, ha, HG, hB⟩ := hrel
    have hll := undec_len2 s k h4 HG.out
    by_cases hlt : k < s.size
    · have HU := Lib.hid (undec_take s k hlt)
      have hkI : (k : Int) < (s.size : Int) := by omega
      by_cases hdg : ¬ (48 ≤ (s[k]'hlt).toNat ∧ (s[k]'hlt).toNat ≤ 57)
      · have hor : ((s[k].toNat : Nat) : Int) < 48 ∨ (57 : Int) < ((s[k].toNat : Nat) : Int) := by omega
        clear hdg HU ha
        rcases hor with h | h
        · go_wp2_with fail
          go_ret2
          exact ⟨_, rfl, Nt.nil _ _ _, hB⟩
        · have h2 : ¬ ((s[k].toNat : Nat) : Int) < 48 := by omega
          go_wp2_with fail
          go_ret2
          exact ⟨_, rfl, Nt.nil _ _ _, hB⟩
      replace hdg := Decidable.not_not.1 hdg
      have HG2 : Hid (∀ x ∈ (byts s).take (k + 1), 48 ≤ x ∧ x ≤ 57) := fun x hx => by
        have h1 : k < (byts s).length := by rw [byts_length]; exact hlt
        rw [List.take_add_one, List.getElem?_eq_getElem h1, Option.toList_some, List.mem_append, List.mem_singleton] at hx
        rcases hx with hx | rfl
        · exact HG.out x hx
        · rw [byts_get s k hlt]; exact hdg
      generalize undec (((byts s).take k).map (· - 48)) = m at *
      have ten : Hid (∀ W : World, Nt (W.alloc (.cells #[.int .u32 10] 43)) 0 (W.alloc (.cells #[.int .u32 10] 43)).heap.size (.slice (some ⟨W.heap.size, 0, none⟩) 1 1) [10]) := fun W => (nt_laid W 43 [10] (by simp)).1
      obtain ⟨d, hd⟩ : ∃ d, s[k].toNat = 48 + d := ⟨s[k].toNat - 48, by omega⟩
      have hd9 : d < 10 := by omega
      have hdI : ((s[k].toNat : Nat) : Int) = 48 + (d : Int) := by omega
      have hu : IntKind.u8.wrap (d : Int) = (d : Int) := by unfold IntKind.wrap; simp [IntKind.bits, IntKind.signed]; omega
      have hsb : (48 : Int) + (d : Int) - 48 = (d : Int) := by omega
      have hu32 : IntKind.u32.wrap (d : Int) = (d : Int) := by unfold IntKind.wrap; simp [IntKind.bits, IntKind.signed]; omega
      rw [hd, Nat.add_sub_cancel_left] at HU
      have HA : Hid (∀ o, Nt (wr.alloc o) 0 (wr.alloc o).heap.size u4 (lim m)) := fun o => ((ha.low (Nat.zero_le _)).alloc (Nat.le_refl _) o).up (by simp)
      have DL := Lib.hid (dig_lim m)
      have D10 : Dig [10] := by intro x hx; simp at hx; omega
      have VM : Hid (val (lim m) = m) := val_lim m
      have dl : Hid (∀ W : World, Nt (W.alloc (.cells #[.int .u32 (d : Int)] 43)) 0 (W.alloc (.cells #[.int .u32 (d : Int)] 43)).heap.size (.slice (some ⟨W.heap.size, 0, none⟩) 1 1) [d]) := fun W => (nt_laid W 43 [d] (by simp)).1
      have DD : Dig [d] := by intro x hx; simp at hx; omega
      have hnx : Hid ((lim (undec (((byts s).take (k + 1)).map (· - 48)))).length ≤ 400) := undec_len2 s (k + 1) h4 HG2.out
      have HL3 : Hid ((lim (val (lim m) * val [10])).length ≤ 100000) := by
        show _ ≤ _
        exact Nat.le_trans (lim_mul_len DL.out D10 rfl rfl hll (by simp : [10].length ≤ 1)) (by omega)
      have HV5 : Hid (val (lim (val (lim m) * val [10])) + val [d] = undec (((byts s).take (k + 1)).map (· - 48))) := by
        show _ = _
        rw [val_lim, val_lim, HU.out]
        simp [val]
      have HZ : ∀ o : Obj, (wr.alloc o).heap.size = wr.heap.size + 1 := fun o => by simp
      have HA1 : Hid (∀ o, Nt (wr.alloc o).drew 0 (wr.alloc o).drew.heap.size u4 (lim m)) := fun o => HA.out o
      have HA2 : Hid (∀ o o', Nt ((wr.alloc o).alloc o').drew 0 ((wr.alloc o).alloc o').drew.heap.size u4 (lim m)) := fun o o' => ((HA.out o).alloc (Nat.le_refl _) o').up (by simp)
      have T1 : Hid (∀ W : World, Nt (W.alloc (.cells #[.int .u32 10] 43)).drew 0 (W.alloc (.cells #[.int .u32 10] 43)).drew.heap.size (.slice (some ⟨W.heap.size, 0, none⟩) 1 1) [10]) := fun W => ten.out W
      have T2 : Hid (∀ o, Nt ((wr.alloc (.cells #[.int .u32 10] 43)).alloc o).drew 0 ((wr.alloc (.cells #[.int .u32 10] 43)).alloc o).drew.heap.size (.slice (some ⟨wr.heap.size, 0, none⟩) 1 1) [10]) := fun o => ((ten.out wr).alloc (Nat.le_refl _) o).up (by simp)
      have D3 : Hid (∀ o, Nt ((wr.alloc (.cells #[.int .u32 (d : Int)] 43)).alloc o).drew 0 ((wr.alloc (.cells #[.int .u32 (d : Int)] 43)).alloc o).drew.heap.size (.slice (some ⟨wr.heap.size, 0, none⟩) 1 1) [d]) := fun o => ((dl.out wr).alloc (Nat.le_refl _) o).up (by simp)
      have T3 : Hid (∀ o, Nt ((wr.alloc o).alloc (.cells #[.int .u32 10] 43)).drew 0 ((wr.alloc o).alloc (.cells #[.int .u32 10] 43)).drew.heap.size (.slice (some ⟨wr.heap.size + 1, 0, none⟩) 1 1) [10]) := fun o => by have h := ten.out (wr.alloc o); rw [HZ o] at h; exact h
      have D2 : Hid (∀ o, Nt ((wr.alloc o).alloc (.cells #[.int .u32 (d : Int)] 43)).drew 0 ((wr.alloc o).alloc (.cells #[.int .u32 (d : Int)] 43)).drew.heap.size (.slice (some ⟨wr.heap.size + 1, 0, none⟩) 1 1) [d]) := fun o => by have h := dl.out (wr.alloc o); rw [HZ o] at h; exact h
      have HBB : Hid (∀ o o', Below wr.heap.size wr ((wr.alloc o).alloc o').drew) := fun o o' => Below.drew (Below.alloc (Below.alloc (Below.refl _ _) (Nat.le_refl _) _) (by simp) _)
      have HB1 : Hid (∀ o, Below wr.heap.size wr (wr.alloc o).drew) := fun o => Below.drew (Below.alloc (Below.refl _ _) (Nat.le_refl _) _)
      clear HZ
      have HLM : Hid ((lim m).length ≤ 100000) := Nat.le_trans hll (by omega)
      have H1 : Hid ([10].length ≤ 100000) := by show 1 ≤ _; omega
      have HD1 : Hid ([d].length ≤ 100000) := by show 1 ≤ _; omega
      clear hd hdg ha
      go_wp2_with fail
      go_region_held3 (fun W => Below wr.heap.size wr W)
        (with_reducible (first | assumption | exact Below.drew (Below.refl _ _) | exact HB1.out _ | exact HBB.out _ _ | exact Below.alloc hbk hbk.size _))
        (first
          | (go_at_call 36; go_fit (refMul_any _ _ (lim m) [10] _ DL.out D10 (HA2.out _ _) (T2.out _) HLM.out H1.out); rintro e3 w3 ⟨v3, rfl, h3, hb3⟩; have h4 := (D2.out _).after hb3; have hbk : Below wr.heap.size wr w3 := Below.trans (HBB.out _ _) (hb3.mono (HBB.out _ _).size))
          | (go_at_call 36; go_fit (refMul_any _ _ (lim m) [10] _ DL.out D10 (HA2.out _ _) (T3.out _) HLM.out H1.out); rintro e3 w3 ⟨v3, rfl, h3, hb3⟩; have h4 := (D3.out _).after hb3; have hbk : Below wr.heap.size wr w3 := Below.trans (HBB.out _ _) (hb3.mono (HBB.out _ _).size))
          | (go_at_call 36; go_fit (refMul_any _ _ (lim m) [10] _ DL.out D10 (HA1.out _) (T1.out _) HLM.out H1.out); rintro e3 w3 ⟨v3, rfl, h3, hb3⟩; have hbk : Below wr.heap.size wr w3 := Below.trans (HB1.out _) (hb3.mono (HB1.out _).size))
          | (go_at_call 35; go_fit (refAdd_any _ _ _ _ _ (dig_lim _) DD (h3.low (Nat.zero_le _)) h4 HL3.out HD1.out); rintro e5 w5 ⟨v5, rfl, h5, hb5⟩; have hbk4 : Below wr.heap.size wr w3 := hbk; have hbk5 : Below wr.heap.size wr w5 := hbk4.trans (hb5.mono hbk4.size))
          | (go_at_call 35; have hh := Nt.up (B' := (w3.alloc (.cells #[.int .u32 (d : Int)] 43)).heap.size) ((h3.low (Nat.zero_le _)).alloc (Nat.le_refl _) (.cells #[.int .u32 (d : Int)] 43)) (by simp); go_fit (refAdd_any _ _ _ _ _ (dig_lim _) DD hh (dl.out _) HL3.out HD1.out); rintro e5 w5 ⟨v5, rfl, h5, hb5⟩; have hbk4 : Below wr.heap.size wr (w3.alloc (.cells #[.int .u32 (d : Int)] 43)) := Below.alloc hbk hbk.size _; have hbk5 : Below wr.heap.size wr w5 := hbk4.trans (hb5.mono hbk4.size))
          | fail)
      all_goals
        rw [HV5.out] at h5
        replace h5 := h5.low (Nat.le_trans hB.size hbk4.size)
        have hBB := hB.trans (hbk5.mono hB.size)
        clear hb3 hbk hbk4 h3 hb5 hbk5 HU HA HV5
        go_wp2_with fail
        refine ⟨⟨k + 1, by omega, by go_num, h5, HG2.out, hBB⟩, ?_⟩
        simp [RowKit.intOf]
        omega
    · obtain rfl : k = s.size := by omega
      obtain ⟨x, hx, hn⟩ := HBAD.out
      have := HG.out x (by rw [List.take_of_length_le (by rw [byts_length]; omega)]; exact hx)
      exact absurd this hn

set_option maxHeartbeats 3200000 in
theorem refParse_no (s : ByteArray) (w : World) (hk : ¬ okS s) :
    Calls Tryz.prog 33 #[.string s] w (GivesB [] false w) := by
  by_cases h1 : 1 ≤ s.size
  · by_cases h2 : s.size ≤ 400
    · refine refParse_bad s w h1 h2 ?_
      apply Classical.byContradiction
      intro hc
      refine hk ⟨h1, h2, fun x hx => ?_⟩
      apply Classical.byContradiction
      intro hn
      exact hc ⟨x, hx, hn⟩
    · have hsm : decide ((s.size : Int) < 1) = false := decide_eq_false (by omega)
      have hbig : decide ((400 : Int) < (s.size : Int)) = true := decide_eq_true (by omega)
      clear hk h1 h2
      go_enter Tryz.func33, Tryz.ntmps33
      go_wp2_with fail
      go_ret2
      exact ⟨_, rfl, Nt.nil _ _ _, Below.refl _ _⟩
  · have hsm : decide ((s.size : Int) < 1) = true := decide_eq_true (by omega)
    clear hk h1
    go_enter Tryz.func33, Tryz.ntmps33
    go_wp2_with fail
    go_ret2
    exact ⟨_, rfl, Nt.nil _ _ _, Below.refl _ _⟩
end Go.Proofs.YtobmjcbjailclaaGreatDoor

/- The program's and the reference's 'Parse' of digits on lists of bytes. Condition: none. -/
namespace Go.Proofs.YtobmjcbjailclaaGreatDoor
set_option maxRecDepth 100000
open Go.RowKit Go.Shelf Go.Lib

/-- Bytes. -/
def Byt (l : List Nat) : Prop := ∀ x ∈ l, x < 256

theorem byts_of (l : List Nat) (h : Byt l) : byts (strN l) = l := by
  unfold byts strN
  simp only [List.map_map]
  conv => rhs; rw [← List.map_id l]
  apply List.map_congr_left
  intro x hx
  have := h x hx
  simp [UInt8.toNat_ofNat']
  omega

theorem strN_byts (s : ByteArray) : strN (byts s) = s := by
  unfold strN byts
  rw [List.map_map]
  have : (UInt8.ofNat ∘ fun x : UInt8 => x.toNat) = id := by funext x; simp
  rw [this, List.map_id]

theorem byt_byts (s : ByteArray) : Byt (byts s) := fun x hx => by
  unfold byts at hx
  obtain ⟨y, _, rfl⟩ := List.mem_map.1 hx
  exact y.toNat_lt

theorem okS_okD (l : List Nat) (h : Byt l) : okS (strN l) ↔ okD l = true := by
  unfold okS okD isD
  rw [strN_size, byts_of l h]
  simp only [Bool.and_eq_true, decide_eq_true_eq, List.all_eq_true]

theorem parse_l (l : List Nat) (h : Byt l) (w : World) : Calls Tryz.prog 27 #[.string (strN l)] w (GivesB (if okD l = true then lim (numD l) else []) (okD l) w) := by
  by_cases hk : okD l = true
  · rw [if_pos hk, hk]
    have := parse_any (strN l) w ((okS_okD l h).2 hk)
    unfold numS at this
    rw [byts_of l h] at this
    exact this
  · have hf : okD l = false := by simpa using hk
    rw [if_neg hk, hf]
    exact parse_no (strN l) w (fun h' => hk ((okS_okD l h).1 h'))

theorem refParse_l (l : List Nat) (h : Byt l) (w : World) : Calls Tryz.prog 33 #[.string (strN l)] w (GivesB (if okD l = true then lim (numD l) else []) (okD l) w) := by
  by_cases hk : okD l = true
  · rw [if_pos hk, hk]
    have := refParse_any (strN l) w ((okS_okD l h).2 hk)
    unfold numS at this
    rw [byts_of l h] at this
    exact this
  · have hf : okD l = false := by simpa using hk
    rw [if_neg hk, hf]
    exact refParse_no (strN l) w (fun h' => hk ((okS_okD l h).1 h'))
end Go.Proofs.YtobmjcbjailclaaGreatDoor

/- The program's powers of ten, up to the thousandth. Condition: that bound. -/
namespace Go.Proofs.YtobmjcbjailclaaGreatDoor
set_option maxRecDepth 100000
open Go.RowKit

set_option maxHeartbeats 3200000 in
theorem ten_big (d : Nat) (w : World) (hd : d ≤ 1000) : Calls Tryz.prog 29 #[.int .i64 (d : Int)] w (Gives (lim (10 ^ d)) w) := by
  go_enter Tryz.func29, Tryz.ntmps29
  go_wp2_with fail
  refine (of_any 1 _ (by omega)).mono ?_
  rintro e w1 ⟨v1, rfl, h1, hb1⟩
  go_wp2_with fail
  have l0 : lim 1 = lim (10 ^ 0) := rfl
  rw [l0] at h1
  clear l0
  go_loopw [3, 6] (fun a i wr => ∃ k : Nat, k ≤ d ∧ i = .int .i64 (k : Nat) ∧ Nt wr w.heap.size wr.heap.size a (lim (10 ^ k)) ∧ Below w.heap.size w wr)
    (fun _ i _ => d - (intOf i).toNat)
  case atStart => exact ⟨0, Nat.zero_le _, rfl, h1, hb1⟩
  case round =>
    obtain ⟨k, hk, rfl, ha, hb⟩ := hrel
    clear h1 hb1
    by_cases hlt : k < d
    · have hlI : (k : Int) < (d : Int) := by omega
      have hl : (lim (10 ^ k)).length ≤ 1001 := lim_ten (Nat.pow_lt_pow_right (by omega) (Nat.lt_succ_self k)) (by omega)
      have dk := dig_lim (10 ^ k)
      have dt := dig_lim 10
      have lt : (lim 10).length ≤ 1 := lim_length_le (by omega)
      have V := Lib.hid (val_lim (10 ^ k))
      have V2 := Lib.hid (val_lim 10)
      have P : Hid (10 ^ k * 10 = 10 ^ (k + 1)) := (Nat.pow_succ ..).symm
      go_wp2_with fail
      refine (of_any 10 _ (by omega)).mono ?_
      rintro e w2 ⟨v2, rfl, h2, hb2⟩
      have ha2 := (ha.low (Nat.zero_le _)).after hb2
      have h2' := h2.low (Nat.zero_le _)
      have hb02 := hb.trans (hb2.mono hb.size)
      clear ha h2 hb hb2
      go_wp2_with fail
      refine (mul_any _ _ (lim (10 ^ k)) (lim 10) _ dk dt ha2 h2' (by omega) (by omega)).mono ?_
      rw [V.out, V2.out, P.out]
      rintro e w4 ⟨v4, rfl, h4, hb4⟩
      have h4' := h4.low hb02.size
      have hb04 := hb02.trans (hb4.mono hb02.size)
      clear h4 hb4 ha2 h2' hb02
      go_wp2_with fail
      go_roundw
      case rel => exact ⟨k + 1, by omega, by go_num, h4', hb04⟩
      case measure => simp [intOf]; omega
    · obtain rfl : k = d := by omega
      go_wp2_with fail
      go_ret
      exact ⟨_, rfl, ha, hb⟩

end Go.Proofs.YtobmjcbjailclaaGreatDoor

/- The library's Cut at one byte and CutPrefix, on lists of bytes. Condition: none. -/
namespace Go.Proofs.YtobmjcbjailclaaGreatDoor
set_option maxRecDepth 100000
open Go.RowKit Go.Shelf Go.Lib

theorem ofNat_eq {a b : Nat} (ha : a < 256) (hb : b < 256) : (UInt8.ofNat a == UInt8.ofNat b) = (a == b) := by
  by_cases h : a = b
  · subst h; simp
  · have h1 : UInt8.ofNat a ≠ UInt8.ofNat b := fun hc => h (by
      have := congrArg UInt8.toNat hc
      simp only [UInt8.toNat_ofNat'] at this
      omega)
    rw [beq_eq_false_iff_ne.2 h1, beq_eq_false_iff_ne.2 h]

theorem index_of (c : Nat) (hc : c < 256) : ∀ l : List Nat, Byt l → Lib.indexByte (l.map UInt8.ofNat) (UInt8.ofNat c) = if l.contains c = true then ((l.takeWhile (· != c)).length : Int) else -1
  | [], _ => rfl
  | b :: l, h => by
    have hb : b < 256 := h b (by simp)
    have ih := index_of c hc l fun x hx => h x (by simp [hx])
    rw [List.map_cons, Lib.indexByte, ih, ofNat_eq hb hc]
    by_cases hbc : b = c
    · subst hbc
      simp
    · have e1 : (b == c) = false := beq_eq_false_iff_ne.2 hbc
      have e2 : (b != c) = true := bne_iff_ne.2 hbc
      rw [e1]
      simp only [Bool.false_eq_true, if_false]
      by_cases hm : c ∈ l
      · have e3 : l.contains c = true := by simpa using hm
        have e4 : (b :: l).contains c = true := by simp [hm]
        rw [if_pos e3, if_pos e4, if_neg (by simp), List.takeWhile_cons, if_pos e2, List.length_cons]
        omega
      · have e3 : ¬ l.contains c = true := by simpa using hm
        have e4 : ¬ (b :: l).contains c = true := by simp [hm]; exact fun h => hbc h.symm
        rw [if_neg e3, if_neg e4]
        rfl

theorem take_tw (p : Nat → Bool) : ∀ l : List Nat, l.take (l.takeWhile p).length = l.takeWhile p
  | [] => rfl
  | a :: l => by
    by_cases h : p a = true
    · rw [List.takeWhile_cons, if_pos h, List.length_cons, List.take_succ_cons, take_tw p l]
    · rw [List.takeWhile_cons, if_neg h]; rfl
theorem drop_tw (p : Nat → Bool) : ∀ l : List Nat, l.drop (l.takeWhile p).length = l.dropWhile p
  | [] => rfl
  | a :: l => by
    by_cases h : p a = true
    · rw [List.takeWhile_cons, if_pos h, List.length_cons, List.drop_succ_cons, drop_tw p l, List.dropWhile_cons, if_pos h]
    · rw [List.takeWhile_cons, if_neg h, List.dropWhile_cons, if_neg h]; rfl

theorem tw_lt {c : Nat} : ∀ l : List Nat, c ∈ l → (l.takeWhile (· != c)).length < l.length
  | a :: l, h => by
    by_cases ha : a = c
    · subst ha
      simp
    · have h1 : (a != c) = true := bne_iff_ne.2 ha
      rw [List.takeWhile_cons, if_pos h1, List.length_cons, List.length_cons]
      have := tw_lt l ((List.mem_cons.1 h).resolve_left fun h => ha h.symm)
      omega
theorem tw_none {c : Nat} : ∀ l : List Nat, c ∉ l → l.takeWhile (· != c) = l ∧ l.dropWhile (· != c) = []
  | [], _ => ⟨rfl, rfl⟩
  | a :: l, h => by
    have ha : a ≠ c := fun hc => h (by simp [hc])
    have h1 : (a != c) = true := bne_iff_ne.2 ha
    obtain ⟨e1, e2⟩ := tw_none l fun hc => h (List.mem_cons_of_mem _ hc)
    rw [List.takeWhile_cons, if_pos h1, List.dropWhile_cons, if_pos h1, e1, e2]
    exact ⟨rfl, rfl⟩

set_option maxHeartbeats 1600000 in
theorem slCut_any (l : List Nat) (hl : Byt l) (c : Nat) (hc : c < 256) (h9 : l.length ≤ 1000000) (w : World) :
    Calls Tryz.prog 69 #[.string (strN l), .string ⟨#[UInt8.ofNat c]⟩] w fun e w' => e = .returned (.tuple #[.string (strN (l.takeWhile (· != c))), .string (strN ((l.dropWhile (· != c)).drop 1)), .bool (l.contains c)]) ∧ Below w.heap.size w w' := by
  have hix : ∀ w, Calls Tryz.prog 104 #[.string (strN l), .string ⟨#[UInt8.ofNat c]⟩] w fun e w' => e = .returned (.int .i64 (if l.contains c = true then ((l.takeWhile (· != c)).length : Int) else -1)) ∧ w' = w := fun w => by
    have := Any.stringslite_Index_one Tryz.lays219 (strN l) (UInt8.ofNat c) w
    have e : (strN l).data.toList = l.map UInt8.ofNat := by unfold strN; simp
    rw [e, index_of c hc l hl] at this
    exact this
  have HIX := Lib.hid hix
  clear hix
  by_cases hm : c ∈ l
  · have e3 : l.contains c = true := by simpa using hm
    have hlt := tw_lt l hm
    obtain ⟨M, hM⟩ : ∃ M, (l.takeWhile (· != c)).length = M := ⟨_, rfl⟩
    have x1 : (strN l).extract 0 M = strN (l.takeWhile (· != c)) := by rw [strN_take, ← hM, take_tw]
    have x2 : (strN l).extract (M + 1) l.length = strN ((l.dropWhile (· != c)).drop 1) := by rw [strN_drop _ _ _ (Nat.le_refl _), ← hM, ← drop_tw, List.drop_drop, Nat.add_comm]
    rw [e3]
    have HI2 : Hid (∀ w, Calls Tryz.prog 104 #[.string (strN l), .string ⟨#[UInt8.ofNat c]⟩] w fun e w' => e = .returned (.int .i64 (M : Int)) ∧ w' = w) := fun w => by
      have := HIX.out w
      rw [if_pos e3, hM] at this
      exact this
    have s1 := strN_size l
    rw [hM] at hlt
    generalize strN (l.takeWhile (· != c)) = t1 at *
    generalize strN ((l.dropWhile (· != c)).drop 1) = t2 at *
    generalize strN l = t at *
    clear HIX hm e3 hM hl
    rw [← s1] at x2 hlt h9
    clear s1
    go_enter Tryz.func69, Tryz.ntmps69
    go_wp2_with fail
    refine (HI2.out _).mono ?_
    rintro e w1 ⟨rfl, rfl⟩
    clear HI2
    have p1 : (0 : Int) ≤ (M : Int) := by omega
    have p2 : (M : Int) ≤ (t.size : Int) := by omega
    have p3 : (M : Int) + 1 ≤ (t.size : Int) := by omega
    go_wp2_with fail
    go_quiet (fail)
    go_wp2_with fail
    go_ret3
    exact ⟨rfl, ⟨rfl, rfl, rfl, Nat.le_refl _, fun _ _ => rfl⟩⟩
  · have e3 : l.contains c = false := by simpa using hm
    obtain ⟨y1, y2⟩ := tw_none l hm
    rw [e3, y1, y2]
    have HI2 : Hid (∀ w, Calls Tryz.prog 104 #[.string (strN l), .string ⟨#[UInt8.ofNat c]⟩] w fun e w' => e = .returned (.int .i64 (-1)) ∧ w' = w) := fun w => by
      have := HIX.out w
      rw [if_neg (by rw [e3]; simp)] at this
      exact this
    generalize strN l = t at *
    clear HIX hm e3 y1 y2 hl
    go_enter Tryz.func69, Tryz.ntmps69
    go_wp2_with fail
    refine (HI2.out _).mono ?_
    rintro e w1 ⟨rfl, rfl⟩
    clear HI2
    go_wp2_with fail
    go_ret3
    exact ⟨rfl, Below.refl _ _⟩

theorem cut_any (l : List Nat) (hl : Byt l) (c : Nat) (hc : c < 256) (h9 : l.length ≤ 1000000) (w : World) :
    Calls Tryz.prog 26 #[.string (strN l), .string ⟨#[UInt8.ofNat c]⟩] w fun e w' => e = .returned (.tuple #[.string (strN (l.takeWhile (· != c))), .string (strN ((l.dropWhile (· != c)).drop 1)), .bool (l.contains c)]) ∧ Below w.heap.size w w' := by
  have hcon := fun w => slCut_any l hl c hc h9 w
  generalize strN (l.takeWhile (· != c)) = t1 at *
  generalize strN ((l.dropWhile (· != c)).drop 1) = t2 at *
  generalize strN l = t at *
  generalize l.contains c = b at *
  have HC := Lib.hid hcon
  clear hcon hl
  go_enter Tryz.func26, Tryz.ntmps26
  go_wp2_with fail
  refine (HC.out _).mono ?_
  rintro e w1 ⟨rfl, hb⟩
  clear HC
  go_wp2_with fail
  go_ret3
  exact ⟨rfl, hb⟩

/-- What stands behind a minus, and whether it stands there. -/
def strp (l : List Nat) : Bool × List Nat := match l with
  | [] => (false, [])
  | x :: r => if x = 45 then (true, r) else (false, x :: r)

theorem cutPrefix_any (l : List Nat) (hl : Byt l) (w : World) :
    Calls Tryz.prog 25 #[.string (strN l), .string ⟨#[45]⟩] w fun e w' => e = .returned (.tuple #[.string (strN (strp l).2), .bool (strp l).1]) ∧ w' = w := by
  have := Any.strings_CutPrefix Tryz.lays103 (strN l) ⟨#[45]⟩ w
  have e : (strN l).data.toList = l.map UInt8.ofNat := by unfold strN; simp
  rw [e] at this
  have e1 : Lib.hasPrefix (l.map UInt8.ofNat) [45] = (strp l).1 ∧ Lib.trimPrefix (l.map UInt8.ofNat) [45] = (strp l).2.map UInt8.ofNat := by
    cases l with
    | nil => exact ⟨rfl, rfl⟩
    | cons x r =>
      have hx : x < 256 := hl x (by simp)
      have hp : Lib.hasPrefix ((x :: r).map UInt8.ofNat) [45] = ((45 : Nat) == x) := by
        unfold Lib.hasPrefix
        rw [List.map_cons, List.isPrefixOf, ← ofNat_eq (by omega : 45 < 256) hx]
        show ((UInt8.ofNat 45 == UInt8.ofNat x) && _) = _
        simp
      by_cases h : x = 45
      · subst h
        unfold Lib.trimPrefix
        rw [hp]
        exact ⟨rfl, rfl⟩
      · have h2 : ((45 : Nat) == x) = false := beq_eq_false_iff_ne.2 fun hc => h hc.symm
        have e : strp (x :: r) = (false, x :: r) := if_neg h
        rw [e]
        unfold Lib.trimPrefix
        rw [hp, h2]
        exact ⟨rfl, rfl⟩
  show Calls Tryz.prog 25 _ _ _
  have e2 : (⟨((strp l).2.map UInt8.ofNat).toArray⟩ : ByteArray) = strN (strp l).2 := rfl
  rw [show (⟨#[45]⟩ : ByteArray).data.toList = [45] from rfl, e1.1, e1.2, e2] at this
  exact this
end Go.Proofs.YtobmjcbjailclaaGreatDoor

/- The program's 'Parse' of texts as numbers by its contract. Condition: none. -/
namespace Go.Proofs.YtobmjcbjailclaaGreatDoor
set_option maxRecDepth 100000
open Go.RowKit Go.Shelf Go.Lib

/-- What hands back a new number and no error. -/
def GivesP (q : Rat) (w : World) (e : Ending) (w' : World) : Prop :=
  ∃ v', e = .returned (.tuple #[v', .int .i64 0]) ∧ Rt w' w.heap.size w'.heap.size v' (qS q) (lim (qN q)) (lim q.den) ∧ Below w.heap.size w w'

theorem strp_len (l : List Nat) : (strp l).2.length ≤ l.length := by
  unfold strp
  cases l with
  | nil => simp
  | cons x r => simp only; split <;> simp
theorem strp_byt {l : List Nat} (h : Byt l) : Byt (strp l).2 := by
  unfold strp
  cases l with
  | nil => exact h
  | cons x r =>
    simp only
    split
    · exact fun y hy => h y (by simp [hy])
    · exact h

theorem dw_mem {p : Nat → Bool} {x : Nat} (l : List Nat) (h : x ∈ (l.dropWhile p).drop 1) : x ∈ l := (List.dropWhile_sublist p (l := l)).subset (List.mem_of_mem_drop h)
theorem dw_len (p : Nat → Bool) (l : List Nat) : ((l.dropWhile p).drop 1).length ≤ l.length := by
  have := (List.dropWhile_sublist p (l := l)).length_le
  rw [List.length_drop]
  omega
theorem tw_mem {p : Nat → Bool} {x : Nat} (l : List Nat) (h : x ∈ l.takeWhile p) : x ∈ l := (List.takeWhile_sublist p (l := l)).subset h
theorem tw_len (p : Nat → Bool) (l : List Nat) : (l.takeWhile p).length ≤ l.length := (List.takeWhile_sublist p (l := l)).length_le

theorem isEmpty_strN (a : List Nat) : (strN a).toList.isEmpty = decide (a.length = 0) := by rw [isEmpty_size, strN_size]

/-- What dec.Parse hands back. -/
def PostP (o : Option (Bool × Nat × Nat)) (w : World) (e : Ending) (w' : World) : Prop := match o with
  | some (neg, n, d) => GivesP (qv neg n d) w e w'
  | none => e = .returned (.tuple #[.agg #[.bool false, .slice none 0 0, .slice none 0 0], .int .i64 2]) ∧ Below w.heap.size w w'

theorem numD_len {b : List Nat} (h : okD b = true) : (lim (numD b)).length ≤ 400 := by
  unfold okD at h
  simp only [Bool.and_eq_true, decide_eq_true_eq] at h
  unfold numD
  have h1 : undec (b.map (· - 48)) < 10 ^ (b.map (· - 48)).length := undec_lt fun x hx => by
    obtain ⟨y, hy, rfl⟩ := List.mem_map.1 hx
    have := List.all_eq_true.1 h.2.2 y hy
    unfold isD at this
    have := of_decide_eq_true this
    omega
  exact lim_ten h1 (by rw [List.length_map]; exact h.2.1)

theorem prOf_q (s : Bool) (vn vd : Value) (n d : List Nat) (w : World) (dn : Dig n) (dd : Dig d) (hn : Nt w 0 w.heap.size vn n) (hd : Nt w 0 w.heap.size vd d) (ln : n.length ≤ 1000) (ld : d.length ≤ 1000) :
    Calls Tryz.prog 28 #[.bool s, vn, vd] w (GivesF (qv s (val n) (val d)) w) := by
  have := prOf_any s vn vd n d w dn dd hn hd ln ld
  obtain ⟨e1, e2, e3⟩ := nr_q s (val n) (val d)
  rw [e1, e2, e3] at this
  exact this

set_option maxHeartbeats 3200000 in
theorem decParse_long (l : List Nat) (w : World) (h4 : 400 < l.length) :
    Calls Tryz.prog 6 #[.string (strN l)] w fun e w' => e = .returned (.tuple #[.agg #[.bool false, .slice none 0 0, .slice none 0 0], .int .i64 3]) ∧ Below w.heap.size w w' := by
  have hs := strN_size l
  generalize strN l = t at *
  have hbig : (400 : Int) < (t.size : Int) := by omega
  clear hs h4
  have b0 := (Blk.new w 25 #[.bool false, .slice none 0 0, .slice none 0 0]).alloc (.cells #[.bool false, .slice none 0 0, .slice none 0 0] 25)
  have b1 := Blk.new (w.alloc (.cells #[.bool false, .slice none 0 0, .slice none 0 0] 25)) 25 #[.bool false, .slice none 0 0, .slice none 0 0]
  have hB : Below w.heap.size w ((w.alloc (.cells #[.bool false, .slice none 0 0, .slice none 0 0] 25)).alloc (.cells #[.bool false, .slice none 0 0, .slice none 0 0] 25)) := ((Below.refl _ _).alloc (Nat.le_refl _) _).alloc (by simp) _
  have es : (w.alloc (.cells #[.bool false, .slice none 0 0, .slice none 0 0] 25)).heap.size = w.heap.size + 1 := by simp
  rw [es] at b1
  clear es
  go_enter Tryz.func6, Tryz.ntmps6
  go_wp2_with fail
  generalize ((w.alloc (.cells #[.bool false, .slice none 0 0, .slice none 0 0] 25)).alloc (.cells #[.bool false, .slice none 0 0, .slice none 0 0] 25)) = w2 at *
  have e0 : w2.cell? ⟨w.heap.size, 0, none⟩ = some (.bool false) := b0.cell 0
  have e1 : w2.cell? ⟨w.heap.size, 1, none⟩ = some (.slice none 0 0) := b0.cell 1
  have e2 : w2.cell? ⟨w.heap.size, 2, none⟩ = some (.slice none 0 0) := b0.cell 2
  refine bodyPost_ret (v := .tuple #[.agg #[.bool false, .slice none 0 0, .slice none 0 0], .int .i64 3]) ?_ rfl ⟨rfl, hB⟩
  simp [results, Tryz.results6, go_sem, e0, e1, e2]

set_option maxHeartbeats 6400000 in
theorem decParse_any (l : List Nat) (hl : Byt l) (h4 : l.length ≤ 400) (o : Option (Bool × Nat × Nat)) (ho : wayA (strp l).1 (strp l).2 = o) (w : World) :
    Calls Tryz.prog 6 #[.string (strN l)] w (PostP o w) := by
  have hs := strN_size l
  have hcp := fun w => cutPrefix_any l hl w
  have hrb := strp_byt hl
  have hr4 := Nat.le_trans (strp_len l) h4
  obtain ⟨neg, hneg⟩ : ∃ b, (strp l).1 = b := ⟨_, rfl⟩
  obtain ⟨r, hr⟩ : ∃ r, (strp l).2 = r := ⟨_, rfl⟩
  rw [hneg, hr] at ho
  rw [hr] at hrb hr4
  rw [hneg, hr] at hcp
  have HCP := Lib.hid hcp
  have hct := fun w => cut_any r hrb 46 (by omega) (by omega) w
  have HCT := Lib.hid hct
  have hct7 := fun w => cut_any r hrb 47 (by omega) (by omega) w
  have HCT7 := Lib.hid hct7
  generalize strN l = t at *
  have hbig : ¬ (400 : Int) < (t.size : Int) := by omega
  have HRB := Lib.hid hrb
  clear hcp hneg hr hs h4 hl hct hct7 hrb
  have b0 := (Blk.new w 25 #[.bool false, .slice none 0 0, .slice none 0 0]).alloc (.cells #[.bool false, .slice none 0 0, .slice none 0 0] 25)
  have b1 := Blk.new (w.alloc (.cells #[.bool false, .slice none 0 0, .slice none 0 0] 25)) 25 #[.bool false, .slice none 0 0, .slice none 0 0]
  have hB : Below w.heap.size w ((w.alloc (.cells #[.bool false, .slice none 0 0, .slice none 0 0] 25)).alloc (.cells #[.bool false, .slice none 0 0, .slice none 0 0] 25)) := ((Below.refl _ _).alloc (Nat.le_refl _) _).alloc (by simp) _
  have es : (w.alloc (.cells #[.bool false, .slice none 0 0, .slice none 0 0] 25)).heap.size = w.heap.size + 1 := by simp
  rw [es] at b1
  clear es
  by_cases h46 : r.contains 46 = true
  · obtain ⟨a, ha⟩ : ∃ a, r.takeWhile (· != 46) = a := ⟨_, rfl⟩
    obtain ⟨b, hb⟩ : ∃ b, (r.dropWhile (· != 46)).drop 1 = b := ⟨_, rfl⟩
    have hW : o = if a.length ≠ 0 ∧ okD b = true ∧ okD (a ++ b) = true then some (neg, numD (a ++ b), 10 ^ b.length) else none := by
      rw [← ho]
      unfold wayA
      rw [if_pos h46, ha, hb]
    have hab : Byt a := fun x hx => HRB.out x (tw_mem r (ha ▸ hx))
    have hbb : Byt b := fun x hx => HRB.out x (dw_mem r (hb ▸ hx))
    have hlb : b.length ≤ 400 := by rw [← hb]; exact Nat.le_trans (dw_len _ _) hr4
    have hla : a.length ≤ 400 := by rw [← ha]; exact Nat.le_trans (tw_len _ _) hr4
    have HC : Hid (∀ w, Calls Tryz.prog 26 #[.string (strN r), .string ⟨#[46]⟩] w fun e w' => e = .returned (.tuple #[.string (strN a), .string (strN b), .bool true]) ∧ Below w.heap.size w w') := fun w => by
      have := HCT.out w
      rw [ha, hb, h46] at this
      exact this
    have HPB : Hid (∀ w, Calls Tryz.prog 27 #[.string (strN b)] w (GivesB (if okD b = true then lim (numD b) else []) (okD b) w)) := fun w => parse_l b hbb w
    have HPA : Hid (∀ w, Calls Tryz.prog 27 #[.string (strN (a ++ b))] w (GivesB (if okD (a ++ b) = true then lim (numD (a ++ b)) else []) (okD (a ++ b)) w)) := fun w => parse_l (a ++ b) (fun x hx => (List.mem_append.1 hx).elim (hab x) (hbb x)) w
    have hadd : ∀ W : World, (Op.stringOp .add (strN a) (strN b)).run Tryz.prog W = .ok (.string (strN (a ++ b))) W := fun W => add_str a b (by omega) W
    have hem := isEmpty_strN a
    have hsb := strN_size b
    have HTB : Hid (∀ w, Calls Tryz.prog 29 #[.int .i64 (b.length : Int)] w (Gives (lim (10 ^ b.length)) w)) := fun w => ten_big b.length w (by omega)
    have ltb : (lim (10 ^ b.length)).length ≤ 1000 := lim_ten (Nat.pow_lt_pow_right (by omega) (Nat.lt_succ_self b.length)) (by omega)
    have HLN : Hid (okD (a ++ b) = true → (lim (numD (a ++ b))).length ≤ 400) := fun h => numD_len h
    have HW := Lib.hid hW
    obtain ⟨q, hq⟩ : ∃ q, qv neg (numD (a ++ b)) (10 ^ b.length) = q := ⟨_, rfl⟩
    have HQ := Lib.hid hq
    have HOF : Hid (∀ (vn vd : Value) (w : World), okD (a ++ b) = true → Nt w 0 w.heap.size vn (lim (numD (a ++ b))) → Nt w 0 w.heap.size vd (lim (10 ^ b.length)) → Calls Tryz.prog 28 #[.bool neg, vn, vd] w (GivesF q w)) := fun vn vd w hk h1 h2 => by
      have := prOf_q neg vn vd (lim (numD (a ++ b))) (lim (10 ^ b.length)) w (dig_lim _) (dig_lim _) h1 h2 (Nat.le_trans (HLN.out hk) (by omega)) ltb
      rw [val_lim, val_lim, HQ.out] at this
      exact this
    clear ho hW ha hb h46 hab hbb HRB HCT HCT7 hr4 hq ltb HLN
    obtain ⟨za, hza⟩ : ∃ z, decide (a.length = 0) = z := ⟨_, rfl⟩
    rw [hza] at hem
    have HZA := Lib.hid hza
    clear hza
    generalize strN a = ta at *
    generalize strN (a ++ b) = tab at *
    rw [← hsb] at hlb
    rw [show ((b.length : Nat) : Int) = (((strN b).size : Nat) : Int) by rw [hsb]] at HTB
    generalize strN b = tb at *
    generalize strN r = tr at *
    clear hsb
    go_enter Tryz.func6, Tryz.ntmps6
    go_wp2_with fail
    generalize ((w.alloc (.cells #[.bool false, .slice none 0 0, .slice none 0 0] 25)).alloc (.cells #[.bool false, .slice none 0 0, .slice none 0 0] 25)) = w2 at *
    refine (HCP.out _).mono ?_
    rintro e w3 ⟨rfl, rfl⟩
    clear HCP
    go_wp2_with fail
    refine (HC.out _).mono ?_
    rintro e w4 ⟨rfl, hb⟩
    replace hB := hB.trans (hb.mono hB.size)
    replace b0 := b0.below hb b0.lt
    replace b1 := b1.below hb b1.lt
    clear hb
    clear HC
    go_wp2_with fail
    refine (HPB.out _).mono ?_
    rintro e w5 ⟨v5, rfl, h5, hb⟩
    replace hB := hB.trans (hb.mono hB.size)
    replace b0 := b0.below hb b0.lt
    replace b1 := b1.below hb b1.lt
    clear hb
    clear HPB h5
    go_wp2_with fail
    refine (HPA.out _).mono ?_
    rintro e w6 ⟨v6, rfl, h6, hb⟩
    replace h6 := h6.low (Nat.zero_le _)
    replace hB := hB.trans (hb.mono hB.size)
    replace b0 := b0.below hb b0.lt
    replace b1 := b1.below hb b1.lt
    clear hb
    clear HPA hadd
    by_cases c1 : za = true
    · have HO : Hid (o = none) := by
        show _ = _
        rw [HW.out, if_neg]
        rintro ⟨h, _⟩
        exact h (of_decide_eq_true (HZA.out.trans c1))
      rw [c1] at hem
      clear HW HZA c1 h6 HTB HOF
      have c0 := b1.cell 0
      have c1 := b1.cell 1
      have c2 := b1.cell 2
      have r0 := b0.cell 0
      have r1 := b0.cell 1
      have r2 := b0.cell 2
      have f0 := b0.free 0
      have f1 := b0.free 1
      have f2 := b0.free 2
      obtain ⟨e0, e1, e2, _, hBf⟩ := store3 b0 hB (Nat.le_refl _) false (.slice none 0 0) (.slice none 0 0) (Nt.nil w6 (w.heap.size + 1) w6.heap.size) (Nt.nil w6 (w.heap.size + 1) w6.heap.size)
      have HBF := Lib.hid hBf
      clear hBf b0 b1 hB
      unfold St3 at *
      go_wp2_with fail
      clear r0 r1 r2 f0 f1 f2 c0 c1 c2
      generalize ((World.setCell w6 ⟨w.heap.size, 0, none⟩ (.bool false)).setCell ⟨w.heap.size, 1, none⟩ (.slice none 0 0)).setCell ⟨w.heap.size, 2, none⟩ (.slice none 0 0) = wz at *
      refine bodyPost_ret (v := .tuple #[.agg #[.bool false, .slice none 0 0, .slice none 0 0], .int .i64 2]) ?_ rfl (by rw [HO.out]; exact ⟨rfl, HBF.out⟩)
      simp [results, Tryz.results6, go_sem, e0, e1, e2]
    · have c1' : za = false := by simpa using c1
      rw [c1'] at hem
      have hz0 : Hid (a.length ≠ 0) := of_decide_eq_false (HZA.out.trans c1')
      clear HZA c1 c1'
      by_cases c2 : okD b = true
      · rw [c2]
        by_cases c3 : okD (a ++ b) = true
        · have HO : Hid (o = some (neg, numD (a ++ b), 10 ^ b.length)) := by
            show _ = _
            rw [HW.out, if_pos ⟨hz0.out, c2, c3⟩]
          rw [if_pos c3] at h6
          rw [c3]
          have HOF2 : Hid (∀ (vn vd : Value) (w : World), Nt w 0 w.heap.size vn (lim (numD (a ++ b))) → Nt w 0 w.heap.size vd (lim (10 ^ b.length)) → Calls Tryz.prog 28 #[.bool neg, vn, vd] w (GivesF q w)) := fun vn vd w h1 h2 => HOF.out vn vd w c3 h1 h2
          clear HW hz0 c2 c3 HOF
          go_wp2_with fail
          refine (HTB.out _).mono ?_
          rintro e w7 ⟨v7, rfl, h7, hb⟩
          replace h7 := h7.low (Nat.zero_le _)
          replace h6 := h6.after hb
          replace hB := hB.trans (hb.mono hB.size)
          replace b0 := b0.below hb b0.lt
          replace b1 := b1.below hb b1.lt
          clear hb
          clear HTB
          go_wp2_with fail
          refine (HOF2.out _ _ _ h6 h7).mono ?_
          rintro e w8 ⟨v8, rfl, ⟨an, ad, rfl, han, had⟩, hb⟩
          have lw := b1.lt
          replace hB := hB.trans (hb.mono hB.size)
          replace b0 := b0.below hb b0.lt
          replace han := han.low (Nat.le_of_lt lw)
          replace had := had.low (Nat.le_of_lt lw)
          have han2 := han
          have had2 := had
          obtain ⟨A8, c8, rfl, m8⟩ := nt_len han2
          obtain ⟨A9, c9, rfl, m9⟩ := nt_len had2
          obtain ⟨e0, e1, e2, hR, hBf⟩ := store3 b0 hB (Nat.le_refl _) (qS q) (.slice A8 (lim (qN q)).length c8) (.slice A9 (lim q.den).length c9) han had
          have r0 := b0.cell 0
          have r1 := b0.cell 1
          have r2 := b0.cell 2
          have f0 := b0.free 0
          have f1 := b0.free 1
          have f2 := b0.free 2
          have HR := Lib.hid hR
          have HBF := Lib.hid hBf
          clear han had han2 had2 hR hBf hb hB b0 b1
          unfold St3 at *
          go_wp2_with fail
          clear r0 r1 r2 f0 f1 f2
          generalize ((World.setCell w8 ⟨w.heap.size, 0, none⟩ (.bool (qS q))).setCell ⟨w.heap.size, 1, none⟩ (.slice A8 (lim (qN q)).length c8)).setCell ⟨w.heap.size, 2, none⟩ (.slice A9 (lim q.den).length c9) = wz at *
          refine bodyPost_ret (v := .tuple #[.agg #[.bool (qS q), .slice A8 (lim (qN q)).length c8, .slice A9 (lim q.den).length c9], .int .i64 0]) ?_ rfl (by rw [HO.out]; show GivesP (qv _ _ _) _ _ _; rw [HQ.out]; exact ⟨_, rfl, HR.out, HBF.out⟩)
          simp [results, Tryz.results6, go_sem, e0, e1, e2]
        · have HO : Hid (o = none) := by
            show _ = _
            rw [HW.out, if_neg]
            rintro ⟨_, _, h⟩
            exact c3 h
          have c3' : okD (a ++ b) = false := by simpa using c3
          rw [c3']
          clear HW hz0 c2 c3 c3' h6 HTB HOF
          have c0 := b1.cell 0
          have c1 := b1.cell 1
          have c2 := b1.cell 2
          have r0 := b0.cell 0
          have r1 := b0.cell 1
          have r2 := b0.cell 2
          have f0 := b0.free 0
          have f1 := b0.free 1
          have f2 := b0.free 2
          obtain ⟨e0, e1, e2, _, hBf⟩ := store3 b0 hB (Nat.le_refl _) false (.slice none 0 0) (.slice none 0 0) (Nt.nil w6 (w.heap.size + 1) w6.heap.size) (Nt.nil w6 (w.heap.size + 1) w6.heap.size)
          have HBF := Lib.hid hBf
          clear hBf b0 b1 hB
          unfold St3 at *
          go_wp2_with fail
          clear r0 r1 r2 f0 f1 f2 c0 c1 c2
          generalize ((World.setCell w6 ⟨w.heap.size, 0, none⟩ (.bool false)).setCell ⟨w.heap.size, 1, none⟩ (.slice none 0 0)).setCell ⟨w.heap.size, 2, none⟩ (.slice none 0 0) = wz at *
          refine bodyPost_ret (v := .tuple #[.agg #[.bool false, .slice none 0 0, .slice none 0 0], .int .i64 2]) ?_ rfl (by rw [HO.out]; exact ⟨rfl, HBF.out⟩)
          simp [results, Tryz.results6, go_sem, e0, e1, e2]
      · have HO : Hid (o = none) := by
          show _ = _
          rw [HW.out, if_neg]
          rintro ⟨_, h, _⟩
          exact c2 h
        have c2' : okD b = false := by simpa using c2
        rw [c2']
        clear HW hz0 c2 c2' h6 HTB HOF
        have c0 := b1.cell 0
        have c1 := b1.cell 1
        have c2 := b1.cell 2
        have r0 := b0.cell 0
        have r1 := b0.cell 1
        have r2 := b0.cell 2
        have f0 := b0.free 0
        have f1 := b0.free 1
        have f2 := b0.free 2
        obtain ⟨e0, e1, e2, _, hBf⟩ := store3 b0 hB (Nat.le_refl _) false (.slice none 0 0) (.slice none 0 0) (Nt.nil w6 (w.heap.size + 1) w6.heap.size) (Nt.nil w6 (w.heap.size + 1) w6.heap.size)
        have HBF := Lib.hid hBf
        clear hBf b0 b1 hB
        unfold St3 at *
        go_wp2_with fail
        clear r0 r1 r2 f0 f1 f2 c0 c1 c2
        generalize ((World.setCell w6 ⟨w.heap.size, 0, none⟩ (.bool false)).setCell ⟨w.heap.size, 1, none⟩ (.slice none 0 0)).setCell ⟨w.heap.size, 2, none⟩ (.slice none 0 0) = wz at *
        refine bodyPost_ret (v := .tuple #[.agg #[.bool false, .slice none 0 0, .slice none 0 0], .int .i64 2]) ?_ rfl (by rw [HO.out]; exact ⟨rfl, HBF.out⟩)
        simp [results, Tryz.results6, go_sem, e0, e1, e2]
  · have hc46 : r.contains 46 = false := by simpa using h46
    obtain ⟨y1, y2⟩ := tw_none (c := 46) r (by simpa using hc46)
    have HC : Hid (∀ w, Calls Tryz.prog 26 #[.string (strN r), .string ⟨#[46]⟩] w fun e w' => e = .returned (.tuple #[.string (strN r), .string ⟨#[]⟩, .bool false]) ∧ Below w.heap.size w w') := fun w => by
      have := HCT.out w
      rw [y1, y2, hc46] at this
      exact this
    clear HCT hc46 y1 y2
    by_cases h47 : r.contains 47 = true
    · obtain ⟨a, ha⟩ : ∃ a, r.takeWhile (· != 47) = a := ⟨_, rfl⟩
      obtain ⟨b, hb⟩ : ∃ b, (r.dropWhile (· != 47)).drop 1 = b := ⟨_, rfl⟩
      have hW : o = if okD a = true ∧ okD b = true ∧ numD b ≠ 0 then some (neg, numD a, numD b) else none := by
        rw [← ho]
        unfold wayA
        rw [if_neg h46, if_pos h47, ha, hb]
      have hab : Byt a := fun x hx => HRB.out x (tw_mem r (ha ▸ hx))
      have hbb : Byt b := fun x hx => HRB.out x (dw_mem r (hb ▸ hx))
      have HC7 : Hid (∀ w, Calls Tryz.prog 26 #[.string (strN r), .string ⟨#[47]⟩] w fun e w' => e = .returned (.tuple #[.string (strN a), .string (strN b), .bool true]) ∧ Below w.heap.size w w') := fun w => by
        have := HCT7.out w
        rw [ha, hb, h47] at this
        exact this
      have HPA : Hid (∀ w, Calls Tryz.prog 27 #[.string (strN a)] w (GivesB (if okD a = true then lim (numD a) else []) (okD a) w)) := fun w => parse_l a hab w
      have HPB : Hid (∀ w, Calls Tryz.prog 27 #[.string (strN b)] w (GivesB (if okD b = true then lim (numD b) else []) (okD b) w)) := fun w => parse_l b hbb w
      have HW := Lib.hid hW
      obtain ⟨q, hq⟩ : ∃ q, qv neg (numD a) (numD b) = q := ⟨_, rfl⟩
      have HQ := Lib.hid hq
      have HOF : Hid (∀ (vn vd : Value) (w : World), okD a = true → okD b = true → Nt w 0 w.heap.size vn (lim (numD a)) → Nt w 0 w.heap.size vd (lim (numD b)) → Calls Tryz.prog 28 #[.bool neg, vn, vd] w (GivesF q w)) := fun vn vd w hk hk2 h1 h2 => by
        have := prOf_q neg vn vd (lim (numD a)) (lim (numD b)) w (dig_lim _) (dig_lim _) h1 h2 (Nat.le_trans (numD_len hk) (by omega)) (Nat.le_trans (numD_len hk2) (by omega))
        rw [val_lim, val_lim, HQ.out] at this
        exact this
      clear ho hW ha hb h46 h47 hab hbb HRB HCT7 hr4 hq
      generalize strN a = ta at *
      generalize strN b = tb at *
      generalize strN r = tr at *
      go_enter Tryz.func6, Tryz.ntmps6
      go_wp2_with fail
      generalize ((w.alloc (.cells #[.bool false, .slice none 0 0, .slice none 0 0] 25)).alloc (.cells #[.bool false, .slice none 0 0, .slice none 0 0] 25)) = w2 at *
      refine (HCP.out _).mono ?_
      rintro e w3 ⟨rfl, rfl⟩
      clear HCP
      go_wp2_with fail
      refine (HC.out _).mono ?_
      rintro e w4 ⟨rfl, hb⟩
      replace hB := hB.trans (hb.mono hB.size)
      replace b0 := b0.below hb b0.lt
      replace b1 := b1.below hb b1.lt
      clear hb
      clear HC
      go_wp2_with fail
      refine (HC7.out _).mono ?_
      rintro e w5 ⟨rfl, hb⟩
      replace hB := hB.trans (hb.mono hB.size)
      replace b0 := b0.below hb b0.lt
      replace b1 := b1.below hb b1.lt
      clear hb
      clear HC7
      go_wp2_with fail
      refine (HPA.out _).mono ?_
      rintro e w6 ⟨v5, rfl, h5, hb⟩
      replace h5 := h5.low (Nat.zero_le _)
      replace hB := hB.trans (hb.mono hB.size)
      replace b0 := b0.below hb b0.lt
      replace b1 := b1.below hb b1.lt
      clear hb
      clear HPA
      go_wp2_with fail
      refine (HPB.out _).mono ?_
      rintro e w7 ⟨v6, rfl, h6, hb⟩
      replace h6 := h6.low (Nat.zero_le _)
      replace h5 := h5.after hb
      replace hB := hB.trans (hb.mono hB.size)
      replace b0 := b0.below hb b0.lt
      replace b1 := b1.below hb b1.lt
      clear hb
      clear HPB
      by_cases c2 : okD a = true
      · rw [if_pos c2] at h5
        rw [c2]
        by_cases c3 : okD b = true
        · rw [if_pos c3] at h6
          rw [c3]
          have h62 := h6
          obtain ⟨A6, k6, rfl, m6⟩ := nt_len h62
          clear h62
          by_cases c4 : numD b = 0
          · have HO : Hid (o = none) := by
              show _ = _
              rw [HW.out, if_neg]
              rintro ⟨_, _, h⟩
              exact h c4
            have hz : (((lim (numD b)).length : Nat) : Int) = 0 := by rw [c4, lim_zero]; rfl
            generalize (lim (numD b)).length = N6 at *
            clear HW c2 c3 c4 HOF h5 h6 HQ
            have c0 := b1.cell 0
            have c1 := b1.cell 1
            have c2 := b1.cell 2
            have r0 := b0.cell 0
            have r1 := b0.cell 1
            have r2 := b0.cell 2
            have f0 := b0.free 0
            have f1 := b0.free 1
            have f2 := b0.free 2
            obtain ⟨e0, e1, e2, _, hBf⟩ := store3 b0 hB (Nat.le_refl _) false (.slice none 0 0) (.slice none 0 0) (Nt.nil w7 (w.heap.size + 1) w7.heap.size) (Nt.nil w7 (w.heap.size + 1) w7.heap.size)
            have HBF := Lib.hid hBf
            clear hBf b0 b1 hB
            unfold St3 at *
            go_wp2_with fail
            clear r0 r1 r2 f0 f1 f2 c0 c1 c2
            generalize ((World.setCell w7 ⟨w.heap.size, 0, none⟩ (.bool false)).setCell ⟨w.heap.size, 1, none⟩ (.slice none 0 0)).setCell ⟨w.heap.size, 2, none⟩ (.slice none 0 0) = wz at *
            refine bodyPost_ret (v := .tuple #[.agg #[.bool false, .slice none 0 0, .slice none 0 0], .int .i64 2]) ?_ rfl (by rw [HO.out]; exact ⟨rfl, HBF.out⟩)
            simp [results, Tryz.results6, go_sem, e0, e1, e2]
          · have HO : Hid (o = some (neg, numD a, numD b)) := by
              show _ = _
              rw [HW.out, if_pos ⟨c2, c3, c4⟩]
            have hz : ¬ (((lim (numD b)).length : Nat) : Int) = 0 := by
              intro h
              have : (lim (numD b)).length = 0 := by omega
              exact c4 (lim_eq_nil.1 (List.length_eq_zero_iff.1 this))
            have HOF2 : Hid (∀ (vn vd : Value) (w : World), Nt w 0 w.heap.size vn (lim (numD a)) → Nt w 0 w.heap.size vd (lim (numD b)) → Calls Tryz.prog 28 #[.bool neg, vn, vd] w (GivesF q w)) := fun vn vd w h1 h2 => HOF.out vn vd w c2 c3 h1 h2
            clear HW c2 c3 c4 HOF
            go_wp2_with fail
            refine (HOF2.out _ _ _ h5 h6).mono ?_
            rintro e w8 ⟨v8, rfl, ⟨an, ad, rfl, han, had⟩, hb⟩
            have lw := b1.lt
            replace hB := hB.trans (hb.mono hB.size)
            replace b0 := b0.below hb b0.lt
            replace han := han.low (Nat.le_of_lt lw)
            replace had := had.low (Nat.le_of_lt lw)
            have han2 := han
            have had2 := had
            obtain ⟨A8, c8, rfl, m8⟩ := nt_len han2
            obtain ⟨A9, c9, rfl, m9⟩ := nt_len had2
            obtain ⟨e0, e1, e2, hR, hBf⟩ := store3 b0 hB (Nat.le_refl _) (qS q) (.slice A8 (lim (qN q)).length c8) (.slice A9 (lim q.den).length c9) han had
            have r0 := b0.cell 0
            have r1 := b0.cell 1
            have r2 := b0.cell 2
            have f0 := b0.free 0
            have f1 := b0.free 1
            have f2 := b0.free 2
            have HR := Lib.hid hR
            have HBF := Lib.hid hBf
            clear han had han2 had2 hR hBf hb hB b0 b1
            unfold St3 at *
            go_wp2_with fail
            clear r0 r1 r2 f0 f1 f2
            generalize ((World.setCell w8 ⟨w.heap.size, 0, none⟩ (.bool (qS q))).setCell ⟨w.heap.size, 1, none⟩ (.slice A8 (lim (qN q)).length c8)).setCell ⟨w.heap.size, 2, none⟩ (.slice A9 (lim q.den).length c9) = wz at *
            refine bodyPost_ret (v := .tuple #[.agg #[.bool (qS q), .slice A8 (lim (qN q)).length c8, .slice A9 (lim q.den).length c9], .int .i64 0]) ?_ rfl (by rw [HO.out]; show GivesP (qv _ _ _) _ _ _; rw [HQ.out]; exact ⟨_, rfl, HR.out, HBF.out⟩)
            simp [results, Tryz.results6, go_sem, e0, e1, e2]
        · have HO : Hid (o = none) := by
            show _ = _
            rw [HW.out, if_neg]
            rintro ⟨_, h, _⟩
            exact c3 h
          have c3' : okD b = false := by simpa using c3
          rw [c3']
          clear HW c2 c3 c3' h5 h6 HOF
          have c0 := b1.cell 0
          have c1 := b1.cell 1
          have c2 := b1.cell 2
          have r0 := b0.cell 0
          have r1 := b0.cell 1
          have r2 := b0.cell 2
          have f0 := b0.free 0
          have f1 := b0.free 1
          have f2 := b0.free 2
          obtain ⟨e0, e1, e2, _, hBf⟩ := store3 b0 hB (Nat.le_refl _) false (.slice none 0 0) (.slice none 0 0) (Nt.nil w7 (w.heap.size + 1) w7.heap.size) (Nt.nil w7 (w.heap.size + 1) w7.heap.size)
          have HBF := Lib.hid hBf
          clear hBf b0 b1 hB
          unfold St3 at *
          go_wp2_with fail
          clear r0 r1 r2 f0 f1 f2 c0 c1 c2
          generalize ((World.setCell w7 ⟨w.heap.size, 0, none⟩ (.bool false)).setCell ⟨w.heap.size, 1, none⟩ (.slice none 0 0)).setCell ⟨w.heap.size, 2, none⟩ (.slice none 0 0) = wz at *
          refine bodyPost_ret (v := .tuple #[.agg #[.bool false, .slice none 0 0, .slice none 0 0], .int .i64 2]) ?_ rfl (by rw [HO.out]; exact ⟨rfl, HBF.out⟩)
          simp [results, Tryz.results6, go_sem, e0, e1, e2]
      · have HO : Hid (o = none) := by
          show _ = _
          rw [HW.out, if_neg]
          rintro ⟨h, _⟩
          exact c2 h
        have c2' : okD a = false := by simpa using c2
        rw [c2']
        clear HW c2 c2' h5 h6 HOF
        have c0 := b1.cell 0
        have c1 := b1.cell 1
        have c2 := b1.cell 2
        have r0 := b0.cell 0
        have r1 := b0.cell 1
        have r2 := b0.cell 2
        have f0 := b0.free 0
        have f1 := b0.free 1
        have f2 := b0.free 2
        obtain ⟨e0, e1, e2, _, hBf⟩ := store3 b0 hB (Nat.le_refl _) false (.slice none 0 0) (.slice none 0 0) (Nt.nil w7 (w.heap.size + 1) w7.heap.size) (Nt.nil w7 (w.heap.size + 1) w7.heap.size)
        have HBF := Lib.hid hBf
        clear hBf b0 b1 hB
        unfold St3 at *
        go_wp2_with fail
        clear r0 r1 r2 f0 f1 f2 c0 c1 c2
        generalize ((World.setCell w7 ⟨w.heap.size, 0, none⟩ (.bool false)).setCell ⟨w.heap.size, 1, none⟩ (.slice none 0 0)).setCell ⟨w.heap.size, 2, none⟩ (.slice none 0 0) = wz at *
        refine bodyPost_ret (v := .tuple #[.agg #[.bool false, .slice none 0 0, .slice none 0 0], .int .i64 2]) ?_ rfl (by rw [HO.out]; exact ⟨rfl, HBF.out⟩)
        simp [results, Tryz.results6, go_sem, e0, e1, e2]
    · have hc47 : r.contains 47 = false := by simpa using h47
      obtain ⟨y1, y2⟩ := tw_none (c := 47) r (by simpa using hc47)
      have hW : o = if okD r = true then some (neg, numD r, 1) else none := by
        rw [← ho]
        unfold wayA
        rw [if_neg h46, if_neg h47]
      have HC7 : Hid (∀ w, Calls Tryz.prog 26 #[.string (strN r), .string ⟨#[47]⟩] w fun e w' => e = .returned (.tuple #[.string (strN r), .string ⟨#[]⟩, .bool false]) ∧ Below w.heap.size w w') := fun w => by
        have := HCT7.out w
        rw [y1, y2, hc47] at this
        exact this
      have HPA : Hid (∀ w, Calls Tryz.prog 27 #[.string (strN r)] w (GivesB (if okD r = true then lim (numD r) else []) (okD r) w)) := fun w => parse_l r HRB.out w
      have HPB : Hid (∀ w, Calls Tryz.prog 27 #[.string ⟨#[49]⟩] w (GivesB (lim 1) true w)) := fun w => by
        have := parse_l [49] (fun x hx => by rw [List.mem_singleton] at hx; omega) w
        have e1 : okD [49] = true := by decide
        have e2 : numD [49] = 1 := by decide
        rw [e1, if_pos rfl, e2] at this
        exact this
      have HW := Lib.hid hW
      obtain ⟨q, hq⟩ : ∃ q, qv neg (numD r) 1 = q := ⟨_, rfl⟩
      have HQ := Lib.hid hq
      have HOF : Hid (∀ (vn vd : Value) (w : World), okD r = true → True → Nt w 0 w.heap.size vn (lim (numD r)) → Nt w 0 w.heap.size vd (lim 1) → Calls Tryz.prog 28 #[.bool neg, vn, vd] w (GivesF q w)) := fun vn vd w hk hk2 h1 h2 => by
        have := prOf_q neg vn vd (lim (numD r)) (lim 1) w (dig_lim _) (dig_lim _) h1 h2 (Nat.le_trans (numD_len hk) (by omega)) (Nat.le_trans (lim_length_le (k := 1) (by omega)) (by omega))
        rw [val_lim, val_lim, HQ.out] at this
        exact this
      clear ho hW h46 h47 hc47 y1 y2 HRB HCT7 hr4 hq
      generalize strN r = tr at *
      go_enter Tryz.func6, Tryz.ntmps6
      go_wp2_with fail
      generalize ((w.alloc (.cells #[.bool false, .slice none 0 0, .slice none 0 0] 25)).alloc (.cells #[.bool false, .slice none 0 0, .slice none 0 0] 25)) = w2 at *
      refine (HCP.out _).mono ?_
      rintro e w3 ⟨rfl, rfl⟩
      clear HCP
      go_wp2_with fail
      refine (HC.out _).mono ?_
      rintro e w4 ⟨rfl, hb⟩
      replace hB := hB.trans (hb.mono hB.size)
      replace b0 := b0.below hb b0.lt
      replace b1 := b1.below hb b1.lt
      clear hb
      clear HC
      go_wp2_with fail
      refine (HC7.out _).mono ?_
      rintro e w5 ⟨rfl, hb⟩
      replace hB := hB.trans (hb.mono hB.size)
      replace b0 := b0.below hb b0.lt
      replace b1 := b1.below hb b1.lt
      clear hb
      clear HC7
      go_wp2_with fail
      refine (HPA.out _).mono ?_
      rintro e w6 ⟨v5, rfl, h5, hb⟩
      replace h5 := h5.low (Nat.zero_le _)
      replace hB := hB.trans (hb.mono hB.size)
      replace b0 := b0.below hb b0.lt
      replace b1 := b1.below hb b1.lt
      clear hb
      clear HPA
      go_wp2_with fail
      refine (HPB.out _).mono ?_
      rintro e w7 ⟨v6, rfl, h6, hb⟩
      replace h6 := h6.low (Nat.zero_le _)
      replace h5 := h5.after hb
      replace hB := hB.trans (hb.mono hB.size)
      replace b0 := b0.below hb b0.lt
      replace b1 := b1.below hb b1.lt
      clear hb
      clear HPB
      have h62 := h6
      obtain ⟨A6, k6, rfl, m6⟩ := nt_len h62
      clear h62
      have hz : ¬ (((lim 1).length : Nat) : Int) = 0 := by
        intro h
        have : (lim 1).length = 0 := by omega
        exact absurd (lim_eq_nil.1 (List.length_eq_zero_iff.1 this)) (by omega)
      by_cases c2 : okD r = true
      · rw [if_pos c2] at h5
        rw [c2]
        have HO : Hid (o = some (neg, numD r, 1)) := by
          show _ = _
          rw [HW.out, if_pos c2]
        have HOF2 : Hid (∀ (vn vd : Value) (w : World), Nt w 0 w.heap.size vn (lim (numD r)) → Nt w 0 w.heap.size vd (lim 1) → Calls Tryz.prog 28 #[.bool neg, vn, vd] w (GivesF q w)) := fun vn vd w h1 h2 => HOF.out vn vd w c2 trivial h1 h2
        clear HW c2 HOF
        go_wp2_with fail
        refine (HOF2.out _ _ _ h5 h6).mono ?_
        rintro e w8 ⟨v8, rfl, ⟨an, ad, rfl, han, had⟩, hb⟩
        have lw := b1.lt
        replace hB := hB.trans (hb.mono hB.size)
        replace b0 := b0.below hb b0.lt
        replace han := han.low (Nat.le_of_lt lw)
        replace had := had.low (Nat.le_of_lt lw)
        have han2 := han
        have had2 := had
        obtain ⟨A8, c8, rfl, m8⟩ := nt_len han2
        obtain ⟨A9, c9, rfl, m9⟩ := nt_len had2
        obtain ⟨e0, e1, e2, hR, hBf⟩ := store3 b0 hB (Nat.le_refl _) (qS q) (.slice A8 (lim (qN q)).length c8) (.slice A9 (lim q.den).length c9) han had
        have r0 := b0.cell 0
        have r1 := b0.cell 1
        have r2 := b0.cell 2
        have f0 := b0.free 0
        have f1 := b0.free 1
        have f2 := b0.free 2
        have HR := Lib.hid hR
        have HBF := Lib.hid hBf
        clear han had han2 had2 hR hBf hb hB b0 b1
        unfold St3 at *
        go_wp2_with fail
        clear r0 r1 r2 f0 f1 f2
        generalize ((World.setCell w8 ⟨w.heap.size, 0, none⟩ (.bool (qS q))).setCell ⟨w.heap.size, 1, none⟩ (.slice A8 (lim (qN q)).length c8)).setCell ⟨w.heap.size, 2, none⟩ (.slice A9 (lim q.den).length c9) = wz at *
        refine bodyPost_ret (v := .tuple #[.agg #[.bool (qS q), .slice A8 (lim (qN q)).length c8, .slice A9 (lim q.den).length c9], .int .i64 0]) ?_ rfl (by rw [HO.out]; show GivesP (qv _ _ _) _ _ _; rw [HQ.out]; exact ⟨_, rfl, HR.out, HBF.out⟩)
        simp [results, Tryz.results6, go_sem, e0, e1, e2]
      · have HO : Hid (o = none) := by
          show _ = _
          rw [HW.out, if_neg c2]
        have c2' : okD r = false := by simpa using c2
        rw [c2']
        clear HW c2 c2' h5 h6 HOF
        have c0 := b1.cell 0
        have c1 := b1.cell 1
        have c2 := b1.cell 2
        have r0 := b0.cell 0
        have r1 := b0.cell 1
        have r2 := b0.cell 2
        have f0 := b0.free 0
        have f1 := b0.free 1
        have f2 := b0.free 2
        obtain ⟨e0, e1, e2, _, hBf⟩ := store3 b0 hB (Nat.le_refl _) false (.slice none 0 0) (.slice none 0 0) (Nt.nil w7 (w.heap.size + 1) w7.heap.size) (Nt.nil w7 (w.heap.size + 1) w7.heap.size)
        have HBF := Lib.hid hBf
        clear hBf b0 b1 hB
        unfold St3 at *
        go_wp2_with fail
        clear r0 r1 r2 f0 f1 f2 c0 c1 c2
        generalize ((World.setCell w7 ⟨w.heap.size, 0, none⟩ (.bool false)).setCell ⟨w.heap.size, 1, none⟩ (.slice none 0 0)).setCell ⟨w.heap.size, 2, none⟩ (.slice none 0 0) = wz at *
        refine bodyPost_ret (v := .tuple #[.agg #[.bool false, .slice none 0 0, .slice none 0 0], .int .i64 2]) ?_ rfl (by rw [HO.out]; exact ⟨rfl, HBF.out⟩)
        simp [results, Tryz.results6, go_sem, e0, e1, e2]
end Go.Proofs.YtobmjcbjailclaaGreatDoor

/- The reference's count of leading digits, its powers of ten, its whole numbers, whether a number is 0. Condition: bounds. -/
namespace Go.Proofs.YtobmjcbjailclaaGreatDoor
set_option maxRecDepth 100000
open Go.RowKit Go.Shelf

theorem tw_get {p : Nat → Bool} : ∀ (l : List Nat) (k : Nat) (h : k < (l.takeWhile p).length) (h' : k < l.length), p l[k] = true
  | a :: l, 0, h, _ => by
    by_cases ha : p a = true
    · exact ha
    · rw [List.takeWhile_cons, if_neg ha] at h; simp at h
  | a :: l, k + 1, h, h' => by
    by_cases ha : p a = true
    · rw [List.takeWhile_cons, if_pos ha, List.length_cons] at h
      exact tw_get l k (by omega) (by simpa using h')
    · rw [List.takeWhile_cons, if_neg ha] at h; simp at h
theorem tw_end {p : Nat → Bool} : ∀ (l : List Nat) (h' : (l.takeWhile p).length < l.length), p (l[(l.takeWhile p).length]'h') = false
  | a :: l, h' => by
    by_cases ha : p a = true
    · simp only [List.takeWhile_cons, if_pos ha, List.length_cons] at h' ⊢
      exact tw_end l (by omega)
    · simp only [List.takeWhile_cons, if_neg ha] at h' ⊢
      simpa using ha
theorem tw_le (p : Nat → Bool) (l : List Nat) : (l.takeWhile p).length ≤ l.length := by
  have := (List.takeWhile_sublist p (l := l)).length_le
  exact this

theorem strN_get (l : List Nat) (hl : Byt l) (k : Nat) (h : k < (strN l).size) (h' : k < l.length) : ((strN l)[k]'h).toNat = l[k] := by
  rw [← byts_get _ k h]
  have e := byts_of l hl
  have : (byts (strN l))[k]? = l[k]? := by rw [e]
  rw [List.getElem?_eq_getElem (by rw [byts_length]; exact h), List.getElem?_eq_getElem h'] at this
  exact Option.some.inj this

set_option maxHeartbeats 3200000 in
theorem run_any (l : List Nat) (hl : Byt l) (h9 : l.length ≤ 1000000) (w : World) :
    Calls Tryz.prog 32 #[.string (strN l)] w fun e w' => e = .returned (.int .i64 ((l.takeWhile isD).length : Int)) ∧ w = w' := by
  obtain ⟨K, hK⟩ : ∃ K, (l.takeWhile isD).length = K := ⟨_, rfl⟩
  have hKl : K ≤ l.length := by rw [← hK]; exact tw_le _ _
  have hs := strN_size l
  have hget : ∀ k (h : k < (strN l).size), ((strN l)[k]'h).toNat = l[k]'(by rw [hs] at h; exact h) := fun k h => strN_get l hl k h _
  have hin : ∀ k (h : k < K) (h' : k < (strN l).size), 48 ≤ ((strN l)[k]'h').toNat ∧ ((strN l)[k]'h').toNat ≤ 57 := fun k h h' => by
    rw [hget k h']
    have := tw_get (p := isD) l k (by omega) (by omega)
    unfold isD at this
    exact of_decide_eq_true this
  have hout : ∀ (h' : K < (strN l).size), ¬ (48 ≤ ((strN l)[K]'h').toNat ∧ ((strN l)[K]'h').toNat ≤ 57) := fun h' => by
    rw [hget K h']
    have h2 : (l.takeWhile isD).length < l.length := by omega
    have := tw_end (p := isD) l h2
    simp only [hK] at this
    unfold isD at this
    exact of_decide_eq_false this
  rw [hK]
  clear hget hK
  rw [← hs] at hKl h9
  generalize strN l = t at *
  have HIN := Lib.hid hin
  have HOUT := Lib.hid hout
  clear hin hout hl hs
  go_enter Tryz.func32, Tryz.ntmps32
  go_wp2_with fail
  go_loop [3] (fun n => ∃ k : Nat, k ≤ K ∧ n = .int .i64 (k : Int)) (fun n => K - (RowKit.intOf n).toNat)
  case atStart => exact ⟨0, Nat.zero_le _, rfl⟩
  case round =>
    obtain ⟨k, hk, rfl⟩ := hrel
    by_cases hlt : k < K
    · have hkt : k < t.size := by omega
      obtain ⟨x1, x2⟩ := HIN.out k hlt hkt
      have y0 : (k : Int) < (t.size : Int) := by omega
      have y1 : (48 : Int) ≤ ((t[k]'hkt).toNat : Int) := by omega
      have y2 : ((t[k]'hkt).toNat : Int) ≤ 57 := by omega
      go_wp2_with fail
      go_round
      case rel => exact ⟨k + 1, by omega, by go_num⟩
      case measure => simp [RowKit.intOf]; omega
    · obtain rfl : k = K := by omega
      by_cases hkt : k < t.size
      · have hn := HOUT.out hkt
        have y0 : (k : Int) < (t.size : Int) := by omega
        by_cases z1 : 48 ≤ (t[k]'hkt).toNat
        · have y1 : (48 : Int) ≤ ((t[k]'hkt).toNat : Int) := by omega
          have y2 : ¬ ((t[k]'hkt).toNat : Int) ≤ 57 := by omega
          clear hn
          go_wp2_with fail
          go_ret
          exact ⟨rfl, rfl⟩
        · have y1 : ¬ (48 : Int) ≤ ((t[k]'hkt).toNat : Int) := by omega
          clear hn
          go_wp2_with fail
          go_ret
          exact ⟨rfl, rfl⟩
      · have y0 : ¬ (k : Int) < (t.size : Int) := by omega
        go_wp2_with fail
        go_ret
        exact ⟨rfl, rfl⟩

set_option maxHeartbeats 3200000 in
theorem refTen3_any (d : Nat) (w : World) (hd : d ≤ 1000) : Calls Tryz.prog 34 #[.int .i64 (d : Int)] w (Gives (lim (10 ^ d)) w) := by
  obtain ⟨h1, hb1⟩ := nt_laid w 43 [1] (by simp)
  have h1' : Nt (w.alloc (.cells #[.int .u32 1] 43)) w.heap.size (w.alloc (.cells #[.int .u32 1] 43)).heap.size (.slice (some ⟨w.heap.size, 0, none⟩) 1 1) (lim (10 ^ 0)) := by
    have l0 : lim (10 ^ 0) = [1] := lim_one (by omega) (by omega)
    rw [l0]
    have hb : Lb (w.alloc (.cells #[.int .u32 1] 43)) w.heap.size 43 [1] := Blk.new w _ _
    exact hb.reads (n := 1) (by simp) (by unfold maxLen; simp)
  clear h1
  go_enter Tryz.func34, Tryz.ntmps34
  go_wp2_with fail
  go_loopw [3, 4] (fun a i wr => ∃ k : Nat, k ≤ d ∧ i = .int .i64 (k : Nat) ∧ Nt wr w.heap.size wr.heap.size a (lim (10 ^ k)) ∧ Below w.heap.size w wr)
    (fun _ i _ => d - (RowKit.intOf i).toNat)
  case atStart => exact ⟨0, Nat.zero_le _, rfl, h1', hb1⟩
  case round =>
    obtain ⟨k, hk, rfl, ha, hb⟩ := hrel
    clear h1' hb1
    by_cases hlt : k < d
    · have hlI : (k : Int) < (d : Int) := by omega
      have hl : (lim (10 ^ k)).length ≤ 1001 := lim_ten (Nat.pow_lt_pow_right (by omega) (Nat.lt_succ_self k)) (by omega)
      have dk := dig_lim (10 ^ k)
      have D10 : Dig [10] := by intro x hx; simp at hx; omega
      have V : Hid (val (lim (10 ^ k)) * val [10] = 10 ^ (k + 1)) := by
        show _ = _
        rw [val_lim, Nat.pow_succ]
        rfl
      obtain ⟨h2, hb2⟩ := nt_laid wr 43 [10] (by simp)
      have ha2 := ((ha.low (Nat.zero_le _)).alloc (Nat.le_refl _) (.cells #[.int .u32 10] 43)).up (B' := (wr.alloc (.cells #[.int .u32 10] 43)).heap.size) (by simp)
      have hb02 := hb.trans (hb2.mono hb.size)
      clear ha hb hb2
      go_wp2_with fail
      refine (refMul_any _ _ (lim (10 ^ k)) [10] _ dk D10 ha2 h2 (by omega) (by simp)).mono ?_
      rw [V.out]
      rintro e w4 ⟨v4, rfl, h4, hb4⟩
      have h4' := h4.low hb02.size
      have hb04 := hb02.trans (hb4.mono hb02.size)
      clear h4 hb4 ha2 h2 hb02
      go_wp2_with fail
      go_roundw
      case rel => exact ⟨k + 1, by omega, by go_num, h4', hb04⟩
      case measure => simp [RowKit.intOf]; omega
    · obtain rfl : k = d := by omega
      go_wp2_with fail
      go_ret
      exact ⟨_, rfl, ha, hb⟩

set_option maxHeartbeats 3200000 in
theorem refInt_any (n : Nat) (w : World) (hn : n < 1000000000) : Calls Tryz.prog 31 #[.int .i64 (n : Int)] w (GivesF (qv false n 1) w) := by
  have k1 : IntKind.u64.wrap (n : Int) = (n : Int) := IntWalk.u64_in _ (by omega)
  have k2 : ¬ (n : Int) < 0 := by omega
  have ln : (lim n).length ≤ 1 := lim_length_le (by omega)
  have VN : Hid (val (lim n) = n) := val_lim n
  have hcon : Hid (∀ (vn vd : Value) (w : World), Nt w 0 w.heap.size vn (lim n) → Nt w 0 w.heap.size vd [1] → Calls Tryz.prog 21 #[.bool false, vn, vd] w (GivesF (qv false n 1) w)) := fun vn vd w h1 h2 => by
    have := ratOf_q false vn vd (lim n) [1] w (dig_lim n) (by intro x hx; simp at hx; omega) h1 h2 (by omega) (by simp)
    rw [VN.out] at this
    exact this
  have hof := fun w => refOf_any n w (by omega)
  have HOF := Lib.hid hof
  generalize qv false n 1 = q at *
  clear hof
  go_enter Tryz.func31, Tryz.ntmps31
  go_wp2_with fail
  have b1 := Blk.new w 25 #[.bool false, .slice none 0 0, .slice none 0 0]
  have hB : Below w.heap.size w (w.alloc (.cells #[.bool false, .slice none 0 0, .slice none 0 0] 25)) := (Below.refl _ _).alloc (Nat.le_refl _) _
  generalize w.alloc (.cells #[.bool false, .slice none 0 0, .slice none 0 0] 25) = w2 at *
  refine (HOF.out _).mono ?_
  rintro e w3 ⟨v3, rfl, h3, hb⟩
  have q1 := (b1.below hb b1.lt).alloc (.cells #[.int .u32 1] 43)
  replace hB := hB.trans (hb.mono hB.size)
  obtain ⟨h4, hb4⟩ := nt_laid w3 43 [1] (by simp)
  have h3' := ((h3.low (Nat.zero_le _)).alloc (Nat.le_refl _) (.cells #[.int .u32 1] 43)).up (B' := (w3.alloc (.cells #[.int .u32 1] 43)).heap.size) (by simp)
  replace hB := hB.trans (hb4.mono hB.size)
  clear h3 hb hb4 b1 HOF
  go_wp2_with fail
  refine (hcon.out _ _ _ h3' h4).mono ?_
  rintro e w5 ⟨v5, rfl, ⟨an, ad, rfl, han, had⟩, hb⟩
  have q5 := q1.below hb q1.lt
  have han' := han
  have had' := had
  obtain ⟨A8, c8, rfl, m8⟩ := nt_len han'
  obtain ⟨A9, c9, rfl, m9⟩ := nt_len had'
  obtain ⟨e0, e1, e2, hR, hBf⟩ := store3 q5 (hB.trans (hb.mono hB.size)) (Nat.le_refl _) (qS q) (.slice A8 (lim (qN q)).length c8) (.slice A9 (lim q.den).length c9) (han.low q1.lt) (had.low q1.lt)
  have r0 := q5.cell 0
  have r1 := q5.cell 1
  have r2 := q5.cell 2
  have f0 := q5.free 0
  have f1 := q5.free 1
  have f2 := q5.free 2
  have HR := Lib.hid hR
  have HBF := Lib.hid hBf
  clear q1 q5 han had han' had' hR hBf hb h3' h4 hB
  unfold St3 at *
  go_wp2_with fail
  clear r0 r1 r2 f0 f1 f2
  generalize ((World.setCell w5 ⟨w.heap.size, 0, none⟩ (.bool (qS q))).setCell ⟨w.heap.size, 1, none⟩ (.slice A8 (lim (qN q)).length c8)).setCell ⟨w.heap.size, 2, none⟩ (.slice A9 (lim q.den).length c9) = W at *
  refine bodyPost_ret (v := .agg #[.bool (qS q), .slice A8 (lim (qN q)).length c8, .slice A9 (lim q.den).length c9]) ?_ rfl ⟨_, rfl, HR.out, HBF.out⟩
  simp [results, Tryz.results31, go_sem, e0, e1, e2]

set_option maxHeartbeats 1600000 in
theorem refZero_any (v : Value) (q : Rat) (k : Nat) (w : World) (h : RQ w 0 w.heap.size v q k) (hk : k ≤ 1000) : Calls Tryz.prog 7 #[v] w fun e w' => e = .returned (.bool (decide (q = 0))) ∧ Below w.heap.size w w' := by
  have hcon := fun (w : World) (h : RQ w 0 w.heap.size v q k) => ratNorm_q v q k w h hk
  have HC := Lib.hid hcon
  obtain ⟨s, n, d, ⟨vn, vd, rfl, hn, hd⟩, rest⟩ := h
  have hlq : ((((lim (qN q)).length : Nat) : Int) == 0) = decide (q = 0) := by
    by_cases h0 : q = 0
    · rw [decide_eq_true h0, qN_zero.2 h0, lim_zero]; rfl
    · rw [decide_eq_false h0]
      have h1 : qN q ≠ 0 := fun h => h0 (qN_zero.1 h)
      have h2 : (lim (qN q)).length ≠ 0 := fun h => h1 (lim_eq_nil.1 (List.eq_nil_of_length_eq_zero h))
      exact beq_eq_false_iff_ne.2 (by omega)
  have HR : Hid (RQ w 0 w.heap.size (.agg #[.bool s, vn, vd]) q k) := ⟨s, n, d, ⟨vn, vd, rfl, hn, hd⟩, rest⟩
  clear hcon hn hd rest
  go_enter Tryz.func7, Tryz.ntmps7
  go_wp2_with fail
  have b0 := Blk.new w 25 #[.bool s, vn, vd]
  have hB : Below w.heap.size w (w.alloc (.cells #[.bool s, vn, vd] 25)) := (Below.refl _ _).alloc (Nat.le_refl _) _
  generalize w.alloc (.cells #[.bool s, vn, vd] 25) = w2 at *
  have c0 := b0.cell 0
  have c1 := b0.cell 1
  have c2 := b0.cell 2
  go_wp2_with fail
  refine (HC.out _ (HR.out.after hB)).mono ?_
  rintro e w3 ⟨v3, rfl, ⟨an, ad, rfl, h1, h2⟩, hb⟩
  obtain ⟨A8, c8, rfl, m8⟩ := nt_len h1
  obtain ⟨A9, c9, rfl, m9⟩ := nt_len h2
  replace hB := hB.trans (hb.mono hB.size)
  clear h1 h2 hb c0 c1 c2 b0 HC HR
  have hfd : ∀ w : World, Sem.run Tryz.prog (Instr.field 25 (.agg #[.bool (qS q), .slice A8 (lim (qN q)).length c8, .slice A9 (lim q.den).length c9]) 1) w = .ok (.slice A8 (lim (qN q)).length c8) w := fun _ => by kernel_rfl
  go_wp2_with fail
  go_ret
  exact ⟨by rw [← hlq]; rfl, hB⟩
end Go.Proofs.YtobmjcbjailclaaGreatDoor

/- The third law's look at two rows of limbs. Condition: none. -/
namespace Go.Proofs.YtobmjcbjailclaaGreatDoor
set_option maxRecDepth 100000
open Go.RowKit

set_option maxHeartbeats 800000 in
theorem limbs3_any (u v : Value) (x y : List Nat) (w : World) (h : Nt w 0 w.heap.size u x) (h' : Nt w 0 w.heap.size v y) :
    Calls Tryz.prog 37 #[u, v] w fun e w' => e = .returned (.bool (eqb x y)) ∧ Below w.heap.size w w' := by
  obtain ⟨A, c, rfl, hc, hm, hA0, hx⟩ := h
  obtain ⟨A', c', rfl, hc', hm', hA0', hx'⟩ := h'
  unfold maxLen at hm hm'
  by_cases hxy : x.length = y.length
  · have hne : ((x.length : Int) != (y.length : Int)) = false := bne_false (by omega)
    have hyx : y.length ≤ x.length ∧ x.length ≤ y.length := by omega
    clear hxy
    go_enter Tryz.func37, Tryz.ntmps37
    go_wp2_with fail
    go_loopw [5] (fun i wr => ∃ k, k ≤ x.length ∧ i = .int .i64 (k : Nat) ∧ x.take k = y.take k ∧ Below w.heap.size w wr) (fun i _ => x.length - (intOf i).toNat)
    case atStart => exact ⟨0, Nat.zero_le _, rfl, rfl, Below.refl _ _⟩
    case round =>
      obtain ⟨k, hk, rfl, hv, hb⟩ := hrel
      have V := Lib.hid hv
      clear hv
      by_cases hlt : k < x.length
      · have hlt' : k < y.length := by omega
        obtain ⟨b, off, rfl, _, hbl, hcell⟩ := hx (by omega)
        obtain ⟨b', off', rfl, _, hbl', hcell'⟩ := hx' (by omega)
        have hc1 := (hb.cell (p := ⟨b, off + k, none⟩) hbl).trans (hcell k hlt)
        have hc2 := (hb.cell (p := ⟨b', off' + k, none⟩) hbl').trans (hcell' k hlt')
        have hI : (k : Int) < (y.length : Int) := by omega
        have hJ : (k : Int) < (x.length : Int) := by omega
        have hK : (0 : Int) ≤ (k : Int) := by omega
        clear hcell hcell' hx hx'
        by_cases he : x[k] = y[k]
        · have hv2 : x.take (k + 1) = y.take (k + 1) := by
            rw [List.take_add_one, List.take_add_one, V.out, List.getElem?_eq_getElem hlt, List.getElem?_eq_getElem hlt', he]
          have V2 := Lib.hid hv2
          have ht : (((x[k] : Nat) : Int) != ((y[k] : Nat) : Int)) = false := bne_false (by omega)
          clear hv2 he V
          generalize x[k] = p at *
          generalize y[k] = q at *
          go_wp2_with fail
          go_quiet (fail)
          go_wp2
          go_roundw
          case rel => exact ⟨k + 1, by omega, by go_num, V2.out, below_drewN hb _⟩
          case measure => simp [intOf]; omega
        · have ht : (((x[k] : Nat) : Int) != ((y[k] : Nat) : Int)) = true := bne_true (by omega)
          have e : eqb x y = false := decide_eq_false (fun e => he (by subst e; rfl))
          have E := Lib.hid e
          clear he e V
          generalize x[k] = p at *
          generalize y[k] = q at *
          go_wp2_with fail
          go_quiet (fail)
          go_wp2
          go_ret
          exact ⟨by rw [E.out]; rfl, below_drewN hb _⟩
      · obtain rfl : k = x.length := by omega
        have e : eqb x y = true := decide_eq_true (by
          have := V.out
          rw [List.take_length, List.take_of_length_le (by omega)] at this
          exact this)
        have E := Lib.hid e
        clear e V hx hx'
        go_wp2
        go_ret
        exact ⟨by rw [E.out]; rfl, hb⟩
  · have hne : ((x.length : Int) != (y.length : Int)) = true := bne_true (by omega)
    have e : eqb x y = false := decide_eq_false (fun e => hxy (by rw [e]))
    have E := Lib.hid e
    clear e hxy
    go_enter Tryz.func37, Tryz.ntmps37
    go_wp2
    go_ret
    exact ⟨by rw [E.out]; rfl, Below.refl _ _⟩
end Go.Proofs.YtobmjcbjailclaaGreatDoor

/- The reference's 'Parse' of texts of digits alone, and the third law's look at two numbers. Condition: that. -/
namespace Go.Proofs.YtobmjcbjailclaaGreatDoor
set_option maxRecDepth 100000
open Go.RowKit Go.Lib

theorem tw_self {p : Nat → Bool} : ∀ l : List Nat, l.all p = true → l.takeWhile p = l
  | [], _ => rfl
  | a :: l, h => by
    rw [List.all_cons, Bool.and_eq_true] at h
    rw [List.takeWhile_cons, if_pos h.1, tw_self l h.2]

set_option maxHeartbeats 3200000 in
theorem refDig_any (l : List Nat) (hl : Byt l) (hok : okD l = true) (w : World) :
    Calls Tryz.prog 9 #[.string (strN l)] w (GivesP (qv false (numD l) 1) w) := by
  have hok' := hok
  unfold okD at hok'
  simp only [Bool.and_eq_true, decide_eq_true_eq] at hok'
  obtain ⟨h1, h4, hall⟩ := hok'
  have hs := strN_size l
  have htw := tw_self l hall
  have hrun := fun w => run_any l hl (by omega) w
  rw [htw, ← hs] at hrun
  have hpar := fun w => refParse_l l hl w
  rw [hok, if_pos rfl] at hpar
  obtain ⟨q, hq⟩ : ∃ q, qv false (numD l) 1 = q := ⟨_, rfl⟩
  have HOF : Hid (∀ (vn vd : Value) (w : World), Nt w 0 w.heap.size vn (lim (numD l)) → Nt w 0 w.heap.size vd [1] → Calls Tryz.prog 21 #[.bool false, vn, vd] w (GivesF q w)) := fun vn vd w h1 h2 => by
    have := ratOf_q false vn vd (lim (numD l)) [1] w (dig_lim _) (by intro x hx; simp at hx; omega) h1 h2 (Nat.le_trans (numD_len hok) (by omega)) (by simp)
    rw [val_lim] at this
    rw [← hq]
    exact this
  rw [hq]
  have h0 : 0 < (strN l).size := by omega
  have hne45 : ¬ (((strN l)[0]'h0).toNat : Int) = 45 := by
    rw [strN_get l hl 0 h0 (by omega)]
    have := List.all_eq_true.1 hall _ (List.getElem_mem (l := l) (n := 0) (by omega))
    unfold isD at this
    have := of_decide_eq_true this
    omega
  have hbig : ¬ (400 : Int) < ((strN l).size : Int) := by omega
  have hz : ¬ ((strN l).size : Int) = 0 := by omega
  have x1 : (strN l).extract 0 (strN l).size = strN l := by
    rw [strN_take, hs, List.take_length]
  have x2 : (strN l).extract (strN l).size (strN l).size = ⟨#[]⟩ := by
    have := strN_drop l l.length l.length (Nat.le_refl _)
    rw [List.drop_length] at this
    rw [hs]
    exact this
  have hem : (strN l).toList.isEmpty = false := by rw [isEmpty_size, decide_eq_false (by omega)]
  have hnl : ¬ (strN l).toList = [] := by
    intro h
    rw [h] at hem
    cases hem
  have h45 : ((((strN l)[0]'h0).toNat : Int) == 45) = false := beq_eq_false_iff_ne.2 hne45
  have HR := Lib.hid hrun
  have HP := Lib.hid hpar
  generalize numD l = n at *
  generalize strN l = t at *
  clear hrun hpar htw hok hl hall h1 h4 hs hq
  have b0 := Blk.new w 25 #[.bool false, .slice none 0 0, .slice none 0 0]
  have hB : Below w.heap.size w (w.alloc (.cells #[.bool false, .slice none 0 0, .slice none 0 0] 25)) := (Below.refl _ _).alloc (Nat.le_refl _) _
  go_enter Tryz.func9, Tryz.ntmps9
  go_wp2_with fail
  generalize w.alloc (.cells #[.bool false, .slice none 0 0, .slice none 0 0] 25) = w2 at *
  refine (HR.out _).mono ?_
  rintro e w3 ⟨rfl, rfl⟩
  clear HR
  go_wp2_with fail
  go_quiet (fail)
  replace hB : Below w.heap.size w (w2.drewN nq) := below_drewN hB _
  replace b0 : Blk (w2.drewN nq) w.heap.size 25 #[.bool false, .slice none 0 0, .slice none 0 0] := b0
  generalize w2.drewN nq = w3 at *
  go_wp2_with fail
  refine (HP.out _).mono ?_
  rintro e w4 ⟨v4, rfl, h4, hb⟩
  replace h4 := h4.low (Nat.zero_le _)
  replace hB := hB.trans (hb.mono hB.size)
  replace b0 := b0.below hb b0.lt
  clear hb HP
  obtain ⟨h5, hb5⟩ := nt_laid w4 43 [1] (by simp)
  have h4' := (h4.alloc (Nat.le_refl _) (.cells #[.int .u32 1] 43)).up (B' := (w4.alloc (.cells #[.int .u32 1] 43)).heap.size) (by simp)
  replace b0 := b0.alloc (.cells #[.int .u32 1] 43)
  replace hB := hB.trans (hb5.mono hB.size)
  clear h4 hb5
  go_wp2_with fail
  refine (HOF.out _ _ _ h4' h5).mono ?_
  rintro e w8 ⟨v8, rfl, ⟨an, ad, rfl, han, had⟩, hb⟩
  have lw := b0.lt
  replace hB := hB.trans (hb.mono hB.size)
  replace b0 := b0.below hb b0.lt
  replace han := han.low lw
  replace had := had.low lw
  have han2 := han
  have had2 := had
  obtain ⟨A8, c8, rfl, m8⟩ := nt_len han2
  obtain ⟨A9, c9, rfl, m9⟩ := nt_len had2
  obtain ⟨e0, e1, e2, hR, hBf⟩ := store3 b0 hB (Nat.le_refl _) (qS q) (.slice A8 (lim (qN q)).length c8) (.slice A9 (lim q.den).length c9) han had
  have r0 := b0.cell 0
  have r1 := b0.cell 1
  have r2 := b0.cell 2
  have f0 := b0.free 0
  have f1 := b0.free 1
  have f2 := b0.free 2
  have HRR := Lib.hid hR
  have HBF := Lib.hid hBf
  clear han had han2 had2 hR hBf hb hB b0 h4' h5 HOF lw
  unfold St3 at *
  go_wp2_with fail
  clear r0 r1 r2 f0 f1 f2
  generalize ((World.setCell w8 ⟨w.heap.size, 0, none⟩ (.bool (qS q))).setCell ⟨w.heap.size, 1, none⟩ (.slice A8 (lim (qN q)).length c8)).setCell ⟨w.heap.size, 2, none⟩ (.slice A9 (lim q.den).length c9) = wz at *
  refine bodyPost_ret (v := .tuple #[.agg #[.bool (qS q), .slice A8 (lim (qN q)).length c8, .slice A9 (lim q.den).length c9], .int .i64 0]) ?_ rfl ⟨_, rfl, HRR.out, HBF.out⟩
  simp [results, Tryz.results9, go_sem, e0, e1, e2]

set_option maxHeartbeats 3200000 in
theorem one_any (u v : Value) (p q : Rat) (w : World) (s s' : Bool) (n n' d d' : List Nat) (h : Rt w 0 w.heap.size u s n d) (h' : Rt w 0 w.heap.size v s' n' d') (es : s = s') (en : n = n') (ed : d = d') :
    Calls Tryz.prog 10 #[u, v] w fun e w' => e = .returned (.bool true) ∧ Below w.heap.size w w' := by
  subst es en ed
  obtain ⟨vn, vd, rfl, hn, hd⟩ := h
  obtain ⟨un, ud, rfl, hn', hd'⟩ := h'
  have HL : Hid (∀ (u v : Value) (w : World) (x : List Nat), Nt w 0 w.heap.size u x → Nt w 0 w.heap.size v x → Calls Tryz.prog 37 #[u, v] w fun e w' => e = .returned (.bool true) ∧ Below w.heap.size w w') := fun u v w x h h' => by
    have := limbs3_any u v x x w h h'
    rw [eqb_rfl] at this
    exact this
  have b0 := (Blk.new w 25 #[.bool s, vn, vd]).alloc (.cells #[.bool s, un, ud] 25)
  have b1 := Blk.new (w.alloc (.cells #[.bool s, vn, vd] 25)) 25 #[.bool s, un, ud]
  have hB : Below w.heap.size w ((w.alloc (.cells #[.bool s, vn, vd] 25)).alloc (.cells #[.bool s, un, ud] 25)) := ((Below.refl _ _).alloc (Nat.le_refl _) _).alloc (by simp) _
  have es : (w.alloc (.cells #[.bool s, vn, vd] 25)).heap.size = w.heap.size + 1 := by simp
  rw [es] at b1
  clear es
  replace hn := hn.after hB
  replace hd := hd.after hB
  replace hn' := hn'.after hB
  replace hd' := hd'.after hB
  go_enter Tryz.func10, Tryz.ntmps10
  go_wp2_with fail
  generalize (w.alloc (.cells #[.bool s, vn, vd] 25)).alloc (.cells #[.bool s, un, ud] 25) = w2 at *
  have c0 := b0.cell 0
  have c1 := b0.cell 1
  have c2 := b0.cell 2
  have r0 := b1.cell 0
  have r1 := b1.cell 1
  have r2 := b1.cell 2
  have hss : (s == s) = true := by simp
  go_wp2_with fail
  refine (HL.out _ _ _ _ hn hn').mono ?_
  rintro e w3 ⟨rfl, hb⟩
  replace hd := hd.after hb
  replace hd' := hd'.after hb
  replace hB := hB.trans (hb.mono hB.size)
  replace b0 := b0.below hb b0.lt
  replace b1 := b1.below hb b1.lt
  clear hb c0 c1 c2 r0 r1 r2 hn hn'
  have c2 := b0.cell 2
  have r2 := b1.cell 2
  go_wp2_with fail
  refine (HL.out _ _ _ _ hd hd').mono ?_
  rintro e w4 ⟨rfl, hb⟩
  replace hB := hB.trans (hb.mono hB.size)
  clear hb c2 r2 hd hd' HL b0 b1
  go_wp2_with fail
  go_ret
  exact ⟨rfl, hB⟩
end Go.Proofs.YtobmjcbjailclaaGreatDoor

/- 'DecLong' returns true at any length and any digit. Condition: none. -/
namespace Go.Proofs.YtobmjcbjailclaaGreatDoor
set_option maxRecDepth 100000
open Go.RowKit Go.Lib

theorem wayA_dig (l : List Nat) (hok : okD l = true) : wayA (strp l).1 (strp l).2 = some (false, numD l, 1) := by
  have hok' := hok
  unfold okD at hok'
  simp only [Bool.and_eq_true, decide_eq_true_eq] at hok'
  obtain ⟨h1, h4, hall⟩ := hok'
  have hd : ∀ x ∈ l, 48 ≤ x ∧ x ≤ 57 := fun x hx => by
    have := List.all_eq_true.1 hall x hx
    unfold isD at this
    exact of_decide_eq_true this
  have hs : strp l = (false, l) := by
    cases l with
    | nil => rfl
    | cons x r =>
      have := hd x (by simp)
      unfold strp
      simp only
      rw [if_neg (by omega)]
  have h46 : ¬ l.contains 46 = true := fun h => by
    have := hd 46 (by simpa using h)
    omega
  have h47 : ¬ l.contains 47 = true := fun h => by
    have := hd 47 (by simpa using h)
    omega
  rw [hs]
  unfold wayA
  rw [if_neg h46, if_neg h47, if_pos hok]

theorem store3b (w : World) (t : TypeId) (s : Bool) (a b : Value) :
    Blk (w.alloc (.cells #[.bool s, a, b] t)) w.heap.size t #[.bool s, a, b] ∧ Below w.heap.size w (w.alloc (.cells #[.bool s, a, b] t)) :=
  ⟨Blk.new w t #[.bool s, a, b], (Below.refl _ _).alloc (Nat.le_refl _) _⟩

theorem byt_rep (N c : Nat) (hc : c ≤ 9) : Byt (List.replicate N (48 + c)) := fun x hx => by
  have := List.eq_of_mem_replicate hx
  omega
theorem okD_rep (N c : Nat) (hc : c ≤ 9) (h1 : 1 ≤ N) (h4 : N ≤ 400) : okD (List.replicate N (48 + c)) = true := by
  unfold okD
  simp only [Bool.and_eq_true, decide_eq_true_eq, List.length_replicate]
  refine ⟨h1, h4, List.all_eq_true.2 fun x hx => ?_⟩
  have := List.eq_of_mem_replicate hx
  unfold isD
  exact decide_eq_true (by omega)

set_option maxHeartbeats 6400000 in
theorem lawDecLong_any (n k : Int) (w : World) : Calls Tryz.prog 3 #[.int .i64 n, .int .i64 k] w fun e w' => e = .returned (.bool true) ∧ Below w.heap.size w w' := by
  by_cases hn1 : n < 1
  · go_enter Tryz.func3, Tryz.ntmps3
    go_wp2_with fail
    go_ret
    exact ⟨rfl, Below.refl _ _⟩
  by_cases hn4 : 450 < n
  · go_enter Tryz.func3, Tryz.ntmps3
    go_wp2_with fail
    go_ret
    exact ⟨rfl, Below.refl _ _⟩
  by_cases hk0 : k < 0
  · go_enter Tryz.func3, Tryz.ntmps3
    go_wp2_with fail
    go_ret
    exact ⟨rfl, Below.refl _ _⟩
  by_cases hk9 : 9 < k
  · go_enter Tryz.func3, Tryz.ntmps3
    go_wp2_with fail
    go_ret
    exact ⟨rfl, Below.refl _ _⟩
  obtain ⟨N, rfl⟩ : ∃ N : Nat, n = (N : Int) := ⟨n.toNat, by omega⟩
  obtain ⟨c, rfl⟩ : ∃ c : Nat, k = (c : Int) := ⟨k.toNat, by omega⟩
  have hc9 : c ≤ 9 := by omega
  have hN1 : 1 ≤ N := by omega
  have hN4 : N ≤ 450 := by omega
  obtain ⟨i0, hi, hz0, hz1, hz2⟩ := info_parts Tryz.info8
  have HD : Hid ((48 + (c : Int)) = ((48 + c : Nat) : Int)) := by show _ = _; omega
  go_enter Tryz.func3, Tryz.ntmps3
  go_wp2_with fail
  go_loopw [5, 6] (fun b i wr => ∃ j : Nat, j ≤ N ∧ i = .int .i64 (j : Nat) ∧ OwnB wr w.heap.size 5 b (List.replicate j (48 + c)) ∧ Below w.heap.size w wr)
    (fun _ i _ => N - (RowKit.intOf i).toNat)
  case atStart => exact ⟨0, Nat.zero_le _, rfl, OwnB.nil _ _ _, Below.refl _ _⟩
  case round =>
    obtain ⟨j, hj, rfl, hb, hB⟩ := hrel
    by_cases hlt : j < N
    · have hlI : (j : Int) < (N : Int) := by omega
      have hlen : (List.replicate j (48 + c)).length ≤ 1000000 := by rw [List.length_replicate]; omega
      have hbs : w.heap.size ≤ wr.heap.size := hB.size
      go_wp2_with (at_builtin; refine wpList_append_byte3 rfl _ _ 22 rfl w.heap.size 5 i0 Tryz.underlying22 hi hz0 hz1 hz2 _ (List.replicate j (48 + c)) rfl hb _ (48 + c) (congrArg (Value.int IntKind.u8) HD.out) rfl hlen hbs ?_)
      intro g cap w5 ho5 hb5 hk5 hg5 hl5
      have HR : Hid (List.replicate j (48 + c) ++ [48 + c] = List.replicate (j + 1) (48 + c)) := List.replicate_succ'.symm
      rw [HR.out] at ho5
      have hB5 := hB.trans hb5
      clear hb hB hb5 hk5 hg5 hl5
      go_wp2_with fail
      refine ⟨⟨j + 1, by omega, by go_num, ho5, hB5⟩, ?_⟩
      simp [RowKit.intOf]
      omega
    · obtain rfl : j = N := by omega
      obtain ⟨l, hl⟩ : ∃ l, List.replicate j (48 + c) = l := ⟨_, rfl⟩
      have hbyt := hl ▸ byt_rep j c hc9
      have hlen : l.length = j := by rw [← hl, List.length_replicate]
      rw [hl] at hb
      have hform := hb.form (by omega)
      obtain ⟨g, cap, rfl⟩ := hform
      have hstr := hb.str (P := Tryz.prog) (by omega) hbyt 22 9 5 Tryz.underlying22 Tryz.underlying5 Tryz.underlying9
      have HST := Lib.hid hstr
      have hstr2 := fun w' (hx : Below wr.heap.size wr w') => (hb.after hx).str (P := Tryz.prog) (by omega) hbyt 22 9 5 Tryz.underlying22 Tryz.underlying5 Tryz.underlying9
      have HST2 := Lib.hid hstr2
      clear hstr hstr2 hb
      by_cases h4 : 400 < j
      · have h4I : (400 : Int) < (j : Int) := by omega
        have hcon := fun w => decParse_long l w (by omega)
        have HC := Lib.hid hcon
        have hz : ∀ w' v, Rt w' 0 w'.heap.size v false [] [] → Calls Tryz.prog 7 #[v] w' fun e w'' => e = .returned (.bool true) ∧ Below w'.heap.size w' w'' := fun w' v h => by
          have := refZero_any v (qv false 0 0) 0 w' ⟨false, [], [], h, (by intro x hx; cases hx), (by intro x hx; cases hx), by simp, by simp, rfl⟩ (by omega)
          rw [decide_eq_true (show qv false 0 0 = 0 by rfl)] at this
          exact this
        have HZ := Lib.hid hz
        have hst := HST.out
        clear HST HST2 hcon hz hbyt hlen hl h4 hi hz0 hz1 hz2 HD
        generalize strN l = t at *
        go_wp2_with fail
        refine (HC.out _).mono ?_
        rintro e w4 ⟨rfl, hb4⟩
        replace hB := hB.trans (hb4.mono hB.size)
        clear hst HC hb4
        have b4 := Blk.new w4 25 #[.bool false, .slice none 0 0, .slice none 0 0]
        have hB4 : Below w4.heap.size w4 (w4.alloc (.cells #[.bool false, .slice none 0 0, .slice none 0 0] 25)) := (Below.refl _ _).alloc (Nat.le_refl _) _
        replace hB := hB.trans (hB4.mono hB.size)
        clear hB4
        have r0 := b4.cell 0
        have r1 := b4.cell 1
        have r2 := b4.cell 2
        have f0 := b4.free 0
        have f1 := b4.free 1
        have f2 := b4.free 2
        clear b4
        go_wp2_with fail
        refine (HZ.out _ _ ⟨_, _, rfl, Nt.nil _ _ _, Nt.nil _ _ _⟩).mono ?_
        rintro e w6 ⟨rfl, hb6⟩
        replace hB := hB.trans (hb6.mono hB.size)
        clear r0 r1 r2 f0 f1 f2 hb6 HZ
        go_wp2_with fail
        refine (known3_any _).mono ?_
        rintro e w7 ⟨rfl, hb7⟩
        replace hB := hB.trans (hb7.mono hB.size)
        clear hb7
        go_wp2_with fail
        go_ret
        exact ⟨rfl, hB⟩
      · have h4I : ¬ (400 : Int) < (j : Int) := by omega
        have hok : okD l = true := hl ▸ okD_rep j c hc9 hN1 (by omega)
        obtain ⟨q, hq⟩ : ∃ q, qv false (numD l) 1 = q := ⟨_, rfl⟩
        have hcon : ∀ w, Calls Tryz.prog 6 #[.string (strN l)] w (GivesP q w) := fun w => by
          have := decParse_any l hbyt (by omega) _ (wayA_dig l hok) w
          unfold PostP at this
          simp only [hq] at this
          exact this
        have HC := Lib.hid hcon
        have hcon2 := fun w => refDig_any l hbyt hok w
        rw [hq] at hcon2
        have HC2 := Lib.hid hcon2
        have hone := fun (u v : Value) (w : World) (h : Rt w 0 w.heap.size u (qS q) (lim (qN q)) (lim q.den)) (h' : Rt w 0 w.heap.size v (qS q) (lim (qN q)) (lim q.den)) => one_any u v q q w _ _ _ _ _ _ h h' rfl rfl rfl
        have HO := Lib.hid hone
        have hst := HST.out
        clear HST hcon hcon2 hone hbyt hlen hl h4 hi hz0 hz1 hz2 HD hok hq
        generalize strN l = t at *
        go_wp2_with fail
        refine (HC.out _).mono ?_
        rintro e w4 ⟨v4, rfl, h4, hb4⟩
        have hst4 := HST2.out w4 hb4
        replace hB := hB.trans (hb4.mono hB.size)
        replace h4 := h4.low (Nat.zero_le _)
        obtain ⟨an, ad, rfl, han, had⟩ := h4
        have han2 := han
        have had2 := had
        obtain ⟨A8, c8, rfl, m8⟩ := nt_len han2
        obtain ⟨A9, c9, rfl, m9⟩ := nt_len had2
        clear hst HC han2 had2
        obtain ⟨b5, hB5⟩ := store3b w4 25 (qS q) (.slice A8 (lim (qN q)).length c8) (.slice A9 (lim q.den).length c9)
        have b4 := Blk.new w4 25 #[.bool false, .slice none 0 0, .slice none 0 0]
        have r0 := b4.cell 0
        have r1 := b4.cell 1
        have r2 := b4.cell 2
        have f0 := b4.free 0
        have f1 := b4.free 1
        have f2 := b4.free 2
        replace hB := hB.trans (hB5.mono hB.size)
        replace han := han.after hB5
        replace had := had.after hB5
        have hst5 := HST2.out _ (hb4.trans (hB5.mono hb4.size))
        clear b4 hB5 hst4 hb4 HST2
        go_wp2_with fail
        clear r0 r1 r2 f0 f1 f2
        generalize w4.alloc (.cells #[.bool (qS q), .slice A8 (lim (qN q)).length c8, .slice A9 (lim q.den).length c9] 25) = w5 at *
        go_wp2_with fail
        refine (HC2.out _).mono ?_
        rintro e w6 ⟨v6, rfl, h6, hb6⟩
        replace hB := hB.trans (hb6.mono hB.size)
        replace han := han.after hb6
        replace had := had.after hb6
        replace b5 := b5.below hb6 b5.lt
        replace h6 := h6.low (Nat.zero_le _)
        obtain ⟨an, ad, rfl, han6, had6⟩ := h6
        have han2 := han6
        have had2 := had6
        obtain ⟨A6, c6, rfl, m6⟩ := nt_len han2
        obtain ⟨A7, c7, rfl, m7⟩ := nt_len had2
        clear hst5 HC2 han2 had2 hb6
        obtain ⟨b7, hB7⟩ := store3b w6 25 (qS q) (.slice A6 (lim (qN q)).length c6) (.slice A7 (lim q.den).length c7)
        have b6 := Blk.new w6 25 #[.bool false, .slice none 0 0, .slice none 0 0]
        have r0 := b6.cell 0
        have r1 := b6.cell 1
        have r2 := b6.cell 2
        have f0 := b6.free 0
        have f1 := b6.free 1
        have f2 := b6.free 2
        replace b5 := b5.below hB7 b5.lt
        have s0 := b5.cell 0
        have s1 := b5.cell 1
        have s2 := b5.cell 2
        have t0 := b7.cell 0
        have t1 := b7.cell 1
        have t2 := b7.cell 2
        replace hB := hB.trans (hB7.mono hB.size)
        replace han := han.after hB7
        replace had := had.after hB7
        replace han6 := han6.after hB7
        replace had6 := had6.after hB7
        clear b6 b5 b7 hB7
        go_wp2_with fail
        clear r0 r1 r2 f0 f1 f2
        generalize w6.alloc (.cells #[.bool (qS q), .slice A6 (lim (qN q)).length c6, .slice A7 (lim q.den).length c7] 25) = w7 at *
        go_wp2_with fail
        refine (HO.out _ _ _ ⟨_, _, rfl, han, had⟩ ⟨_, _, rfl, han6, had6⟩).mono ?_
        rintro e w8 ⟨rfl, hb8⟩
        replace hB := hB.trans (hb8.mono hB.size)
        clear hb8 HO han had han6 had6 s0 s1 s2 t0 t1 t2
        go_wp2_with fail
        refine (known3_any _).mono ?_
        rintro e w9 ⟨rfl, hb9⟩
        replace hB := hB.trans (hb9.mono hB.size)
        clear hb9
        go_wp2_with fail
        go_ret
        exact ⟨rfl, hB⟩
end Go.Proofs.YtobmjcbjailclaaGreatDoor
