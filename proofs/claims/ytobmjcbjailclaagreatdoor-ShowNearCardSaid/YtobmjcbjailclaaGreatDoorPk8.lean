/- Several texts in one: RatQ, RefNeg. Condition: each says its own. -/
import Derived.Test.YtobmjcbjailclaaGreatDoorPk1
import Derived.Test.YtobmjcbjailclaaGreatDoorPk6
/- Numbers with a divisor as rationals; in plain Lean. No condition on a program. -/
namespace Go.Proofs.YtobmjcbjailclaaGreatDoor

/-- The rational that a sign, a number and a divisor tell; 0 if the divisor is 0. -/
def qv (s : Bool) (n d : Nat) : Rat := mkRat (sg s n) d
/-- A rational's sign and how great what is divided is. -/
def qS (q : Rat) : Bool := decide (q.num < 0)
def qN (q : Rat) : Nat := q.num.natAbs

theorem sg_natAbs (s : Bool) (n : Nat) : (sg s n).natAbs = n := by
  unfold sg
  cases s
  · simp
  · simp

theorem sg_qS (q : Rat) : sg (qS q) (qN q) = q.num := by
  unfold sg qS qN
  by_cases h : q.num < 0
  · rw [decide_eq_true h]
    simp only [if_true]
    omega
  · rw [decide_eq_false h]
    simp only [Bool.false_eq_true, if_false]
    omega

theorem qv_self (q : Rat) : qv (qS q) (qN q) q.den = q := by
  unfold qv
  rw [sg_qS, Rat.mkRat_self]

theorem nr_q (s : Bool) (n d : Nat) : nrS s n d = qS (qv s n d) ∧ nrN n d = qN (qv s n d) ∧ nrD n d = (qv s n d).den := by
  by_cases hd : d = 0
  · obtain ⟨e1, e2, e3⟩ := nr_zero (s := s) (Or.inr hd : n = 0 ∨ d = 0)
    rw [e1, e2, e3]
    unfold qv
    rw [hd, Rat.mkRat_zero]
    exact ⟨rfl, rfl, rfl⟩
  · have hnum : (qv s n d).num = sg s n / ((d.gcd n : Nat) : Int) := by
      unfold qv
      rw [Rat.num_mkRat, if_neg hd, sg_natAbs]
    have hden : (qv s n d).den = d / d.gcd n := by
      unfold qv
      rw [Rat.den_mkRat, if_neg hd, sg_natAbs]
    by_cases hn : n = 0
    · obtain ⟨e1, e2, e3⟩ := nr_zero (s := s) (Or.inl hn : n = 0 ∨ d = 0)
      rw [e1, e2, e3]
      have hz : qv s n d = 0 := by
        unfold qv
        rw [hn]
        cases s <;> simp [sg, Rat.zero_mkRat]
      rw [hz]
      exact ⟨rfl, rfl, rfl⟩
    · obtain ⟨e1, e2, e3⟩ := nr_some (s := s) hn hd
      rw [e1, e2, e3]
      have hg : 0 < n.gcd d := Nat.gcd_pos_of_pos_left d (Nat.pos_of_ne_zero hn)
      have hq : 0 < n / n.gcd d := Nat.div_pos (Nat.gcd_le_left d (Nat.pos_of_ne_zero hn)) hg
      have hnum2 : (qv s n d).num = sg s (n / n.gcd d) := by
        rw [hnum, Nat.gcd_comm d n]
        cases s
        · simp [sg]
        · have hdvd : ((n.gcd d : Nat) : Int) ∣ (n : Int) := Int.natCast_dvd_natCast.2 (Nat.gcd_dvd_left n d)
          simp only [sg, if_true]
          rw [Int.neg_ediv_of_dvd hdvd]
          simp
      refine ⟨?_, ?_, ?_⟩
      · unfold qS
        rw [hnum2]
        generalize n / n.gcd d = k at *
        unfold sg
        cases s
        · simp only [Bool.false_eq_true, if_false]
          rw [eq_comm, decide_eq_false_iff_not]
          omega
        · simp only [if_true]
          rw [eq_comm, decide_eq_true_iff]
          omega
      · unfold qN
        rw [hnum2, sg_natAbs]
      · rw [hden, Nat.gcd_comm d n]

/-- The components of a rational in lowest terms are its own. -/
theorem nr_own (q : Rat) : nrS (qS q) (qN q) q.den = qS q ∧ nrN (qN q) q.den = qN q ∧ nrD (qN q) q.den = q.den := by
  obtain ⟨e1, e2, e3⟩ := nr_q (qS q) (qN q) q.den
  rw [qv_self] at e1 e2 e3
  exact ⟨e1, e2, e3⟩

theorem sg_add (s t : Bool) (p q : Nat) : sg (addS s t p q) (addN s t p q) = sg s p + sg t q := by
  unfold addS addN sg
  cases s <;> cases t <;> simp only [Bool.false_eq_true, reduceCtorEq, if_true, if_false] <;> (try split) <;> (try simp only [Bool.false_eq_true, if_true, if_false]) <;> omega

theorem sg_mul (s t : Bool) (p q : Nat) : sg (s != t) (p * q) = sg s p * sg t q := by
  cases s <;> cases t <;> simp [sg, Int.neg_mul, Int.mul_neg]

theorem sg_scale (s : Bool) (p q : Nat) : sg s (p * q) = sg s p * (q : Int) := by
  cases s <;> simp [sg, Int.neg_mul]

theorem qv_add (p q : Rat) : qv (addS (qS p) (qS q) (qN p * q.den) (qN q * p.den)) (addN (qS p) (qS q) (qN p * q.den) (qN q * p.den)) (p.den * q.den) = p + q := by
  unfold qv
  rw [sg_add, sg_scale, sg_scale, sg_qS, sg_qS, ← Rat.mkRat_add_mkRat _ _ p.den_nz q.den_nz, Rat.mkRat_self, Rat.mkRat_self]

theorem qv_mul (p q : Rat) : qv (qS p != qS q) (qN p * qN q) (p.den * q.den) = p * q := by
  unfold qv
  rw [sg_mul, sg_qS, sg_qS, ← Rat.mkRat_mul_mkRat, Rat.mkRat_self, Rat.mkRat_self]

theorem qv_neg (s : Bool) (n d : Nat) : qv (!s) n d = -qv s n d := by
  unfold qv
  rw [Rat.neg_mkRat]
  cases s <;> simp [sg]

theorem qS_neg (q : Rat) : qS (-q) = (!qS q && decide (0 < qN q)) := by
  unfold qS qN
  rw [Rat.neg_num]
  rcases Int.lt_trichotomy q.num 0 with h | h | h
  · rw [decide_eq_true h, decide_eq_false (by omega)]; rfl
  · rw [h]; rfl
  · rw [decide_eq_false (by omega : ¬ q.num < 0), decide_eq_true (by omega : -q.num < 0), decide_eq_true (by omega)]; rfl
theorem qN_neg (q : Rat) : qN (-q) = qN q := by unfold qN; rw [Rat.neg_num, Int.natAbs_neg]

/-- Which of two rationals is greater. -/
def cmpQ (a b : Rat) : Int := if a < b then -1 else if b < a then 1 else 0

theorem cmp_q (p q : Rat) : cmpI (sg (qS p) (qN p) * (q.den : Int)) (sg (qS q) (qN q) * (p.den : Int)) = cmpQ p q := by
  unfold cmpI cmpQ
  rw [sg_qS, sg_qS]
  simp only [Rat.lt_iff]

theorem cmpQ_lt {a b : Rat} (h : a < b) : cmpQ a b = -1 := if_pos h
theorem cmpQ_gt {a b : Rat} (h : b < a) : cmpQ a b = 1 := by
  unfold cmpQ
  rw [if_neg (by grind), if_pos h]
theorem cmpQ_eq {a b : Rat} (h : a = b) : cmpQ a b = 0 := by
  unfold cmpQ
  rw [if_neg (by grind), if_neg (by grind)]

theorem qN_zero {q : Rat} : qN q = 0 ↔ q = 0 := by
  unfold qN
  rw [Int.natAbs_eq_zero]
  constructor
  · intro h
    have h1 := q.reduced
    rw [h] at h1
    have h2 : q.den = 1 := by simpa [Nat.Coprime] using h1
    exact Rat.ext h h2
  · intro h; rw [h]; rfl

/-- One by the other: what is divided and the divisor change places. -/
theorem qv_div (p q : Rat) (h : q ≠ 0) : qv (qS p != qS q) (qN p * q.den) (p.den * qN q) = p / q := by
  have hq : qN q ≠ 0 := fun hc => h (qN_zero.1 hc)
  have hinv : qv (qS q) q.den (qN q) = q⁻¹ := by
    have h1 : qv (qS q) q.den (qN q) * q = 1 := by
      conv => lhs; rhs; rw [← qv_self q]
      unfold qv
      rw [Rat.mkRat_mul_mkRat, ← sg_mul, Nat.mul_comm q.den]
      have e : sg (qS q != qS q) (qN q * q.den) = 1 * ((qN q * q.den : Nat) : Int) := by cases qS q <;> simp [sg]
      rw [e]
      have h2 : qN q * q.den ≠ 0 := Nat.mul_ne_zero hq q.den_nz
      have := Rat.mkRat_mul_right (n := 1) (d := 1) (a := qN q * q.den) h2
      rw [Nat.one_mul] at this
      rw [this]
      rfl
    grind
  have h3 : qv (qS p != qS q) (qN p * q.den) (p.den * qN q) = qv (qS p) (qN p) p.den * qv (qS q) q.den (qN q) := by
    unfold qv
    rw [sg_mul, Rat.mkRat_mul_mkRat]
  rw [h3, qv_self, hinv, Rat.div_def]
end Go.Proofs.YtobmjcbjailclaaGreatDoor

/- The reference's 'Neg' of a number with a divisor by its contract. Condition: a bound on lengths. -/
namespace Go.Proofs.YtobmjcbjailclaaGreatDoor
set_option maxRecDepth 100000
open Go.RowKit

set_option maxHeartbeats 3200000 in
theorem ratNeg_any (v : Value) (s : Bool) (n d : List Nat) (w : World) (dn : Dig n) (dd : Dig d) (h : Rt w 0 w.heap.size v s n d) (ln : n.length ≤ 1000) (ld : d.length ≤ 1000) :
    Calls Tryz.prog 100 #[v] w (GivesT (!(nrS s (val n) (val d)) && decide (0 < nrN (val n) (val d))) (nrN (val n) (val d)) (nrD (val n) (val d)) w) := by
  obtain ⟨vn, vd, rfl, hn, hd⟩ := h
  have hn' := hn
  have hd' := hd
  obtain ⟨A1, c1, rfl, m1⟩ := nt_len hn'
  obtain ⟨A2, c2, rfl, m2⟩ := nt_len hd'
  clear hn' hd'
  go_enter Tryz.func100, Tryz.ntmps100
  go_wp2_with fail
  have b1 := Blk.new (w.alloc (.cells #[.bool s, .slice A1 n.length c1, .slice A2 d.length c2] 25)) 25 #[.bool false, .slice none 0 0, .slice none 0 0]
  have hB : Below w.heap.size w ((w.alloc (.cells #[.bool s, .slice A1 n.length c1, .slice A2 d.length c2] 25)).alloc (.cells #[.bool false, .slice none 0 0, .slice none 0 0] 25)) := ((Below.refl _ _).alloc (Nat.le_refl _) _).alloc (by simp) _
  have es : (w.alloc (.cells #[.bool s, .slice A1 n.length c1, .slice A2 d.length c2] 25)).heap.size = w.heap.size + 1 := by simp
  rw [es] at b1
  clear es
  generalize (w.alloc (.cells #[.bool s, .slice A1 n.length c1, .slice A2 d.length c2] 25)).alloc (.cells #[.bool false, .slice none 0 0, .slice none 0 0] 25) = w1 at *
  refine (ratNorm_any _ s n d _ dn dd ⟨_, _, rfl, hn.after hB, hd.after hB⟩ ln ld).mono ?_
  rintro e w2 ⟨v2, rfl, h2, hb2⟩
  obtain ⟨x, y, rfl, hx, hy⟩ := h2
  have hx' := hx
  have hy' := hy
  obtain ⟨A3, c3, rfl, m3⟩ := nt_len hx'
  obtain ⟨A4, c4, rfl, m4⟩ := nt_len hy'
  have q1 := b1.below hb2 b1.lt
  have hx2 := hx.low (show w.heap.size + 2 ≤ _ from b1.lt)
  have hy2 := hy.low (show w.heap.size + 2 ≤ _ from b1.lt)
  have hB2 := hB.trans (hb2.mono hB.size)
  clear hx' hy' hx hy hb2 hB b1 hn hd dn dd
  have zl : (0 < (lim (nrN (val n) (val d))).length) ↔ 0 < nrN (val n) (val d) := by
    constructor
    · intro hlt
      refine Nat.pos_of_ne_zero fun h0 => ?_
      rw [h0, lim_zero] at hlt
      exact absurd hlt (by simp)
    · intro hlt
      have : (lim (nrN (val n) (val d))).length ≠ 0 := fun h => by
        have := lim_eq_nil.1 (List.eq_nil_of_length_eq_zero h)
        omega
      omega
  have dz : decide (0 < (lim (nrN (val n) (val d))).length) = decide (0 < nrN (val n) (val d)) := decide_eq_decide.2 zl
  have DZ := Lib.hid dz
  clear zl dz
  generalize nrN (val n) (val d) = N at *
  generalize nrD (val n) (val d) = D at *
  generalize nrS s (val n) (val d) = S at *
  cases S
  · skip
    have hba := (Below.refl w2.heap.size w2).alloc (Nat.le_refl _) (.cells #[.bool (decide (0 < (lim N).length)), .slice A3 (lim N).length c3, .slice A4 (lim D).length c4] 25)
    have q3 := q1.alloc (.cells #[.bool (decide (0 < (lim N).length)), .slice A3 (lim N).length c3, .slice A4 (lim D).length c4] 25)
    have hx3 := hx2.after hba
    have hy3 := hy2.after hba
    have hB3 := hB2.trans (hba.mono hB2.size)
    clear hx2 hy2 hba q1 hB2
    have r0 := q3.cell 0
    have r1 := q3.cell 1
    have r2 := q3.cell 2
    have f0 := q3.free 0
    have f1 := q3.free 1
    have f2 := q3.free 2
    have p3 := ((q3.put 0 (.bool (decide (0 < (lim N).length)))).put 1 (.slice A3 (lim N).length c3)).put 2 (.slice A4 (lim D).length c4)
    have hBB := ((hB3.setCell (p := ⟨w.heap.size + 1, 0, none⟩) (by simp) (.bool (decide (0 < (lim N).length)))).setCell (p := ⟨w.heap.size + 1, 1, none⟩) (by simp) (.slice A3 (lim N).length c3)).setCell (p := ⟨w.heap.size + 1, 2, none⟩) (by simp) (.slice A4 (lim D).length c4)
    have t6 := ((hx3.put3 (Nat.lt_succ_self _) 0 (.bool (decide (0 < (lim N).length)))).put3 (Nat.lt_succ_self _) 1 (.slice A3 (lim N).length c3)).put3 (Nat.lt_succ_self _) 2 (.slice A4 (lim D).length c4)
    have t7 := ((hy3.put3 (Nat.lt_succ_self _) 0 (.bool (decide (0 < (lim N).length)))).put3 (Nat.lt_succ_self _) 1 (.slice A3 (lim N).length c3)).put3 (Nat.lt_succ_self _) 2 (.slice A4 (lim D).length c4)
    clear hx3 hy3 
    go_wp2_with fail
    clear r0 r1 r2 f0 f1 f2 q3
    generalize ((World.setCell (w2.alloc (.cells #[.bool (decide (0 < (lim N).length)), .slice A3 (lim N).length c3, .slice A4 (lim D).length c4] 25)) ⟨w.heap.size + 1, 0, none⟩ (.bool (decide (0 < (lim N).length)))).setCell ⟨w.heap.size + 1, 1, none⟩ (.slice A3 (lim N).length c3)).setCell ⟨w.heap.size + 1, 2, none⟩ (.slice A4 (lim D).length c4) = WW at *
    have e0 : WW.cell? ⟨w.heap.size + 1, 0, none⟩ = some (.bool (decide (0 < (lim N).length))) := by rw [p3.cell]; rfl
    have e1 : WW.cell? ⟨w.heap.size + 1, 1, none⟩ = some (.slice A3 (lim N).length c3) := by rw [p3.cell]; rfl
    have e2 : WW.cell? ⟨w.heap.size + 1, 2, none⟩ = some (.slice A4 (lim D).length c4) := by rw [p3.cell]; rfl
    refine bodyPost_ret (v := .agg #[.bool (decide (0 < (lim N).length)), .slice A3 (lim N).length c3, .slice A4 (lim D).length c4]) ?_ rfl ⟨_, rfl, ⟨_, _, (by rw [DZ.out]; rfl), t6.low (by omega), t7.low (by omega)⟩, hBB⟩
    simp [results, Tryz.results100, go_sem, e0, e1, e2]
  · skip
    have hba := (Below.refl w2.heap.size w2).alloc (Nat.le_refl _) (.cells #[.bool false, .slice A3 (lim N).length c3, .slice A4 (lim D).length c4] 25)
    have q3 := q1.alloc (.cells #[.bool false, .slice A3 (lim N).length c3, .slice A4 (lim D).length c4] 25)
    have hx3 := hx2.after hba
    have hy3 := hy2.after hba
    have hB3 := hB2.trans (hba.mono hB2.size)
    clear hx2 hy2 hba q1 hB2
    have r0 := q3.cell 0
    have r1 := q3.cell 1
    have r2 := q3.cell 2
    have f0 := q3.free 0
    have f1 := q3.free 1
    have f2 := q3.free 2
    have p3 := ((q3.put 0 (.bool false)).put 1 (.slice A3 (lim N).length c3)).put 2 (.slice A4 (lim D).length c4)
    have hBB := ((hB3.setCell (p := ⟨w.heap.size + 1, 0, none⟩) (by simp) (.bool false)).setCell (p := ⟨w.heap.size + 1, 1, none⟩) (by simp) (.slice A3 (lim N).length c3)).setCell (p := ⟨w.heap.size + 1, 2, none⟩) (by simp) (.slice A4 (lim D).length c4)
    have t6 := ((hx3.put3 (Nat.lt_succ_self _) 0 (.bool false)).put3 (Nat.lt_succ_self _) 1 (.slice A3 (lim N).length c3)).put3 (Nat.lt_succ_self _) 2 (.slice A4 (lim D).length c4)
    have t7 := ((hy3.put3 (Nat.lt_succ_self _) 0 (.bool false)).put3 (Nat.lt_succ_self _) 1 (.slice A3 (lim N).length c3)).put3 (Nat.lt_succ_self _) 2 (.slice A4 (lim D).length c4)
    clear hx3 hy3 
    go_wp2_with fail
    clear r0 r1 r2 f0 f1 f2 q3
    generalize ((World.setCell (w2.alloc (.cells #[.bool false, .slice A3 (lim N).length c3, .slice A4 (lim D).length c4] 25)) ⟨w.heap.size + 1, 0, none⟩ (.bool false)).setCell ⟨w.heap.size + 1, 1, none⟩ (.slice A3 (lim N).length c3)).setCell ⟨w.heap.size + 1, 2, none⟩ (.slice A4 (lim D).length c4) = WW at *
    have e0 : WW.cell? ⟨w.heap.size + 1, 0, none⟩ = some (.bool false) := by rw [p3.cell]; rfl
    have e1 : WW.cell? ⟨w.heap.size + 1, 1, none⟩ = some (.slice A3 (lim N).length c3) := by rw [p3.cell]; rfl
    have e2 : WW.cell? ⟨w.heap.size + 1, 2, none⟩ = some (.slice A4 (lim D).length c4) := by rw [p3.cell]; rfl
    refine bodyPost_ret (v := .agg #[.bool false, .slice A3 (lim N).length c3, .slice A4 (lim D).length c4]) ?_ rfl ⟨_, rfl, ⟨_, _, rfl, t6.low (by omega), t7.low (by omega)⟩, hBB⟩
    simp [results, Tryz.results100, go_sem, e0, e1, e2]
end Go.Proofs.YtobmjcbjailclaaGreatDoor
