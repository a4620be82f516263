/- Several texts in one: Ofs, Adds, RatQ, RefDiv, RefShift. Condition: each says its own. -/
import Derived.Outline
import Derived.Deep.RegionHeld3
import Derived.Deep.DrawnRows
import Derived.Test.YtchokmhfgikglaaGreatDoorPk1
import Derived.Test.YtchokmhfgikglaaGreatDoorPk2
import Derived.Test.YtchokmhfgikglaaGreatDoorPk3
import Derived.Test.YtchokmhfgikglaaGreatDoorPk4
namespace Go.Proofs.YtchokmhfgikglaaGreatDoor
set_option maxRecDepth 100000
open Go.RowKit

theorem val_two (n : Nat) : val [n % 4294967296, n / 4294967296] = n := by
  simp only [val]
  omega

theorem lv_two (n : Nat) : (lv [n % 4294967296, n / 4294967296]).toArray = #[.int .u32 ((n : Int) % 4294967296), .int .u32 ((n : Int) / 4294967296)] := by
  simp [lv]

theorem two_laid (n : Nat) (w : World) (e : TypeId) (W : World) (hW : W = w.alloc (.cells #[.int .u32 ((n : Int) % 4294967296), .int .u32 ((n : Int) / 4294967296)] e)) :
    Nt W w.heap.size W.heap.size (.slice (some ⟨w.heap.size, 0, none⟩) 2 2) [n % 4294967296, n / 4294967296] ∧ Below w.heap.size w W := by
  subst hW
  rw [← lv_two]
  have hs : (w.alloc (.cells (lv [n % 4294967296, n / 4294967296]).toArray e)).heap.size = w.heap.size + 1 := by simp
  refine ⟨?_, (Below.refl _ _).alloc (Nat.le_refl _) _⟩
  rw [hs]
  exact nt_new w e [n % 4294967296, n / 4294967296] (by simp)

theorem dig_two {n : Nat} (hn : n < 18446744073709551616) : Dig [n % 4294967296, n / 4294967296] := Dig.cons (Nat.mod_lt _ (by omega)) (dig_one (by omega))

set_option maxHeartbeats 800000 in
theorem of_any (n : Nat) (w : World) (hn : n < 18446744073709551616) :
    Calls Tryz.prog 52 #[.int .u64 (n : Int)] w (Gives (lim n) w) := by
  have hd := dig_two hn
  have V := Lib.hid (val_two n)
  go_enter Tryz.func52, Tryz.ntmps52
  go_wp2_with fail
  obtain ⟨W, hW⟩ : ∃ W, w.alloc (.cells #[.int .u32 ((n : Int) % 4294967296), .int .u32 ((n : Int) / 4294967296)] 122) = W := ⟨_, rfl⟩
  obtain ⟨hl, hb⟩ := two_laid n w _ W hW.symm
  rw [hW]
  clear hW
  refine (trim_any _ _ _ _ _ hd hl).mono ?_
  rintro e w2 ⟨v2, rfl, h2, rfl⟩
  rw [V.out] at h2
  go_wp2
  go_ret
  exact ⟨_, rfl, h2, hb⟩

set_option maxHeartbeats 800000 in
theorem refOf_any (n : Nat) (w : World) (hn : n < 18446744073709551616) :
    Calls Tryz.prog 146 #[.int .u64 (n : Int)] w (Gives (lim n) w) := by
  have hd := dig_two hn
  have V := Lib.hid (val_two n)
  go_enter Tryz.func146, Tryz.ntmps146
  go_wp2_with fail
  obtain ⟨W, hW⟩ : ∃ W, w.alloc (.cells #[.int .u32 ((n : Int) % 4294967296), .int .u32 ((n : Int) / 4294967296)] 122) = W := ⟨_, rfl⟩
  obtain ⟨hl, hb⟩ := two_laid n w _ W hW.symm
  rw [hW]
  clear hW
  refine (refTrim_any _ _ _ hd (hl.low (Nat.zero_le _)) (by simp)).mono ?_
  rintro e w2 ⟨v2, rfl, h2, hb2⟩
  rw [V.out] at h2
  go_wp2
  go_ret
  exact ⟨_, rfl, h2.low hb.size, hb.trans (hb2.mono hb.size)⟩
end Go.Proofs.YtchokmhfgikglaaGreatDoor

namespace Go.Proofs.YtchokmhfgikglaaGreatDoor
set_option maxRecDepth 100000
open Go.RowKit

theorem sumAt_len {a b c : List Nat} {q k : Nat} (h : SumAt a b c q k) : c.length = k := h.1

set_option maxHeartbeats 1600000 in
theorem refAdd_any (u v : Value) (x y : List Nat) (w : World) (hdx : Dig x) (hdy : Dig y) (h : Nt w 0 w.heap.size u x) (h' : Nt w 0 w.heap.size v y) (hlx : x.length ≤ 100000) (hly : y.length ≤ 100000) :
    Calls Tryz.prog 150 #[u, v] w (Gives (lim (val x + val y)) w) := by
  obtain ⟨i0, hi, hz0, hz1, hz2⟩ := info_parts Tryz.info32
  have hn := h
  have hn' := h'
  obtain ⟨A, c, rfl, hc, hm, _, _⟩ := h
  obtain ⟨A', c', rfl, hc', hm', _, _⟩ := h'
  obtain ⟨M, hif, hM1, hM2, hM3⟩ : ∃ M : Nat, (if x.length < y.length then (y.length : Int) else (x.length : Int)) = (M : Int) ∧ x.length ≤ M ∧ y.length ≤ M ∧ M ≤ 100000 := by
    by_cases hxy : x.length < y.length
    · exact ⟨y.length, if_pos hxy, by omega, Nat.le_refl _, hly⟩
    · exact ⟨x.length, if_neg hxy, Nat.le_refl _, by omega, hlx⟩
  go_enter Tryz.func150, Tryz.ntmps150
  go_wp2_with fail
  go_loopw [5, 6, 7] (fun o s i wr => ∃ (k q : Nat) (cs : List Nat), k ≤ M + 1 ∧ i = .int .i64 (k : Nat) ∧ s = .int .u64 (q : Nat) ∧ q ≤ 1 ∧ Dig cs ∧ SumAt x y cs q k ∧ Own wr w.heap.size 122 o cs ∧ Below w.heap.size w wr)
    (fun _ _ i _ => M + 1 - (intOf i).toNat)
  case atStart => exact ⟨0, 0, [], Nat.zero_le _, rfl, rfl, by omega, Dig.nil, ⟨rfl, by simp [val]⟩, Own.nil _ _ _, Below.refl _ _⟩
  case round =>
    obtain ⟨k, q, cs, hk, rfl, rfl, hq, hdc, hs, hown, hb⟩ := hrel
    by_cases hlt : k < M + 1
    · have b1 := dig_getD hdx k
      have b2 := dig_getD hdy k
      have hcl := sumAt_len hs
      have HS := Lib.hid (sumAt_step hs rfl)
      have HC := Lib.hid hcl
      clear hcl hs
      generalize hp1 : x.getD k 0 = p1 at *
      generalize hp2 : y.getD k 0 = p2 at *
      have P1 := Lib.hid hp1
      have P2 := Lib.hid hp2
      clear hp1 hp2
      go_wp2_with fail
      refine (at_any _ x k _ 0 w.heap.size hdx (hn.below hb (Nat.le_refl _)) (by omega)).mono ?_
      rintro e w1 ⟨rfl, rfl⟩
      rw [P1.out]
      go_wp2_with fail
      refine (at_any _ y k _ 0 w.heap.size hdy (hn'.below hb (Nat.le_refl _)) (by omega)).mono ?_
      rintro e w1 ⟨rfl, rfl⟩
      rw [P2.out]
      have hkl : cs.length ≤ 1000000 := by rw [HC.out]; omega
      go_wp2_with (at_builtin; refine wpList_append_limb rfl _ _ 58 rfl w.heap.size 122 i0 Tryz.underlying58 hi hz0 hz1 hz2 _ cs rfl hown _ ((q + p1 + p2) % 4294967296) (congrArg (Value.int .u32) (by omega)) rfl hkl hb.size ?_)
      intro v' w1 hown1 hg1
      have hb1 := hb.trans hg1
      have hdc1 := hdc.append (Dig.cons (Nat.mod_lt (q + p1 + p2) (by omega)) Dig.nil)
      have hq1 : (q + p1 + p2) / 4294967296 ≤ 1 := by omega
      clear hown hg1 hb hkl
      go_wp2
      go_roundw
      case rel => exact ⟨k + 1, (q + p1 + p2) / 4294967296, cs ++ [(q + p1 + p2) % 4294967296], by omega, by go_num, by go_num, hq1, hdc1, HS.out, hown1, hb1⟩
      case measure => simp [intOf]; omega
    · obtain rfl : k = M + 1 := by omega
      have hv := sumAt_end hdx hdy hs hM1 hM2
      have hr := hown.nt
      have hcl := sumAt_len hs
      have hkl : cs.length ≤ 1000000 := by omega
      have V := Lib.hid hv
      clear hv hs hcl hown
      go_wp2_with fail
      refine (refTrim_any _ cs _ hdc (hr.low (Nat.zero_le _)) hkl).mono ?_
      rintro e w1 ⟨v1, rfl, h1, hb1⟩
      rw [V.out] at h1
      go_wp2
      go_ret
      exact ⟨_, rfl, h1.low hb.size, hb.trans (hb1.mono hb.size)⟩
end Go.Proofs.YtchokmhfgikglaaGreatDoor

namespace Go.Proofs.YtchokmhfgikglaaGreatDoor

/-- The rational that a sign, a number and a divisor tell; 0 if the divisor is 0. -/
def qv (s : Bool) (n d : Nat) : Rat := mkRat (sg s n) d
/-- A rational's sign and how great what is divided is. -/
def qS (q : Rat) : Bool := decide (q.num < 0)
def qN (q : Rat) : Nat := q.num.natAbs

theorem sg_natAbs (s : Bool) (n : Nat) : (sg s n).natAbs = n := by
  unfold sg
  cases s
  · simp
  · simp

theorem sg_qS (q : Rat) : sg (qS q) (qN q) = q.num := by
  unfold sg qS qN
  by_cases h : q.num < 0
  · rw [decide_eq_true h]
    simp only [if_true]
    omega
  · rw [decide_eq_false h]
    simp only [Bool.false_eq_true, if_false]
    omega

theorem qv_self (q : Rat) : qv (qS q) (qN q) q.den = q := by
  unfold qv
  rw [sg_qS, Rat.mkRat_self]

theorem nr_q (s : Bool) (n d : Nat) : nrS s n d = qS (qv s n d) ∧ nrN n d = qN (qv s n d) ∧ nrD n d = (qv s n d).den := by
  by_cases hd : d = 0
  · obtain ⟨e1, e2, e3⟩ := nr_zero (s := s) (Or.inr hd : n = 0 ∨ d = 0)
    rw [e1, e2, e3]
    unfold qv
    rw [hd, Rat.mkRat_zero]
    exact ⟨rfl, rfl, rfl⟩
  · have hnum : (qv s n d).num = sg s n / ((d.gcd n : Nat) : Int) := by
      unfold qv
      rw [Rat.num_mkRat, if_neg hd, sg_natAbs]
    have hden : (qv s n d).den = d / d.gcd n := by
      unfold qv
      rw [Rat.den_mkRat, if_neg hd, sg_natAbs]
    by_cases hn : n = 0
    · obtain ⟨e1, e2, e3⟩ := nr_zero (s := s) (Or.inl hn : n = 0 ∨ d = 0)
      rw [e1, e2, e3]
      have hz : qv s n d = 0 := by
        unfold qv
        rw [hn]
        cases s <;> simp [sg, Rat.zero_mkRat]
      rw [hz]
      exact ⟨rfl, rfl, rfl⟩
    · obtain ⟨e1, e2, e3⟩ := nr_some (s := s) hn hd
      rw [e1, e2, e3]
      have hg : 0 < n.gcd d := Nat.gcd_pos_of_pos_left d (Nat.pos_of_ne_zero hn)
      have hq : 0 < n / n.gcd d := Nat.div_pos (Nat.gcd_le_left d (Nat.pos_of_ne_zero hn)) hg
      have hnum2 : (qv s n d).num = sg s (n / n.gcd d) := by
        rw [hnum, Nat.gcd_comm d n]
        cases s
        · simp [sg]
        · have hdvd : ((n.gcd d : Nat) : Int) ∣ (n : Int) := Int.natCast_dvd_natCast.2 (Nat.gcd_dvd_left n d)
          simp only [sg, if_true]
          rw [Int.neg_ediv_of_dvd hdvd]
          simp
      refine ⟨?_, ?_, ?_⟩
      · unfold qS
        rw [hnum2]
        generalize n / n.gcd d = k at *
        unfold sg
        cases s
        · simp only [Bool.false_eq_true, if_false]
          rw [eq_comm, decide_eq_false_iff_not]
          omega
        · simp only [if_true]
          rw [eq_comm, decide_eq_true_iff]
          omega
      · unfold qN
        rw [hnum2, sg_natAbs]
      · rw [hden, Nat.gcd_comm d n]

theorem sg_add (s t : Bool) (p q : Nat) : sg (addS s t p q) (addN s t p q) = sg s p + sg t q := by
  unfold addS addN sg
  cases s <;> cases t <;> simp only [Bool.false_eq_true, reduceCtorEq, if_true, if_false] <;> (try split) <;> (try simp only [Bool.false_eq_true, if_true, if_false]) <;> omega

theorem sg_mul (s t : Bool) (p q : Nat) : sg (s != t) (p * q) = sg s p * sg t q := by
  cases s <;> cases t <;> simp [sg, Int.neg_mul, Int.mul_neg]

theorem sg_scale (s : Bool) (p q : Nat) : sg s (p * q) = sg s p * (q : Int) := by
  cases s <;> simp [sg, Int.neg_mul]

theorem qv_add (p q : Rat) : qv (addS (qS p) (qS q) (qN p * q.den) (qN q * p.den)) (addN (qS p) (qS q) (qN p * q.den) (qN q * p.den)) (p.den * q.den) = p + q := by
  unfold qv
  rw [sg_add, sg_scale, sg_scale, sg_qS, sg_qS, ← Rat.mkRat_add_mkRat _ _ p.den_nz q.den_nz, Rat.mkRat_self, Rat.mkRat_self]

theorem qv_mul (p q : Rat) : qv (qS p != qS q) (qN p * qN q) (p.den * q.den) = p * q := by
  unfold qv
  rw [sg_mul, sg_qS, sg_qS, ← Rat.mkRat_mul_mkRat, Rat.mkRat_self, Rat.mkRat_self]

theorem qS_neg (q : Rat) : qS (-q) = (!qS q && decide (0 < qN q)) := by
  unfold qS qN
  rw [Rat.neg_num]
  rcases Int.lt_trichotomy q.num 0 with h | h | h
  · rw [decide_eq_true h, decide_eq_false (by omega)]; rfl
  · rw [h]; rfl
  · rw [decide_eq_false (by omega : ¬ q.num < 0), decide_eq_true (by omega : -q.num < 0), decide_eq_true (by omega)]; rfl
theorem qN_neg (q : Rat) : qN (-q) = qN q := by unfold qN; rw [Rat.neg_num, Int.natAbs_neg]

/-- Which of two rationals is greater. -/
def cmpQ (a b : Rat) : Int := if a < b then -1 else if b < a then 1 else 0

theorem qN_zero {q : Rat} : qN q = 0 ↔ q = 0 := by
  unfold qN
  rw [Int.natAbs_eq_zero]
  constructor
  · intro h
    have h1 := q.reduced
    rw [h] at h1
    have h2 : q.den = 1 := by simpa [Nat.Coprime] using h1
    exact Rat.ext h h2
  · intro h; rw [h]; rfl

/-- One by the other: what is divided and the divisor change places. -/
theorem qv_div (p q : Rat) (h : q ≠ 0) : qv (qS p != qS q) (qN p * q.den) (p.den * qN q) = p / q := by
  have hq : qN q ≠ 0 := fun hc => h (qN_zero.1 hc)
  have hinv : qv (qS q) q.den (qN q) = q⁻¹ := by
    have h1 : qv (qS q) q.den (qN q) * q = 1 := by
      conv => lhs; rhs; rw [← qv_self q]
      unfold qv
      rw [Rat.mkRat_mul_mkRat, ← sg_mul, Nat.mul_comm q.den]
      have e : sg (qS q != qS q) (qN q * q.den) = 1 * ((qN q * q.den : Nat) : Int) := by cases qS q <;> simp [sg]
      rw [e]
      have h2 : qN q * q.den ≠ 0 := Nat.mul_ne_zero hq q.den_nz
      have := Rat.mkRat_mul_right (n := 1) (d := 1) (a := qN q * q.den) h2
      rw [Nat.one_mul] at this
      rw [this]
      rfl
    grind
  have h3 : qv (qS p != qS q) (qN p * q.den) (p.den * qN q) = qv (qS p) (qN p) p.den * qv (qS q) q.den (qN q) := by
    unfold qv
    rw [sg_mul, Rat.mkRat_mul_mkRat]
  rw [h3, qv_self, hinv, Rat.div_def]
end Go.Proofs.YtchokmhfgikglaaGreatDoor

namespace Go.Proofs.YtchokmhfgikglaaGreatDoor
set_option maxRecDepth 100000
open Go.RowKit

theorem refOf_any' (n : Nat) (z : Int) (hz : z = (n : Int)) (w : World) (hn : n < 18446744073709551616) :
    Calls Tryz.prog 146 #[.int .u64 z] w (Gives (lim n) w) := by
  subst hz
  exact refOf_any n w hn

/-- What is left: 0, if it is by 0. -/
def remN (a b : Nat) : Nat := if b = 0 then 0 else a % b

/-- What a division hands back. -/
def GivesD (x y : List Nat) (b : Bool) (w : World) (e : Ending) (w' : World) : Prop :=
  ∃ v1 v2, e = .returned (.tuple #[v1, v2, .bool b]) ∧ Nt w' w.heap.size w'.heap.size v1 x ∧ Nt w' w.heap.size w'.heap.size v2 y ∧ Below w.heap.size w w'

set_option maxHeartbeats 3200000 in
theorem refDivZero_any (u v : Value) (a b : List Nat) (w : World) (db : Dig b) (hb_ : Nt w 0 w.heap.size v b) (lb : b.length ≤ 90000) (h0 : val b = 0) :
    Calls Tryz.prog 96 #[u, v] w (GivesD (lim (val a / val b)) (lim (remN (val a) (val b))) (decide (val b ≠ 0)) w) := by
  have e1 : lim (val a / val b) = [] := by rw [h0, Nat.div_zero]; exact lim_zero
  have e2 : lim (remN (val a) (val b)) = [] := by unfold remN; rw [if_pos h0]; exact lim_zero
  have e3 : decide (val b ≠ 0) = false := by rw [h0]; rfl
  have e4 : lim (val b) = [] := by rw [h0]; exact lim_zero
  rw [e1, e2, e3]
  have E4 := Lib.hid e4
  clear e1 e2 e3 e4 h0
  go_enter Tryz.func96, Tryz.ntmps96
  go_wp2_with fail
  refine (refTrim_any _ b _ db hb_ (by omega)).mono ?_
  rintro e w1 ⟨v1, rfl, h1, hb⟩
  rw [E4.out] at h1
  obtain ⟨A, c, rfl, hc, hm, _, hx⟩ := h1
  go_wp2
  go_ret3
  exact ⟨_, _, rfl, Nt.nil _ _ _, Nt.nil _ _ _, hb⟩

set_option maxHeartbeats 3200000 in
theorem refDivTwo_any (u v : Value) (a b : List Nat) (w : World) (da : Dig a) (db : Dig b) (ha : Nt w 0 w.heap.size u a) (hb_ : Nt w 0 w.heap.size v b) (la : a.length ≤ 90000) (lb : b.length ≤ 90000) (h0 : val b ≠ 0)
    (h1 : val a < 18446744073709551616) (h2 : val b < 18446744073709551616) :
    Calls Tryz.prog 96 #[u, v] w (GivesD (lim (val a / val b)) (lim (remN (val a) (val b))) (decide (val b ≠ 0)) w) := by
  have e2 : remN (val a) (val b) = val a % val b := by unfold remN; rw [if_neg h0]
  have e3 : decide (val b ≠ 0) = true := decide_eq_true h0
  have e4 : (lim (val b)).length ≠ 0 := fun h => h0 (lim_eq_nil.1 (List.eq_nil_of_length_eq_zero h))
  have t1 : toN (val a) = val a := if_pos h1
  have t2 : toN (val b) = val b := if_pos h2
  have d1 : decide (val a < 18446744073709551616) = true := decide_eq_true h1
  have d2 : decide (val b < 18446744073709551616) = true := decide_eq_true h2
  rw [e2, e3]
  have E4 := Lib.hid e4
  have T1 := Lib.hid t1
  have T2 := Lib.hid t2
  have D1 := Lib.hid d1
  have D2 := Lib.hid d2
  have b0 : ¬ val b = 0 := h0
  have hq : val a / val b < 18446744073709551616 := Nat.lt_of_le_of_lt (Nat.div_le_self _ _) h1
  have hr : val a % val b < 18446744073709551616 := Nat.lt_of_le_of_lt (Nat.mod_le _ _) h1
  obtain ⟨q, hq0⟩ : ∃ q, val a / val b = q := ⟨_, rfl⟩
  obtain ⟨r, hr0⟩ : ∃ r, val a % val b = r := ⟨_, rfl⟩
  have hdv : ((val a : Nat) : Int) / ((val b : Nat) : Int) = (q : Int) := by rw [← hq0]; exact (Int.natCast_ediv _ _).symm
  have hmd : ((val a : Nat) : Int) % ((val b : Nat) : Int) = (r : Int) := by rw [← hr0]; exact (Int.natCast_emod _ _).symm
  rw [hq0] at hq ⊢
  rw [hr0] at hr ⊢
  clear e2 e3 e4 t1 t2 d1 d2 hq0 hr0 h0
  go_enter Tryz.func96, Tryz.ntmps96
  have hB : Below w.heap.size w w := Below.refl _ _
  go_wp2_with fail
  refine (refTrim_any _ b _ db hb_ (by omega)).mono ?_
  rintro e w1 ⟨v1, rfl, h3, hb⟩
  obtain ⟨A, c, rfl, hc, hm, _, hx⟩ := h3
  have hne : ¬ (lim (val b)).length = 0 := E4.out
  replace ha := ha.after hb
  replace hb_ := hb_.after hb
  replace hB := hB.trans (hb.mono hB.size)
  clear hb hx
  go_wp2_with fail
  refine (refTo_any _ a _ da ha (by omega)).mono ?_
  rintro e w2 ⟨rfl, hb⟩
  rw [T1.out, D1.out]
  replace ha := ha.after hb
  replace hb_ := hb_.after hb
  replace hB := hB.trans (hb.mono hB.size)
  clear hb
  go_wp2_with fail
  refine (refTo_any _ b _ db hb_ (by omega)).mono ?_
  rintro e w3 ⟨rfl, hb⟩
  rw [T2.out, D2.out]
  replace hB := hB.trans (hb.mono hB.size)
  clear hb ha hb_
  generalize val b = B at *
  generalize val a = A2 at *
  go_wp2_with fail
  have z1 : IntKind.u64.wrap (q : Int) = (q : Int) := IntWalk.u64_in _ (by omega)
  have z2 : Hid ((A2 : Int).tmod (B : Int) = (r : Int)) := by show _ = _; rw [Int.tmod_eq_emod_of_nonneg (by omega)]; exact hmd
  go_region_held3 (fun W => Below w3.heap.size w3 W)
    (first | assumption | exact Below.drew (Below.refl _ _))
    (first
      | (have hbk1 := hbk; go_at_call 146; refine (refOf_any' r ((A2 : Int).tmod (B : Int)) z2.out _ hr).mono ?_; rintro e w5 ⟨v5, rfl, h5, hb5⟩; have hbk5 : Below w3.heap.size w3 w5 := hbk1.trans (hb5.mono hbk1.size))
      | (go_at_call 146; refine (refOf_any q _ hq).mono ?_; rintro e w4 ⟨v4, rfl, h4, hb4⟩; have hbk : Below w3.heap.size w3 w4 := Below.trans (Below.drew (Below.refl _ _)) hb4)
      | fail)
  clear hdv hmd z1 z2
  replace h4 := (h4.low (show w.heap.size ≤ w3.drew.heap.size from hB.size)).after hb5
  replace h5 := h5.low (Nat.le_trans hB.size hbk.size)
  go_wp2
  go_ret3
  exact ⟨_, _, rfl, h4, h5, hB.trans (hbk5.mono hB.size)⟩

set_option maxHeartbeats 3200000 in
theorem refDivOne_any (u v : Value) (a b : List Nat) (w : World) (da : Dig a) (db : Dig b) (ha : Nt w 0 w.heap.size u a) (hb_ : Nt w 0 w.heap.size v b) (la : a.length ≤ 90000) (lb : b.length ≤ 90000) (h0 : val b ≠ 0)
    (h1 : ¬ val a < 18446744073709551616) (h2 : val b < 4294967296) :
    Calls Tryz.prog 96 #[u, v] w (GivesD (lim (val a / val b)) (lim (remN (val a) (val b))) (decide (val b ≠ 0)) w) := by
  have e2 : remN (val a) (val b) = val a % val b := by unfold remN; rw [if_neg h0]
  have e3 : decide (val b ≠ 0) = true := decide_eq_true h0
  have e4 : (lim (val b)).length ≠ 0 := fun h => h0 (lim_eq_nil.1 (List.eq_nil_of_length_eq_zero h))
  have t1 : toN (val a) = 0 := if_neg h1
  have t2 : toN (val b) = val b := if_pos (by omega)
  have d1 : decide (val a < 18446744073709551616) = false := decide_eq_false h1
  have d2 : decide (val b < 18446744073709551616) = true := decide_eq_true (by omega)
  rw [e2, e3]
  have E4 := Lib.hid e4
  have T1 := Lib.hid t1
  have T2 := Lib.hid t2
  have D1 := Lib.hid d1
  have D2 := Lib.hid d2
  have b0 : 0 < val b := by omega
  have hr : val a % val b < 18446744073709551616 := by have := Nat.mod_lt (val a) b0; omega
  have hsm : ∀ (w' : World), Nt w' 0 w'.heap.size u a → Calls Tryz.prog 154 #[u, .int .u64 ((val b : Nat) : Int)] w' (GivesR (lim (val a / val b)) (val a % val b) w') := fun w' h' => refSmall_any u a (val b) w' da h' la b0 (by omega)
  have HSM := Lib.hid hsm
  obtain ⟨r, hr0⟩ : ∃ r, val a % val b = r := ⟨_, rfl⟩
  rw [hr0] at hr ⊢
  have HR0 := Lib.hid hr0
  clear e2 e3 e4 t1 t2 d1 d2 h0 h1 hsm hr0
  go_enter Tryz.func96, Tryz.ntmps96
  have hB : Below w.heap.size w w := Below.refl _ _
  go_wp2_with fail
  refine (refTrim_any _ b _ db hb_ (by omega)).mono ?_
  rintro e w1 ⟨v1, rfl, h3, hb⟩
  obtain ⟨A, c, rfl, hc, hm, _, hx⟩ := h3
  have hne : ¬ (lim (val b)).length = 0 := E4.out
  replace ha := ha.after hb
  replace hb_ := hb_.after hb
  replace hB := hB.trans (hb.mono hB.size)
  clear hb hx
  go_wp2_with fail
  refine (refTo_any _ a _ da ha (by omega)).mono ?_
  rintro e w2 ⟨rfl, hb⟩
  rw [T1.out, D1.out]
  replace ha := ha.after hb
  replace hb_ := hb_.after hb
  replace hB := hB.trans (hb.mono hB.size)
  clear hb
  go_wp2_with fail
  refine (refTo_any _ b _ db hb_ (by omega)).mono ?_
  rintro e w3 ⟨rfl, hb⟩
  rw [T2.out, D2.out]
  replace ha := ha.after hb
  replace hB := hB.trans (hb.mono hB.size)
  clear hb hb_ T1 T2 D1 D2 E4
  generalize val b = B at *
  have hsm2 := HSM.out w3 ha
  rw [HR0.out] at hsm2
  have HS2 := Lib.hid hsm2
  clear hsm2 HSM HR0
  generalize val a / B = q at *
  have h2i : (B : Int) < 4294967296 := by omega
  go_wp2_with fail
  refine HS2.out.mono ?_
  rintro e w4 ⟨v4, rfl, h4, hb⟩
  replace h4 := h4.low hB.size
  replace hB := hB.trans (hb.mono hB.size)
  clear hb ha
  go_wp2_with fail
  refine (refOf_any r _ hr).mono ?_
  rintro e w5 ⟨v5, rfl, h5, hb⟩
  replace h5 := h5.low hB.size
  replace h4 := h4.after hb
  replace hB := hB.trans (hb.mono hB.size)
  clear hb
  go_wp2
  go_ret3
  exact ⟨_, _, rfl, h4, h5, hB⟩
end Go.Proofs.YtchokmhfgikglaaGreatDoor

namespace Go.Proofs.YtchokmhfgikglaaGreatDoor
set_option maxRecDepth 100000
open Go.RowKit

theorem at_any' (v : Value) (x : List Nat) (i : Nat) (z : Int) (hz : z = (i : Int)) (w : World) (L B : Nat) (hd : Dig x) (h : Nt w L B v x) (hl : x.length ≤ 1000000) :
    Calls Tryz.prog 214 #[v, .int .i64 z] w fun e w' => e = .returned (.int .u64 ((x.getD i 0 : Nat) : Int)) ∧ w = w' := by
  subst hz
  exact at_any v x i w L B hd h hl

/-- A slice's part from its L-th limb on. -/
theorem Nt.drop {w : World} {lo B b off c L : Nat} {p : List Nat} (h : Nt w lo B (.slice (some ⟨b, off, none⟩) p.length c) p) (hL : L < p.length) : Nt w lo B (.slice (some ⟨b, off + L, none⟩) (p.length - L) (c - L)) (p.drop L) := by
  obtain ⟨A', c', he, hc, hm, _, hx⟩ := h
  have hl : (p.drop L).length = p.length - L := List.length_drop
  obtain ⟨b', off', rfl, h1, h2, hcell⟩ := hx (by omega)
  simp only [Value.slice.injEq, Option.some.injEq, Addr.mk.injEq, and_true, true_and] at he
  obtain ⟨⟨rfl, rfl⟩, rfl⟩ := he
  refine ⟨some ⟨b, off + L, none⟩, c - L, by rw [hl], by rw [hl]; omega, by omega, fun h => (by cases h), fun _ => ⟨b, off + L, rfl, h1, h2, fun k hk => ?_⟩⟩
  rw [hl] at hk
  rw [Nat.add_assoc, hcell (L + k) (by omega), List.getElem_drop]

set_option maxHeartbeats 3200000 in
theorem refShiftRight_any (v : Value) (x : List Nat) (n : Int) (j : Nat) (w : World) (hd : Dig x) (h : Nt w 0 w.heap.size v x) (hl : x.length ≤ 90000) (hj : held12 n = -(j : Int)) (hj0 : 1 ≤ j) (hj1 : j ≤ 4096) :
    Calls Tryz.prog 155 #[v, .int .i64 n] w (Gives (lim (val x / 2 ^ j)) w) := by
  have f1 : (if n < -4096 then (-4096 : Int) else n) = -(j : Int) := by
    unfold held12 at hj
    by_cases h1 : n < -4096
    · rw [if_pos h1]; omega
    · rw [if_neg h1]; omega
  have hxl := limBd' hd _ hl
  have vx := val_lim (val x)
  have hdp := dig_lim (val x)
  have VS : Hid (lim (val x / 2 ^ j) = lim (val (lim (val x)) / 2 ^ j)) := by rw [vx]; exact rfl
  clear vx
  obtain ⟨L, hL⟩ : ∃ L, j / 32 = L := ⟨_, rfl⟩
  obtain ⟨s, hs⟩ : ∃ s, j % 32 = s := ⟨_, rfl⟩
  have l1 : (j : Int) / 32 = (L : Int) := by omega
  have l2 : (j : Int) % 32 = (s : Int) := by omega
  have hs31 : s ≤ 31 := by omega
  have l3 : (-(j : Int)) < 0 := by omega
  have HLJ : Hid (L = j / 32 ∧ s = j % 32) := ⟨hL.symm, hs.symm⟩
  have l4 : L ≤ 128 := by omega
  clear hL hs
  obtain ⟨i0, hi, hz0, hz1, hz2⟩ := info_parts Tryz.info32
  go_enter Tryz.func155, Tryz.ntmps155
  go_wp2_with fail
  refine (refTrim_any _ x _ hd h (by omega)).mono ?_
  rintro e w1 ⟨v1, rfl, h1', hb0⟩
  have h1 := h1'.low (Nat.zero_le _)
  generalize lim (val x) = p at *
  clear h hd hl h1'
  have h1' := h1
  obtain ⟨A, c, rfl, hc, hm, _, hx⟩ := h1
  by_cases hLp : p.length ≤ L
  · have e0 : lim (val p / 2 ^ j) = [] := by
      have q1 := val_lt hdp
      have q2 : 4294967296 ^ p.length ≤ 2 ^ j := by
        rw [base_pow]
        exact Nat.pow_le_pow_right (by omega) (by have := HLJ.out; omega)
      rw [Nat.div_eq_of_lt (by omega)]
      exact lim_zero
    have E := Lib.hid e0
    have hge : ¬ (L : Int) < (p.length : Int) := by omega
    clear e0 hx
    go_wp2
    go_ret
    exact ⟨_, rfl, by rw [VS.out, E.out]; exact Nt.nil _ _ _, hb0⟩
  · obtain ⟨b, off, rfl, _, hbl, hcell⟩ := hx (by omega)
    have hlt : (L : Int) < (p.length : Int) := by omega
    have hcL : ¬ c = L := by omega
    have hn := h1'.drop (L := L) (by omega)
    unfold maxLen at hm
    have hql : (p.drop L).length = p.length - L := List.length_drop
    have hdq := hdp.drop L
    have hfin : val (p.drop L) / 2 ^ s = val p / 2 ^ j := by
      have := shift_right_eq hdp j
      rw [← HLJ.out.1, ← HLJ.out.2] at this
      exact this
    have HFIN := Lib.hid hfin
    have HQL := Lib.hid hql
    clear hfin hql hcell hx h1'
    go_wp2_with fail
    generalize p.drop L = q at *
    have HL1 : Hid (q.length = p.length - L) := HQL
    have hl1 : q.length ≤ 90000 := by have := HL1.out; omega
    have hl2 : p.length - L = q.length := HL1.out.symm
    rw [hl2] at hn ⊢
    generalize decide (0 < j) = bj at *
    clear HQL HL1 hl2 l1 l2 l3 f1 hlt hcL hc hm hLp hdp hj0 hj
    go_loopw [8, 9] (fun o i wr => ∃ (k : Nat) (cs : List Nat), k ≤ q.length ∧ i = .int .i64 (k : Nat) ∧ Dig cs ∧ RightIn q cs s k ∧ Own wr w1.heap.size 122 o cs ∧ Below w1.heap.size w1 wr)
      (fun _ i _ => q.length - (intOf i).toNat)
    case atStart => exact ⟨0, [], Nat.zero_le _, rfl, Dig.nil, rightIn_zero _ _, Own.nil _ _ _, Below.refl _ _⟩
    case round =>
      obtain ⟨k, cs, hk, rfl, hdc, hs0, hown, hb⟩ := hrel
      by_cases hlt : k < q.length
      · have b1 := dig_getD hdq k
        have b2 := dig_getD hdq (k + 1)
        have HS := rightIn_step hdq hs31 hs0
        have hcl : cs.length ≤ 1000000 := by have := hs0.1; omega
        have hat1 := at_any _ q k wr 0 w1.heap.size hdq (hn.below hb (Nat.le_refl _)) (by omega)
        have hat2 := at_any' _ q (k + 1) ((k : Int) + 1) (by omega) wr 0 w1.heap.size hdq (hn.below hb (Nat.le_refl _)) (by omega)
        clear hs0
        generalize q.getD k 0 = v1 at *
        generalize q.getD (k + 1) 0 = v2 at *
        obtain ⟨m, hm0⟩ : ∃ m, v2 * 4294967296 = m := ⟨_, rfl⟩
        rw [hm0] at HS
        have hW2 : (v2 : Int) * 4294967296 = (m : Int) := by omega
        have hm1 : m < 18446744073709551616 := by omega
        have hor : bits BinOp.or IntKind.u64 (v1 : Int) (m : Int) = ((v1 ||| m : Nat) : Int) := u64_or_nat _ _ (by omega) (by omega)
        generalize (v1 ||| m) = r at *
        obtain ⟨d, hd0⟩ : ∃ d, r / 2 ^ s = d := ⟨_, rfl⟩
        have hdv : (r : Int) / 2 ^ s = (d : Int) := by
          rw [← hd0, Int.natCast_ediv, Int.natCast_pow]; rfl
        rw [hd0] at HS
        clear hd0 hm0
        have hdc2 := hdc.append (Dig.cons (Nat.mod_lt d (by omega : 4294967296 > 0)) Dig.nil)
        have T1 := Lib.hid hat1
        have T2 := Lib.hid hat2
        clear hat1 hat2 hdc
        go_wp2_with fail
        refine T1.out.mono ?_
        rintro e w2 ⟨rfl, rfl⟩
        go_wp2_with fail
        refine T2.out.mono ?_
        rintro e w2 ⟨rfl, rfl⟩
        go_wp2_with (at_builtin; refine wpList_append_limb rfl _ _ 58 rfl w1.heap.size 122 i0 Tryz.underlying58 hi hz0 hz1 hz2 _ cs rfl hown _ (d % 4294967296) (congrArg (Value.int .u32) (by omega)) rfl hcl hb.size ?_)
        intro v' w3 hown1 hg1
        have hb1 := hb.trans hg1
        clear hown hg1 hb hcl T1 T2
        go_wp2
        go_roundw
        case rel => exact ⟨k + 1, _, by omega, by go_num, hdc2, HS, hown1, hb1⟩
        case measure => simp [intOf]; omega
      · obtain rfl : k = q.length := by omega
        have hv := rightIn_end hs0
        rw [HFIN.out] at hv
        have hcl : cs.length ≤ 1000000 := by have := hs0.1; omega
        have V := Lib.hid hv
        have hr := hown.nt
        clear hs0 hv hown hi hz0 hz1 hz2
        go_wp2_with fail
        refine (refTrim_any _ cs _ hdc (hr.low (Nat.zero_le _)) hcl).mono ?_
        rintro e w2 ⟨v3, rfl, h3, hb3⟩
        rw [V.out] at h3
        go_wp2
        go_ret
        exact ⟨_, rfl, by rw [VS.out]; exact h3.low (Nat.le_trans hb0.size hb.size), hb0.trans ((hb.trans (hb3.mono hb.size)).mono hb0.size)⟩

theorem refShift_any (v : Value) (x : List Nat) (n : Int) (w : World) (hd : Dig x) (h : Nt w 0 w.heap.size v x) (hl : x.length ≤ 90000) :
    Calls Tryz.prog 155 #[v, .int .i64 n] w (Gives (lim (shiftN (val x) n)) w) := by
  by_cases hn : held12 n < 0
  · have e : shiftN (val x) n = val x / 2 ^ (-(held12 n)).toNat := by unfold shiftN; rw [if_pos hn]
    rw [e]
    refine refShiftRight_any v x n (-(held12 n)).toNat w hd h (by omega) (by omega) (by omega) ?_
    unfold held12 at hn ⊢
    omega
  · have e : shiftN (val x) n = val x * 2 ^ (held12 n).toNat := by unfold shiftN; rw [if_neg hn]
    rw [e]
    by_cases h1 : (4096 : Int) < n
    · have e2 : (held12 n).toNat = 4096 := by unfold held12; omega
      rw [e2]
      exact refShiftLeft_out v x n 4096 w hd h hl h1 rfl
    · have e2 : (held12 n).toNat = n.toNat := by unfold held12; omega
      rw [e2]
      unfold held12 at hn
      exact refShiftLeft_in v x n n.toNat w hd h hl (by omega) (by omega)
end Go.Proofs.YtchokmhfgikglaaGreatDoor
