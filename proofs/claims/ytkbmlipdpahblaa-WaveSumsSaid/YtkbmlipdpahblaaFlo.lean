/- Whole numbers of less than 2 ^ 53 as floats: sums, differences and products of them are exact where the result is less than 2 ^ 53 too. No condition on a program. -/
import Derived.Laws.ComplexArith
namespace Go.Proofs.Ytkbmlipdpahblaa
open Ieee

/-- The word of a whole number, with a sign of its own (0 has two). -/
def fw (neg : Bool) (n : Nat) : Nat := FloatKind.f64.format.nearest neg n 0

def sg (neg : Bool) (n : Nat) : Int := if neg then -(n : Int) else n

/-- The word b stands for the whole number v (of less than 2 ^ 53 without its sign). -/
def Is (b : Nat) (v : Int) : Prop := ∃ s n, n < 2 ^ 53 ∧ b = fw s n ∧ v = sg s n

theorem cut_exact (neg : Bool) (n d k : Nat) (h : n = d * 2 ^ k) (hk : k ≤ n.log2 + 2) : Toward.even.cut neg n k = d := by
  subst h
  unfold Toward.cut
  have e1 : min k ((d * 2 ^ k).log2 + 2) = k := by omega
  rw [e1]
  have e2 : 1 <<< k = 2 ^ k := by rw [Nat.shiftLeft_eq, Nat.one_mul]
  have hp : 0 < 2 ^ k := Nat.two_pow_pos k
  simp only [e2, Nat.mul_div_cancel _ hp, Nat.mul_mod_left]

  simp

theorem log2_lt (n : Nat) (h0 : n ≠ 0) (h : n < 2 ^ 53) : n.log2 < 53 := (Nat.log2_lt h0).2 h

theorem log2_mul (n k : Nat) (h0 : n ≠ 0) : (n * 2 ^ k).log2 = n.log2 + k := by
  have h1 := Nat.log2_self_le h0
  have h2 := Nat.lt_log2_self (n := n)
  have hp : 0 < 2 ^ k := Nat.two_pow_pos k
  have h3 : n * 2 ^ k ≠ 0 := Nat.mul_ne_zero h0 (by omega)
  rw [Nat.log2_eq_iff h3]
  constructor
  · rw [Nat.pow_add]; exact Nat.mul_le_mul_right _ h1
  · have : n.log2 + k + 1 = (n.log2 + 1) + k := by omega
    rw [this, Nat.pow_add]; exact Nat.mul_lt_mul_of_pos_right h2 hp

/-- The rung of a whole number that is not 0. -/
def rung (n : Nat) : Nat := (n.log2 + 1022) * 2 ^ 52 + n * 2 ^ (52 - n.log2)

theorem mant (n : Nat) (h0 : n ≠ 0) (h : n < 2 ^ 53) : 2 ^ 52 ≤ n * 2 ^ (52 - n.log2) ∧ n * 2 ^ (52 - n.log2) < 2 ^ 53 := by
  have hl := log2_lt n h0 h
  have h1 := Nat.log2_self_le h0
  have h2 := Nat.lt_log2_self (n := n)
  have hp : 0 < 2 ^ (52 - n.log2) := Nat.two_pow_pos _
  constructor
  · have : 2 ^ 52 = 2 ^ n.log2 * 2 ^ (52 - n.log2) := by rw [← Nat.pow_add]; congr 1; omega
    rw [this]; exact Nat.mul_le_mul_right _ h1
  · have : 2 ^ 53 = 2 ^ (n.log2 + 1) * 2 ^ (52 - n.log2) := by rw [← Nat.pow_add]; congr 1; omega
    rw [this]; exact Nat.mul_lt_mul_of_pos_right h2 hp

theorem fbits : FloatKind.f64.format.fractionBits = 52 := rfl
theorem hsw : FloatKind.f64.format.signWeight = 9223372036854775808 := rfl
theorem hleast : FloatKind.f64.format.leastPlace = -1074 := by decide
theorem hbin : FloatKind.f64.format.binade = 4503599627370496 := rfl
theorem hinf : FloatKind.f64.format.infRung = 9218868437227405312 := rfl

theorem nearest_eq (neg : Bool) (n k : Nat) (h0 : n ≠ 0) (h : n < 2 ^ 53) :
    FloatKind.f64.format.nearest neg (n * 2 ^ k) (-(k : Int)) = FloatKind.f64.format.word neg (rung n) := by
  have hl := log2_lt n h0 h
  have hm := mant n h0 h
  have h3 : n * 2 ^ k ≠ 0 := Nat.mul_ne_zero h0 (Nat.pos_iff_ne_zero.1 (Nat.two_pow_pos k))
  have hl2 := log2_mul n k h0
  unfold Format.nearest
  rw [if_neg h3, hl2, fbits, hleast, hbin, hinf]
  have hlast : max (-(k : Int) + ((n.log2 + k : Nat) : Int) - ((52 : Nat) : Int)) (-1074) = (n.log2 : Int) - 52 := by omega
  simp only [hlast]
  have e1 : ((n.log2 : Int) - 52 - -1074).toNat = n.log2 + 1022 := by omega
  rw [e1]
  have e2 : Toward.even.cut neg ((n * 2 ^ k) <<< (-(k : Int) - ((n.log2 : Int) - 52)).toNat) (((n.log2 : Int) - 52) - -(k : Int)).toNat = n * 2 ^ (52 - n.log2) := by
    by_cases hk : k ≤ 52 - n.log2
    · have ea : (-(k : Int) - ((n.log2 : Int) - 52)).toNat = 52 - n.log2 - k := by omega
      have eb : (((n.log2 : Int) - 52) - -(k : Int)).toNat = 0 := by omega
      rw [ea, eb, Nat.shiftLeft_eq, Nat.mul_assoc, ← Nat.pow_add]
      have ec : k + (52 - n.log2 - k) = 52 - n.log2 := by omega
      rw [ec]
      exact cut_exact neg _ _ 0 (by rw [Nat.pow_zero, Nat.mul_one]) (Nat.zero_le _)
    · have ea : (-(k : Int) - ((n.log2 : Int) - 52)).toNat = 0 := by omega
      have eb : (((n.log2 : Int) - 52) - -(k : Int)).toNat = k - (52 - n.log2) := by omega
      rw [ea, eb, Nat.shiftLeft_zero]
      refine cut_exact neg _ _ _ ?_ ?_
      · rw [Nat.mul_assoc, ← Nat.pow_add]
        have : 52 - n.log2 + (k - (52 - n.log2)) = k := by omega
        rw [this]
      · rw [hl2]; omega
  rw [e2]
  have e5 : (n.log2 + 1022) * 4503599627370496 + n * 2 ^ (52 - n.log2) = rung n := rfl
  rw [e5]
  have e6 : rung n ≤ 9218868437227405312 := by unfold rung; omega
  rw [Nat.min_eq_left e6]

theorem nearest_zero (neg : Bool) (k : Int) : FloatKind.f64.format.nearest neg 0 k = FloatKind.f64.format.word neg 0 := by
  unfold Format.nearest; rw [if_pos rfl]

theorem nearest_fw (neg : Bool) (n k : Nat) (h : n < 2 ^ 53) : FloatKind.f64.format.nearest neg (n * 2 ^ k) (-(k : Int)) = fw neg n := by
  unfold fw
  by_cases h0 : n = 0
  · subst h0; rw [Nat.zero_mul, nearest_zero, nearest_zero]
  · rw [nearest_eq neg n k h0 h]
    have := nearest_eq neg n 0 h0 h
    rw [Nat.pow_zero, Nat.mul_one] at this
    exact this.symm

theorem fw_eq (neg : Bool) (n : Nat) (h0 : n ≠ 0) (h : n < 2 ^ 53) : fw neg n = FloatKind.f64.format.word neg (rung n) := by
  have := nearest_eq neg n 0 h0 h
  rw [Nat.pow_zero, Nat.mul_one] at this
  exact this

theorem word_neg (neg : Bool) (r : Nat) (h : r < 9223372036854775808) : (FloatKind.f64.format.word neg r) / 9223372036854775808 % 2 = neg.toNat ∧ (FloatKind.f64.format.word neg r) % 9223372036854775808 = r := by
  unfold Format.word
  rw [hsw]
  cases neg
  · simp only [Bool.false_eq_true, if_false, Bool.toNat_false]; omega
  · simp only [if_true, Bool.toNat_true]; omega

/-- The places behind the point of a whole number's word. -/
def behind (n : Nat) : Nat := if n = 0 then 1074 else 52 - n.log2

/-- What the word of a whole number stands for. -/
theorem read_fw (neg : Bool) (n : Nat) (h : n < 2 ^ 53) : FloatKind.f64.format.read (fw neg n) = .number neg (n * 2 ^ behind n) (-(behind n : Int)) := by
  by_cases h0 : n = 0
  · subst h0
    unfold fw
    rw [nearest_zero, Nat.zero_mul]
    have hw := word_neg neg 0 (by omega)
    unfold Format.read
    rw [hsw, hbin, hleast, hw.1, hw.2]
    have e3 : (neg.toNat == 1) = neg := by cases neg <;> rfl
    simp only [e3]
    rw [if_pos (by omega)]
    rfl
  · have hl := log2_lt n h0 h
    have hm := mant n h0 h
    have hb : behind n = 52 - n.log2 := by unfold behind; rw [if_neg h0]
    rw [fw_eq neg n h0 h, hb]
    have hr : rung n < 9218868437227405312 := by unfold rung; omega
    have hr1 : ¬ rung n < 4503599627370496 := by unfold rung; omega
    have ediv : rung n / 4503599627370496 = n.log2 + 1023 := by unfold rung; omega
    have emod : rung n % 4503599627370496 = n * 2 ^ (52 - n.log2) - 4503599627370496 := by unfold rung; omega
    have hw := word_neg neg (rung n) (by omega)
    unfold Format.read
    rw [hsw, hbin, hleast, hinf, hw.1, hw.2]
    have e3 : (neg.toNat == 1) = neg := by cases neg <;> rfl
    simp only [e3]
    rw [if_neg hr1, if_pos hr, ediv, emod]
    have e4 : 4503599627370496 + (n * 2 ^ (52 - n.log2) - 4503599627370496) = n * 2 ^ (52 - n.log2) := by omega
    have e5 : (-1074 : Int) + ((n.log2 + 1023 - 1 : Nat) : Int) = -((52 - n.log2 : Nat) : Int) := by omega
    rw [e4, e5]

theorem signed_eq (s : Bool) (n k j : Nat) : signed s (n * 2 ^ k) j = sg s n * (2 ^ (k + j) : Nat) := by
  unfold signed sg
  have : (n * 2 ^ k) <<< j = n * 2 ^ (k + j) := by rw [Nat.shiftLeft_eq, Nat.mul_assoc, ← Nat.pow_add]
  rw [this]
  generalize 2 ^ (k + j) = M
  cases s <;> simp [Int.neg_mul]

theorem is_of_int (v : Int) (h : v.natAbs < 2 ^ 53) : Is (floatOfInt .f64 v) v := by
  refine ⟨decide (v < 0), v.natAbs, h, rfl, ?_⟩
  unfold sg
  by_cases hv : v < 0
  · rw [decide_eq_true hv, if_pos rfl]; omega
  · rw [decide_eq_false hv, if_neg (by simp)]; omega

theorem sg_abs (s : Bool) (n : Nat) : (sg s n).natAbs = n := by unfold sg; cases s <;> simp

/-- A number of a datum, written. -/
theorem write_is (t : Int) (m : Nat) (s : Bool) (h : t.natAbs < 2 ^ 53) (hs : t ≠ 0 → s = decide (t < 0)) :
    Is (FloatKind.f64.format.write (.number s (t.natAbs * 2 ^ m) (-(m : Int)))) t := by
  refine ⟨s, t.natAbs, h, nearest_fw s _ m h, ?_⟩
  unfold sg
  by_cases h0 : t = 0
  · subst h0; cases s <;> rfl
  · rw [hs h0]
    by_cases hv : t < 0
    · rw [decide_eq_true hv, if_pos rfl]; omega
    · rw [decide_eq_false hv, if_neg (by simp)]; omega

theorem base_eq (k j : Nat) : min (-(k : Int)) (-(j : Int)) = -((max k j : Nat) : Int) := by omega
theorem up_left (k j : Nat) : k + (-(k : Int) - -((max k j : Nat) : Int)).toNat = max k j := by omega
theorem up_right (k j : Nat) : j + (-(j : Int) - -((max k j : Nat) : Int)).toNat = max k j := by omega

theorem mul_neg_iff (u : Int) (M : Nat) (hM : 0 < M) : (u * (M : Int) < 0) ↔ u < 0 := by
  have hp : (0 : Int) < (M : Int) := by omega
  constructor
  · intro hh
    refine Int.not_le.1 fun hc => ?_
    have := Int.mul_nonneg hc (Int.le_of_lt hp)
    omega
  · intro hh; exact Int.mul_neg_of_neg_of_pos hh hp

/-- The sum of two data of whole numbers, written. -/
theorem sum_data (s t : Bool) (n m k j : Nat) (h : (sg s n + sg t m).natAbs < 2 ^ 53) :
    ∃ d, Datum.sum (.number s (n * 2 ^ k) (-(k : Int))) (.number t (m * 2 ^ j) (-(j : Int))) = some d ∧ Is (FloatKind.f64.format.write d) (sg s n + sg t m) := by
  unfold Datum.sum
  simp only [base_eq, signed_eq, up_left, up_right]
  refine ⟨_, rfl, ?_⟩
  generalize max k j = e
  have hp : 0 < 2 ^ e := Nat.two_pow_pos e
  rw [← Int.add_mul, Int.natAbs_mul]
  refine write_is _ e _ h ?_
  intro h0
  have h1 : (sg s n + sg t m) * ((2 ^ e : Nat) : Int) ≠ 0 := Int.mul_ne_zero h0 (by omega)
  rw [if_neg h1]
  exact decide_eq_decide.2 (mul_neg_iff _ _ hp)

theorem sum_is {a b : Nat} {x y : Int} (ha : Is a x) (hb : Is b y) (h : (x + y).natAbs < 2 ^ 53) : ∃ r, floatBits .add .f64 a b = some r ∧ Is r (x + y) := by
  obtain ⟨s, n, hn, rfl, rfl⟩ := ha
  obtain ⟨t, m, hm, rfl, rfl⟩ := hb
  obtain ⟨d, hd, hi⟩ := sum_data s t n m (behind n) (behind m) h
  refine ⟨_, ?_, hi⟩
  show (FloatKind.f64.format.add (fw s n) (fw t m)) = _
  unfold Format.add
  rw [read_fw s n hn, read_fw t m hm, hd]
  rfl

theorem sub_is {a b : Nat} {x y : Int} (ha : Is a x) (hb : Is b y) (h : (x - y).natAbs < 2 ^ 53) : ∃ r, floatBits .sub .f64 a b = some r ∧ Is r (x - y) := by
  obtain ⟨s, n, hn, rfl, rfl⟩ := ha
  obtain ⟨t, m, hm, rfl, rfl⟩ := hb
  have e0 : sg s n - sg t m = sg s n + sg (!t) m := by unfold sg; cases t <;> simp <;> omega
  rw [e0] at h ⊢
  obtain ⟨d, hd, hi⟩ := sum_data s (!t) n m (behind n) (behind m) h
  refine ⟨_, ?_, hi⟩
  show (FloatKind.f64.format.sub (fw s n) (fw t m)) = _
  unfold Format.sub
  rw [read_fw s n hn, read_fw t m hm]
  unfold Datum.opposite
  rw [hd]
  rfl

theorem sg_zero (s : Bool) : sg s 0 = 0 := by cases s <;> rfl

theorem mul_is {a b : Nat} {x y : Int} (ha : Is a x) (hb : Is b y) (h : (x * y).natAbs < 2 ^ 53) : ∃ r, floatBits .mul .f64 a b = some r ∧ Is r (x * y) := by
  obtain ⟨s, n, hn, rfl, rfl⟩ := ha
  obtain ⟨t, m, hm, rfl, rfl⟩ := hb
  refine ⟨FloatKind.f64.format.write (.number (s ^^ t) (n * 2 ^ behind n * (m * 2 ^ behind m)) (-(behind n : Int) + -(behind m : Int))), ?_, ?_⟩
  · show (FloatKind.f64.format.mul (fw s n) (fw t m)) = _
    unfold Format.mul
    rw [read_fw s n hn, read_fw t m hm]
    rfl
  generalize behind n = k
  generalize behind m = j
  have e0 : n * 2 ^ k * (m * 2 ^ j) = (n * m) * 2 ^ (k + j) := by rw [Nat.pow_add]; ac_rfl
  have e1 : -(k : Int) + -(j : Int) = -((k + j : Nat) : Int) := by omega
  have e2 : n * m = (sg s n * sg t m).natAbs := by rw [Int.natAbs_mul, sg_abs, sg_abs]
  rw [e0, e1, e2]
  refine write_is _ (k + j) _ h ?_
  intro h0
  have hn0 : n ≠ 0 := by rintro rfl; apply h0; rw [sg_zero, Int.zero_mul]
  have hm0 : m ≠ 0 := by rintro rfl; apply h0; rw [sg_zero, Int.mul_zero]
  have hn1 : (0 : Int) < n := by omega
  have hm1 : (0 : Int) < m := by omega
  have hnm := Int.mul_pos hn1 hm1
  unfold sg
  cases s <;> cases t <;> simp [Int.neg_mul, Int.mul_neg] <;> omega

theorem order_is {a b : Nat} {x y : Int} (ha : Is a x) (hb : Is b y) : FloatKind.f64.format.order a b = some (compare x y) := by
  obtain ⟨s, n, hn, rfl, rfl⟩ := ha
  obtain ⟨t, m, hm, rfl, rfl⟩ := hb
  unfold Format.order
  rw [read_fw s n hn, read_fw t m hm]
  generalize behind n = k
  generalize behind m = j
  unfold Datum.order
  simp only [base_eq, signed_eq, up_left, up_right]
  generalize max k j = e
  have hp : 0 < 2 ^ e := Nat.two_pow_pos e
  generalize 2 ^ e = M at *
  have hpi : (0 : Int) < (M : Int) := by omega
  congr 1
  have hlt : ∀ u v : Int, u < v → u * (M : Int) < v * (M : Int) := fun u v h => Int.mul_lt_mul_of_pos_right h hpi
  rcases Int.lt_trichotomy (sg s n) (sg t m) with h | h | h
  · have := hlt _ _ h
    rw [Int.compare_eq_lt.2 h, Int.compare_eq_lt.2 this]
  · rw [h]; rw [Int.compare_eq_eq.2 rfl, Int.compare_eq_eq.2 rfl]
  · have := hlt _ _ h
    rw [Int.compare_eq_gt.2 h, Int.compare_eq_gt.2 this]

theorem eq_is {a b : Nat} {x y : Int} (ha : Is a x) (hb : Is b y) (h : x = y) : (FloatKind.f64.format.order a b == some .eq) = true := by
  rw [order_is ha hb, h, Int.compare_eq_eq.2 rfl]; rfl

end Go.Proofs.Ytkbmlipdpahblaa
