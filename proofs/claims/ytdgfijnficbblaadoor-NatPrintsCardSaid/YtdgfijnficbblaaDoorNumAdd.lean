/- Sums of rows of limbs, round by round, in plain Lean. No condition on a program. -/
import Derived.Test.YtdgfijnficbblaaDoorNum
namespace Go.Proofs.YtdgfijnficbblaaDoor

theorem pow_pos' (k : Nat) : 0 < 4294967296 ^ k := Nat.pow_pos (by omega)

/-- A limb behind the end counts for nothing. -/
theorem val_take_getD (l : List Nat) (k : Nat) : val (l.take (k + 1)) = val (l.take k) + 4294967296 ^ k * l.getD k 0 := by
  by_cases h : k < l.length
  · rw [val_take_succ l k h, List.getD_eq_getElem?_getD, List.getElem?_eq_getElem h]; rfl
  · rw [List.take_of_length_le (by omega), List.take_of_length_le (by omega), List.getD_eq_getElem?_getD, List.getElem?_eq_none (by omega)]; simp

theorem dig_getD {l : List Nat} (h : Dig l) (k : Nat) : l.getD k 0 < 4294967296 := by
  by_cases hk : k < l.length
  · rw [List.getD_eq_getElem?_getD, List.getElem?_eq_getElem hk]; exact h.at hk
  · rw [List.getD_eq_getElem?_getD, List.getElem?_eq_none (by omega)]; simp

theorem carry_eq {P d q s : Nat} (h : s = d + 4294967296 * q) : P * d + P * 4294967296 * q = P * s := by
  rw [h, Nat.mul_add, Nat.mul_assoc]

theorem step_eq {P c x y d q va vb vc : Nat} (h : vc + P * c = va + vb) (hs : c + x + y = d + 4294967296 * q) : vc + P * d + P * 4294967296 * q = va + P * x + (vb + P * y) := by
  have := carry_eq (P := P) hs
  rw [Nat.mul_add, Nat.mul_add] at this
  omega

theorem end_eq {P c va vb vc PA PB : Nat} (h : vc + P * 4294967296 * c = va + vb) (h1 : va < PA) (h2 : vb < PB) (h3 : PA ≤ P) (h4 : PB ≤ P) : vc = va + vb := by
  rcases Nat.eq_zero_or_pos c with h0 | h0
  · rw [h0, Nat.mul_zero, Nat.add_zero] at h
    exact h
  · have : P * 4294967296 ≤ P * 4294967296 * c := Nat.le_mul_of_pos_right _ h0
    generalize P * 4294967296 * c = Z at *
    omega

/-- The state of an addition behind k rounds: k limbs of the sum lie in c, the rest is the carry. -/
def AddAt (a b c : List Nat) (carry k : Nat) : Prop :=
  val (c.take k) + 4294967296 ^ k * carry = val (a.take k) + val (b.take k)

theorem addAt_zero (a b c : List Nat) : AddAt a b c 0 0 := by simp [AddAt, val]

theorem addAt_step {a b c : List Nat} {carry k t : Nat} (h : AddAt a b c carry k) (hk : k < c.length) (ht : t = carry + a.getD k 0 + b.getD k 0) :
    AddAt a b (c.set k (t % 4294967296)) (t / 4294967296) (k + 1) := by
  unfold AddAt at h ⊢
  rw [val_set_take _ _ _ hk, val_take_getD, val_take_getD, Nat.pow_succ]
  exact step_eq h (by rw [← ht]; omega)

/-- An addition that has gone through both. -/
theorem addAt_end {a b c : List Nat} {carry k : Nat} (h : AddAt a b c carry k) (ha : a.length ≤ k) (hb : b.length ≤ k) (hk : k < c.length) :
    val ((c.set k carry).take (k + 1)) = val a + val b := by
  unfold AddAt at h
  rw [val_set_take _ _ _ hk, h, List.take_of_length_le ha, List.take_of_length_le hb]

/-- The same where limbs are laid one by one. -/
def SumAt (a b c : List Nat) (carry k : Nat) : Prop :=
  c.length = k ∧ val c + 4294967296 ^ k * carry = val (a.take k) + val (b.take k)

theorem sumAt_step {a b c : List Nat} {carry k t : Nat} (h : SumAt a b c carry k) (ht : t = carry + a.getD k 0 + b.getD k 0) :
    SumAt a b (c ++ [t % 4294967296]) (t / 4294967296) (k + 1) := by
  obtain ⟨hl, h⟩ := h
  refine ⟨by simp [hl], ?_⟩
  rw [val_append, hl, val_take_getD, val_take_getD, Nat.pow_succ]
  have e0 : val [t % 4294967296] = t % 4294967296 := by simp [val]
  rw [e0]
  exact step_eq h (by rw [← ht]; omega)

/-- Behind the last limb nothing is carried. -/
theorem sumAt_end {a b c : List Nat} {carry k : Nat} (hda : Dig a) (hdb : Dig b) (h : SumAt a b c carry (k + 1)) (ha : a.length ≤ k) (hb : b.length ≤ k) : val c = val a + val b := by
  obtain ⟨hl, h⟩ := h
  rw [List.take_of_length_le (by omega), List.take_of_length_le (by omega)] at h
  rw [Nat.pow_succ] at h
  exact end_eq h (val_lt hda) (val_lt hdb) (Nat.pow_le_pow_right (by omega) ha) (Nat.pow_le_pow_right (by omega) hb)

end Go.Proofs.YtdgfijnficbblaaDoor
