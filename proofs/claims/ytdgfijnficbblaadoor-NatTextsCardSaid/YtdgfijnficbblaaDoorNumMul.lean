/- Products of rows of limbs, round by round, in plain Lean. No condition on a program. -/
import Derived.Test.YtdgfijnficbblaaDoorNumAdd
namespace Go.Proofs.YtdgfijnficbblaaDoor

/-- One limb laid anew. -/
theorem val_set (l : List Nat) (j d : Nat) (h : j < l.length) : val (l.set j d) + 4294967296 ^ j * l.getD j 0 = val l + 4294967296 ^ j * d := by
  have h1 := val_split l (j + 1) h
  have h2 := val_split (l.set j d) (j + 1) (by rw [List.length_set]; exact h)
  rw [val_set_take l j d h] at h2
  rw [val_take_getD] at h1
  have h3 : (l.set j d).drop (j + 1) = l.drop (j + 1) := by rw [List.drop_set_of_lt (by omega)]
  rw [h3] at h2
  generalize 4294967296 ^ (j + 1) * val (l.drop (j + 1)) = Z at *
  generalize 4294967296 ^ j * l.getD j 0 = X at *
  generalize 4294967296 ^ j * d = Y at *
  omega

def MulIn (p q cs : List Nat) (i t k : Nat) : Prop :=
  val cs + 4294967296 ^ (i + k) * t = val (p.take i) * val q + 4294967296 ^ i * (p.getD i 0 * val (q.take k))

theorem mulIn_zero {p q cs : List Nat} {i : Nat} (h : val cs = val (p.take i) * val q) : MulIn p q cs i 0 0 := by
  unfold MulIn
  rw [h]
  simp [val]

theorem mul_step_eq {va vb P Q x y z t d c X : Nat} (h1 : va + P * t = X + Q) (h2 : vb + P * z = va + P * d) (h3 : t + x * y + z = d + 4294967296 * c) : vb + P * 4294967296 * c = X + (Q + P * (x * y)) := by
  have h4 := carry_eq (P := P) h3
  rw [Nat.mul_add, Nat.mul_add] at h4
  generalize P * (x * y) = A at *
  generalize P * t = B at *
  generalize P * z = C at *
  generalize P * d = D at *
  generalize P * 4294967296 * c = E at *
  omega

theorem mulIn_step {p q cs : List Nat} {i t k s : Nat} (h : MulIn p q cs i t k) (hk : i + k < cs.length) (hs : s = t + p.getD i 0 * q.getD k 0 + cs.getD (i + k) 0) :
    MulIn p q (cs.set (i + k) (s % 4294967296)) i (s / 4294967296) (k + 1) := by
  unfold MulIn at h ⊢
  have h2 := val_set cs (i + k) (s % 4294967296) hk
  have h3 : t + p.getD i 0 * q.getD k 0 + cs.getD (i + k) 0 = s % 4294967296 + 4294967296 * (s / 4294967296) := by rw [← hs]; omega
  have h4 := mul_step_eq h h2 h3
  have e1 : 4294967296 ^ (i + (k + 1)) = 4294967296 ^ (i + k) * 4294967296 := by rw [← Nat.add_assoc, Nat.pow_succ]
  rw [e1, h4, val_take_getD, Nat.mul_add, Nat.mul_add]
  have e2 : 4294967296 ^ i * (p.getD i 0 * (4294967296 ^ k * q.getD k 0)) = 4294967296 ^ (i + k) * (p.getD i 0 * q.getD k 0) := by rw [Nat.pow_add]; ac_rfl
  rw [e2]

/-- A row is through: what is carried is laid, or there is nothing to lay. -/
theorem mulIn_end {p q cs : List Nat} {i t k : Nat} (h : MulIn p q cs i t k) (hk : q.length ≤ k) : val cs + 4294967296 ^ (i + k) * t = val (p.take (i + 1)) * val q := by
  unfold MulIn at h
  rw [h, List.take_of_length_le hk, val_take_getD, Nat.add_mul]
  congr 1
  ac_rfl

theorem mulIn_done {p q cs : List Nat} {i k : Nat} (h : MulIn p q cs i 0 k) (hk : q.length ≤ k) : val cs = val (p.take (i + 1)) * val q := by
  have := mulIn_end h hk
  rw [Nat.mul_zero, Nat.add_zero] at this
  exact this

/-- Behind the last place nothing is carried. -/
theorem mulIn_full {p q cs : List Nat} {i t k : Nat} (hp : Dig p) (hq : Dig q) (h : MulIn p q cs i t k) (hk : q.length ≤ k) (hi : i < p.length) (hl : p.length + q.length ≤ i + k) : t = 0 := by
  have h1 := mulIn_end h hk
  have h2 := val_lt (hp.take (i + 1))
  have h3 := val_lt hq
  have h4 : (p.take (i + 1)).length = i + 1 := by rw [List.length_take]; omega
  rw [h4] at h2
  have h5 : val (p.take (i + 1)) * val q < 4294967296 ^ (i + 1) * 4294967296 ^ q.length := by
    rcases Nat.eq_zero_or_pos (val q) with h0 | h0
    · rw [h0, Nat.mul_zero]; exact Nat.mul_pos (pow_pos' _) (pow_pos' _)
    · exact Nat.mul_lt_mul_of_lt_of_le h2 (Nat.le_of_lt h3) (pow_pos' _)
  rw [← Nat.pow_add] at h5
  have h6 : 4294967296 ^ (i + 1 + q.length) ≤ 4294967296 ^ (i + k) := Nat.pow_le_pow_right (by omega) (by omega)
  rcases Nat.eq_zero_or_pos t with h0 | h0
  · exact h0
  · have h7 : 4294967296 ^ (i + k) ≤ 4294967296 ^ (i + k) * t := Nat.le_mul_of_pos_right _ h0
    generalize 4294967296 ^ (i + k) * t = Z at *
    generalize 4294967296 ^ (i + k) = Y at *
    generalize 4294967296 ^ (i + 1 + q.length) = X at *
    omega

theorem mul_carry {a b c d : Nat} (ha : a < 4294967296) (hb : b < 4294967296) (hc : c < 4294967296) (hd : d < 4294967296) : a + b * c + d < 18446744073709551616 ∧ (a + b * c + d) / 4294967296 < 4294967296 ∧ b * c ≤ 18446744065119617025 := by
  have := Nat.mul_le_mul (show b ≤ 4294967295 by omega) (show c ≤ 4294967295 by omega)
  generalize b * c = Z at *
  omega

/-- What is carried is laid where a nought was. -/
theorem val_set_zero {cs : List Nat} {j t : Nat} (hj : j < cs.length) (h : cs.getD j 0 = 0) : val (cs.set j t) = val cs + 4294967296 ^ j * t := by
  have := val_set cs j t hj
  rw [h, Nat.mul_zero, Nat.add_zero] at this
  exact this

/-- From place n on there are noughts. -/
def Bare (cs : List Nat) (n : Nat) : Prop := ∀ j, n ≤ j → cs.getD j 0 = 0
theorem bare_zeros (m n : Nat) : Bare (List.replicate m 0) n := by
  intro j _
  rw [List.getD_eq_getElem?_getD]
  by_cases h : j < m
  · rw [List.getElem?_eq_getElem (by simpa using h)]; simp
  · rw [List.getElem?_eq_none (by simpa using h)]; rfl
theorem Bare.set {cs : List Nat} {n : Nat} (h : Bare cs n) {j d : Nat} (hj : j < n) : Bare (cs.set j d) n := by
  intro i hi
  rw [List.getD_eq_getElem?_getD, List.getElem?_set_ne (by omega), ← List.getD_eq_getElem?_getD]
  exact h i hi
theorem Bare.more {cs : List Nat} {n m : Nat} (h : Bare cs n) (hm : n ≤ m) : Bare cs m := fun j hj => h j (by omega)

end Go.Proofs.YtdgfijnficbblaaDoor
