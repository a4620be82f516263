/- Differences of rows of limbs, round by round; the borrow of 32 bits; in plain Lean. No condition on a program. -/
import Derived.Test.YtdgfijnficbblaaDoorNumCmp
namespace Go.Proofs.YtdgfijnficbblaaDoor

theorem borrow_tbl (a b c : Nat) (ha : a = 0 ∨ a = 1) (hb : b = 0 ∨ b = 1) (hc : c = 0 ∨ c = 1) : (((1 ^^^ a) &&& b) ||| ((1 ^^^ (a ^^^ b)) &&& c)) = if a < b then 1 else if b < a then 0 else c := by
  rcases ha with rfl | rfl <;> rcases hb with rfl | rfl <;> rcases hc with rfl | rfl <;> decide
theorem borrow_bits (x y d : Nat) : (((4294967295 ^^^ x) &&& y) ||| ((4294967295 ^^^ (x ^^^ y)) &&& d)) / 2 ^ 31 =
      ((1 ^^^ (x / 2 ^ 31)) &&& (y / 2 ^ 31)) ||| ((1 ^^^ ((x / 2 ^ 31) ^^^ (y / 2 ^ 31))) &&& (d / 2 ^ 31)) := by
    rw [Nat.or_div_two_pow, Nat.and_div_two_pow, Nat.and_div_two_pow, Nat.xor_div_two_pow, Nat.xor_div_two_pow, Nat.xor_div_two_pow]
theorem top_cases {n : Nat} (h : n < 4294967296) : n / 2147483648 = 0 ∨ n / 2147483648 = 1 := by omega
theorem borrow_num (x y b d : Nat) (hx : x < 4294967296) (hy : y < 4294967296) (hb : b ≤ 1) (hd : d = (x + 8589934592 - y - b) % 4294967296) :
    (if x / 2147483648 < y / 2147483648 then 1 else if y / 2147483648 < x / 2147483648 then 0 else d / 2147483648) = if x < y + b then 1 else 0 := by
  by_cases h1 : x / 2147483648 < y / 2147483648
  · rw [if_pos h1, if_pos (by omega)]
  · rw [if_neg h1]
    by_cases h2 : y / 2147483648 < x / 2147483648
    · rw [if_pos h2, if_neg (by omega)]
    · rw [if_neg h2]
      by_cases h : x < y + b
      · rw [if_pos h]; omega
      · rw [if_neg h]; omega
theorem borrow_eq (x y b d : Nat) (hx : x < 4294967296) (hy : y < 4294967296) (hb : b ≤ 1) (hd : d = (x + 8589934592 - y - b) % 4294967296) :
    (((4294967295 ^^^ x) &&& y) ||| ((4294967295 ^^^ (x ^^^ y)) &&& d)) / 2147483648 = if x < y + b then 1 else 0 := by
  have hd' : d < 4294967296 := by omega
  have := borrow_bits x y d
  have e : (2 : Nat) ^ 31 = 2147483648 := by decide
  rw [e, borrow_tbl _ _ _ (top_cases hx) (top_cases hy) (top_cases hd')] at this
  rw [this]
  exact borrow_num x y b d hx hy hb hd

/-- The state of a subtraction behind k rounds. -/
def SubAt (p q c : List Nat) (b k : Nat) : Prop := val (c.take k) + val (q.take k) = val (p.take k) + 4294967296 ^ k * b

theorem subAt_zero (p q c : List Nat) : SubAt p q c 0 0 := by simp [SubAt, val]

theorem sub_step_eq {P vc vq vp b d y x b' : Nat} (h : vc + vq = vp + P * b) (hs : d + y + b = x + 4294967296 * b') : vc + P * d + (vq + P * y) = vp + P * x + P * 4294967296 * b' := by
  have h1 : P * (d + y + b) = P * (x + 4294967296 * b') := by rw [hs]
  rw [Nat.mul_add, Nat.mul_add, Nat.mul_add, ← Nat.mul_assoc] at h1
  generalize P * d = D at *
  generalize P * y = Y at *
  generalize P * b = Z at *
  generalize P * x = X at *
  generalize P * 4294967296 * b' = W at *
  omega

theorem sub_digit {x y b : Nat} (hx : x < 4294967296) (hy : y < 4294967296) (hb : b ≤ 1) : (x + 8589934592 - y - b) % 4294967296 + y + b = x + 4294967296 * (if x < y + b then 1 else 0) := by
  by_cases h : x < y + b
  · rw [if_pos h]; omega
  · rw [if_neg h]; omega

theorem subAt_step {p q c : List Nat} {b k : Nat} (hp : Dig p) (hq : Dig q) (h : SubAt p q c b k) (hk : k < c.length) (hb : b ≤ 1) :
    SubAt p q (c.set k ((p.getD k 0 + 8589934592 - q.getD k 0 - b) % 4294967296)) (if p.getD k 0 < q.getD k 0 + b then 1 else 0) (k + 1) := by
  unfold SubAt at h ⊢
  rw [val_set_take _ _ _ hk, val_take_getD, val_take_getD, Nat.pow_succ]
  exact sub_step_eq h (sub_digit (dig_getD hp k) (dig_getD hq k) hb)

theorem val_one (n : Nat) : val [n] = n := by simp [val]

/-- The same where limbs are laid one by one. -/
def SubIn (p q c : List Nat) (b k : Nat) : Prop := c.length = k ∧ val c + val (q.take k) = val (p.take k) + 4294967296 ^ k * b

theorem subIn_step {p q c : List Nat} {b k : Nat} (hp : Dig p) (hq : Dig q) (h : SubIn p q c b k) (hb : b ≤ 1) :
    SubIn p q (c ++ [(p.getD k 0 + 8589934592 - q.getD k 0 - b) % 4294967296]) (if p.getD k 0 < q.getD k 0 + b then 1 else 0) (k + 1) := by
  obtain ⟨hl, h⟩ := h
  refine ⟨by simp [hl], ?_⟩
  rw [val_append, hl, val_take_getD, val_take_getD, Nat.pow_succ]
  rw [val_one]
  exact sub_step_eq h (sub_digit (dig_getD hp k) (dig_getD hq k) hb)

/-- What is left of the lesser number behind the greater one's limbs is nothing. -/
theorem val_take_all {q : List Nat} {n : Nat} (h : val q < 4294967296 ^ n) : val (q.take n) = val q := by
  by_cases hn : n ≤ q.length
  · have h1 := val_split q n hn
    rcases Nat.eq_zero_or_pos (val (q.drop n)) with h0 | h0
    · rw [h0, Nat.mul_zero, Nat.add_zero] at h1; exact h1.symm
    · have h2 : 4294967296 ^ n ≤ 4294967296 ^ n * val (q.drop n) := Nat.le_mul_of_pos_right _ h0
      generalize 4294967296 ^ n * val (q.drop n) = Z at *
      omega
  · rw [List.take_of_length_le (by omega)]

theorem sub_end_eq {c p q P b : Nat} (h : c + q = p + P * b) (hle : q ≤ p) (hc : c < P) : c = p - q := by
  rcases Nat.eq_zero_or_pos b with h0 | h0
  · rw [h0, Nat.mul_zero] at h; omega
  · have : P ≤ P * b := Nat.le_mul_of_pos_right _ h0
    generalize P * b = Z at *
    omega

theorem subAt_end {p q c : List Nat} {b : Nat} (hp : Dig p) (hd : Dig c) (h : SubAt p q c b p.length) (hl : c.length = p.length) (hle : val q ≤ val p) : val c = val p - val q := by
  unfold SubAt at h
  have h1 := val_lt hp
  rw [val_take_all (by omega : val q < 4294967296 ^ p.length), List.take_length, List.take_of_length_le (by omega)] at h
  have h2 := val_lt hd
  rw [hl] at h2
  exact sub_end_eq h hle h2

theorem subIn_end {p q c : List Nat} {b : Nat} (hp : Dig p) (hd : Dig c) (h : SubIn p q c b p.length) (hle : val q ≤ val p) : val c = val p - val q := by
  obtain ⟨hl, h⟩ := h
  have h1 := val_lt hp
  rw [val_take_all (by omega : val q < 4294967296 ^ p.length), List.take_length] at h
  have h2 := val_lt hd
  rw [hl] at h2
  exact sub_end_eq h hle h2

end Go.Proofs.YtdgfijnficbblaaDoor
