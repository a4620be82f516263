/- Decimal digits, the least first; in plain Lean. No condition on a program. -/
import Derived.Test.YtdgfijnficbblaaDoorNum
namespace Go.Proofs.YtdgfijnficbblaaDoor

/-- The first k digits of a number, the least first. -/
def pad : Nat → Nat → List Nat
  | 0, _ => []
  | k + 1, n => n % 10 :: pad k (n / 10)

/-- A number's digits, the least first; none of 0. -/
def dec (n : Nat) : List Nat := if h : n = 0 then [] else n % 10 :: dec (n / 10)
termination_by n
decreasing_by omega

theorem dec_zero : dec 0 = [] := by rw [dec]; rfl
theorem dec_pos {n : Nat} (h : n ≠ 0) : dec n = n % 10 :: dec (n / 10) := by rw [dec, dif_neg h]

theorem pad_length : ∀ (k n : Nat), (pad k n).length = k
  | 0, _ => rfl
  | k + 1, n => by rw [pad, List.length_cons, pad_length k]

theorem pad_more : ∀ (k n : Nat), pad (k + 1) n = pad k n ++ [n / 10 ^ k % 10]
  | 0, n => by simp [pad]
  | k + 1, n => by
    rw [pad, pad_more k (n / 10), pad, List.cons_append, Nat.div_div_eq_div_mul, Nat.pow_succ, Nat.mul_comm 10]

theorem pad_zero : ∀ k : Nat, pad k 0 = List.replicate k 0
  | 0 => rfl
  | k + 1 => by rw [pad, Nat.zero_mod, Nat.zero_div, pad_zero k, List.replicate_succ]

/-- So many digits are the number's own, and noughts behind them. -/
theorem pad_dec : ∀ (k n : Nat), n < 10 ^ k → ∃ z, pad k n = dec n ++ List.replicate z 0 ∧ (dec n).length + z = k
  | 0, n, h => by
    have : n = 0 := by simpa using h
    subst this
    exact ⟨0, by rw [dec_zero]; rfl, by rw [dec_zero]; rfl⟩
  | k + 1, n, h => by
    by_cases h0 : n = 0
    · subst h0
      exact ⟨k + 1, by rw [pad_zero, dec_zero]; rfl, by rw [dec_zero]; simp⟩
    · have hd : n / 10 < 10 ^ k := by
        rw [Nat.pow_succ] at h
        omega
      obtain ⟨z, e, l⟩ := pad_dec k (n / 10) hd
      refine ⟨z, ?_, ?_⟩
      · rw [pad, e, dec_pos h0, List.cons_append]
      · rw [dec_pos h0, List.length_cons]
        omega

theorem dec_lt : ∀ (n : Nat) (x : Nat), x ∈ dec n → x < 10 := by
  intro n
  induction n using Nat.strongRecOn with
  | _ n ih =>
    intro x hx
    by_cases h : n = 0
    · rw [h, dec_zero] at hx; cases hx
    · rw [dec_pos h] at hx
      rcases List.mem_cons.1 hx with rfl | hx
      · omega
      · exact ih (n / 10) (by omega) x hx

theorem pad_lt : ∀ (k n x : Nat), x ∈ pad k n → x < 10
  | 0, _, _, h => by cases h
  | k + 1, n, x, h => by
    rw [pad] at h
    rcases List.mem_cons.1 h with rfl | h
    · omega
    · exact pad_lt k _ x h

/-- The highest digit is no nought. -/
theorem dec_last : ∀ (n : Nat) (r : List Nat) (x : Nat), dec n = r ++ [x] → x ≠ 0 := by
  intro n
  induction n using Nat.strongRecOn with
  | _ n ih =>
    intro r x h
    by_cases h0 : n = 0
    · rw [h0, dec_zero] at h; simp at h
    · rw [dec_pos h0] at h
      cases r with
      | nil =>
        rw [List.nil_append] at h
        have h1 := List.cons.inj h
        by_cases h2 : n / 10 = 0
        · omega
        · rw [dec_pos h2] at h1
          cases h1.2
      | cons y r =>
        rw [List.cons_append] at h
        exact ih (n / 10) (by omega) r x (List.cons.inj h).2

/-- Digits, the highest first, as a number. -/
def undec (l : List Nat) : Nat := l.foldl (fun a x => a * 10 + x) 0

theorem undec_snoc (l : List Nat) (x : Nat) : undec (l ++ [x]) = undec l * 10 + x := by unfold undec; rw [List.foldl_append]; rfl

theorem undec_dec : ∀ n : Nat, undec (dec n).reverse = n := by
  intro n
  induction n using Nat.strongRecOn with
  | _ n ih =>
    by_cases h : n = 0
    · rw [h, dec_zero]; rfl
    · rw [dec_pos h, List.reverse_cons, undec_snoc, ih (n / 10) (by omega)]
      omega

theorem dec_length_le : ∀ (k n : Nat), n < 10 ^ k → (dec n).length ≤ k := fun k n h => by
  obtain ⟨z, _, l⟩ := pad_dec k n h
  omega

theorem fold_lt : ∀ (l : List Nat) (a k : Nat), (∀ x ∈ l, x < 10) → a < 10 ^ k → l.foldl (fun a x => a * 10 + x) a < 10 ^ (k + l.length)
  | [], _, _, _, h => h
  | x :: r, a, k, hx, h => by
    have h1 := hx x (List.mem_cons_self ..)
    have h2 : a * 10 + x < 10 ^ (k + 1) := by rw [Nat.pow_succ]; omega
    have h3 := fold_lt r (a * 10 + x) (k + 1) (fun y hy => hx y (List.mem_cons_of_mem _ hy)) h2
    rw [List.foldl_cons, List.length_cons, show k + (r.length + 1) = k + 1 + r.length by omega]
    exact h3

theorem undec_lt {l : List Nat} (h : ∀ x ∈ l, x < 10) : undec l < 10 ^ l.length := by
  have := fold_lt l 0 0 h (by simp)
  rw [Nat.zero_add] at this
  exact this

/-- A group of nine digits behind those that there are. -/
theorem pad_group (n j i : Nat) : n / 10 ^ (9 * j) % 1000000000 / 10 ^ i % 10 = n / 10 ^ (9 * j + i) % 10 ∨ 9 ≤ i := by
  rcases Nat.lt_or_ge i 9 with hi | hi
  · left
    have e : n / 10 ^ (9 * j + i) = n / 10 ^ (9 * j) / 10 ^ i := by rw [Nat.pow_add, ← Nat.div_div_eq_div_mul]
    rw [e]
    generalize n / 10 ^ (9 * j) = y
    have hc : i = 0 ∨ i = 1 ∨ i = 2 ∨ i = 3 ∨ i = 4 ∨ i = 5 ∨ i = 6 ∨ i = 7 ∨ i = 8 := by omega
    rcases hc with rfl | rfl | rfl | rfl | rfl | rfl | rfl | rfl | rfl <;> simp <;> omega
  · exact Or.inr hi
end Go.Proofs.YtdgfijnficbblaaDoor
