/- Powers and sums of powers of a number of two whole parts, in plain Lean. No condition on a program. -/
import Derived.Test.YtkbmlipdpahblaaQuart
namespace Go.Proofs.Ytkbmlipdpahblaa

/-- Powers. -/
def pw (X Y : Int) : Nat → Int × Int
  | 0 => (1, 0)
  | k + 1 => ((pw X Y k).1 * X - (pw X Y k).2 * Y, (pw X Y k).1 * Y + (pw X Y k).2 * X)

/-- The first k numbers, each times a power. -/
def sm (X Y : Int) (l : List Int) : Nat → Int × Int
  | 0 => (0, 0)
  | k + 1 => ((sm X Y l k).1 + l.getD k 0 * (pw X Y k).1, (sm X Y l k).2 + l.getD k 0 * (pw X Y k).2)

theorem pw_norm (X Y : Int) (k : Nat) : (pw X Y k).1 * (pw X Y k).1 + (pw X Y k).2 * (pw X Y k).2 = (X * X + Y * Y) ^ k := by
  induction k with
  | zero => simp [pw]
  | succ k ih =>
    simp only [pw, Int.pow_succ]
    rw [← ih]
    grind

theorem sq_le {a M : Int} (hM : 0 ≤ M) (h : a * a ≤ M * M) : -M ≤ a ∧ a ≤ M := by
  have h1 : a.natAbs * a.natAbs ≤ M.natAbs * M.natAbs := by
    have e1 := Int.natAbs_mul_self (a := a)
    have e2 := Int.natAbs_mul_self (a := M)
    have : ((a.natAbs * a.natAbs : Nat) : Int) ≤ ((M.natAbs * M.natAbs : Nat) : Int) := by rw [e1, e2]; exact h
    exact Int.ofNat_le.1 this
  have h2 := Nat.mul_self_le_mul_self_iff.1 h1
  omega

theorem sq_nonneg (a : Int) : 0 ≤ a * a := by
  rcases Int.le_total 0 a with h | h
  · exact Int.mul_nonneg h h
  · exact Int.mul_nonneg_of_nonpos_of_nonpos h h

theorem pw_bd (X Y : Int) (hX : -3 ≤ X ∧ X ≤ 3) (hY : -3 ≤ Y ∧ Y ≤ 3) (k : Nat) (hk : k ≤ 12) : (-34012224 ≤ (pw X Y k).1 ∧ (pw X Y k).1 ≤ 34012224) ∧ (-34012224 ≤ (pw X Y k).2 ∧ (pw X Y k).2 ≤ 34012224) := by
  have hn := pw_norm X Y k
  have hx : X * X ≤ 9 := by
    have : X = -3 ∨ X = -2 ∨ X = -1 ∨ X = 0 ∨ X = 1 ∨ X = 2 ∨ X = 3 := by omega
    rcases this with rfl | rfl | rfl | rfl | rfl | rfl | rfl <;> decide
  have hy : Y * Y ≤ 9 := by
    have : Y = -3 ∨ Y = -2 ∨ Y = -1 ∨ Y = 0 ∨ Y = 1 ∨ Y = 2 ∨ Y = 3 := by omega
    rcases this with rfl | rfl | rfl | rfl | rfl | rfl | rfl <;> decide
  have hx0 := sq_nonneg X
  have hy0 := sq_nonneg Y
  have hpow : (X * X + Y * Y) ^ k ≤ 18 ^ 12 := by
    obtain ⟨m, hm⟩ : ∃ m : Nat, X * X + Y * Y = (m : Int) := ⟨(X * X + Y * Y).toNat, by omega⟩
    rw [hm]
    have hm18 : m ≤ 18 := by omega
    have h1 : m ^ k ≤ 18 ^ k := Nat.pow_le_pow_left hm18 k
    have h2 : 18 ^ k ≤ 18 ^ 12 := Nat.pow_le_pow_right (by omega) hk
    have h3 : m ^ k ≤ 18 ^ 12 := Nat.le_trans h1 h2
    have h4 : ((m ^ k : Nat) : Int) ≤ ((18 ^ 12 : Nat) : Int) := Int.ofNat_le.2 h3
    simpa using h4
  have p1 := sq_nonneg (pw X Y k).1
  have p2 := sq_nonneg (pw X Y k).2
  have e : (18 : Int) ^ 12 = 34012224 * 34012224 := by decide
  rw [e] at hpow
  exact ⟨sq_le (by decide) (by omega), sq_le (by decide) (by omega)⟩

theorem pw_one (k : Nat) : pw 1 0 k = (1, 0) := by
  induction k with
  | zero => rfl
  | succ k ih => simp [pw, ih]

theorem pw_neg (k : Nat) : pw (-1) 0 k = if k % 2 = 0 then (1, 0) else (-1, 0) := by
  induction k with
  | zero => rfl
  | succ k ih =>
    simp only [pw, ih]
    by_cases h : k % 2 = 0
    · rw [if_pos h, if_neg (by omega)]; rfl
    · rw [if_neg h, if_pos (by omega)]; rfl

theorem pw_i (k : Nat) : pw 0 1 k = if k % 4 = 0 then (1, 0) else if k % 4 = 1 then (0, 1) else if k % 4 = 2 then (-1, 0) else (0, -1) := by
  induction k with
  | zero => rfl
  | succ k ih =>
    simp only [pw, ih]
    have h4 : k % 4 = 0 ∨ k % 4 = 1 ∨ k % 4 = 2 ∨ k % 4 = 3 := by omega
    rcases h4 with h | h | h | h
    · have h' : (k + 1) % 4 = 1 := by omega
      simp [h, h']
    · have h' : (k + 1) % 4 = 2 := by omega
      simp [h, h']
    · have h' : (k + 1) % 4 = 3 := by omega
      simp [h, h']
    · have h' : (k + 1) % 4 = 0 := by omega
      simp [h, h']

theorem pw_ni (k : Nat) : pw 0 (-1) k = if k % 4 = 0 then (1, 0) else if k % 4 = 1 then (0, -1) else if k % 4 = 2 then (-1, 0) else (0, 1) := by
  induction k with
  | zero => rfl
  | succ k ih =>
    simp only [pw, ih]
    have h4 : k % 4 = 0 ∨ k % 4 = 1 ∨ k % 4 = 2 ∨ k % 4 = 3 := by omega
    rcases h4 with h | h | h | h
    · have h' : (k + 1) % 4 = 1 := by omega
      simp [h, h']
    · have h' : (k + 1) % 4 = 2 := by omega
      simp [h, h']
    · have h' : (k + 1) % 4 = 3 := by omega
      simp [h, h']
    · have h' : (k + 1) % 4 = 0 := by omega
      simp [h, h']

theorem quarter_take (l : List Int) (k : Nat) (h : k < l.length) (j : Nat) (hj : j < 4) : quarter j (l.take (k + 1)) = quarter j (l.take k) + (if k % 4 = j then l.getD k 0 else 0) := by
  have e : l.take (k + 1) = l.take k ++ [l.getD k 0] := by rw [List.take_add_one, List.getElem?_eq_getElem h, List.getD_eq_getElem?_getD, List.getElem?_eq_getElem h]; rfl
  have hlen : (l.take k).length = k := by rw [List.length_take]; omega
  rw [e, quarter_snoc _ _ j hj, hlen]

/-- The four turns, told by the sums by places. -/
theorem sm_one (l : List Int) (k : Nat) (h : k ≤ l.length) : sm 1 0 l k = (quarter 0 (l.take k) + quarter 1 (l.take k) + quarter 2 (l.take k) + quarter 3 (l.take k), 0) := by
  induction k with
  | zero => simp [sm, quarter]
  | succ k ih =>
    have ih := ih (by omega)
    simp only [sm, ih, pw_one, quarter_take l k (by omega) 0 (by omega), quarter_take l k (by omega) 1 (by omega), quarter_take l k (by omega) 2 (by omega), quarter_take l k (by omega) 3 (by omega)]
    have h4 : k % 4 = 0 ∨ k % 4 = 1 ∨ k % 4 = 2 ∨ k % 4 = 3 := by omega
    rcases h4 with h | h | h | h <;> simp [h] <;> omega

theorem sm_neg (l : List Int) (k : Nat) (h : k ≤ l.length) : sm (-1) 0 l k = (quarter 0 (l.take k) - quarter 1 (l.take k) + quarter 2 (l.take k) - quarter 3 (l.take k), 0) := by
  induction k with
  | zero => simp [sm, quarter]
  | succ k ih =>
    have ih := ih (by omega)
    simp only [sm, ih, pw_neg, quarter_take l k (by omega) 0 (by omega), quarter_take l k (by omega) 1 (by omega), quarter_take l k (by omega) 2 (by omega), quarter_take l k (by omega) 3 (by omega)]
    have h4 : (k % 4 = 0 ∧ k % 2 = 0) ∨ (k % 4 = 1 ∧ k % 2 = 1) ∨ (k % 4 = 2 ∧ k % 2 = 0) ∨ (k % 4 = 3 ∧ k % 2 = 1) := by omega
    rcases h4 with ⟨h, h2⟩ | ⟨h, h2⟩ | ⟨h, h2⟩ | ⟨h, h2⟩ <;> simp [h, h2] <;> omega

theorem sm_i (l : List Int) (k : Nat) (h : k ≤ l.length) : sm 0 1 l k = (quarter 0 (l.take k) - quarter 2 (l.take k), quarter 1 (l.take k) - quarter 3 (l.take k)) := by
  induction k with
  | zero => simp [sm, quarter]
  | succ k ih =>
    have ih := ih (by omega)
    simp only [sm, ih, pw_i, quarter_take l k (by omega) 0 (by omega), quarter_take l k (by omega) 1 (by omega), quarter_take l k (by omega) 2 (by omega), quarter_take l k (by omega) 3 (by omega)]
    have h4 : k % 4 = 0 ∨ k % 4 = 1 ∨ k % 4 = 2 ∨ k % 4 = 3 := by omega
    rcases h4 with h | h | h | h <;> simp [h] <;> omega

theorem sm_ni (l : List Int) (k : Nat) (h : k ≤ l.length) : sm 0 (-1) l k = (quarter 0 (l.take k) - quarter 2 (l.take k), quarter 3 (l.take k) - quarter 1 (l.take k)) := by
  induction k with
  | zero => simp [sm, quarter]
  | succ k ih =>
    have ih := ih (by omega)
    simp only [sm, ih, pw_ni, quarter_take l k (by omega) 0 (by omega), quarter_take l k (by omega) 1 (by omega), quarter_take l k (by omega) 2 (by omega), quarter_take l k (by omega) 3 (by omega)]
    have h4 : k % 4 = 0 ∨ k % 4 = 1 ∨ k % 4 = 2 ∨ k % 4 = 3 := by omega
    rcases h4 with h | h | h | h <;> simp [h] <;> omega

/-- The turns' powers are small. -/
theorem pw_unit (X Y : Int) (h : (X = 1 ∧ Y = 0) ∨ (X = -1 ∧ Y = 0) ∨ (X = 0 ∧ Y = 1) ∨ (X = 0 ∧ Y = -1)) (k : Nat) :
    (-34012224 ≤ (pw X Y k).1 ∧ (pw X Y k).1 ≤ 34012224) ∧ (-34012224 ≤ (pw X Y k).2 ∧ (pw X Y k).2 ≤ 34012224) := by
  have hn := pw_norm X Y k
  have h1 : X * X + Y * Y = 1 := by rcases h with ⟨rfl, rfl⟩ | ⟨rfl, rfl⟩ | ⟨rfl, rfl⟩ | ⟨rfl, rfl⟩ <;> decide
  rw [h1, Int.one_pow] at hn
  have p1 := sq_nonneg (pw X Y k).1
  have p2 := sq_nonneg (pw X Y k).2
  exact ⟨sq_le (by decide) (by omega), sq_le (by decide) (by omega)⟩

/-- The sums stay small. -/
theorem sm_bd (X Y : Int) (l : List Int) (hs : Small 1048575 l) (hp : ∀ k, k ≤ l.length → (-34012224 ≤ (pw X Y k).1 ∧ (pw X Y k).1 ≤ 34012224) ∧ (-34012224 ≤ (pw X Y k).2 ∧ (pw X Y k).2 ≤ 34012224)) :
    ∀ k, k ≤ l.length → (-(35664367780800 * (k : Int)) ≤ (sm X Y l k).1 ∧ (sm X Y l k).1 ≤ 35664367780800 * (k : Int)) ∧ (-(35664367780800 * (k : Int)) ≤ (sm X Y l k).2 ∧ (sm X Y l k).2 ≤ 35664367780800 * (k : Int)) := by
  intro k
  induction k with
  | zero => intro _; simp [sm]
  | succ k ih =>
    intro hk
    have ih := ih (by omega)
    have hp := hp k (by omega)
    have hz : -1048575 ≤ l.getD k 0 ∧ l.getD k 0 ≤ 1048575 := by
      rw [List.getD_eq_getElem?_getD, List.getElem?_eq_getElem (by omega)]
      exact hs _ (List.getElem_mem _)
    have m1 : ∀ x y : Int, (-1048575 ≤ x ∧ x ≤ 1048575) → (-34012224 ≤ y ∧ y ≤ 34012224) → -35664367780800 ≤ x * y ∧ x * y ≤ 35664367780800 := by
      intro x y hx hy
      have h1 : x.natAbs ≤ 1048575 := by omega
      have h2 : y.natAbs ≤ 34012224 := by omega
      have h3 := Nat.mul_le_mul h1 h2
      rw [← Int.natAbs_mul] at h3
      omega
    have a1 := m1 _ _ hz hp.1
    have a2 := m1 _ _ hz hp.2
    simp only [sm]
    omega

end Go.Proofs.Ytkbmlipdpahblaa
