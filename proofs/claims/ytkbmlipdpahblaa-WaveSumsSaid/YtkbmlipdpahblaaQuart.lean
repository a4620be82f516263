/- Sums by places modulo four, in plain Lean. No condition on a program. -/
namespace Go.Proofs.Ytkbmlipdpahblaa

/-- The sum of the numbers whose place is j modulo 4 (j below 4). -/
def quarter : Nat → List Int → Int
  | _, [] => 0
  | 0, z :: r => z + quarter 3 r
  | j + 1, _ :: r => quarter j r

theorem quarter_snoc (l : List Int) (z : Int) : ∀ j, j < 4 → quarter j (l ++ [z]) = quarter j l + (if l.length % 4 = j then z else 0) := by
  induction l with
  | nil => intro j hj; match j, hj with
    | 0, _ => simp [quarter]
    | 1, _ => simp [quarter]
    | 2, _ => simp [quarter]
    | 3, _ => simp [quarter]
  | cons a r ih =>
    intro j hj
    match j, hj with
    | 0, _ =>
      show a + quarter 3 (r ++ [z]) = a + quarter 3 r + _
      rw [ih 3 (by omega)]
      have : (if (a :: r).length % 4 = 0 then z else 0) = (if r.length % 4 = 3 then z else 0) := by
        have : (a :: r).length % 4 = 0 ↔ r.length % 4 = 3 := by simp only [List.length_cons]; omega
        simp only [this]
      rw [this]; omega
    | j + 1, hj =>
      show quarter j (r ++ [z]) = quarter j r + _
      rw [ih j (by omega)]
      have : (if (a :: r).length % 4 = j + 1 then z else 0) = (if r.length % 4 = j then z else 0) := by
        have : (a :: r).length % 4 = j + 1 ↔ r.length % 4 = j := by simp only [List.length_cons]; omega
        simp only [this]
      rw [this]

/-- The numbers are small. -/
def Small (b : Int) (l : List Int) : Prop := ∀ z ∈ l, -b ≤ z ∧ z ≤ b

theorem quarter_le (b : Int) (hb : 0 ≤ b) (l : List Int) (h : Small b l) : ∀ j, -(b * l.length) ≤ quarter j l ∧ quarter j l ≤ b * l.length := by
  induction l with
  | nil => intro j; cases j <;> simp [quarter]
  | cons a r ih =>
    intro j
    have ha := h a (by simp)
    have ih := ih fun z hz => h z (by simp [hz])
    have e : b * ((a :: r).length : Nat) = b * (r.length : Nat) + b := by
      rw [List.length_cons, Int.natCast_add, Int.mul_add]; simp
    rw [e]
    cases j with
    | zero => have := ih 3; simp only [quarter]; omega
    | succ j => have := ih j; simp only [quarter]; omega

theorem Small.take {b : Int} {l : List Int} (h : Small b l) (k : Nat) : Small b (l.take k) := fun z hz => h z (List.mem_of_mem_take hz)

/-- Of at most 300 numbers below 2 ^ 20. -/
theorem quarter_bd (l : List Int) (h : Small 1048575 l) (hl : l.length ≤ 300) (j : Nat) : -314572500 ≤ quarter j l ∧ quarter j l ≤ 314572500 := by
  have := quarter_le 1048575 (by omega) l h j
  omega

end Go.Proofs.Ytkbmlipdpahblaa
