/- Naturals as rows of limbs of 32 bits, the lowest first; in plain Lean. No condition on a program. -/
namespace Go.Proofs.YtdgfijnficbblaaDoor

/-- The number of a row of limbs. -/
def val : List Nat → Nat
  | [] => 0
  | x :: r => x + 4294967296 * val r

/-- Each limb has 32 bits. -/
def Dig (l : List Nat) : Prop := ∀ n ∈ l, n < 4294967296

/-- The last limb is not 0. -/
def Canon (l : List Nat) : Prop := ∀ x r, l = r ++ [x] → x ≠ 0

/-- A number's limbs. -/
def lim (n : Nat) : List Nat := if h : n = 0 then [] else (n % 4294967296) :: lim (n / 4294967296)
termination_by n
decreasing_by omega

theorem lim_zero : lim 0 = [] := by rw [lim]; rfl
theorem lim_pos {n : Nat} (h : n ≠ 0) : lim n = (n % 4294967296) :: lim (n / 4294967296) := by rw [lim, dif_neg h]

theorem val_lim (n : Nat) : val (lim n) = n := by
  induction n using Nat.strongRecOn with
  | _ n ih =>
    by_cases h : n = 0
    · subst h; rw [lim_zero]; rfl
    · rw [lim_pos h, val, ih _ (by omega)]; omega

theorem dig_lim (n : Nat) : Dig (lim n) := by
  induction n using Nat.strongRecOn with
  | _ n ih =>
    by_cases h : n = 0
    · subst h; rw [lim_zero]; intro x hx; cases hx
    · rw [lim_pos h]
      intro x hx
      rcases List.mem_cons.1 hx with rfl | hx
      · exact Nat.mod_lt _ (by omega)
      · exact ih _ (by omega) x hx

theorem Dig.nil : Dig [] := fun _ h => by cases h
theorem Dig.cons {x : Nat} {l : List Nat} (hx : x < 4294967296) (h : Dig l) : Dig (x :: l) := fun y hy => by
  rcases List.mem_cons.1 hy with rfl | hy
  · exact hx
  · exact h y hy
theorem Dig.tail {x : Nat} {l : List Nat} (h : Dig (x :: l)) : Dig l := fun y hy => h y (List.mem_cons_of_mem _ hy)
theorem Dig.head {x : Nat} {l : List Nat} (h : Dig (x :: l)) : x < 4294967296 := h x (List.mem_cons_self ..)
theorem Dig.append {a b : List Nat} (ha : Dig a) (hb : Dig b) : Dig (a ++ b) := fun y hy => by
  rcases List.mem_append.1 hy with h | h
  · exact ha y h
  · exact hb y h
theorem Dig.take {l : List Nat} (h : Dig l) (k : Nat) : Dig (l.take k) := fun y hy => h y (List.mem_of_mem_take hy)
theorem Dig.drop {l : List Nat} (h : Dig l) (k : Nat) : Dig (l.drop k) := fun y hy => h y (List.mem_of_mem_drop hy)
theorem Dig.set {l : List Nat} (h : Dig l) (k x : Nat) (hx : x < 4294967296) : Dig (l.set k x) := fun y hy => by
  rcases List.mem_or_eq_of_mem_set hy with h' | rfl
  · exact h y h'
  · exact hx
theorem Dig.at {l : List Nat} (h : Dig l) {k : Nat} (hk : k < l.length) : l[k] < 4294967296 := h _ (List.getElem_mem hk)
theorem dig_zeros (n : Nat) : Dig (List.replicate n 0) := fun x hx => by rw [(List.mem_replicate.1 hx).2]; omega

theorem val_append (a b : List Nat) : val (a ++ b) = val a + 4294967296 ^ a.length * val b := by
  induction a with
  | nil => simp [val]
  | cons x r ih => simp only [List.cons_append, val, ih, List.length_cons, Nat.pow_succ]; rw [Nat.mul_add]; grind

theorem val_zeros (n : Nat) : val (List.replicate n 0) = 0 := by
  induction n with
  | zero => rfl
  | succ n ih => rw [List.replicate_succ, val, ih]

theorem val_lt {l : List Nat} (h : Dig l) : val l < 4294967296 ^ l.length := by
  induction l with
  | nil => simp [val]
  | cons x r ih =>
    have h1 := h.head
    have h2 := ih h.tail
    rw [val, List.length_cons, Nat.pow_succ]
    have : val r + 1 ≤ 4294967296 ^ r.length := h2
    have := Nat.mul_le_mul_left 4294967296 this
    rw [Nat.mul_comm (4294967296 ^ r.length)]
    omega

/-- One limb more. -/
theorem val_take_succ (l : List Nat) (k : Nat) (h : k < l.length) : val (l.take (k + 1)) = val (l.take k) + 4294967296 ^ k * l[k] := by
  rw [List.take_add_one, List.getElem?_eq_getElem h]
  show val (l.take k ++ [l[k]]) = _
  rw [val_append, List.length_take, Nat.min_eq_left (by omega)]
  simp [val]

theorem val_snoc_zero (l : List Nat) : val (l ++ [0]) = val l := by rw [val_append]; simp [val]

theorem Canon.nil : Canon [] := fun x r h => by simp at h
theorem Canon.tail {x : Nat} {l : List Nat} (h : Canon (x :: l)) : Canon l := fun y r e => h y (x :: r) (by rw [e]; rfl)

theorem canon_val_pos {l : List Nat} (h : Canon l) (hl : l ≠ []) : val l ≠ 0 := by
  induction l with
  | nil => exact absurd rfl hl
  | cons x r ih =>
    rw [val]
    by_cases hr : r = []
    · subst hr
      have := h x [] rfl
      simp [val]; exact this
    · have := ih h.tail hr
      omega

/-- Limbs without noughts at their end are their number's. -/
theorem lim_val {l : List Nat} (hd : Dig l) (hc : Canon l) : lim (val l) = l := by
  induction l with
  | nil => exact lim_zero
  | cons x r ih =>
    have h0 := canon_val_pos hc (by simp)
    have hx := hd.head
    rw [lim_pos h0, val]
    have e1 : (x + 4294967296 * val r) % 4294967296 = x := by omega
    have e2 : (x + 4294967296 * val r) / 4294967296 = val r := by omega
    rw [e1, e2, ih hd.tail hc.tail]

theorem canon_lim (n : Nat) : Canon (lim n) := by
  induction n using Nat.strongRecOn with
  | _ n ih =>
    by_cases h : n = 0
    · subst h; rw [lim_zero]; exact Canon.nil
    · rw [lim_pos h]
      intro x r e
      cases r with
      | nil =>
        simp at e
        have h2 : n / 4294967296 = 0 := by
          rcases Nat.eq_zero_or_pos (n / 4294967296) with h3 | h3
          · exact h3
          · have := lim_pos (n := n / 4294967296) (by omega)
            rw [e.2] at this
            cases this
        omega
      | cons y s =>
        simp at e
        exact ih _ (by omega) x s e.2

theorem canon_of_last {l : List Nat} (h : l = [] ∨ ∃ h : 0 < l.length, l[l.length - 1] ≠ 0) : Canon l := by
  rcases h with rfl | ⟨h, hn⟩
  · exact Canon.nil
  · intro x r e
    subst e
    simpa using hn

/-- How many limbs a number has. -/
theorem lim_length_le {n k : Nat} (h : n < 4294967296 ^ k) : (lim n).length ≤ k := by
  induction k generalizing n with
  | zero =>
    have : n = 0 := by simp at h; exact h
    subst this; rw [lim_zero]; simp
  | succ k ih =>
    by_cases h0 : n = 0
    · subst h0; rw [lim_zero]; simp
    · rw [lim_pos h0, List.length_cons]
      have : n / 4294967296 < 4294967296 ^ k := by
        rw [Nat.div_lt_iff_lt_mul (by omega)]
        rw [Nat.pow_succ] at h
        exact h
      have := ih this
      omega

theorem lim_length_lt {n k : Nat} (h : 4294967296 ^ k ≤ n) : k < (lim n).length := by
  rcases Nat.lt_or_ge k (lim n).length with h1 | h1
  · exact h1
  · have h2 := val_lt (dig_lim n)
    rw [val_lim] at h2
    have := Nat.pow_le_pow_right (n := 4294967296) (by omega) h1
    omega

theorem lim_eq_nil {n : Nat} : lim n = [] ↔ n = 0 := by
  constructor
  · intro h
    have := val_lim n
    rw [h] at this
    exact this.symm
  · rintro rfl; exact lim_zero

theorem val_nil_iff {l : List Nat} (hd : Dig l) (hc : Canon l) : val l = 0 ↔ l = [] := by
  rw [← lim_eq_nil, lim_val hd hc]

/-- A number's trimmed limbs are the first ones of any row that tells it. -/
theorem lim_val_take {l : List Nat} (hd : Dig l) {k : Nat} (hz : val l = val (l.take k)) (hc : Canon (l.take k)) : lim (val l) = l.take k := by
  rw [hz]; exact lim_val (hd.take k) hc

theorem lim_val_length (l : List Nat) (hd : Dig l) : (lim (val l)).length ≤ l.length := lim_length_le (val_lt hd)

/-- Rows of one length are one if their numbers are. -/
theorem val_inj {a b : List Nat} (ha : Dig a) (hb : Dig b) (hl : a.length = b.length) (h : val a = val b) : a = b := by
  induction a generalizing b with
  | nil => cases b with
    | nil => rfl
    | cons y s => simp at hl
  | cons x r ih =>
    cases b with
    | nil => simp at hl
    | cons y s =>
      rw [val, val] at h
      have h1 := ha.head
      have h2 := hb.head
      have h3 : x = y := by omega
      subst h3
      have := ih ha.tail hb.tail (by simpa using hl) (by omega)
      rw [this]

/-- The number of a row of 2 parts. -/
theorem val_split (l : List Nat) (k : Nat) (hk : k ≤ l.length) : val l = val (l.take k) + 4294967296 ^ k * val (l.drop k) := by
  have := val_append (l.take k) (l.drop k)
  rw [List.take_append_drop, List.length_take, Nat.min_eq_left hk] at this
  exact this

theorem val_set_take (l : List Nat) (k x : Nat) (h : k < l.length) : val ((l.set k x).take (k + 1)) = val (l.take k) + 4294967296 ^ k * x := by
  rw [val_take_succ _ k (by simpa using h)]
  simp [List.take_set_of_le]

end Go.Proofs.YtdgfijnficbblaaDoor
