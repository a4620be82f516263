/- Rounding keeps the order; in plain Lean. No condition on a program. -/
import Derived.Test.YtdgfijnficbblaaDecB
import Derived.Test.YtdgfijnficbblaaRefRatCmp
namespace Go.Proofs.Ytdgfijnficbblaa

theorem rhe_mono {x d y c : Nat} (hd : 0 < d) (hc : 0 < c) (h : x * c ≤ y * d) : rhe x d ≤ rhe y c := by
  obtain ⟨q, hq⟩ : ∃ q, x / d = q := ⟨_, rfl⟩
  obtain ⟨r, hr⟩ : ∃ r, x % d = r := ⟨_, rfl⟩
  obtain ⟨p, hp⟩ : ∃ q, y / c = q := ⟨_, rfl⟩
  obtain ⟨s, hs⟩ : ∃ r, y % c = r := ⟨_, rfl⟩
  have hx : d * q + r = x := by rw [← hq, ← hr]; exact Nat.div_add_mod x d
  have hy : c * p + s = y := by rw [← hp, ← hs]; exact Nat.div_add_mod y c
  have hrd : r < d := by rw [← hr]; exact Nat.mod_lt _ hd
  have hsc : s < c := by rw [← hs]; exact Nat.mod_lt _ hc
  have hqp : q ≤ p := by
    rw [← hp, Nat.le_div_iff_mul_le hc]
    refine Nat.le_of_mul_le_mul_right (c := d) ?_ hd
    refine Nat.le_trans (Nat.le_of_eq (?_ : q * c * d = d * q * c)) (Nat.le_trans (Nat.mul_le_mul_right c (?_ : d * q ≤ x)) h)
    · rw [Nat.mul_right_comm, Nat.mul_comm q d]
    · omega
  unfold rhe
  rw [hq, hr, hp, hs]
  by_cases hlt : q < p
  · split <;> split <;> omega
  · obtain rfl : q = p := by omega
    have hrs : r * c ≤ s * d := by
      have h1 : (d * q + r) * c ≤ (c * q + s) * d := by rw [hx, hy]; exact h
      have e1 : (d * q + r) * c = d * q * c + r * c := Nat.add_mul ..
      have e2 : (c * q + s) * d = d * q * c + s * d := by rw [Nat.add_mul, Nat.mul_right_comm c q d, Nat.mul_comm c d, Nat.mul_right_comm d c q]
      omega
    by_cases h1 : d < 2 * r ∨ (2 * r = d ∧ q % 2 = 1)
    · rw [if_pos h1]
      have h2 : c < 2 * s ∨ (2 * s = c ∧ q % 2 = 1) := by
        rcases h1 with h1 | ⟨h1, ho⟩
        · left
          refine Nat.lt_of_mul_lt_mul_right (a := d) ?_
          calc c * d = d * c := Nat.mul_comm ..
            _ < 2 * r * c := Nat.mul_lt_mul_of_pos_right h1 hc
            _ = 2 * (r * c) := Nat.mul_assoc ..
            _ ≤ 2 * (s * d) := Nat.mul_le_mul_left 2 hrs
            _ = 2 * s * d := (Nat.mul_assoc ..).symm
        · have h3 : c ≤ 2 * s := by
            refine Nat.le_of_mul_le_mul_right (c := d) ?_ hd
            calc c * d = 2 * r * c := by rw [h1, Nat.mul_comm]
              _ = 2 * (r * c) := Nat.mul_assoc ..
              _ ≤ 2 * (s * d) := Nat.mul_le_mul_left 2 hrs
              _ = 2 * s * d := (Nat.mul_assoc ..).symm
          omega
      rw [if_pos h2]
      omega
    · rw [if_neg h1]
      split <;> omega

theorem rhe_zero {d : Nat} (h : 0 < d) : rhe 0 d = 0 := by
  unfold rhe
  rw [Nat.zero_mod, Nat.zero_div, if_neg (by omega)]

/-- What is not greater is, rounded, not greater. -/
theorem round_le {S T : Bool} {N D M C t : Nat} (hD : 0 < D) (hC : 0 < C) (h : sg S N * (C : Int) ≤ sg T M * (D : Int)) : sg S (rhe (N * t) D) ≤ sg T (rhe (M * t) C) := by
  have mono : ∀ {N D M C : Nat}, 0 < D → 0 < C → N * C ≤ M * D → rhe (N * t) D ≤ rhe (M * t) C := fun hD hC h => by
    refine rhe_mono hD hC ?_
    rw [Nat.mul_right_comm, Nat.mul_right_comm _ t]
    exact Nat.mul_le_mul_right t h
  unfold sg at h ⊢
  cases S <;> cases T <;> simp only [Bool.false_eq_true, if_false, if_true] at h ⊢
  · have h' : N * C ≤ M * D := by exact_mod_cast h
    have := mono hD hC h'
    omega
  · have e1 : (0 : Int) ≤ (N : Int) * (C : Int) := Int.mul_nonneg (by omega) (by omega)
    have e2 : (0 : Int) ≤ (M : Int) * (D : Int) := Int.mul_nonneg (by omega) (by omega)
    rw [Int.neg_mul] at h
    have z1 : (N : Int) * (C : Int) = 0 := by omega
    have z2 : (M : Int) * (D : Int) = 0 := by omega
    have n0 : N = 0 := by
      rcases Int.mul_eq_zero.1 z1 with h | h <;> omega
    have m0 : M = 0 := by
      rcases Int.mul_eq_zero.1 z2 with h | h <;> omega
    subst n0; subst m0
    rw [Nat.zero_mul, rhe_zero hD, rhe_zero hC]
    decide
  · omega
  · rw [Int.neg_mul, Int.neg_mul] at h
    have h' : M * D ≤ N * C := by
      have : (M : Int) * (D : Int) ≤ (N : Int) * (C : Int) := by omega
      exact_mod_cast this
    have := mono hC hD h'
    omega

theorem nr_cross {S : Bool} {U t : Nat} (ht : 0 < t) : sg (nrS S U t) (nrN U t) * (t : Int) = sg S U * ((nrD U t : Nat) : Int) := by
  by_cases h0 : U = 0
  · obtain ⟨e1, e2, e3⟩ := nr_zero (s := S) (Or.inl h0 : U = 0 ∨ t = 0)
    rw [e1, e2, e3, h0]
    cases S <;> simp [sg]
  · obtain ⟨e1, e2, e3⟩ := nr_some (s := S) h0 (by omega : t ≠ 0)
    rw [e1, e2, e3]
    have h : U / Nat.gcd U t * t = U * (t / Nat.gcd U t) := by
      rw [← Nat.mul_div_assoc _ (Nat.gcd_dvd_right U t), Nat.div_mul_right_comm (Nat.gcd_dvd_left U t)]
    have h' : ((U / Nat.gcd U t : Nat) : Int) * (t : Int) = (U : Int) * ((t / Nat.gcd U t : Nat) : Int) := by exact_mod_cast h
    unfold sg
    cases S
    · exact h'
    · simp only [if_true]
      rw [Int.neg_mul, Int.neg_mul, h']

theorem cross_le {S T : Bool} {U V t : Nat} (ht : 0 < t) (h : sg S U ≤ sg T V) :
    sg (nrS S U t) (nrN U t) * ((nrD V t : Nat) : Int) ≤ sg (nrS T V t) (nrN V t) * ((nrD U t : Nat) : Int) := by
  have hU := nr_cross (S := S) (U := U) ht
  have hV := nr_cross (S := T) (U := V) ht
  have pU : (0 : Int) < ((nrD U t : Nat) : Int) := by exact_mod_cast nrD_pos U t
  have pV : (0 : Int) < ((nrD V t : Nat) : Int) := by exact_mod_cast nrD_pos V t
  have ht' : (0 : Int) < (t : Int) := by exact_mod_cast ht
  generalize sg (nrS S U t) (nrN U t) = a at *
  generalize sg (nrS T V t) (nrN V t) = b at *
  generalize ((nrD U t : Nat) : Int) = p at *
  generalize ((nrD V t : Nat) : Int) = q at *
  generalize sg S U = u at *
  generalize sg T V = v at *
  refine Int.le_of_mul_le_mul_right (a := (t : Int)) ?_ ht'
  calc a * q * (t : Int) = a * (t : Int) * q := by rw [Int.mul_right_comm]
    _ = u * p * q := by rw [hU]
    _ = u * (p * q) := Int.mul_assoc ..
    _ ≤ v * (p * q) := Int.mul_le_mul_of_nonneg_right h (Int.le_of_lt (Int.mul_pos pU pV))
    _ = v * q * p := by rw [Int.mul_comm p q, ← Int.mul_assoc]
    _ = b * (t : Int) * p := by rw [hV]
    _ = b * p * (t : Int) := by rw [Int.mul_right_comm]

theorem cmpI_cases (a b : Int) : (a < b ∧ cmpI a b = -1) ∨ (a = b ∧ cmpI a b = 0) ∨ (b < a ∧ cmpI a b = 1) := by
  unfold cmpI
  split
  · exact Or.inl ⟨by assumption, rfl⟩
  · split
    · exact Or.inr (Or.inr ⟨by assumption, rfl⟩)
    · exact Or.inr (Or.inl ⟨by omega, rfl⟩)

/-- Which of two is greater, and which is, rounded. -/
theorem round_cmp {S T : Bool} {N D M C t : Nat} (hD : 0 < D) (hC : 0 < C) (ht : 0 < t) (U V : Nat) (hU : rhe (N * t) D = U) (hV : rhe (M * t) C = V) (k j : Int)
    (hk : cmpI (sg S N * (C : Int)) (sg T M * (D : Int)) = k) (hj : cmpI (sg (nrS S U t) (nrN U t) * ((nrD V t : Nat) : Int)) (sg (nrS T V t) (nrN V t) * ((nrD U t : Nat) : Int)) = j) :
    (k = -1 ∧ j = -1) ∨ (k = -1 ∧ j = 0) ∨ (k = 0 ∧ j = 0) ∨ (k = 1 ∧ j = 0) ∨ (k = 1 ∧ j = 1) := by
  subst hk; subst hj; subst hU; subst hV
  have h1 : sg S N * (C : Int) ≤ sg T M * (D : Int) → _ := fun h => cross_le ht (round_le (t := t) hD hC h)
  have h2 : sg T M * (D : Int) ≤ sg S N * (C : Int) → _ := fun h => cross_le ht (round_le (t := t) hC hD h)
  rcases cmpI_cases (sg S N * (C : Int)) (sg T M * (D : Int)) with ⟨a, e⟩ | ⟨a, e⟩ | ⟨a, e⟩ <;>
    rcases cmpI_cases (sg (nrS S (rhe (N * t) D) t) (nrN (rhe (N * t) D) t) * ((nrD (rhe (M * t) C) t : Nat) : Int)) (sg (nrS T (rhe (M * t) C) t) (nrN (rhe (M * t) C) t) * ((nrD (rhe (N * t) D) t : Nat) : Int)) with ⟨b, f⟩ | ⟨b, f⟩ | ⟨b, f⟩ <;> rw [e, f]
  · simp
  · simp
  · have := h1 (Int.le_of_lt a); omega
  · have := h2 (Int.le_of_eq a.symm); omega
  · simp
  · have := h1 (Int.le_of_eq a); omega
  · have := h2 (Int.le_of_lt a); omega
  · simp
  · simp
end Go.Proofs.Ytdgfijnficbblaa
