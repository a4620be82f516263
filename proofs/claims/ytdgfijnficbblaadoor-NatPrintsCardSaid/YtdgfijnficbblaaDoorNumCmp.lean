/- Rows of limbs held against each other, in plain Lean. No condition on a program. -/
import Derived.Test.YtdgfijnficbblaaDoorNumMul
namespace Go.Proofs.YtdgfijnficbblaaDoor

/-- -1, 0 or 1. -/
def cmpN (m n : Nat) : Int := if m < n then -1 else if n < m then 1 else 0

theorem cmpN_lt {m n : Nat} (h : m < n) : cmpN m n = -1 := if_pos h
theorem cmpN_gt {m n : Nat} (h : n < m) : cmpN m n = 1 := by unfold cmpN; rw [if_neg (by omega), if_pos h]
theorem cmpN_eq {m n : Nat} (h : m = n) : cmpN m n = 0 := by unfold cmpN; rw [if_neg (by omega), if_neg (by omega)]
theorem cmpN_neg {m n : Nat} : (cmpN m n < 0) ↔ m < n := by
  unfold cmpN
  by_cases h : m < n
  · rw [if_pos h]; simp [h]
  · rw [if_neg h]
    by_cases h2 : n < m
    · rw [if_pos h2]; simp [h]
    · rw [if_neg h2]; simp [h]

theorem lim_ge {n k : Nat} (h : k < (lim n).length) : 4294967296 ^ k ≤ n := by
  refine Nat.le_of_not_lt fun hc => ?_
  have := lim_length_le hc
  omega

theorem lim_len_lt {m n : Nat} (h : (lim m).length < (lim n).length) : m < n := by
  have h1 := lim_ge h
  have h2 := val_lt (dig_lim m)
  rw [val_lim] at h2
  omega

theorem cmp_at {p q : List Nat} {j : Nat} (hp : Dig p) (hj : j < p.length) (hk : j < q.length) (hlt : p[j] < q[j]) (hd : p.drop (j + 1) = q.drop (j + 1)) : val p < val q := by
  have h1 := val_split p (j + 1) hj
  have h2 := val_split q (j + 1) hk
  rw [hd] at h1
  rw [val_take_succ p j hj] at h1
  rw [val_take_succ q j hk] at h2
  have h3 := val_lt (hp.take j)
  have h4 : (p.take j).length = j := by rw [List.length_take]; omega
  rw [h4] at h3
  have h5 : 4294967296 ^ j * (p[j] + 1) ≤ 4294967296 ^ j * q[j] := Nat.mul_le_mul_left _ hlt
  rw [Nat.mul_add, Nat.mul_one] at h5
  generalize 4294967296 ^ (j + 1) * val (q.drop (j + 1)) = Z at *
  generalize 4294967296 ^ j * p[j] = X at *
  generalize 4294967296 ^ j * q[j] = Y at *
  generalize 4294967296 ^ j = P at *
  omega

theorem drop_at {p q : List Nat} {j : Nat} (hj : j < p.length) (hk : j < q.length) (he : p[j] = q[j]) (hd : p.drop (j + 1) = q.drop (j + 1)) : p.drop j = q.drop j := by
  rw [List.drop_eq_getElem_cons hj, List.drop_eq_getElem_cons hk, he, hd]

end Go.Proofs.YtdgfijnficbblaaDoor
