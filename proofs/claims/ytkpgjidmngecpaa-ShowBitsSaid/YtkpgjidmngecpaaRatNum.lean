/- Numbers with a divisor, in lowest terms; their sums and which is greater; in plain Lean. No condition on a program. -/
import Derived.Test.YtkpgjidmngecpaaNum
namespace Go.Proofs.Ytkpgjidmngecpaa

/-- A number in lowest terms: its sign, what is divided, the divisor. -/
def nrS (s : Bool) (n d : Nat) : Bool := if n = 0 ∨ d = 0 then false else s
def nrN (n d : Nat) : Nat := if n = 0 ∨ d = 0 then 0 else n / Nat.gcd n d
def nrD (n d : Nat) : Nat := if n = 0 ∨ d = 0 then 1 else d / Nat.gcd n d

theorem nr_zero {s : Bool} {n d : Nat} (h : n = 0 ∨ d = 0) : nrS s n d = false ∧ nrN n d = 0 ∧ nrD n d = 1 := by
  unfold nrS nrN nrD
  rw [if_pos h, if_pos h, if_pos h]
  exact ⟨rfl, rfl, rfl⟩

theorem nr_some {s : Bool} {n d : Nat} (hn : n ≠ 0) (hd : d ≠ 0) : nrS s n d = s ∧ nrN n d = n / Nat.gcd n d ∧ nrD n d = d / Nat.gcd n d := by
  have h : ¬ (n = 0 ∨ d = 0) := by omega
  unfold nrS nrN nrD
  rw [if_neg h, if_neg h, if_neg h]
  exact ⟨rfl, rfl, rfl⟩

theorem nrD_pos (n d : Nat) : 0 < nrD n d := by
  by_cases h : n = 0 ∨ d = 0
  · rw [(nr_zero (s := false) h).2.2]; omega
  · rw [(nr_some (s := false) (by omega : n ≠ 0) (by omega : d ≠ 0)).2.2]
    have hd : 0 < d := by omega
    exact Nat.div_pos (Nat.gcd_le_right _ hd) (Nat.gcd_pos_of_pos_right _ hd)

theorem nrN_le (n d : Nat) : nrN n d ≤ n := by
  unfold nrN
  split
  · omega
  · exact Nat.div_le_self _ _

theorem nrD_le {n d m : Nat} (h : d ≤ m) (h1 : 1 ≤ m) : nrD n d ≤ m := by
  unfold nrD
  split
  · exact h1
  · exact Nat.le_trans (Nat.div_le_self _ _) h

theorem nrN_zero {n d : Nat} : nrN n d = 0 ↔ n = 0 ∨ d = 0 := by
  constructor
  · intro h
    refine Classical.byContradiction fun hc => ?_
    rw [(nr_some (s := false) (by omega : n ≠ 0) (by omega : d ≠ 0)).2.1] at h
    have hn : 0 < n := by omega
    have := Nat.div_pos (Nat.gcd_le_left d hn) (Nat.gcd_pos_of_pos_left d hn)
    omega
  · intro h
    exact (nr_zero (s := false) h).2.1

theorem nr_low {s : Bool} {n d : Nat} (h : Nat.gcd n d = 1) (hn : n ≠ 0) (hd : d ≠ 0) : nrS s n d = s ∧ nrN n d = n ∧ nrD n d = d := by
  have := nr_some (s := s) hn hd
  rw [h, Nat.div_one, Nat.div_one] at this
  exact this

theorem nr_one {s : Bool} {d : Nat} (hd : d ≠ 0) : nrS s 1 d = s ∧ nrN 1 d = 1 ∧ nrD 1 d = d := nr_low (Nat.gcd_one_left d) (by omega) hd

/-- -1, 0 or 1: which of two whole numbers is greater. -/
def cmpI (a b : Int) : Int := if a < b then -1 else if b < a then 1 else 0

/-- A whole number with a sign. -/
def sg (s : Bool) (n : Nat) : Int := if s then -(n : Int) else (n : Int)

/-- A sum with signs: its sign, how great it is. -/
def addS (s t : Bool) (p q : Nat) : Bool := if s = t then s else if q ≤ p then s else t
def addN (s t : Bool) (p q : Nat) : Nat := if s = t then p + q else if q ≤ p then p - q else q - p

theorem addN_zero {s t : Bool} {p q : Nat} : addN s t p q = 0 ↔ sg s p + sg t q = 0 := by
  unfold addN sg
  cases s <;> cases t <;> simp <;> (try split) <;> omega

theorem addS_neg {s t : Bool} {p q : Nat} (h : addN s t p q ≠ 0) : addS s t p q = true ↔ sg s p + sg t q < 0 := by
  unfold addN at h
  unfold addS sg
  cases s <;> cases t <;> simp at h ⊢ <;> (try split at h) <;> (try split) <;> (try simp) <;> omega

theorem addN_le (s t : Bool) (p q : Nat) : addN s t p q ≤ p + q := by
  unfold addN
  split
  · omega
  · split <;> omega
end Go.Proofs.Ytkpgjidmngecpaa
