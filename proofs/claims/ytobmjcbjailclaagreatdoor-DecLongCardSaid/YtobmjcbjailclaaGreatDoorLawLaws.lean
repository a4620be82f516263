/- 'NatLaws' returns true at any rows of limbs. No condition. -/
import Derived.Test.YtobmjcbjailclaaGreatDoorKnown
namespace Go.Proofs.YtobmjcbjailclaaGreatDoor
set_option maxRecDepth 100000
open Go.RowKit

theorem nt_len {w : World} {L B : Nat} {v : Value} {x : List Nat} (h : Nt w L B v x) : ∃ A c, v = .slice A x.length c ∧ x.length ≤ 9223372036854775807 := by
  obtain ⟨A, c, rfl, hc, hm, _⟩ := h
  exact ⟨A, c, rfl, by unfold maxLen at hm; omega⟩

theorem lim_add_len {a b n : Nat} {x y : List Nat} (hx : Dig x) (hy : Dig y) (ha : a = val x) (hb : b = val y) (h1 : x.length ≤ n) (h2 : y.length ≤ n) : (lim (a + b)).length ≤ n + 1 := by
  subst ha; subst hb
  refine lim_length_le ?_
  have e1 := val_lt hx
  have e2 := val_lt hy
  have e3 : 4294967296 ^ x.length ≤ 4294967296 ^ n := Nat.pow_le_pow_right (by omega) h1
  have e4 : 4294967296 ^ y.length ≤ 4294967296 ^ n := Nat.pow_le_pow_right (by omega) h2
  rw [Nat.pow_succ]
  generalize 4294967296 ^ n = N at *
  omega

theorem lim_mul_len {a b m n : Nat} {x y : List Nat} (hx : Dig x) (hy : Dig y) (ha : a = val x) (hb : b = val y) (h1 : x.length ≤ m) (h2 : y.length ≤ n) : (lim (a * b)).length ≤ m + n := by
  subst ha; subst hb
  refine lim_length_le ?_
  rw [Nat.pow_add]
  have e1 := val_lt hx
  have e2 := val_lt hy
  have e3 : 4294967296 ^ x.length ≤ 4294967296 ^ m := Nat.pow_le_pow_right (by omega) h1
  have e4 : 4294967296 ^ y.length ≤ 4294967296 ^ n := Nat.pow_le_pow_right (by omega) h2
  exact Nat.mul_lt_mul_of_lt_of_le (Nat.lt_of_lt_of_le e1 e3) (Nat.le_of_lt (Nat.lt_of_lt_of_le e2 e4)) (pow_pos' _)

theorem eqb_eq {x y : List Nat} (h : x = y) : eqb x y = true := decide_eq_true h

end Go.Proofs.YtobmjcbjailclaaGreatDoor
