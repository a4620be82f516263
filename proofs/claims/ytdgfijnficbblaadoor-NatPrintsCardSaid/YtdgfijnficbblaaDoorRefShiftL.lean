/- The reference's 'Shift' by its contract: to the left. Condition: a bound on lengths. -/
import Derived.Test.YtdgfijnficbblaaDoorKnown
import Derived.Test.YtdgfijnficbblaaDoorNumShift
import Derived.Laws.BitsAllLaws
import Derived.Outline
namespace Go.Proofs.YtdgfijnficbblaaDoor
open Go.RowKit

theorem leftIn_fin {a c : List Nat} {n s h : Nat} (hd : Dig a) (hs : s ≤ 31) (hl : LeftIn a c n s h (a.length + 1)) : val c = 4294967296 ^ n * (val a * 2 ^ s) := by
  have e := leftIn_end hl (Nat.le_refl _)
  by_cases h0 : h = 0
  · subst h0
    rw [Nat.mul_zero, Nat.add_zero] at e
    exact e
  · exfalso
    have e1 := val_lt hd
    have e2 := two_pow_le hs
    have p1 : 0 < 4294967296 ^ n := Nat.pow_pos (by omega)
    have p2 : 0 < 4294967296 ^ a.length := Nat.pow_pos (by omega)
    have e3 : val a * 2 ^ s < 4294967296 ^ a.length * 4294967296 := by
      calc val a * 2 ^ s ≤ val a * 2147483648 := Nat.mul_le_mul_left _ e2
        _ ≤ 4294967296 ^ a.length * 2147483648 := Nat.mul_le_mul_right _ (Nat.le_of_lt e1)
        _ < 4294967296 ^ a.length * 4294967296 := Nat.mul_lt_mul_of_pos_left (by omega) p2
    have e4 : 4294967296 ^ n * (val a * 2 ^ s) < 4294967296 ^ n * (4294967296 ^ a.length * 4294967296) := Nat.mul_lt_mul_of_pos_left e3 p1
    have e5 : 4294967296 ^ (n + (a.length + 1)) = 4294967296 ^ n * (4294967296 ^ a.length * 4294967296) := by rw [Nat.pow_add, Nat.pow_succ]
    rw [e5] at e
    generalize 4294967296 ^ n * (4294967296 ^ a.length * 4294967296) = Q at *
    have e6 : Q ≤ Q * h := Nat.le_mul_of_pos_right _ (by omega)
    omega


theorem nt_len2 {w : World} {L B : Nat} {v : Value} {x : List Nat} (h : Nt w L B v x) : ∃ A c, v = .slice A x.length c ∧ x.length ≤ 9223372036854775807 := by
  obtain ⟨A, c, rfl, hc, hm, _⟩ := h
  exact ⟨A, c, rfl, by unfold maxLen at hm; omega⟩

theorem Own.of_lb {w : World} {g base : Nat} {t : TypeId} {x : List Nat} (h : Lb w g t x) (hb : base ≤ g) (hm : x.length ≤ maxLen) : Own w base t (.slice (some ⟨g, 0, none⟩) x.length x.length) x := by
  refine ⟨by rw [lv_length, Nat.mul_one], .inr ⟨g, x.length, (lv x).toArray, rfl, hb, h, Nat.le_refl _, hm, ?_, ?_⟩⟩
  · rw [List.size_toArray, lv_length, Nat.mul_one]
  · show (lv x).take (x.length * 1) = lv x
    rw [Nat.mul_one, List.take_of_length_le (Nat.le_of_eq (lv_length x))]

end Go.Proofs.YtdgfijnficbblaaDoor
