/- Division by one limb, from the highest limb down; in plain Lean. No condition on a program. -/
import Derived.Test.YtdgfijnficbblaaDoorNumShift
namespace Go.Proofs.YtdgfijnficbblaaDoor

/-- The limbs from the k-th on are divided; r is what is left. -/
def SmallAt (a cs : List Nat) (b r k : Nat) : Prop := r < b ∧ (∀ j, j < k → cs.getD j 0 = 0) ∧ val cs * b + 4294967296 ^ k * r + val (a.take k) = val a

theorem smallAt_zero (a : List Nat) (b : Nat) (hb : 0 < b) : SmallAt a (List.replicate a.length 0) b 0 a.length :=
  ⟨hb, fun j _ => bare_zeros _ 0 j (Nat.zero_le _), by rw [val_zeros, List.take_length]; simp⟩

theorem small_eq {vc b P r T vt v t d m va : Nat} (h : vc * b + P * T * r + (vt + P * v) = va) (ht : t = r * T + v) (hd : d * b + m = t) : (vc + P * d) * b + P * m + vt = va := by
  have e1 : P * T * r = P * (r * T) := by grind
  have e2 : P * (r * T) + P * v = P * t := by rw [ht]; grind
  have e3 : (vc + P * d) * b + P * m = vc * b + P * (d * b + m) := by grind
  rw [e3, hd]
  rw [e1] at h
  omega

theorem smallAt_step {a cs : List Nat} {b r k : Nat} (hb : b ≤ 4294967296) (ha : Dig a) (hl : cs.length = a.length) (hk : k < a.length) (h : SmallAt a cs b r (k + 1)) :
    SmallAt a (cs.set k ((r * 4294967296 + a.getD k 0) / b)) b ((r * 4294967296 + a.getD k 0) % b) k ∧ (r * 4294967296 + a.getD k 0) / b < 4294967296 := by
  obtain ⟨h0, h1, h2⟩ := h
  have ha0 := dig_getD ha k
  refine ⟨⟨Nat.mod_lt _ (by omega), fun j hj => ?_, ?_⟩, ?_⟩
  · rw [getD_set_ne (by omega)]; exact h1 j (by omega)
  · rw [val_set_zero (by omega) (h1 k (by omega))]
    rw [val_take_getD, Nat.pow_succ] at h2
    exact small_eq h2 rfl (Nat.div_add_mod' _ _)
  · rw [Nat.div_lt_iff_lt_mul (by omega)]
    calc r * 4294967296 + a.getD k 0 < r * 4294967296 + 4294967296 := by omega
      _ = (r + 1) * 4294967296 := by omega
      _ ≤ b * 4294967296 := Nat.mul_le_mul_right _ h0
      _ = 4294967296 * b := Nat.mul_comm _ _

theorem smallAt_end {a cs : List Nat} {b r : Nat} (h : SmallAt a cs b r 0) : val cs = val a / b ∧ r = val a % b := by
  obtain ⟨h0, _, h2⟩ := h
  rw [List.take_zero, Nat.pow_zero, Nat.one_mul, show val [] = 0 from rfl, Nat.add_zero] at h2
  have hb : 0 < b := by omega
  have e : val a = r + b * val cs := by rw [← h2, Nat.add_comm, Nat.mul_comm]
  rw [e, Nat.add_mul_div_left _ _ hb, Nat.div_eq_of_lt h0, Nat.add_mul_mod_self_left, Nat.mod_eq_of_lt h0]
  exact ⟨(Nat.zero_add _).symm, rfl⟩
end Go.Proofs.YtdgfijnficbblaaDoor
