/- Division bit by bit, from the highest bit down; in plain Lean. No condition on a program. -/
import Derived.Test.YtkpgjidmngecpaaNumSmall
namespace Go.Proofs.Ytkpgjidmngecpaa

/-- The bits from the i-th on are divided. -/
def BitAt (va vq vr B i : Nat) : Prop := vr = va / 2 ^ i % B ∧ vq = va / 2 ^ i / B * 2 ^ i

theorem bitAt_start {va i : Nat} (B : Nat) (h : va < 2 ^ i) : BitAt va 0 0 B i := by
  unfold BitAt
  rw [Nat.div_eq_of_lt h]
  simp

theorem bitAt_end {va vq vr B : Nat} (h : BitAt va vq vr B 0) : vq = va / B ∧ vr = va % B := by
  unfold BitAt at h
  rw [Nat.pow_zero, Nat.div_one, Nat.mul_one] at h
  exact ⟨h.2, h.1⟩

theorem twice_div {X B c : Nat} (hB : 0 < B) (hc : c ≤ 1) :
    (X * 2 + c) / B = X / B * 2 + (if B ≤ X % B * 2 + c then 1 else 0) ∧ (X * 2 + c) % B = (if B ≤ X % B * 2 + c then X % B * 2 + c - B else X % B * 2 + c) := by
  have e := Nat.div_add_mod' X B
  have hr := Nat.mod_lt X hB
  generalize X / B = Q at *
  generalize X % B = r at *
  have e2 : X * 2 + c = (r * 2 + c) + B * (Q * 2) := by rw [← e]; grind
  rw [e2, Nat.add_mul_div_left _ _ hB, Nat.add_mul_mod_self_left]
  by_cases h : B ≤ r * 2 + c
  · rw [if_pos h, if_pos h]
    have e3 : r * 2 + c = (r * 2 + c - B) + B * 1 := by omega
    rw [e3, Nat.add_mul_div_left _ _ hB, Nat.add_mul_mod_self_left, Nat.div_eq_of_lt (by omega), Nat.mod_eq_of_lt (by omega)]
    omega
  · rw [if_neg h, if_neg h, Nat.div_eq_of_lt (by omega), Nat.mod_eq_of_lt (by omega)]
    omega

theorem bitAt_step {va vq vr B i c : Nat} (hB : 0 < B) (hc : c = va / 2 ^ i % 2) (h : BitAt va vq vr B (i + 1)) :
    (B ≤ vr * 2 + c → BitAt va (vq + 2 ^ i) (vr * 2 + c - B) B i) ∧ (vr * 2 + c < B → BitAt va vq (vr * 2 + c) B i) := by
  obtain ⟨h1, h2⟩ := h
  have e : va / 2 ^ (i + 1) = va / 2 ^ i / 2 := by rw [Nat.div_div_eq_div_mul, Nat.pow_succ]
  rw [e] at h1 h2
  have e2 : va / 2 ^ i = va / 2 ^ i / 2 * 2 + c := by rw [hc]; omega
  have t := twice_div (X := va / 2 ^ i / 2) (B := B) (c := c) hB (by omega)
  rw [← e2, ← h1] at t
  have ep : 2 ^ (i + 1) = 2 * 2 ^ i := by rw [Nat.pow_succ, Nat.mul_comm]
  rw [ep, ← Nat.mul_assoc] at h2
  generalize va / 2 ^ i / 2 / B * 2 = Q2 at *
  constructor
  · intro hle
    rw [if_pos hle, if_pos hle] at t
    unfold BitAt
    rw [t.1, t.2, h2, Nat.add_mul, Nat.one_mul]
    exact ⟨rfl, rfl⟩
  · intro hlt
    rw [if_neg (by omega), if_neg (by omega)] at t
    unfold BitAt
    rw [t.1, t.2, h2, Nat.add_zero]
    exact ⟨rfl, rfl⟩

theorem getD_in0 {l : List Nat} {j : Nat} (h : j < l.length) : l.getD j 0 = l[j] := by
  rw [List.getD_eq_getElem?_getD, List.getElem?_eq_getElem h]; rfl
theorem getD_out0 {l : List Nat} {j : Nat} (h : l.length ≤ j) : l.getD j 0 = 0 := by
  rw [List.getD_eq_getElem?_getD, List.getElem?_eq_none h]; rfl

/-- A bit of a number is a bit of one of its limbs. -/
theorem bit_of (a : List Nat) (hd : Dig a) (k s : Nat) (hs : s ≤ 31) : val a / 2 ^ (32 * k + s) % 2 = a.getD k 0 / 2 ^ s % 2 := by
  have e1 : val a / 2 ^ (32 * k + s) = val (a.drop k) / 2 ^ s := by rw [Nat.pow_add, ← Nat.div_div_eq_div_mul, ← base_pow, val_drop a hd k]
  have e2 : val (a.drop k) = a.getD k 0 + 4294967296 * val (a.drop (k + 1)) := by
    by_cases hk : k < a.length
    · rw [List.drop_eq_getElem_cons hk, getD_in0 hk]; rfl
    · rw [List.drop_eq_nil_of_le (by omega), List.drop_eq_nil_of_le (by omega), getD_out0 (by omega)]; rfl
  have hb := base_split (s := s + 1) (by omega)
  have p2 : 2 ^ (s + 1) = 2 ^ s * 2 := Nat.pow_succ ..
  rw [e1, e2, hb, p2]
  have p0 : 0 < 2 ^ s := Nat.two_pow_pos s
  generalize val (a.drop (k + 1)) = y
  generalize a.getD k 0 = x
  generalize 2 ^ (32 - (s + 1)) = z
  have e3 : x + 2 ^ s * 2 * z * y = x + 2 ^ s * (2 * (z * y)) := by grind
  rw [e3, Nat.add_mul_div_left _ _ p0]
  omega

/-- A bit more in a limb whose lower bits, that one too, are 0. -/
theorem bit_set {cs : List Nat} {Y k s : Nat} (hd : Dig cs) (hk : k < cs.length) (hs : s ≤ 31) (hv : val cs = Y * 2 ^ (32 * k + s + 1)) :
    val (cs.set k (cs.getD k 0 ||| 2 ^ s)) = val cs + 2 ^ (32 * k + s) ∧ cs.getD k 0 ||| 2 ^ s < 4294967296 := by
  have e1 : val (cs.drop k) = Y * 2 ^ (s + 1) := by
    rw [val_drop cs hd k, hv, base_pow, Nat.add_assoc, Nat.pow_add, ← Nat.mul_assoc, Nat.mul_right_comm, Nat.mul_div_cancel _ (Nat.two_pow_pos _)]
  have e2 : val (cs.drop k) = cs.getD k 0 + 4294967296 * val (cs.drop (k + 1)) := by
    rw [List.drop_eq_getElem_cons hk, getD_in0 hk]; rfl
  have hb := base_split (s := s + 1) (by omega)
  have hdv : 2 ^ (s + 1) ∣ cs.getD k 0 := by
    have h1 : 2 ^ (s + 1) ∣ cs.getD k 0 + 4294967296 * val (cs.drop (k + 1)) := by rw [← e2, e1]; exact Nat.dvd_mul_left _ _
    have h2 : 2 ^ (s + 1) ∣ 4294967296 * val (cs.drop (k + 1)) := by rw [hb, Nat.mul_assoc]; exact Nat.dvd_mul_right _ _
    exact (Nat.dvd_add_left h2).1 h1
  have hlt : 2 ^ s < 2 ^ (s + 1) := Nat.pow_lt_pow_right (by omega) (by omega)
  have ho : cs.getD k 0 ||| 2 ^ s = cs.getD k 0 + 2 ^ s := by rw [Nat.or_comm]; exact or_add hlt hdv
  refine ⟨?_, Nat.or_lt_two_pow (n := 32) (dig_getD hd k) (Nat.pow_lt_pow_right (by omega) (by omega))⟩
  rw [ho]
  have e3 := val_set cs k (cs.getD k 0 + 2 ^ s) hk
  have e4 : (2 : Nat) ^ (32 * k + s) = 4294967296 ^ k * 2 ^ s := by rw [Nat.pow_add, base_pow]
  rw [e4]
  rw [Nat.mul_add] at e3
  omega
end Go.Proofs.Ytkpgjidmngecpaa
