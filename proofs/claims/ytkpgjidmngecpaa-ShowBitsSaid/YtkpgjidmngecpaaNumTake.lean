/- Long division: what is taken away in place, and given back, in plain Lean. No condition on a program. -/
import Derived.Test.YtkpgjidmngecpaaNumDiv
namespace Go.Proofs.Ytkpgjidmngecpaa

theorem take_eq {P K B q vb v c w x y lo hi w' vc vc' vx : Nat} (h : vc + P * (q * vb) = vx + P * (K * (c + w))) (hs : vc' + P * K * x = vc + P * K * y) (hy : y + lo + w = x + B * w') (ht : c + q * v = lo + B * hi) :
    vc' + P * (q * (vb + K * v)) = vx + P * (K * B * (hi + w')) := by
  have e1 : P * (q * (vb + K * v)) = P * (q * vb) + P * K * (q * v) := by grind
  have e2 : P * (K * (c + w)) = P * K * c + P * K * w := by grind
  have e3 : P * (K * B * (hi + w')) = P * K * (B * hi) + P * K * (B * w') := by grind
  have e4 := congrArg (fun z => P * K * z) hy
  have e5 := congrArg (fun z => P * K * z) ht
  simp only [Nat.mul_add] at e4 e5
  rw [e1, e3]
  rw [e2] at h
  generalize P * K * x = a1 at *
  generalize P * K * y = a2 at *
  generalize P * K * c = a3 at *
  generalize P * K * w = a4 at *
  generalize P * K * lo = a5 at *
  generalize P * K * (B * w') = a6 at *
  generalize P * K * (B * hi) = a7 at *
  generalize P * K * (q * v) = a8 at *
  omega

/-- A product's first limbs are taken away, at a place. -/
def TakeAt (b xs cs : List Nat) (q i c w k : Nat) : Prop := val cs + 4294967296 ^ i * (q * val (b.take k)) = val xs + 4294967296 ^ i * (4294967296 ^ k * (c + w))

theorem takeAt_zero (b xs : List Nat) (q i : Nat) : TakeAt b xs xs q i 0 0 0 := by
  unfold TakeAt
  simp [val]

theorem takeAt_step {b xs cs : List Nat} {q i c w k t : Nat} (hd : Dig cs) (hk : i + k < cs.length) (hw : w ≤ 1) (ht : t = c + q * b.getD k 0) (h : TakeAt b xs cs q i c w k) :
    TakeAt b xs (cs.set (i + k) ((cs.getD (i + k) 0 + 8589934592 - t % 4294967296 - w) % 4294967296)) q i (t / 4294967296) (if cs.getD (i + k) 0 < t % 4294967296 + w then 1 else 0) (k + 1) := by
  have hx := dig_getD hd (i + k)
  have hy := sub_digit hx (Nat.mod_lt t (by omega : 4294967296 > 0)) hw
  have hs := val_set cs (i + k) ((cs.getD (i + k) 0 + 8589934592 - t % 4294967296 - w) % 4294967296) hk
  have e := (Nat.mod_add_div t 4294967296).symm
  unfold TakeAt at h ⊢
  rw [val_take_getD]
  generalize (if cs.getD (i + k) 0 < t % 4294967296 + w then 1 else 0) = w' at *
  generalize (cs.getD (i + k) 0 + 8589934592 - t % 4294967296 - w) % 4294967296 = y at *
  rw [Nat.pow_add] at hs
  rw [Nat.pow_succ]
  exact take_eq h hs hy (ht ▸ e)

theorem give_eq {P K B vb v x y m m' vc vc' vx : Nat} (h : vc + P * K * m = vx + P * vb) (hs : vc' + P * K * x = vc + P * K * y) (hy : x + v + m = y + B * m') : vc' + P * (K * B) * m' = vx + P * (vb + K * v) := by
  have e1 : P * (vb + K * v) = P * vb + P * K * v := by grind
  have e2 : P * (K * B) * m' = P * K * (B * m') := by grind
  have e4 := congrArg (fun z => P * K * z) hy
  simp only [Nat.mul_add] at e4
  rw [e1, e2]
  generalize P * K * (B * m') = a1 at *
  generalize P * K * x = a2 at *
  generalize P * K * y = a3 at *
  generalize P * K * v = a4 at *
  generalize P * K * m = a5 at *
  omega

/-- A number's first limbs are given back, at a place. -/
def GiveAt (b ys cs : List Nat) (i m k : Nat) : Prop := val cs + 4294967296 ^ i * 4294967296 ^ k * m = val ys + 4294967296 ^ i * val (b.take k)

theorem giveAt_zero (b ys : List Nat) (i : Nat) : GiveAt b ys ys i 0 0 := by
  unfold GiveAt
  simp [val]

theorem giveAt_step {b ys cs : List Nat} {i m k : Nat} (hk : i + k < cs.length) (h : GiveAt b ys cs i m k) :
    GiveAt b ys (cs.set (i + k) ((cs.getD (i + k) 0 + b.getD k 0 + m) % 4294967296)) i ((cs.getD (i + k) 0 + b.getD k 0 + m) / 4294967296) (k + 1) := by
  have hs := val_set cs (i + k) ((cs.getD (i + k) 0 + b.getD k 0 + m) % 4294967296) hk
  have e := (Nat.mod_add_div (cs.getD (i + k) 0 + b.getD k 0 + m) 4294967296).symm
  unfold GiveAt at h ⊢
  rw [val_take_getD]
  generalize hs0 : cs.getD (i + k) 0 + b.getD k 0 + m = s at *
  rw [Nat.pow_add] at hs
  rw [Nat.pow_succ]
  exact give_eq h hs (hs0.trans e)

theorem bare_of_lt {cs : List Nat} {m : Nat} (hd : Dig cs) (h : val cs < 4294967296 ^ m) : Bare cs m := by
  intro j hj
  have e1 := val_drop cs hd j
  have p : 4294967296 ^ m ≤ 4294967296 ^ j := Nat.pow_le_pow_right (by omega) hj
  rw [Nat.div_eq_of_lt (by omega)] at e1
  by_cases hk : j < cs.length
  · rw [List.drop_eq_getElem_cons hk] at e1
    rw [getD_in0 hk]
    have : val (cs[j] :: cs.drop (j + 1)) = cs[j] + 4294967296 * val (cs.drop (j + 1)) := rfl
    omega
  · exact getD_out0 (by omega)

theorem lt_of_bare {cs : List Nat} {m : Nat} (hd : Dig cs) (h : Bare cs m) : val cs < 4294967296 ^ m := by
  have e1 := val_drop cs hd m
  have z : ∀ l : List Nat, (∀ j, l.getD j 0 = 0) → val l = 0 := by
    intro l
    induction l with
    | nil => intro _; rfl
    | cons x r ih =>
      intro hz
      have h0 : x = 0 := hz 0
      have h1 := ih (fun j => hz (j + 1))
      show x + 4294967296 * val r = 0
      omega
  have e2 : val (cs.drop m) = 0 := z _ fun j => by
    rw [List.getD_eq_getElem?_getD, List.getElem?_drop, ← List.getD_eq_getElem?_getD]
    exact h (m + j) (by omega)
  rw [e2] at e1
  have := Nat.lt_of_div_eq_zero (pow_pos' m) e1.symm
  exact this

theorem over_eq {P B' q D vx vy : Nat} (h : vy + P * (q * D) = vx + P * (B' * (0 + 1))) (hy : vy < P * B') : vx < P * (q * D) := by
  rw [Nat.zero_add, Nat.mul_one] at h
  omega

theorem back_eq {P B' q D vx vy vc m : Nat} (h : vy + P * (q * D) = vx + P * (B' * (0 + 1))) (hc : vc + P * B' * m = vy + P * D) (hl : vc < P * B') (hq : P * ((q - 1) * D) ≤ vx) (h0 : 0 < q) (hm : m ≤ 1) : vc + P * ((q - 1) * D) = vx := by
  obtain ⟨p, rfl⟩ : ∃ p, q = p + 1 := ⟨q - 1, by omega⟩
  rw [Nat.add_sub_cancel] at hq ⊢
  have e : P * ((p + 1) * D) = P * (p * D) + P * D := by grind
  rw [e, Nat.zero_add, Nat.mul_one] at h
  rcases m with _ | _ | m
  · rw [Nat.mul_zero] at hc
    omega
  · rw [Nat.zero_add, Nat.mul_one] at hc
    omega
  · omega

/-- Nothing was borrowed: the product is away. -/
theorem takeAt_fits {b xs cs : List Nat} {q i k : Nat} (hk : b.length ≤ k) (h : TakeAt b xs cs q i 0 0 k) : val cs + 4294967296 ^ i * (q * val b) = val xs := by
  unfold TakeAt at h
  rw [List.take_of_length_le hk] at h
  simpa using h

/-- A limb was borrowed: that was too much. -/
theorem takeAt_over {b xs cs : List Nat} {q i : Nat} (hd : Dig cs) (hz : Bare cs (i + (b.length + 1))) (h : TakeAt b xs cs q i 0 1 (b.length + 1)) : val xs < 4294967296 ^ i * (q * val b) := by
  unfold TakeAt at h
  rw [List.take_of_length_le (by omega)] at h
  have := lt_of_bare hd hz
  rw [Nat.pow_add] at this
  exact over_eq h this

/-- It is given back. -/
theorem giveAt_end {b xs ys cs : List Nat} {q i m : Nat} (hd : Dig cs) (hz : Bare cs (i + (b.length + 1))) (hy : TakeAt b xs ys q i 0 1 (b.length + 1)) (h : GiveAt b ys cs i m (b.length + 1))
    (h0 : 0 < q) (hq : 4294967296 ^ i * ((q - 1) * val b) ≤ val xs) (hm : m ≤ 1) : val cs + 4294967296 ^ i * ((q - 1) * val b) = val xs := by
  unfold TakeAt at hy
  unfold GiveAt at h
  rw [List.take_of_length_le (by omega)] at h hy
  have := lt_of_bare hd hz
  rw [Nat.pow_add] at this
  exact back_eq hy h this hq h0 hm

theorem take_carry {c q v : Nat} (hc : c < 4294967296) (hq : q < 4294967296) (hv : v < 4294967296) : c + q * v < 18446744073709551616 ∧ (c + q * v) / 4294967296 < 4294967296 ∧ q * v < 18446744073709551616 := by
  have h1 : q * v ≤ 4294967295 * 4294967295 := Nat.mul_le_mul (by omega) (by omega)
  omega
end Go.Proofs.Ytkpgjidmngecpaa
