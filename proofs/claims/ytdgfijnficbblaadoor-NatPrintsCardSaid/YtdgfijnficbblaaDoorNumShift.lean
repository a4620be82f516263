/- Rows of limbs shifted, round by round, in plain Lean. No condition on a program. -/
import Derived.Test.YtdgfijnficbblaaDoorNumSub
namespace Go.Proofs.YtdgfijnficbblaaDoor

theorem two_pow_le {s : Nat} (h : s ≤ 31) : 2 ^ s ≤ 2147483648 := by
  have : 2 ^ s ≤ 2 ^ 31 := Nat.pow_le_pow_right (by omega) h
  have e : (2 : Nat) ^ 31 = 2147483648 := by decide
  omega

theorem base_split {s : Nat} (h : s ≤ 32) : (4294967296 : Nat) = 2 ^ s * 2 ^ (32 - s) := by
  rw [← Nat.pow_add]
  have : s + (32 - s) = 32 := by omega
  rw [this]

/-- A multiple of a power of two, and what is less than the power: laid together they are the sum. -/
theorem or_add {m h s : Nat} (hh : h < 2 ^ s) (hm : 2 ^ s ∣ m) : h ||| m = m + h := by
  obtain ⟨q, rfl⟩ := hm
  have := Nat.shiftLeft_add_eq_or_of_lt hh q
  rw [Nat.shiftLeft_eq, Nat.mul_comm] at this
  rw [Nat.or_comm, ← this]

/-- What a limb times 2 ^ s lays down, and what it hands on. -/
theorem shl_parts {v s : Nat} (hv : v < 4294967296) (hs : s ≤ 31) : v * 2 ^ s < 18446744073709551616 ∧ v * 2 ^ s / 4294967296 < 2 ^ s ∧ 2 ^ s ∣ v * 2 ^ s % 4294967296 ∧ v * 2 ^ s % 4294967296 + 2 ^ s ≤ 4294967296 := by
  have hp := two_pow_le hs
  have hb := base_split (s := s) (by omega)
  have hp0 : 0 < 2 ^ s := Nat.two_pow_pos s
  refine ⟨?_, ?_, ?_, ?_⟩
  · have := Nat.mul_le_mul (show v ≤ 4294967295 by omega) hp
    generalize v * 2 ^ s = Z at *
    omega
  · rw [Nat.div_lt_iff_lt_mul (by omega), Nat.mul_comm]
    exact Nat.mul_lt_mul_of_pos_left hv hp0
  · rw [Nat.dvd_mod_iff ⟨_, hb⟩]
    exact ⟨v, Nat.mul_comm _ _⟩
  · have h1 : 2 ^ s ∣ v * 2 ^ s % 4294967296 := by rw [Nat.dvd_mod_iff ⟨_, hb⟩]; exact ⟨v, Nat.mul_comm _ _⟩
    have h2 : v * 2 ^ s % 4294967296 < 4294967296 := Nat.mod_lt _ (by omega)
    obtain ⟨q, hq⟩ := h1
    rw [hq] at h2 ⊢
    have h3 : 2 ^ s * q < 2 ^ s * 2 ^ (32 - s) := by rw [← hb]; exact h2
    have h4 : q < 2 ^ (32 - s) := Nat.lt_of_mul_lt_mul_left h3
    have h5 : 2 ^ s * (q + 1) ≤ 2 ^ s * 2 ^ (32 - s) := Nat.mul_le_mul_left _ h4
    rw [← hb, Nat.mul_add, Nat.mul_one] at h5
    exact h5

/-- Shifted to the left behind k rounds: h is to be handed on. -/
def LeftAt (a c : List Nat) (s h k : Nat) : Prop := val (c.take k) + 4294967296 ^ k * h = val (a.take k) * 2 ^ s ∧ h < 2 ^ s

theorem leftAt_zero (a c : List Nat) (s : Nat) : LeftAt a c s 0 0 := ⟨by simp [val], Nat.two_pow_pos s⟩

theorem left_eq {P vc h va v T w lo hi : Nat} (h1 : vc + P * h = va * T) (hw : w = v * T) (h2 : w = lo + 4294967296 * hi) : vc + P * (lo + h) + P * 4294967296 * hi = (va + P * v) * T := by
  have h3 := carry_eq (P := P) h2
  rw [Nat.mul_add, Nat.add_mul, ← h1]
  have h4 : P * v * T = P * w := by rw [hw, Nat.mul_assoc]
  rw [h4]
  generalize P * lo = A at *
  generalize P * h = B at *
  generalize P * 4294967296 * hi = C at *
  generalize P * w = D at *
  omega

theorem leftAt_step {a c : List Nat} {s h k : Nat} (ha : Dig a) (hs : s ≤ 31) (hl : LeftAt a c s h k) (hk : k < c.length) :
    LeftAt a (c.set k (h ||| a.getD k 0 * 2 ^ s % 4294967296)) s (a.getD k 0 * 2 ^ s / 4294967296) (k + 1) ∧ (h ||| a.getD k 0 * 2 ^ s % 4294967296) < 4294967296 := by
  obtain ⟨h1, h2⟩ := hl
  have hp := shl_parts (dig_getD ha k) hs
  rw [or_add h2 hp.2.2.1]
  refine ⟨⟨?_, hp.2.1⟩, by omega⟩
  rw [val_set_take _ _ _ hk, val_take_getD, Nat.pow_succ]
  exact left_eq h1 rfl (by omega)

/-- A row shifted whole. -/
theorem leftAt_end {a c : List Nat} {s h : Nat} (hl : LeftAt a c s h a.length) (hk : a.length < c.length) (hz : Bare c (a.length + 1)) (hh : c.getD a.length 0 = h) : val c = val a * 2 ^ s := by
  obtain ⟨h1, _⟩ := hl
  rw [List.take_length] at h1
  have h2 := val_split c (a.length + 1) hk
  rw [val_take_getD, hh, h1] at h2
  have h3 : val (c.drop (a.length + 1)) = 0 := by
    have : ∀ l : List Nat, (∀ x ∈ l, x = 0) → val l = 0 := by
      intro l
      induction l with
      | nil => intro _; rfl
      | cons x r ih => intro h; rw [val, h x (by simp), ih fun y hy => h y (by simp [hy])]
    refine this _ fun x hx => ?_
    obtain ⟨j, hj, rfl⟩ := List.getElem_of_mem hx
    have := hz (a.length + 1 + j) (by omega)
    rw [List.getElem_drop]
    rw [List.getD_eq_getElem?_getD, List.getElem?_eq_getElem (by rw [List.length_drop] at hj; omega)] at this
    exact this
  rw [h3, Nat.mul_zero, Nat.add_zero] at h2
  exact h2

/-- A row shifted within its own length: nothing is handed on. -/
theorem leftAt_fit {a c : List Nat} {s h : Nat} (hl : LeftAt a c s h a.length) (hk : c.length = a.length) (hf : val a * 2 ^ s < 4294967296 ^ a.length) : val c = val a * 2 ^ s := by
  obtain ⟨h1, _⟩ := hl
  rw [List.take_length, List.take_of_length_le (by omega)] at h1
  rcases Nat.eq_zero_or_pos h with h0 | h0
  · rw [h0, Nat.mul_zero, Nat.add_zero] at h1; exact h1
  · have : 4294967296 ^ a.length ≤ 4294967296 ^ a.length * h := Nat.le_mul_of_pos_right _ h0
    generalize 4294967296 ^ a.length * h = Z at *
    generalize val a * 2 ^ s = Y at *
    omega

/-- The same where limbs are laid one by one. -/
def LeftIn (a c : List Nat) (n s h k : Nat) : Prop := c.length = n + k ∧ val c + 4294967296 ^ (n + k) * h = 4294967296 ^ n * (val (a.take k) * 2 ^ s) ∧ h < 2 ^ s

theorem leftIn_zero (a : List Nat) (n s : Nat) : LeftIn a (List.replicate n 0) n s 0 0 := ⟨by simp, by rw [val_zeros]; simp [val], Nat.two_pow_pos s⟩

theorem leftIn_eq {N P Q vc h va v T w lo hi : Nat} (hQ : Q = N * P) (h1 : vc + Q * h = N * (va * T)) (hw : w = v * T) (h2 : w = lo + 4294967296 * hi) : vc + Q * (lo + h) + Q * 4294967296 * hi = N * ((va + P * v) * T) := by
  have h3 := carry_eq (P := Q) h2
  rw [Nat.add_mul, Nat.mul_add, Nat.mul_add, ← h1]
  have h4 : N * (P * v * T) = Q * w := by rw [hw, hQ]; ac_rfl
  rw [h4]
  generalize Q * lo = A at *
  generalize Q * h = B at *
  generalize Q * 4294967296 * hi = C at *
  generalize Q * w = D at *
  omega

theorem leftIn_step {a c : List Nat} {n s h k : Nat} (ha : Dig a) (hs : s ≤ 31) (hl : LeftIn a c n s h k) :
    LeftIn a (c ++ [(a.getD k 0 * 2 ^ s ||| h) % 4294967296]) n s (a.getD k 0 * 2 ^ s / 4294967296) (k + 1) := by
  obtain ⟨h0, h1, h2⟩ := hl
  have hp := shl_parts (dig_getD ha k) hs
  have e : (a.getD k 0 * 2 ^ s ||| h) % 4294967296 = a.getD k 0 * 2 ^ s % 4294967296 + h := by
    rw [Nat.or_comm, or_add h2 ⟨a.getD k 0, Nat.mul_comm _ _⟩]
    have h3 := hp.2.2.2
    generalize a.getD k 0 * 2 ^ s = Z at *
    omega
  rw [e]
  refine ⟨by simp [h0]; omega, ?_, hp.2.1⟩
  have e1 : n + (k + 1) = (n + k) + 1 := by omega
  rw [val_append, h0, val_one, val_take_getD, e1, Nat.pow_succ]
  exact leftIn_eq (Nat.pow_add ..) h1 rfl (by omega)

theorem leftIn_end {a c : List Nat} {n s h k : Nat} (hl : LeftIn a c n s h (k + 1)) (hk : a.length ≤ k) : val c + 4294967296 ^ (n + (k + 1)) * h = 4294967296 ^ n * (val a * 2 ^ s) := by
  have := hl.2.1
  rw [List.take_of_length_le (by omega)] at this
  exact this

/-- A limb cut in two by a shift to the right. -/
theorem shr_parts {v s : Nat} (hv : v < 4294967296) (hs : s ≤ 31) : v * 4294967296 / 2 ^ s = v * 2 ^ (32 - s) ∧ v * 2 ^ (32 - s) < 18446744073709551616 ∧ v * 2 ^ (32 - s) / 4294967296 = v / 2 ^ s ∧ v * 2 ^ (32 - s) % 4294967296 = 2 ^ (32 - s) * (v % 2 ^ s) ∧ v / 2 ^ s < 2 ^ (32 - s) := by
  have hb := base_split (s := s) (by omega)
  have hp0 : 0 < 2 ^ s := Nat.two_pow_pos s
  have hm0 : 0 < 2 ^ (32 - s) := Nat.two_pow_pos _
  refine ⟨?_, ?_, ?_, ?_, ?_⟩
  · conv => lhs; rw [hb]
    rw [Nat.mul_comm (2 ^ s), ← Nat.mul_assoc, Nat.mul_div_cancel _ hp0]
  · have h1 : 2 ^ (32 - s) ≤ 4294967296 := by
      have : 2 ^ (32 - s) ≤ 2 ^ 32 := Nat.pow_le_pow_right (by omega) (by omega)
      have e : (2 : Nat) ^ 32 = 4294967296 := by decide
      omega
    have := Nat.mul_le_mul (show v ≤ 4294967295 by omega) h1
    generalize v * 2 ^ (32 - s) = Z at *
    omega
  · conv => lhs; rw [hb]
    rw [Nat.mul_div_mul_right _ _ hm0]
  · conv => lhs; rw [hb]
    rw [Nat.mul_mod_mul_right, Nat.mul_comm]
  · rw [Nat.div_lt_iff_lt_mul hp0, Nat.mul_comm, ← hb]
    exact hv

/-- Shifted to the right behind k rounds. -/
def RightAt (a c : List Nat) (s k : Nat) : Prop :=
  val c * 2 ^ s + (if k = 0 then 0 else a.getD 0 0 % 2 ^ s) = val (a.take k) ∧ Bare c k ∧ (k ≠ 0 → c.getD (k - 1) 0 = a.getD (k - 1) 0 / 2 ^ s)

theorem rightAt_zero (a : List Nat) (n s : Nat) : RightAt a (List.replicate n 0) s 0 := ⟨by rw [val_zeros]; simp [val], bare_zeros _ _, fun h => absurd rfl h⟩

theorem right_eq {vc T P hi r v r0 va X M : Nat} (h : vc * T + r0 = va) (hv : hi * T + r = v) (hX : X * M * T = P * r) : (vc + P * hi + X * M) * T + r0 = va + P * v := by
  rw [← hv, Nat.add_mul, Nat.add_mul, hX, Nat.mul_add, ← h, Nat.mul_assoc]
  generalize vc * T = A
  generalize P * (hi * T) = B
  generalize P * r = C
  omega

/-- The first round. -/
theorem rightAt_first {a c : List Nat} {s : Nat} (h : RightAt a c s 0) (hk : 0 < c.length) : RightAt a (c.set 0 (a.getD 0 0 / 2 ^ s)) s 1 := by
  obtain ⟨h1, h2, _⟩ := h
  refine ⟨?_, (h2.more (Nat.zero_le 1)).set (by omega), fun _ => ?_⟩
  · rw [val_set_zero hk (h2 0 (Nat.le_refl _)), if_neg (by omega), val_take_getD]
    rw [if_pos rfl] at h1
    have e : val (a.take 0) = 0 := by simp [val]
    rw [e] at h1 ⊢
    have hp0 : 0 < 2 ^ s := Nat.two_pow_pos s
    have h3 : val c = 0 := by
      rcases Nat.eq_zero_or_pos (val c) with h0 | h0
      · exact h0
      · have := Nat.mul_pos h0 hp0; omega
    rw [h3, Nat.pow_zero, Nat.one_mul, Nat.one_mul, Nat.zero_add, Nat.zero_add]
    exact Nat.div_add_mod' _ _
  · rw [List.getD_eq_getElem?_getD, List.getElem?_set_self hk]; rfl

theorem getD_set_ne {l : List Nat} {i j d : Nat} (h : i ≠ j) : (l.set i d).getD j 0 = l.getD j 0 := by
  rw [List.getD_eq_getElem?_getD, List.getElem?_set_ne h, ← List.getD_eq_getElem?_getD]
theorem getD_set_same {l : List Nat} {i d : Nat} (h : i < l.length) : (l.set i d).getD i 0 = d := by
  rw [List.getD_eq_getElem?_getD, List.getElem?_set_self h]; rfl

/-- The rounds behind it. -/
theorem rightAt_step {a c : List Nat} {s k : Nat} (ha : Dig a) (hs : s ≤ 31) (h : RightAt a c s (k + 1)) (hk : k + 1 < c.length) :
    RightAt a ((c.set (k + 1) (a.getD (k + 1) 0 / 2 ^ s)).set k (a.getD k 0 / 2 ^ s ||| a.getD (k + 1) 0 * 2 ^ (32 - s) % 4294967296)) s (k + 2) ∧
    (c.set (k + 1) (a.getD (k + 1) 0 / 2 ^ s)).getD k 0 = a.getD k 0 / 2 ^ s := by
  obtain ⟨h1, h2, h3⟩ := h
  have h3 := h3 (by omega)
  have e0 : k + 1 - 1 = k := by omega
  rw [e0] at h3
  have hb := base_split (s := s) (by omega)
  have hp := shr_parts (dig_getD ha (k + 1)) hs
  have hq := shr_parts (dig_getD ha k) hs
  have hold : (c.set (k + 1) (a.getD (k + 1) 0 / 2 ^ s)).getD k 0 = a.getD k 0 / 2 ^ s := by rw [getD_set_ne (by omega), h3]
  refine ⟨⟨?_, ((h2.more (by omega : k + 1 ≤ k + 2)).set (by omega)).set (by omega), fun _ => ?_⟩, hold⟩
  · rw [or_add hq.2.2.2.2 ⟨_, hp.2.2.2.1⟩, hp.2.2.2.1]
    have h5 := val_set (c.set (k + 1) (a.getD (k + 1) 0 / 2 ^ s)) k (2 ^ (32 - s) * (a.getD (k + 1) 0 % 2 ^ s) + a.getD k 0 / 2 ^ s) (by rw [List.length_set]; omega)
    rw [hold, val_set_zero hk (h2 _ (Nat.le_refl _)), Nat.mul_add] at h5
    have h6 : val ((c.set (k + 1) (a.getD (k + 1) 0 / 2 ^ s)).set k (2 ^ (32 - s) * (a.getD (k + 1) 0 % 2 ^ s) + a.getD k 0 / 2 ^ s)) = val c + 4294967296 ^ (k + 1) * (a.getD (k + 1) 0 / 2 ^ s) + 4294967296 ^ k * (2 ^ (32 - s) * (a.getD (k + 1) 0 % 2 ^ s)) := by
      generalize 4294967296 ^ k * (a.getD k 0 / 2 ^ s) = A at *
      generalize 4294967296 ^ k * (2 ^ (32 - s) * (a.getD (k + 1) 0 % 2 ^ s)) = B at *
      generalize 4294967296 ^ (k + 1) * (a.getD (k + 1) 0 / 2 ^ s) = C at *
      omega
    rw [h6, if_neg (by omega), val_take_getD]
    rw [if_neg (by omega)] at h1
    refine right_eq h1 (Nat.div_add_mod' _ _) ?_
    have e7 : 2 ^ (32 - s) * 2 ^ s = 4294967296 := by rw [Nat.mul_comm]; exact hb.symm
    rw [Nat.pow_succ, ← e7]
    generalize 2 ^ (32 - s) = M
    generalize 2 ^ s = T
    ac_rfl
  · have e1 : k + 2 - 1 = k + 1 := by omega
    rw [e1, getD_set_ne (by omega), getD_set_same hk]

theorem rightAt_step' {a c : List Nat} {s k : Nat} (ha : Dig a) (hs : s ≤ 31) (hk0 : 1 ≤ k) (h : RightAt a c s k) (hk : k < c.length) :
    RightAt a ((c.set k (a.getD k 0 / 2 ^ s)).set (k - 1) (a.getD (k - 1) 0 / 2 ^ s ||| a.getD k 0 * 2 ^ (32 - s) % 4294967296)) s (k + 1) ∧
    (c.set k (a.getD k 0 / 2 ^ s)).getD (k - 1) 0 = a.getD (k - 1) 0 / 2 ^ s := by
  obtain ⟨i, rfl⟩ : ∃ i, k = i + 1 := ⟨k - 1, by omega⟩
  exact rightAt_step ha hs h hk

theorem rightAt_end {a c : List Nat} {s : Nat} (h : RightAt a c s a.length) (h0 : 0 < a.length) : val c = val a / 2 ^ s := by
  obtain ⟨h1, _, _⟩ := h
  rw [if_neg (by omega), List.take_length] at h1
  have hp0 : 0 < 2 ^ s := Nat.two_pow_pos s
  have hr : a.getD 0 0 % 2 ^ s < 2 ^ s := Nat.mod_lt _ hp0
  rw [← h1, Nat.add_comm, Nat.add_mul_div_right _ _ hp0, Nat.div_eq_of_lt hr, Nat.zero_add]

/-- The same where limbs are laid one by one. -/
def RightIn (a c : List Nat) (s k : Nat) : Prop := c.length = k ∧ val c * 2 ^ s + a.getD 0 0 % 2 ^ s = val (a.take k) + 4294967296 ^ k * (a.getD k 0 % 2 ^ s)

theorem rightIn_zero (a : List Nat) (s : Nat) : RightIn a [] s 0 := ⟨rfl, by simp [val]⟩

theorem shr_two {v u s : Nat} (hv : v < 4294967296) (hu : u < 4294967296) (hs : s ≤ 31) : (v ||| u * 4294967296) / 2 ^ s % 4294967296 = v / 2 ^ s + 2 ^ (32 - s) * (u % 2 ^ s) ∧ (v ||| u * 4294967296) < 18446744073709551616 := by
  have hb := base_split (s := s) (by omega)
  have hp0 : 0 < 2 ^ s := Nat.two_pow_pos s
  have e32 : (2 : Nat) ^ 32 = 4294967296 := by decide
  have h1 : (v ||| u * 4294967296) = u * 4294967296 + v := or_add (s := 32) (by omega) ⟨u, by rw [e32, Nat.mul_comm]⟩
  rw [h1]
  refine ⟨?_, by omega⟩
  have hq := shr_parts hv hs
  have h2 : (u * 4294967296 + v) / 2 ^ s = v / 2 ^ s + u * 2 ^ (32 - s) := by
    conv => lhs; rw [hb]
    have : u * (2 ^ s * 2 ^ (32 - s)) + v = v + u * 2 ^ (32 - s) * 2 ^ s := by rw [Nat.add_comm]; congr 1; ac_rfl
    rw [this, Nat.add_mul_div_right _ _ hp0]
  rw [h2]
  have h3 : u * 2 ^ (32 - s) = 2 ^ (32 - s) * (u % 2 ^ s) + 4294967296 * (u / 2 ^ s) := by
    have := Nat.mod_add_div u (2 ^ s)
    conv => lhs; rw [← this]
    rw [hb, Nat.add_mul]
    congr 1
    · exact Nat.mul_comm _ _
    · ac_rfl
  rw [h3, ← Nat.add_assoc, Nat.add_mul_mod_self_left]
  refine Nat.mod_eq_of_lt ?_
  have h4 : u % 2 ^ s + 1 ≤ 2 ^ s := Nat.mod_lt _ hp0
  have h5 := Nat.mul_le_mul_left (2 ^ (32 - s)) h4
  rw [Nat.mul_comm (2 ^ (32 - s)) (2 ^ s), ← hb, Nat.mul_add, Nat.mul_one] at h5
  have h6 := hq.2.2.2.2
  omega

theorem rightIn_eq {vc T r0 va P X r' M v r q : Nat} (h : vc * T + r0 = va + P * r) (hv : q * T + r = v) (hM : M * T = 4294967296) (hX : X = q + M * r') : (vc + P * X) * T + r0 = va + P * v + P * 4294967296 * r' := by
  subst hX
  subst hv
  rw [Nat.add_mul, Nat.mul_assoc P, Nat.add_mul, Nat.mul_add, ← hM]
  have e1 : P * (M * r' * T) = P * (M * T) * r' := by ac_rfl
  rw [e1, Nat.mul_add]
  generalize P * (q * T) = A at *
  generalize P * (M * T) * r' = B at *
  generalize P * r = C at *
  generalize vc * T = D at *
  omega

theorem rightIn_step {a c : List Nat} {s k : Nat} (ha : Dig a) (hs : s ≤ 31) (h : RightIn a c s k) :
    RightIn a (c ++ [(a.getD k 0 ||| a.getD (k + 1) 0 * 4294967296) / 2 ^ s % 4294967296]) s (k + 1) := by
  obtain ⟨h0, h1⟩ := h
  have hp := shr_two (dig_getD ha k) (dig_getD ha (k + 1)) hs
  rw [hp.1]
  refine ⟨by simp [h0], ?_⟩
  rw [val_append, h0, val_one, val_take_getD, Nat.pow_succ]
  exact rightIn_eq h1 (Nat.div_add_mod' _ _) (by rw [Nat.mul_comm]; exact (base_split (s := s) (by omega)).symm) rfl

theorem rightIn_end {a c : List Nat} {s : Nat} (h : RightIn a c s a.length) : val c = val a / 2 ^ s := by
  obtain ⟨_, h1⟩ := h
  have e : a.getD a.length 0 = 0 := by rw [List.getD_eq_getElem?_getD, List.getElem?_eq_none (Nat.le_refl _)]; rfl
  rw [List.take_length, e, Nat.zero_mod, Nat.mul_zero, Nat.add_zero] at h1
  have hp0 : 0 < 2 ^ s := Nat.two_pow_pos s
  have hr : a.getD 0 0 % 2 ^ s < 2 ^ s := Nat.mod_lt _ hp0
  rw [← h1, Nat.add_comm, Nat.add_mul_div_right _ _ hp0, Nat.div_eq_of_lt hr, Nat.zero_add]

/-- What is left of a row without its first limbs. -/
theorem val_drop (a : List Nat) (hd : Dig a) (k : Nat) : val (a.drop k) = val a / 4294967296 ^ k := by
  by_cases hk : k ≤ a.length
  · have h1 := val_split a k hk
    have h2 := val_lt (hd.take k)
    have h3 : (a.take k).length = k := by rw [List.length_take]; omega
    rw [h3] at h2
    rw [h1, Nat.add_mul_div_left _ _ (pow_pos' k), Nat.div_eq_of_lt h2, Nat.zero_add]
  · rw [List.drop_eq_nil_of_le (by omega)]
    have h1 := val_lt hd
    have h2 : 4294967296 ^ a.length ≤ 4294967296 ^ k := Nat.pow_le_pow_right (by omega) (by omega)
    rw [Nat.div_eq_of_lt (by omega)]
    rfl

/-- n held within -2^12 and 2^12. -/
def held12 (n : Int) : Int := min (max n (-4096)) 4096

/-- A number shifted. -/
def shiftN (v : Nat) (n : Int) : Nat := if held12 n < 0 then v / 2 ^ (-(held12 n)).toNat else v * 2 ^ (held12 n).toNat

theorem base_pow (k : Nat) : (4294967296 : Nat) ^ k = 2 ^ (32 * k) := by
  have e32 : (2 : Nat) ^ 32 = 4294967296 := by decide
  rw [Nat.pow_mul, e32]

theorem shift_right_eq {a : List Nat} (hd : Dig a) (m : Nat) : val (a.drop (m / 32)) / 2 ^ (m % 32) = val a / 2 ^ m := by
  rw [val_drop a hd, base_pow, Nat.div_div_eq_div_mul, ← Nat.pow_add]
  have : 32 * (m / 32) + m % 32 = m := by omega
  rw [this]

theorem shift_left_eq (v m : Nat) : 4294967296 ^ (m / 32) * (v * 2 ^ (m % 32)) = v * 2 ^ m := by
  rw [base_pow, Nat.mul_comm v, ← Nat.mul_assoc, ← Nat.pow_add]
  have : 32 * (m / 32) + m % 32 = m := by omega
  rw [this, Nat.mul_comm]

end Go.Proofs.YtdgfijnficbblaaDoor
