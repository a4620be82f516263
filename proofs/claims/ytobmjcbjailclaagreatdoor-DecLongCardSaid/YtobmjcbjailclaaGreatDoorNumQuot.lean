/- Long division, digit by digit, in plain Lean. No condition on a program. -/
import Derived.Test.YtobmjcbjailclaaGreatDoorNums
import Derived.Test.YtobmjcbjailclaaGreatDoorRefBits
namespace Go.Proofs.YtobmjcbjailclaaGreatDoor
set_option maxRecDepth 100000

/-- The digits from the i-th on are found. -/
def QuotAt (A D : Nat) (us qs : List Nat) (i : Nat) : Prop := val us + val qs * D = A ∧ val us < 4294967296 ^ i * D ∧ ∀ j, j < i → qs.getD j 0 = 0

theorem quot_digit {D V i : Nat} (hD : 0 < D) (h : V < 4294967296 ^ (i + 1) * D) :
    V / (4294967296 ^ i * D) < 4294967296 ∧ 4294967296 ^ i * (V / (4294967296 ^ i * D) * D) ≤ V ∧ V < 4294967296 ^ i * ((V / (4294967296 ^ i * D) + 1) * D) := by
  have hp := Nat.mul_pos (pow_pos' i) hD
  refine ⟨?_, ?_, ?_⟩
  · rw [Nat.div_lt_iff_lt_mul hp]
    rw [Nat.pow_succ] at h
    have e : 4294967296 ^ i * 4294967296 * D = 4294967296 * (4294967296 ^ i * D) := by grind
    rw [← e]
    exact h
  · have e := Nat.div_mul_le_self V (4294967296 ^ i * D)
    generalize V / (4294967296 ^ i * D) = Q at *
    have e2 : 4294967296 ^ i * (Q * D) = Q * (4294967296 ^ i * D) := by grind
    omega
  · have e := Nat.lt_div_mul_add (a := V) hp
    generalize V / (4294967296 ^ i * D) = Q at *
    have e2 : 4294967296 ^ i * ((Q + 1) * D) = Q * (4294967296 ^ i * D) + 4294967296 ^ i * D := by grind
    omega

theorem quotAt_step {A D Q i : Nat} {us us' qs : List Nat} (h : QuotAt A D us qs (i + 1)) (hi : i < qs.length) (hu : val us' + 4294967296 ^ i * (Q * D) = val us) (hlt : val us < 4294967296 ^ i * ((Q + 1) * D)) :
    QuotAt A D us' (qs.set i Q) i := by
  obtain ⟨h1, h2, h3⟩ := h
  refine ⟨?_, ?_, fun j hj => ?_⟩
  · rw [val_set_zero hi (h3 i (by omega))]
    rw [← h1, ← hu]
    grind
  · have e : 4294967296 ^ i * ((Q + 1) * D) = 4294967296 ^ i * (Q * D) + 4294967296 ^ i * D := by grind
    omega
  · rw [getD_set_ne (by omega)]
    exact h3 j (by omega)

theorem quotAt_start {A D e M s : Nat} {a us : List Nat} (ha : Dig a) (hM : M + (e + 1) = a.length) (hs : s ≤ 31) (hA : A = val a * 2 ^ s) (hD : 2147483648 * 4294967296 ^ (e + 1) ≤ D) (hu : val us = A) :
    QuotAt A D us (List.replicate M 0) M := by
  refine ⟨?_, ?_, fun j _ => bare_zeros _ 0 j (Nat.zero_le _)⟩
  · rw [val_zeros, hu]; simp
  · rw [hu, hA]
    have h1 := val_lt ha
    rw [← hM, Nat.pow_add] at h1
    have h2 := two_pow_le hs
    have h3 : val a * 2 ^ s ≤ val a * 2147483648 := Nat.mul_le_mul_left _ h2
    have h4 : 4294967296 ^ M * (2147483648 * 4294967296 ^ (e + 1)) ≤ 4294967296 ^ M * D := Nat.mul_le_mul_left _ hD
    have h5 : 4294967296 ^ M * (2147483648 * 4294967296 ^ (e + 1)) = 4294967296 ^ M * 4294967296 ^ (e + 1) * 2147483648 := by
      generalize 4294967296 ^ M = x
      generalize 4294967296 ^ (e + 1) = y
      grind
    omega

theorem quotAt_end {A D a b T : Nat} {us qs : List Nat} (hA : A = a * T) (hD : D = b * T) (hT : 0 < T) (h : QuotAt A D us qs 0) : val qs = a / b ∧ val us / T = a % b := by
  obtain ⟨h1, h2, _⟩ := h
  rw [Nat.pow_zero, Nat.one_mul] at h2
  subst hA hD
  have hD0 : 0 < b * T := by omega
  have e1 : a * T = val us + b * T * val qs := by rw [← h1, Nat.mul_comm (val qs)]
  have e2 : a * T / (b * T) = val qs := by rw [e1, Nat.add_mul_div_left _ _ hD0, Nat.div_eq_of_lt h2, Nat.zero_add]
  have e3 : a * T % (b * T) = val us := by rw [e1, Nat.add_mul_mod_self_left, Nat.mod_eq_of_lt h2]
  rw [Nat.mul_div_mul_right _ _ hT] at e2
  rw [Nat.mul_mod_mul_right] at e3
  refine ⟨e2.symm, ?_⟩
  rw [← e3, Nat.mul_div_cancel _ hT]

theorem three_top {us : List Nat} {m : Nat} (hz : Bare us (m + 3)) : val (us.drop m) = (us.getD (m + 2) 0 * 4294967296 + us.getD (m + 1) 0) * 4294967296 + us.getD m 0 := by
  have s : ∀ k, val (us.drop k) = us.getD k 0 + 4294967296 * val (us.drop (k + 1)) := fun k => by
    by_cases hk : k < us.length
    · rw [List.drop_eq_getElem_cons hk, getD_in0 hk]; rfl
    · rw [List.drop_eq_nil_of_le (by omega), List.drop_eq_nil_of_le (by omega), getD_out0 (by omega)]; rfl
  have z : val (us.drop (m + 3)) = 0 := by
    have h : ∀ l : List Nat, (∀ j, l.getD j 0 = 0) → val l = 0 := by
      intro l
      induction l with
      | nil => intro _; rfl
      | cons x r ih =>
        intro hz
        have h0 : x = 0 := hz 0
        have h1 := ih (fun j => hz (j + 1))
        show x + 4294967296 * val r = 0
        omega
    exact h _ fun j => by
      rw [List.getD_eq_getElem?_getD, List.getElem?_drop, ← List.getD_eq_getElem?_getD]
      exact hz (m + 3 + j) (by omega)
  rw [s m, s (m + 1), s (m + 2), z]
  omega

theorem top_le {B E I x2 x1 x0 b1 b2 r1 r2 U D : Nat} (m1 : ((x2 * B + x1) * B + x0) * (I * E) + r1 = U) (m2 : (b1 * B + b2) * E + r2 = D) (l2 : r2 < E) (hd0 : b2 < B) (h : U < I * B * D) : x2 ≤ b1 := by
  refine Nat.le_of_lt_succ (Nat.lt_of_not_le fun hle => ?_)
  have a1 : D ≤ (b1 + 1) * B * E := by
    have c1 : (b1 * B + b2 + 1) * E ≤ (b1 * B + B) * E := Nat.mul_le_mul_right _ (by omega)
    have c2 : (b1 * B + b2 + 1) * E = (b1 * B + b2) * E + E := by grind
    have c3 : (b1 + 1) * B * E = (b1 * B + B) * E := by grind
    omega
  have a2 : I * B * D ≤ I * B * ((b1 + 1) * B * E) := Nat.mul_le_mul_left _ a1
  have a3 : (b1 + 1) * (B * B * (I * E)) ≤ x2 * (B * B * (I * E)) := Nat.mul_le_mul_right _ hle
  have a4 : ((x2 * B + x1) * B + x0) * (I * E) = x2 * (B * B * (I * E)) + (x1 * B + x0) * (I * E) := by grind
  have a5 : I * B * ((b1 + 1) * B * E) = (b1 + 1) * (B * B * (I * E)) := by grind
  omega

/-- What is guessed from the highest limbs is the digit, or one more. -/
theorem quot_guess {us d : List Nat} {i e : Nat} (hu : Dig us) (hd : Dig d) (he : d.length = e + 2) (hn : 2147483648 ≤ d.getD (e + 1) 0) (h : val us < 4294967296 ^ (i + 1) * val d) :
    us.getD (i + e + 2) 0 ≤ d.getD (e + 1) 0 ∧
      val us / (4294967296 ^ i * val d) ≤ guessN 4294967296 (us.getD (i + e + 2) 0 * 4294967296 + us.getD (i + e + 1) 0) (us.getD (i + e) 0) (d.getD (e + 1) 0) (d.getD e 0) ∧
      guessN 4294967296 (us.getD (i + e + 2) 0 * 4294967296 + us.getD (i + e + 1) 0) (us.getD (i + e) 0) (d.getD (e + 1) 0) (d.getD e 0) ≤ val us / (4294967296 ^ i * val d) + 1 := by
  have hdl := val_lt hd
  rw [he] at hdl
  have hus : val us < 4294967296 ^ (i + e + 3) := by
    have e1 : (4294967296 : Nat) ^ (i + e + 3) = 4294967296 ^ (i + 1) * 4294967296 ^ (e + 2) := by rw [← Nat.pow_add]; congr 1; omega
    rw [e1]
    exact Nat.lt_trans h (Nat.mul_lt_mul_of_pos_left hdl (pow_pos' _))
  have hz := bare_of_lt hu hus
  have t := three_top (m := i + e) hz
  have hb2 : Bare d (e + 2) := bare_of_lt hd (by rw [← he]; exact val_lt hd)
  have hb3 : Bare d (e + 3) := hb2.more (by omega)
  have t2 := three_top (m := e) hb3
  rw [hb2 (e + 2) (Nat.le_refl _), Nat.zero_mul, Nat.zero_add] at t2
  have u1 := val_drop us hu (i + e)
  have u2 := val_drop d hd e
  have hD : 0 < val d := by
    refine Nat.pos_of_ne_zero fun e0 => ?_
    rw [e0, Nat.zero_div] at u2
    omega
  have q := quot_digit hD h
  generalize val us / (4294967296 ^ i * val d) = Q at *
  have m1 := Nat.div_add_mod' (val us) (4294967296 ^ (i + e))
  have m2 := Nat.div_add_mod' (val d) (4294967296 ^ e)
  have l1 := Nat.mod_lt (val us) (pow_pos' (i + e))
  have l2 := Nat.mod_lt (val d) (pow_pos' e)
  rw [← u1, t] at m1
  rw [← u2, t2] at m2
  have hm2 : us.getD (i + e + 1) 0 < 4294967296 := dig_getD hu _
  have hm0 : us.getD (i + e) 0 < 4294967296 := dig_getD hu _
  have hd0 : d.getD e 0 < 4294967296 := dig_getD hd _
  generalize us.getD (i + e + 2) 0 = x2 at *
  generalize us.getD (i + e + 1) 0 = x1 at *
  generalize us.getD (i + e) 0 = x0 at *
  generalize d.getD (e + 1) 0 = b1 at *
  generalize d.getD e 0 = b2 at *
  generalize val us % 4294967296 ^ (i + e) = r1 at *
  generalize val d % 4294967296 ^ e = r2 at *
  have P0 := pow_pos' e
  have P1 := pow_pos' i
  rw [Nat.pow_add] at m1 l1
  rw [Nat.pow_succ] at h
  clear t t2 u1 u2 hz hb2 hb3 hus hdl he hu hd
  generalize val us = U at *
  generalize val d = D at *
  generalize 4294967296 ^ e = E at *
  generalize 4294967296 ^ i = I at *
  refine ⟨?_, ?_⟩
  · exact top_le m1 m2 l2 hd0 h
  · refine guess_near (P := I * E) (U := U) (D := I * D) (lo := r1) (dl := I * r2) m1.symm l1 ?_ ?_ ?_ ?_ ?_ q.1
    · rw [← m2]; grind
    · exact Nat.mul_lt_mul_of_pos_left l2 P1
    · omega
    · have := q.2.1
      have e2 : Q * (I * D) = I * (Q * D) := by grind
      omega
    · have := q.2.2
      have e2 : (Q + 1) * (I * D) = I * ((Q + 1) * D) := by grind
      omega

theorem bl_spec : ∀ n : Nat, n ≠ 0 → 1 ≤ bl n ∧ 2 ^ (bl n - 1) ≤ n ∧ n < 2 ^ bl n := by
  intro n
  induction n using Nat.strongRecOn with
  | _ n ih =>
    intro h
    rw [bl_pos h]
    by_cases h2 : n / 2 = 0
    · have : n = 1 := by omega
      subst this
      rw [h2, bl_zero]
      decide
    · obtain ⟨a, b, c⟩ := ih (n / 2) (by omega) h2
      generalize bl (n / 2) = k at *
      refine ⟨by omega, ?_, ?_⟩
      · obtain ⟨j, rfl⟩ : ∃ j, k = j + 1 := ⟨k - 1, by omega⟩
        rw [Nat.add_sub_cancel] at b
        have e : 1 + (j + 1) - 1 = j + 1 := by omega
        rw [e, Nat.pow_succ]
        omega
      · rw [Nat.add_comm, Nat.pow_succ]
        omega

theorem norm_eq {P k t v : Nat} (hk1 : 1 ≤ k) (hk : k ≤ 32) (h1 : 2 ^ (k - 1) ≤ t) (h2 : t < 2 ^ k) (h3 : P * t ≤ v) (h4 : v < P * t + P) : v * 2 ^ (32 - k) < P * 4294967296 ∧ 2147483648 * P ≤ v * 2 ^ (32 - k) := by
  have T0 : 0 < 2 ^ (32 - k) := Nat.two_pow_pos _
  have e1 : 2 ^ k * 2 ^ (32 - k) = 4294967296 := by
    rw [← Nat.pow_add, show k + (32 - k) = 32 by omega]
  have e2 : 2 ^ (k - 1) * 2 ^ (32 - k) = 2147483648 := by
    rw [← Nat.pow_add, show k - 1 + (32 - k) = 31 by omega]
  constructor
  · have a1 : v < P * 2 ^ k := by
      have b1 : P * (t + 1) ≤ P * 2 ^ k := Nat.mul_le_mul_left _ h2
      have b2 : P * (t + 1) = P * t + P := by grind
      omega
    have a2 := Nat.mul_lt_mul_of_pos_right a1 T0
    rw [Nat.mul_assoc, e1] at a2
    exact a2
  · have a1 : P * 2 ^ (k - 1) ≤ v := Nat.le_trans (Nat.mul_le_mul_left _ h1) h3
    have a2 := Nat.mul_le_mul_right (2 ^ (32 - k)) a1
    rw [Nat.mul_assoc, e2] at a2
    omega

/-- The divisor, moved up: its highest bit is set, and it takes no limb more. -/
theorem top_norm {b : List Nat} {m : Nat} (hd : Dig b) (hl : b.length = m + 1) (h0 : b.getD m 0 ≠ 0) :
    bl (b.getD m 0) ≤ 32 ∧ 1 ≤ bl (b.getD m 0) ∧ val b * 2 ^ (32 - bl (b.getD m 0)) < 4294967296 ^ (m + 1) ∧ 2147483648 * 4294967296 ^ m ≤ val b * 2 ^ (32 - bl (b.getD m 0)) := by
  have e := val_take_getD b m
  rw [List.take_of_length_le (by omega)] at e
  have h1 := val_lt (hd.take m)
  rw [List.length_take, Nat.min_eq_left (by omega)] at h1
  have ht := dig_getD hd m
  obtain ⟨s1, s2, s3⟩ := bl_spec _ h0
  have hk : bl (b.getD m 0) ≤ 32 := by
    refine Nat.le_of_not_lt fun hlt => ?_
    have : 2 ^ 32 ≤ 2 ^ (bl (b.getD m 0) - 1) := Nat.pow_le_pow_right (by omega) (by omega)
    omega
  have r := norm_eq s1 hk s2 s3 (by omega) (show val b < 4294967296 ^ m * b.getD m 0 + 4294967296 ^ m by omega)
  refine ⟨hk, s1, ?_, r.2⟩
  rw [Nat.pow_succ]
  exact r.1

theorem top_limb {d : List Nat} {m : Nat} (hd : Dig d) (hl : d.length = m + 1) (h : 2147483648 * 4294967296 ^ m ≤ val d) : 2147483648 ≤ d.getD m 0 := by
  have e := val_drop d hd m
  rw [List.drop_eq_getElem_cons (by omega), List.drop_eq_nil_of_le (by omega)] at e
  rw [getD_in0 (by omega)]
  have e2 : val [d[m]] = d[m] := val_one _
  rw [e2] at e
  rw [e, Nat.le_div_iff_mul_le (pow_pos' m)]
  exact h
end Go.Proofs.YtobmjcbjailclaaGreatDoor
