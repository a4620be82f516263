/- Several texts in one: FixNear, FixNear2, FixLen, RefHas, LawShowNear, LawShowNear2. Condition: each says its own. -/
import Derived.Test.YtobmjcbjailclaaGreatDoorPk14
import Derived.Test.YtobmjcbjailclaaGreatDoorPk16
import Derived.Test.YtobmjcbjailclaaGreatDoorPk17
import Derived.Test.YtobmjcbjailclaaGreatDoorPk21
/- What a number is told by is read back as the number, rounded, and near; in plain Lean. Condition: none on a program. -/
namespace Go.Proofs.YtobmjcbjailclaaGreatDoor

theorem prn_isD (n : Nat) : ∀ x ∈ prn n, isD x = true := by
  intro x hx
  unfold prn at hx
  split at hx
  · simp at hx; subst hx; decide
  · unfold digs at hx
    rw [List.mem_reverse] at hx
    obtain ⟨y, hy, rfl⟩ := List.mem_map.1 hx
    have := dec_lt n y hy
    unfold isD
    exact decide_eq_true (by omega)

theorem numD_prn (n : Nat) : numD (prn n) = n := by
  unfold numD prn
  split
  · rename_i h; rw [h]; rfl
  · unfold digs
    rw [List.map_reverse, List.map_map]
    have e : (dec n).map ((· - 48) ∘ (48 + ·)) = dec n := by
      conv => rhs; rw [← List.map_id (dec n)]
      exact List.map_congr_left fun x _ => by simp
    rw [e]
    exact undec_dec n

theorem numD_zeros (k : Nat) (l : List Nat) : numD (List.replicate k 48 ++ l) = numD l := by
  induction k with
  | zero => rfl
  | succ k ih =>
    rw [List.replicate_succ, List.cons_append]
    have : numD (48 :: (List.replicate k 48 ++ l)) = numD (List.replicate k 48 ++ l) := by
      have := numD_append [48] (List.replicate k 48 ++ l)
      rw [List.singleton_append] at this
      rw [this]
      show numD [48] * _ + _ = _
      have e : numD [48] = 0 := rfl
      rw [e, Nat.zero_mul, Nat.zero_add]
    rw [this, ih]

theorem tw_append {p : Nat → Bool} {a b : List Nat} {c : Nat} (ha : ∀ x ∈ a, p x = true) (hc : p c = false) : (a ++ c :: b).takeWhile p = a ∧ (a ++ c :: b).dropWhile p = c :: b := by
  refine ⟨?_, ?_⟩
  · rw [List.takeWhile_append_of_pos ha, List.takeWhile_cons, if_neg (by rw [hc]; simp), List.append_nil]
  · rw [List.dropWhile_append_of_pos ha, List.dropWhile_cons, if_neg (by rw [hc]; simp)]
theorem tw_full {p : Nat → Bool} {a : List Nat} (ha : ∀ x ∈ a, p x = true) : a.takeWhile p = a ∧ a.dropWhile p = [] := by
  have h1 := List.takeWhile_append_of_pos (l₂ := []) ha
  have h2 := List.dropWhile_append_of_pos (l₂ := []) ha
  simp only [List.append_nil] at h1 h2
  exact ⟨by rw [h1]; simp, by rw [h2]; rfl⟩

/-- The digits of a number of units, parted where the point stands. -/
theorem pnt_parts (U D : Nat) : ∃ a b, pnt (prn U) D = (if D = 0 then a else a ++ 46 :: b) ∧ (∀ x ∈ a, isD x = true) ∧ (∀ x ∈ b, isD x = true) ∧ a ≠ [] ∧ b.length = D ∧ numD a * 10 ^ D + numD b = U := by
  have hp := prn_pos U
  by_cases hD : D = 0
  · subst hD
    refine ⟨prn U, [], by unfold pnt; rw [if_pos rfl, if_pos rfl], prn_isD U, fun x hx => by simp at hx, fun h => by rw [h] at hp; simp at hp, rfl, ?_⟩
    have e : numD [] = 0 := rfl
    rw [numD_prn, e]
    omega
  · obtain ⟨cs, hcs⟩ : ∃ cs, List.replicate (D + 1 - (prn U).length) 48 ++ prn U = cs := ⟨_, rfl⟩
    have hcl : D < cs.length := by rw [← hcs]; simp; omega
    have hcd : ∀ x ∈ cs, isD x = true := fun x hx => by
      rw [← hcs] at hx
      rcases List.mem_append.1 hx with h | h
      · rw [List.eq_of_mem_replicate h]; decide
      · exact prn_isD U x h
    have hn : numD cs = U := by rw [← hcs, numD_zeros, numD_prn]
    refine ⟨cs.take (cs.length - D), cs.drop (cs.length - D), ?_, fun x hx => hcd x (List.mem_of_mem_take hx), fun x hx => hcd x (List.mem_of_mem_drop hx), ?_, ?_, ?_⟩
    · rw [if_neg hD]
      unfold pnt
      rw [if_neg hD, hcs]
      simp
    · intro h
      have := congrArg List.length h
      rw [List.length_take] at this
      simp at this
      omega
    · rw [List.length_drop]; omega
    · have h1 := numD_append (cs.take (cs.length - D)) (cs.drop (cs.length - D))
      rw [List.take_append_drop, List.length_drop, hn] at h1
      rw [h1]
      congr 3
      omega

theorem isD_not {x : Nat} (h : isD x = true) : x ≠ 45 ∧ x ≠ 46 ∧ x ≠ 47 := by
  unfold isD at h
  have := of_decide_eq_true h
  omega

/-- It is read back: the sign, the units, the scale. -/
theorem fix_back (S : Bool) (U D : Nat) : wayB (strp (sgn S ++ pnt (prn U) D)).1 (strp (sgn S ++ pnt (prn U) D)).2 = some (S, U, 10 ^ D) ∧ digA (sgn S ++ pnt (prn U) D) D = true := by
  obtain ⟨a, b, hp, ha, hb, hne, hbl, hn⟩ := pnt_parts U D
  obtain ⟨x, a', rfl⟩ := List.exists_cons_of_ne_nil hne
  have hx := isD_not (ha x (by simp))
  have d46 : isD 46 = false := by decide
  have hstart : ∀ r : List Nat, strp (sgn S ++ x :: r) = (S, x :: r) := fun r => by
    cases S
    · show strp (x :: r) = _
      unfold strp
      simp only
      rw [if_neg hx.1]
    · rfl
  have n47 : ∀ y ∈ sgn S, y ≠ 46 ∧ y ≠ 47 := fun y hy => by cases S <;> simp [sgn] at hy <;> omega
  by_cases hD : D = 0
  · rw [if_pos hD] at hp
    subst hD
    have hb0 : b = [] := List.eq_nil_of_length_eq_zero hbl
    subst hb0
    obtain ⟨t1, t2⟩ := tw_full ha
    have hU : numD (x :: a') = U := by
      have e : numD [] = 0 := rfl
      rw [e] at hn
      omega
    have h46 : (sgn S ++ x :: a').contains 46 = false := by
      simp only [List.contains_eq_mem, decide_eq_false_iff_not]
      intro hm
      rcases List.mem_append.1 hm with h | h
      · exact (n47 _ h).1 rfl
      · exact (isD_not (ha _ h)).2.1 rfl
    have h47 : (sgn S ++ x :: a').contains 47 = false := by
      simp only [List.contains_eq_mem, decide_eq_false_iff_not]
      intro hm
      rcases List.mem_append.1 hm with h | h
      · exact (n47 _ h).2 rfl
      · exact (isD_not (ha _ h)).2.2 rfl
    rw [hp, hstart]
    refine ⟨?_, ?_⟩
    · have := wb_whole (neg := S) (r := x :: a') (by rw [t1]; simp) t2
      rw [t1, hU] at this
      exact this
    · unfold digA
      have hm : 46 ∉ sgn S ++ x :: a' := by simpa using h46
      rw [h46, h47, (tw_none _ hm).2]
      rfl
  · rw [if_neg hD] at hp
    obtain ⟨t1, t2⟩ := tw_append (b := b) ha d46
    obtain ⟨t3, t4⟩ := tw_full hb
    have hdw : (sgn S ++ x :: a').dropWhile (· != 46) = [] := (tw_none _ (by
      intro hm
      rcases List.mem_append.1 hm with h | h
      · exact (n47 _ h).1 rfl
      · exact (isD_not (ha _ h)).2.1 rfl)).2
    have hpos : ∀ y ∈ sgn S ++ x :: a', (y != 46) = true := fun y hy => bne_iff_ne.2 fun hc => by
      subst hc
      rcases List.mem_append.1 hy with h | h
      · exact (n47 _ h).1 rfl
      · exact (isD_not (ha _ h)).2.1 rfl
    have hassoc : sgn S ++ (x :: a' ++ 46 :: b) = (sgn S ++ x :: a') ++ 46 :: b := by simp
    have h47 : (sgn S ++ (x :: a' ++ 46 :: b)).contains 47 = false := by
      simp only [List.contains_eq_mem, decide_eq_false_iff_not]
      intro hm
      rw [hassoc] at hm
      rcases List.mem_append.1 hm with h | h
      · rcases List.mem_append.1 h with h | h
        · exact (n47 _ h).2 rfl
        · exact (isD_not (ha _ h)).2.2 rfl
      · rcases List.mem_cons.1 h with h | h
        · omega
        · exact (isD_not (hb _ h)).2.2 rfl
    rw [hp]
    refine ⟨?_, ?_⟩
    · rw [List.cons_append, hstart]
      have := wb_dec (neg := S) (r := x :: a' ++ 46 :: b) (t := b) (by rw [t1]; simp) t2 (by rw [t3]; omega) (by rw [t3])
      rw [t1, hbl, hn] at this
      exact this
    · unfold digA
      have e46 : (sgn S ++ (x :: a' ++ 46 :: b)).contains 46 = true := by simp
      have edw : (sgn S ++ (x :: a' ++ 46 :: b)).dropWhile (· != 46) = 46 :: b := by
        rw [hassoc, List.dropWhile_append_of_pos hpos]
        rfl
      rw [h47, e46, edw]
      show (true && (decide (b.length = D) && (true == decide (0 < D)))) = true
      rw [decide_eq_true hbl, decide_eq_true (by omega : 0 < D)]
      rfl
end Go.Proofs.YtobmjcbjailclaaGreatDoor

/- What a ball is told by is near each of its numbers; in plain Lean. Condition: none on a program. -/
namespace Go.Proofs.YtobmjcbjailclaaGreatDoor

theorem absQ_le {x c : Rat} (h1 : -c ≤ x) (h2 : x ≤ c) : absQ x ≤ c := by
  unfold absQ
  split <;> grind

theorem rhe_near {x d : Nat} (hd : 0 < d) : 2 * (rhe x d * d) ≤ 2 * x + d ∧ 2 * x ≤ 2 * (rhe x d * d) + d := by
  have h1 := Nat.div_add_mod x d
  have h2 := Nat.mod_lt x hd
  unfold rhe
  generalize hq : x / d = q at *
  generalize hr : x % d = r at *
  have e : (q + 1) * d = d * q + d := by rw [Nat.add_mul, Nat.one_mul, Nat.mul_comm]
  have e2 : q * d = d * q := Nat.mul_comm _ _
  split
  · rw [e]; omega
  · rw [e2]; omega

theorem tenth_eq (D : Nat) : tenth D = (((10 ^ D : Nat) : Rat))⁻¹ := by
  unfold tenth qv
  rw [Rat.mkRat_eq_div, Rat.div_def]
  show ((1 : Int) : Rat) * _ = _
  rw [show ((1 : Int) : Rat) = 1 from rfl, Rat.one_mul]

theorem qv_eq (s : Bool) (n d : Nat) : qv s n d = ((sg s n : Int) : Rat) * ((d : Rat))⁻¹ := by
  unfold qv
  rw [Rat.mkRat_eq_div, Rat.div_def]

theorem self_eq (q : Rat) : q = ((sg (qS q) (qN q) : Int) : Rat) * ((q.den : Rat))⁻¹ := by
  have := qv_eq (qS q) (qN q) q.den
  rw [qv_self] at this
  exact this

/-- Rounded, a number is half a unit away at most. -/
theorem fix_half (q : Rat) (D : Nat) : -(tenth D) / 2 ≤ qv (nrS (qS q) (rhe (qN q * 10 ^ D) q.den) (10 ^ D)) (rhe (qN q * 10 ^ D) q.den) (10 ^ D) - q ∧ qv (nrS (qS q) (rhe (qN q * 10 ^ D) q.den) (10 ^ D)) (rhe (qN q * 10 ^ D) q.den) (10 ^ D) - q ≤ tenth D / 2 := by
  have hd : 0 < q.den := q.den_pos
  have ht : 0 < 10 ^ D := Nat.pow_pos (by omega)
  obtain ⟨h1, h2⟩ := rhe_near (x := qN q * 10 ^ D) hd
  obtain ⟨U, hU⟩ : ∃ U, rhe (qN q * 10 ^ D) q.den = U := ⟨_, rfl⟩
  rw [hU] at h1 h2 ⊢
  have hs : qv (nrS (qS q) U (10 ^ D)) U (10 ^ D) = qv (qS q) U (10 ^ D) := by
    unfold nrS
    by_cases h : U = 0
    · subst h
      rw [if_pos (Or.inl rfl)]
      unfold qv sg
      cases qS q <;> simp
    · rw [if_neg (by omega)]
  rw [hs, tenth_eq, qv_eq]
  have hq := self_eq q
  generalize q.den = d at *
  generalize qN q = n at *
  generalize hX : 10 ^ D = t at *
  have r1 : 2 * ((U : Rat) * (d : Rat)) ≤ 2 * ((n : Rat) * (t : Rat)) + (d : Rat) := by exact_mod_cast h1
  have r2 : 2 * ((n : Rat) * (t : Rat)) ≤ 2 * ((U : Rat) * (d : Rat)) + (d : Rat) := by exact_mod_cast h2
  have ed : (d : Rat) * ((d : Rat))⁻¹ = 1 := Rat.mul_inv_cancel _ (by intro hc; have := Rat.natCast_eq_zero_iff.1 hc; omega)
  have et : (t : Rat) * ((t : Rat))⁻¹ = 1 := Rat.mul_inv_cancel _ (by intro hc; have := Rat.natCast_eq_zero_iff.1 hc; omega)
  have pd : 0 < ((d : Rat))⁻¹ := Rat.inv_pos.2 (Rat.natCast_pos.2 hd)
  have pt : 0 < ((t : Rat))⁻¹ := Rat.inv_pos.2 (Rat.natCast_pos.2 ht)
  have hsU : ∀ k : Nat, ((sg (qS q) k : Int) : Rat) = (if qS q = true then -(k : Rat) else (k : Rat)) := fun k => by
    unfold sg
    cases qS q
    · rfl
    · show ((-(k : Int) : Int) : Rat) = -(k : Rat)
      rw [Rat.intCast_neg]
      rfl
  rw [hsU] at hq
  rw [hsU U]
  generalize ((d : Rat))⁻¹ = b at *
  generalize ((t : Rat))⁻¹ = a at *
  generalize (d : Rat) = dd at *
  generalize (t : Rat) = tt at *
  generalize (U : Rat) = u at *
  generalize (n : Rat) = m at *
  have pab : 0 < a * b := Rat.mul_pos pt pd
  have k1 := Rat.mul_le_mul_of_nonneg_right r1 (Rat.le_of_lt pab)
  have k2 := Rat.mul_le_mul_of_nonneg_right r2 (Rat.le_of_lt pab)
  have z1 : 2 * (u * dd) * (a * b) = 2 * (u * a) := by
    have : 2 * (u * dd) * (a * b) = 2 * (u * a) * (dd * b) := by grind
    rw [this, ed, Rat.mul_one]
  have z2 : (2 * (m * tt) + dd) * (a * b) = 2 * (m * b) + a := by
    have : (2 * (m * tt) + dd) * (a * b) = 2 * (m * b) * (tt * a) + a * (dd * b) := by grind
    rw [this, ed, et, Rat.mul_one, Rat.mul_one]
  have z3 : 2 * (m * tt) * (a * b) = 2 * (m * b) := by
    have : 2 * (m * tt) * (a * b) = 2 * (m * b) * (tt * a) := by grind
    rw [this, et, Rat.mul_one]
  have z4 : (2 * (u * dd) + dd) * (a * b) = 2 * (u * a) + a := by
    have : (2 * (u * dd) + dd) * (a * b) = 2 * (u * a) * (dd * b) + a * (dd * b) := by grind
    rw [this, ed, Rat.mul_one, Rat.mul_one]
  rw [z1, z2] at k1
  rw [z3, z4] at k2
  generalize qS q = s at *
  generalize q = q' at *
  subst hq
  cases s
  · simp only [Bool.false_eq_true, if_false]
    constructor <;> grind
  · simp only [if_true]
    constructor <;> grind

/-- What a ball that is not too wide is told by is near each of its numbers. -/
theorem near_mid {p q y : Rat} {D : Nat} (hw : q - p ≤ tenth D) (h1 : p ≤ y) (h2 : y ≤ q) : nearB (fixT ((p + q) / 2) D) y D = true := by
  obtain ⟨h3, h4⟩ := fix_half ((p + q) / 2) D
  unfold fixT
  obtain ⟨b1, b2⟩ := fix_back (nrS (qS ((p + q) / 2)) (rhe (qN ((p + q) / 2) * 10 ^ D) ((p + q) / 2).den) (10 ^ D)) (rhe (qN ((p + q) / 2) * 10 ^ D) ((p + q) / 2).den) D
  rw [near_some b1, b2, Bool.true_and]
  refine decide_eq_true (absQ_le ?_ ?_)
  · grind
  · grind
end Go.Proofs.YtobmjcbjailclaaGreatDoor

/- How long the text of what is told is; in plain Lean. Condition: none on a program. -/
namespace Go.Proofs.YtobmjcbjailclaaGreatDoor

theorem qN_le {q : Rat} {B : Nat} (h1 : -(B : Rat) ≤ q) (h2 : q ≤ (B : Rat)) : qN q ≤ B * q.den := by
  have hq := self_eq q
  have hd : 0 < q.den := q.den_pos
  have pd : 0 < ((q.den : Rat))⁻¹ := Rat.inv_pos.2 (Rat.natCast_pos.2 hd)
  have pd2 : 0 < ((q.den : Rat)) := Rat.natCast_pos.2 hd
  have ed : (q.den : Rat) * ((q.den : Rat))⁻¹ = 1 := Rat.mul_inv_cancel _ (by intro hc; have := Rat.natCast_eq_zero_iff.1 hc; omega)
  have hsU : ((sg (qS q) (qN q) : Int) : Rat) = (if qS q = true then -(qN q : Rat) else (qN q : Rat)) := by
    unfold sg
    cases qS q
    · rfl
    · show ((-(qN q : Int) : Int) : Rat) = -(qN q : Rat)
      rw [Rat.intCast_neg]
      rfl
  rw [hsU] at hq
  have goal : (qN q : Rat) ≤ (B : Rat) * (q.den : Rat) := by
    generalize qN q = n at *
    generalize qS q = s at *
    generalize ((q.den : Rat))⁻¹ = b at *
    generalize (q.den : Rat) = dd at *
    generalize (n : Rat) = m at *
    generalize (B : Rat) = BB at *
    generalize q = q' at *
    have k1 := Rat.mul_le_mul_of_nonneg_right h1 (Rat.le_of_lt pd2)
    have k2 := Rat.mul_le_mul_of_nonneg_right h2 (Rat.le_of_lt pd2)
    rw [hq] at k1 k2
    have e1 : ∀ t : Rat, t * b * dd = t := fun t => by
      have : t * b * dd = t * (dd * b) := by grind
      rw [this, ed, Rat.mul_one]
    rw [e1] at k1 k2
    cases s
    · simp only [Bool.false_eq_true, if_false] at k1 k2
      exact k2
    · simp only [if_true] at k1 k2
      grind
  exact_mod_cast goal

theorem rhe_leB {n d B X : Nat} (h : n ≤ B * d) : rhe (n * X) d ≤ B * X + 1 := by
  have h1 : n * X / d ≤ B * X := by
    have h2 : n * X ≤ d * (B * X) := by
      have := Nat.mul_le_mul_right X h
      have e : B * d * X = d * (B * X) := by rw [Nat.mul_comm B d, Nat.mul_assoc]
      omega
    exact Nat.div_le_of_le_mul h2
  unfold rhe
  split <;> omega

theorem sgn_byt (s : Bool) : Byt (sgn s) := by cases s <;> simp [sgn, Byt]
theorem isD_lt {x : Nat} (h : isD x = true) : x < 256 := by
  unfold isD at h
  have := of_decide_eq_true h
  omega
theorem fixT_byt (q : Rat) (D : Nat) : Byt (fixT q D) := by
  unfold fixT
  generalize rhe (qN q * 10 ^ D) q.den = U
  obtain ⟨a, b, hp, ha, hb, -, -, -⟩ := pnt_parts U D
  rw [hp]
  intro x hx
  rcases List.mem_append.1 hx with h | h
  · exact sgn_byt _ x h
  · split at h
    · exact isD_lt (ha x h)
    · rcases List.mem_append.1 h with h | h
      · exact isD_lt (ha x h)
      · rcases List.mem_cons.1 h with h | h
        · omega
        · exact isD_lt (hb x h)

theorem fixT_len {q : Rat} {D : Nat} (hD : D ≤ 20) (h1 : -((4294967296 ^ 3 + 1 : Nat) : Rat) ≤ q) (h2 : q ≤ ((4294967296 ^ 3 + 1 : Nat) : Rat)) : (fixT q D).length ≤ 100 := by
  have hU := rhe_leB (X := 10 ^ D) (qN_le h1 h2)
  unfold fixT
  generalize rhe (qN q * 10 ^ D) q.den = U at *
  have h3 : 10 ^ D ≤ 10 ^ 20 := Nat.pow_le_pow_right (by omega) hD
  have h4 : (4294967296 ^ 3 + 1) * 10 ^ D ≤ (4294967296 ^ 3 + 1) * 10 ^ 20 := Nat.mul_le_mul_left _ h3
  have h5 : (4294967296 ^ 3 + 1) * 10 ^ 20 + 1 < 4294967296 ^ 6 := by decide
  have h6 : (lim U).length ≤ 6 := lim_length_le (by omega)
  have h7 := prn_len_of h6
  have h8 := pnt_len (prn U) D
  have h9 := sgn_len (nrS (qS q) U (10 ^ D))
  rw [List.length_append]
  omega

/-- A number of few limbs is not great. -/
theorem qv_range {s : Bool} {n m : Nat} (h : n ≤ 4294967296 ^ 3) : -((4294967296 ^ 3 : Nat) : Rat) ≤ qv s n m ∧ qv s n m ≤ ((4294967296 ^ 3 : Nat) : Rat) := by
  have e := qv_eq s n m
  have hsU : ((sg s n : Int) : Rat) = (if s = true then -(n : Rat) else (n : Rat)) := by
    unfold sg
    cases s
    · rfl
    · show ((-(n : Int) : Int) : Rat) = -(n : Rat)
      rw [Rat.intCast_neg]
      rfl
  have hn : (n : Rat) ≤ ((4294967296 ^ 3 : Nat) : Rat) := Rat.natCast_le_natCast.2 h
  have hn0 : (0 : Rat) ≤ (n : Rat) := Rat.natCast_nonneg
  have hb : 0 ≤ ((m : Rat))⁻¹ ∧ ((m : Rat))⁻¹ ≤ 1 := by
    by_cases hm : m = 0
    · subst hm
      have : ((0 : Nat) : Rat)⁻¹ = 0 := by simp
      rw [this]
      constructor <;> decide
    · have pm : 0 < ((m : Rat))⁻¹ := Rat.inv_pos.2 (Rat.natCast_pos.2 (by omega))
      have h1 : (1 : Rat) ≤ (m : Rat) := by
        have := Rat.natCast_le_natCast.2 (show 1 ≤ m by omega)
        exact this
      have em : (m : Rat) * ((m : Rat))⁻¹ = 1 := Rat.mul_inv_cancel _ (by intro hc; have := Rat.natCast_eq_zero_iff.1 hc; omega)
      have k := Rat.mul_le_mul_of_nonneg_right h1 (Rat.le_of_lt pm)
      rw [em, Rat.one_mul] at k
      exact ⟨Rat.le_of_lt pm, k⟩
  rw [e, hsU]
  generalize ((m : Rat))⁻¹ = b at *
  generalize ((4294967296 ^ 3 : Nat) : Rat) = B at *
  generalize (n : Rat) = x at *
  have k1 := Rat.mul_le_mul_of_nonneg_left hb.2 hn0
  have k2 := Rat.mul_nonneg hn0 hb.1
  rw [Rat.mul_one] at k1
  cases s
  · simp only [Bool.false_eq_true, if_false]
    constructor <;> grind
  · simp only [if_true]
    constructor <;> grind

/-- The middle of what is told. -/
theorem mid_len {s : Bool} {n m D : Nat} {u : Rat} (hn : n ≤ 4294967296 ^ 3) (hD : D ≤ 20) (h0 : 0 ≤ u) (h1 : u ≤ 1) : (fixT ((qv s n m + (qv s n m + u)) / 2) D).length ≤ 100 := by
  obtain ⟨a, b⟩ := qv_range (s := s) (m := m) hn
  have e : ((4294967296 ^ 3 + 1 : Nat) : Rat) = ((4294967296 ^ 3 : Nat) : Rat) + 1 := Rat.natCast_add _ _
  refine fixT_len hD ?_ ?_
  · rw [e]; generalize ((4294967296 ^ 3 : Nat) : Rat) = B at *; grind
  · rw [e]; generalize ((4294967296 ^ 3 : Nat) : Rat) = B at *; grind

theorem tenth_le (D : Nat) : tenth D ≤ 1 := by
  have h := (frac_range (x := 1) (y := 10 ^ D) (Nat.pow_pos (by omega)) (Nat.pow_pos (by omega))).2
  exact h
theorem cmpQ_le {p q : Rat} (h : p ≤ q) : cmpQ p q ≤ 0 := by
  unfold cmpQ
  split
  · decide
  · split
    · rename_i h2
      exact absurd h2 (Rat.not_lt.2 h)
    · decide
end Go.Proofs.YtobmjcbjailclaaGreatDoor

/- The reference's 'Has' of a ball that holds the number. Condition: bounds on sizes. -/
namespace Go.Proofs.YtobmjcbjailclaaGreatDoor
set_option maxRecDepth 100000
open Go.RowKit

theorem RQ.wide {w : World} {L B : Nat} {v : Value} {q : Rat} {k j : Nat} (h : RQ w L B v q k) (hk : k ≤ j) : RQ w L B v q j := by
  obtain ⟨s, n, d, hR, dn, dd, ln, ld, e⟩ := h
  exact ⟨s, n, d, hR, dn, dd, Nat.le_trans ln hk, Nat.le_trans ld hk, e⟩

set_option maxHeartbeats 3200000 in
theorem refHas_yes (s t o : Bool) (A1 A2 A3 A4 A5 A6 : Option Addr) (n1 n2 n3 n4 n5 n6 k1 k2 k3 k4 k5 k6 : Nat) (p q y : Rat) (k : Nat) (w : World) (x1 : RQ w 0 w.heap.size (.agg #[.bool s, .slice A1 n1 k1, .slice A2 n2 k2]) p k) (x2 : RQ w 0 w.heap.size (.agg #[.bool t, .slice A3 n3 k3, .slice A4 n4 k4]) q k) (x3 : RQ w 0 w.heap.size (.agg #[.bool o, .slice A5 n5 k5, .slice A6 n6 k6]) y k)
    (hk : k ≤ 400) (h1 : cmpQ p y ≤ 0) (h2 : cmpQ y q ≤ 0) :
    Calls Tryz.prog 24 #[.agg #[.bool s, .slice A1 n1 k1, .slice A2 n2 k2, .bool t, .slice A3 n3 k3, .slice A4 n4 k4], .agg #[.bool o, .slice A5 n5 k5, .slice A6 n6 k6]] w fun e w' => e = .returned (.bool true) ∧ Below w.heap.size w w' := by
  have I1 : Hid (∀ W, Below w.heap.size w W → Calls Tryz.prog 48 #[.agg #[.bool s, .slice A1 n1 k1, .slice A2 n2 k2], .agg #[.bool o, .slice A5 n5 k5, .slice A6 n6 k6]] W fun e w' => e = .returned (.int .i64 (cmpQ p y)) ∧ Below W.heap.size W w') := fun W hb => ratCmp_q _ _ p y k k W (x1.after hb) (x3.after hb) hk hk
  have I2 : Hid (∀ W, Below w.heap.size w W → Calls Tryz.prog 48 #[.agg #[.bool o, .slice A5 n5 k5, .slice A6 n6 k6], .agg #[.bool t, .slice A3 n3 k3, .slice A4 n4 k4]] W fun e w' => e = .returned (.int .i64 (cmpQ y q)) ∧ Below W.heap.size W w') := fun W hb => ratCmp_q _ _ y q k k W (x3.after hb) (x2.after hb) hk hk
  clear x1 x2 x3
  generalize cmpQ p y = c at *
  generalize cmpQ y q = c' at *
  go_enter Tryz.func24, Tryz.ntmps24
  go_wp2_with fail
  have b0 := (Blk.new w 36 #[.bool s, .slice A1 n1 k1, .slice A2 n2 k2, .bool t, .slice A3 n3 k3, .slice A4 n4 k4]).alloc (.cells #[.bool o, .slice A5 n5 k5, .slice A6 n6 k6] 25)
  have b1 := blk_new1 w (.cells #[.bool s, .slice A1 n1 k1, .slice A2 n2 k2, .bool t, .slice A3 n3 k3, .slice A4 n4 k4] 36) 25 #[.bool o, .slice A5 n5 k5, .slice A6 n6 k6]
  have hB : Below w.heap.size w ((w.alloc (.cells #[.bool s, .slice A1 n1 k1, .slice A2 n2 k2, .bool t, .slice A3 n3 k3, .slice A4 n4 k4] 36)).alloc (.cells #[.bool o, .slice A5 n5 k5, .slice A6 n6 k6] 25)) := ((Below.refl _ _).alloc (Nat.le_refl _) _).alloc (by simp) _
  generalize (w.alloc (.cells #[.bool s, .slice A1 n1 k1, .slice A2 n2 k2, .bool t, .slice A3 n3 k3, .slice A4 n4 k4] 36)).alloc (.cells #[.bool o, .slice A5 n5 k5, .slice A6 n6 k6] 25) = w2 at *
  have r0 := b0.cell 0
  have r1 := b0.cell 1
  have r2 := b0.cell 2
  have t0 := b1.cell 0
  have t1 := b1.cell 1
  have t2 := b1.cell 2
  go_wp2_with fail
  go_fit (I1.out _ hB)
  rintro e w3 ⟨rfl, hb3⟩
  have HB2 := Lib.hid (hB.trans (hb3.mono hB.size))
  have b2 := b0.below hb3 b0.lt
  have b3 := b1.below hb3 b1.lt
  clear hB hb3 I1 b0 b1 r0 r1 r2 t0 t1 t2
  have r3 := b2.cell 3
  have r4 := b2.cell 4
  have r5 := b2.cell 5
  have t0 := b3.cell 0
  have t1 := b3.cell 1
  have t2 := b3.cell 2
  go_wp2_with fail
  go_fit (I2.out _ HB2.out)
  rintro e w4 ⟨rfl, hb4⟩
  have HBF := Lib.hid (HB2.out.trans (hb4.mono HB2.out.size))
  clear HB2 hb4 I2 b2 b3 r3 r4 r5 t0 t1 t2
  go_wp2_with fail
  go_ret
  exact ⟨rfl, HBF.out⟩
end Go.Proofs.YtobmjcbjailclaaGreatDoor

/- The twentieth law on what is near: the law's walk. Condition: what the platform bounds. -/
namespace Go.Proofs.YtobmjcbjailclaaGreatDoor
set_option maxRecDepth 100000
open Go.RowKit Go.Shelf

set_option maxHeartbeats 6400000 in
theorem lawShowNear_any (u : Value) (s : Bool) (n m : List Nat) (x : Nat) (d i : Int) (w : World) (dn : Dig n) (dm : Dig m) (R : Rt w 0 w.heap.size u s n m) (hx : x < 4294967296) :
    Calls Tryz.prog 5 #[u, .int .u32 (x : Int), .int .i64 d, .int .i64 i] w fun e w' => e = .returned (.bool true) ∧ Below w.heap.size w w' := by
  obtain ⟨vn, vd, rfl, hn, hd⟩ := R
  have hn' := hn
  have hd' := hd
  obtain ⟨A1, k1, rfl, m1⟩ := nt_len hn'
  obtain ⟨A2, k2, rfl, m2⟩ := nt_len hd'
  clear hn' hd'
  have HR := Lib.hid (show Rt w 0 w.heap.size (.agg #[.bool s, .slice A1 n.length k1, .slice A2 m.length k2]) s n m from ⟨_, _, rfl, hn, hd⟩)
  clear hn hd
  have b0 := Blk.new w 25 #[.bool s, .slice A1 n.length k1, .slice A2 m.length k2]
  have hB : Below w.heap.size w (w.alloc (.cells #[.bool s, .slice A1 n.length k1, .slice A2 m.length k2] 25)) := (Below.refl _ _).alloc (Nat.le_refl _) _
  have b1 := Blk.new (w.alloc (.cells #[.bool s, .slice A1 n.length k1, .slice A2 m.length k2] 25)) 25 #[.bool s, .slice A1 n.length k1, .slice A2 m.length k2]
  have es : (w.alloc (.cells #[.bool s, .slice A1 n.length k1, .slice A2 m.length k2] 25)).heap.size = w.heap.size + 1 := by simp
  rw [es] at b1
  have hbig := big20_one _ (w.heap.size + 1) n.length m.length k1 k2 A1 A2 (b1.cell 1) (b1.cell 2) b1.lt
  have HBIG := Lib.hid hbig
  have B0 := Lib.hid (b0.alloc (.cells #[.bool s, .slice A1 n.length k1, .slice A2 m.length k2] 25))
  have HB := Lib.hid (hB.alloc hB.size (.cells #[.bool s, .slice A1 n.length k1, .slice A2 m.length k2] 25))
  clear b0 b1 hB es hbig
  go_enter Tryz.func5, Tryz.ntmps5
  go_wp2_with fail
  go_fit (HBIG.out)
  rintro e w2 ⟨⟨b, rfl, hb⟩, hb2⟩
  replace HB := Lib.hid (HB.out.trans (hb2.mono HB.out.size))
  replace B0 := Lib.hid (B0.out.below hb2 B0.out.lt)
  clear hb2 HBIG
  cases b
  · obtain ⟨ln3, lm3⟩ := hb rfl
    clear hb
    by_cases h0 : d < 0
    · go_wp2_with fail
      go_ret
      exact ⟨rfl, HB.out⟩
    · by_cases h20 : 20 < d
      · go_wp2_with fail
        go_ret
        exact ⟨rfl, HB.out⟩
      · obtain ⟨D, rfl⟩ : ∃ D : Nat, d = (D : Int) := ⟨d.toNat, by omega⟩
        have hD : D ≤ 20 := by omega
        clear h0 h20
        obtain ⟨p, hp⟩ : ∃ q, qv s (val n) (val m) = q := ⟨_, rfl⟩
        have HRQ : Hid (∀ W, Below w.heap.size w W → RQ W 0 W.heap.size (.agg #[.bool s, .slice A1 n.length k1, .slice A2 m.length k2]) p 3) := fun W hb => ⟨s, n, m, HR.out.after hb, dn, dm, ln3, lm3, hp⟩
        have zp : Sz p 3 := (HRQ.out w (Below.refl _ _)).sz (by omega)
        obtain ⟨f, hf⟩ : ∃ q, qv false (val [x]) (val [4294967295]) = q := ⟨_, rfl⟩
        have zf : Sz f 1 := by rw [← hf]; exact Sz.qv (lim_length_le (by rw [val_one]; omega)) (lim_length_le (by rw [val_one]; omega)) (by omega)
        have zt : Sz (tenth D) 4 := Sz.qv (by rw [lim_one (by omega) (by omega)]; simp) (ten_len4 (by omega)) (by omega)
        obtain ⟨uq, hu⟩ : ∃ q, tenth D * f = q := ⟨_, rfl⟩
        have zu : Sz uq 5 := by rw [← hu]; exact Sz.mul zt zf (by omega)
        have HOF : Hid (∀ (va vb : Value) (W : World), Nt W 0 W.heap.size va [x] → Nt W 0 W.heap.size vb [4294967295] → Calls Tryz.prog 21 #[.bool false, va, vb] W (GivesF f W)) := fun va vb W h1 h2 => by
          have := ratOf_q false va vb [x] [4294967295] W (dig_one hx) (dig_one (by omega)) h1 h2 (by simp) (by simp)
          rw [hf] at this
          exact this
        have HTEN : Hid (∀ W, Calls Tryz.prog 20 #[.int .i64 (D : Int)] W (GivesT false 1 (10 ^ D) W)) := fun W => refTen_any D W (by omega)
        have HT4 : Hid (∀ (w w' : World) v, Rt w' w.heap.size w'.heap.size v false (lim 1) (lim (10 ^ D)) → RQ w' 0 w'.heap.size v (tenth D) 4) := fun w w' v h => rq_tenth4 (by omega) h
        have HMUL : Hid (∀ W a b, RQ W 0 W.heap.size a (tenth D) 4 → RQ W 0 W.heap.size b f 1 → Calls Tryz.prog 19 #[a, b] W (GivesF uq W)) := fun W a b ha hb => by
          have := ratMul_q a b _ _ 4 1 W ha hb (by omega) (by omega)
          rw [hu] at this
          exact this
        have ZF := Lib.hid zf
        have ZU := Lib.hid zu
        have hx4 : (x : Int) ≤ 4294967295 := by omega
        go_wp2_with fail
        go_fit (HTEN.out _)
        rintro e w3 ⟨v3, rfl, h3, hb3⟩
        have t3 := HT4.out _ _ _ h3
        replace HB := Lib.hid (HB.out.trans (hb3.mono HB.out.size))
        replace B0 := Lib.hid (B0.out.below hb3 B0.out.lt)
        clear hb3 h3
        go_wp2_with fail
        have hl1 := lit_at (x := x) (((Blk.new w3 43 #[.int .u32 (x : Int)]).alloc (.cells #[.int .u32 4294967295] 43)).cell 0) ((Blk.new w3 43 #[.int .u32 (x : Int)]).alloc (.cells #[.int .u32 4294967295] 43)).lt
        have hl2 := lit_at (x := 4294967295) ((blk_new1 w3 (.cells #[.int .u32 (x : Int)] 43) 43 #[.int .u32 4294967295]).cell 0) (blk_new1 w3 (.cells #[.int .u32 (x : Int)] 43) 43 #[.int .u32 4294967295]).lt
        have hal : Below w3.heap.size w3 ((w3.alloc (.cells #[.int .u32 (x : Int)] 43)).alloc (.cells #[.int .u32 4294967295] 43)) := ((Below.refl _ _).alloc (Nat.le_refl _) _).alloc (by simp) _
        replace HB := Lib.hid (HB.out.trans (hal.mono HB.out.size))
        replace B0 := Lib.hid (B0.out.below hal B0.out.lt)
        replace t3 := t3.after hal
        clear hal
        go_fit (HOF.out _ _ _ hl1 hl2)
        rintro e w4 ⟨v4, rfl, h4, hb4⟩
        replace t3 := t3.after hb4
        have t4 : RQ w4 0 w4.heap.size v4 f 1 := RQ.of (h4.low (Nat.zero_le _)) ZF.out
        replace HB := Lib.hid (HB.out.trans (hb4.mono HB.out.size))
        replace B0 := Lib.hid (B0.out.below hb4 B0.out.lt)
        clear hl1 hl2 hb4 h4
        go_wp2_with fail
        go_fit (HMUL.out _ _ _ t3 t4)
        rintro e w5 ⟨v5, rfl, ⟨un, ud, rfl, hun, hud⟩, hb5⟩
        obtain ⟨E1, e1, rfl, y1⟩ := nt_len hun
        obtain ⟨E2, e2, rfl, y2⟩ := nt_len hud
        replace HB := Lib.hid (HB.out.trans (hb5.mono HB.out.size))
        replace B0 := Lib.hid (B0.out.below hb5 B0.out.lt)
        have B9 := Lib.hid (Blk.new w5 25 #[.bool (qS uq), .slice E1 (lim (qN uq)).length e1, .slice E2 (lim uq.den).length e2])
        have hal : Below w5.heap.size w5 (w5.alloc (.cells #[.bool (qS uq), .slice E1 (lim (qN uq)).length e1, .slice E2 (lim uq.den).length e2] 25)) := (Below.refl _ _).alloc (Nat.le_refl _) _
        have RU := Lib.hid (RQ.of ⟨_, _, rfl, (hun.low (Nat.zero_le _)).after hal, (hud.low (Nat.zero_le _)).after hal⟩ ZU.out)
        replace HB := Lib.hid (HB.out.trans (hal.mono HB.out.size))
        replace B0 := Lib.hid (B0.out.below hal B0.out.lt)
        clear hb5 hun hud hal t3 t4 HOF HTEN HT4 HMUL
        go_wp2_with fail
        generalize w5.alloc (.cells #[.bool (qS uq), .slice E1 (lim (qN uq)).length e1, .slice E2 (lim uq.den).length e2] 25) = w6 at *
        generalize w5.heap.size = gb at *
        have hg4 : w.heap.size < w6.heap.size := B0.out.lt
        have hh4 : gb < w6.heap.size := B9.out.lt
        have HNO : Hid (∀ W, Below w.heap.size w W → Calls Tryz.prog 22 #[.agg #[.bool s, .slice A1 n.length k1, .slice A2 m.length k2]] W (GivesF p W)) := fun W hb => ratNorm_q _ p 3 W (HRQ.out W hb) (by omega)
        have HADD : Hid (∀ W v, Below w.heap.size w W → RQ W 0 W.heap.size v uq 5 → Calls Tryz.prog 23 #[.agg #[.bool s, .slice A1 n.length k1, .slice A2 m.length k2], v] W (GivesF (p + uq) W)) := fun W v hb hv => ratAdd_q _ v _ _ 3 5 W (HRQ.out W hb) hv (by omega) (by omega)
        obtain ⟨q, hq⟩ : ∃ q, p + uq = q := ⟨_, rfl⟩
        rw [hq] at HADD
        have HQ := Lib.hid hq
        have hur : 0 ≤ uq ∧ uq ≤ tenth D := by
          have h1 := frac_range (x := x) (y := 4294967295) (by omega) (by omega)
          have hf' := hf
          rw [val_one, val_one] at hf'
          rw [hf'] at h1
          have h2 := part_range (Rat.le_of_lt (tenth_pos D)) h1.1 h1.2
          rw [hu] at h2
          exact h2
        have ZP : Hid (Sz p 9) := zp.mono (by omega)
        have ZQ : Hid (Sz q 9) := by
          have := Sz.add zp zu
          rw [hq] at this
          exact this
        have HPQ : Hid (p ≤ q) := by
          show p ≤ q
          rw [← hq]
          have := hur.1
          grind
        have HNW : Hid (¬ tenth D < q - p) := by
          show ¬ _
          rw [← hq]
          have := hur.2
          intro h
          grind
        have HLE : Hid (cmpQ p q ≤ 0) := cmpQ_le HPQ.out
        have HUR := Lib.hid hur
        clear hq hur
        go_cut [10] from 32 to 37 (fun r wx => R4 w6 gb (qS uq) (.slice E1 (lim (qN uq)).length e1) (.slice E2 (lim uq.den).length e2) p q r wx)
        case first =>
          have HS00 : Hid (Below w6.heap.size w6 w6 ∧ w6.cell? ⟨w.heap.size, 0, none⟩ = some (.bool s) ∧ w6.cell? ⟨w.heap.size, 1, none⟩ = some (.slice A1 n.length k1) ∧ w6.cell? ⟨w.heap.size, 2, none⟩ = some (.slice A2 m.length k2) ∧ w6.cell? ⟨gb, 0, none⟩ = some (.bool (qS uq)) ∧ w6.cell? ⟨gb, 1, none⟩ = some (.slice E1 (lim (qN uq)).length e1) ∧ w6.cell? ⟨gb, 2, none⟩ = some (.slice E2 (lim uq.den).length e2)) := ⟨Below.refl _ _, B0.out.cell 0, B0.out.cell 1, B0.out.cell 2, B9.out.cell 0, B9.out.cell 1, B9.out.cell 2⟩
          have HS0 : Hid (Below w6.heap.size w6 w6.drew ∧ w6.drew.cell? ⟨w.heap.size, 0, none⟩ = some (.bool s) ∧ w6.drew.cell? ⟨w.heap.size, 1, none⟩ = some (.slice A1 n.length k1) ∧ w6.drew.cell? ⟨w.heap.size, 2, none⟩ = some (.slice A2 m.length k2) ∧ w6.drew.cell? ⟨gb, 0, none⟩ = some (.bool (qS uq)) ∧ w6.drew.cell? ⟨gb, 1, none⟩ = some (.slice E1 (lim (qN uq)).length e1) ∧ w6.drew.cell? ⟨gb, 2, none⟩ = some (.slice E2 (lim uq.den).length e2)) := sj_call HS00.out (Below.refl _ _).drew hg4 hh4
          go_region_held3 (fun W => Below w6.heap.size w6 W ∧ W.cell? ⟨w.heap.size, 0, none⟩ = some (.bool s) ∧ W.cell? ⟨w.heap.size, 1, none⟩ = some (.slice A1 n.length k1) ∧ W.cell? ⟨w.heap.size, 2, none⟩ = some (.slice A2 m.length k2) ∧ W.cell? ⟨gb, 0, none⟩ = some (.bool (qS uq)) ∧ W.cell? ⟨gb, 1, none⟩ = some (.slice E1 (lim (qN uq)).length e1) ∧ W.cell? ⟨gb, 2, none⟩ = some (.slice E2 (lim uq.den).length e2))
            (with_reducible (first | exact HS0.out | exact sj_allocd HS00.out hg4 hh4 | exact sj_alloc (by assumption) hg4 hh4 | exact sj_call (by assumption) (by assumption) hg4 hh4 | exact sj_set6 (by assumption) hg4 hh4 ZG.out | exact sj_alloc S9.out hg4 hh4 | fail))
            (first
              | (have hx := hb7
                 go_at_call 23
                 go_fit (HADD.out _ _ (HB.out.trans (Below.mono (And.left (by assumption)) HB.out.size)) (RU.out.after (And.left (by assumption))))
                 rintro e w9 ⟨v9, rfl, ⟨yn, yd, rfl, hyn, hyd⟩, hb9⟩
                 obtain ⟨A7, k7, rfl, m7⟩ := nt_len hyn
                 obtain ⟨A8, k8, rfl, m8⟩ := nt_len hyd
                 have K9 := Lib.hid (show Below w7.heap.size w7 w9 from (by first | with_reducible exact hb9 | with_reducible exact below_unalloc hb9))
                 have S9 := Lib.hid (sj_call (by assumption) hb9 hg4 hh4)
                 (first
                   | (have H8 := Lib.hid z.lt; replace z := z.below K9.out z.lt; have r0 := z.cell 0; have r1 := z.cell 1; have r2 := z.cell 2; have r3 := z.cell 3; have r4 := z.cell 4; have r5 := z.cell 5; have f0 := z.free 0; have f1 := z.free 1; have f2 := z.free 2; have f3 := z.free 3; have f4 := z.free 4; have f5 := z.free 5)
                   | (have z := (Blk.new w7 36 #[.bool false, .slice none 0 0, .slice none 0 0, .bool false, .slice none 0 0, .slice none 0 0]).below hb9 (Blk.new w7 36 #[.bool false, .slice none 0 0, .slice none 0 0, .bool false, .slice none 0 0, .slice none 0 0]).lt; have H8 := Lib.hid (Blk.new w7 36 #[.bool false, .slice none 0 0, .slice none 0 0, .bool false, .slice none 0 0, .slice none 0 0]).lt; have ZG : Hid (w6.heap.size ≤ w7.heap.size) := (And.left S7.out).size; have ZO : Hid (w7.heap.size ≤ w7.heap.size) := Nat.le_refl _; have r0 := z.cell 0; have r1 := z.cell 1; have r2 := z.cell 2; have r3 := z.cell 3; have r4 := z.cell 4; have r5 := z.cell 5; have f0 := z.free 0; have f1 := z.free 1; have f2 := z.free 2; have f3 := z.free 3; have f4 := z.free 4; have f5 := z.free 5)
                   | skip))
              | (go_at_call 22
                 go_fit (HNO.out _ (HB.out.trans (Below.mono (And.left (by assumption)) HB.out.size)))
                 rintro e w7 ⟨v7, rfl, ⟨xn, xd, rfl, hxn, hxd⟩, hb7⟩
                 obtain ⟨A5, k5, rfl, m5⟩ := nt_len hxn
                 obtain ⟨A6, k6, rfl, m6⟩ := nt_len hxd
                 have S7 := Lib.hid (sj_call (by assumption) hb7 hg4 hh4)
                 (first
                   | (have z := (Blk.new w6 36 #[.bool false, .slice none 0 0, .slice none 0 0, .bool false, .slice none 0 0, .slice none 0 0]).drew.below hb7 (Blk.new w6 36 #[.bool false, .slice none 0 0, .slice none 0 0, .bool false, .slice none 0 0, .slice none 0 0]).drew.lt; have ZG : Hid (w6.heap.size ≤ w6.heap.size) := Nat.le_refl _; have ZO := Lib.hid (Blk.new w6 36 #[.bool false, .slice none 0 0, .slice none 0 0, .bool false, .slice none 0 0, .slice none 0 0]).drew.lt)
                   | skip))
              | fail)
          all_goals (go_wp2_with fail; go_meet)
          all_goals (have N1 := hxn.below K9.out (Nat.le_refl _); have N2 := hxd.below K9.out (Nat.le_refl _); have C9 := S9.out.2.2.2.2; have hgb := Nat.lt_of_lt_of_le hh4 (And.left S9.out).size)
          all_goals first
            | with_reducible exact r4_new N1 N2 K9.out.size hyn hyd (And.left S9.out) C9 hgb
            | with_reducible exact r4_set N1 N2 K9.out.size hyn hyd (And.left S9.out) C9 hgb z (Or.inl ZO.out) H8.out ZG.out (Nat.ne_of_gt (Nat.lt_of_lt_of_le hh4 ZG.out))
            | with_reducible exact r4_set N1 N2 K9.out.size hyn hyd (And.left S9.out) C9 hgb z (Or.inr ZO.out) H8.out ZG.out (Nat.ne_of_gt (Nat.lt_of_lt_of_le hh4 ZG.out))
            | trace_state
        case rest =>
          obtain ⟨g, C1, j1, C2, j2, C3, j3, C4, j4, rfl, hbk, x1, x2, x3, x4, hBw, ⟨c0, c1, c2⟩, hg0⟩ := hcut
          have HSD : Hid (∀ (W : World), Nt W 0 W.heap.size (.slice C1 (lim (qN p)).length j1) (lim (qN p)) → Nt W 0 W.heap.size (.slice C2 (lim p.den).length j2) (lim p.den) → Nt W 0 W.heap.size (.slice C3 (lim (qN q)).length j3) (lim (qN q)) → Nt W 0 W.heap.size (.slice C4 (lim q.den).length j4) (lim q.den) →
              Calls Tryz.prog 12 #[.agg #[.bool (qS p), .slice C1 (lim (qN p)).length j1, .slice C2 (lim p.den).length j2, .bool (qS q), .slice C3 (lim (qN q)).length j3, .slice C4 (lim q.den).length j4], .int .i64 (D : Int)] W fun e w' => e = .returned (.tuple #[.string (strN (fixT ((p + q) / 2) D)), .bool true]) ∧ Below W.heap.size W w') := fun W n1 n2 n3 n4 => by
            have := dec_norm p q 9 D C1 C2 C3 C4 j1 j2 j3 j4 W (by omega) (by omega) (by omega) ZP.out ZQ.out HLE.out n1 n2 n3 n4
            unfold ShowPost at this
            rw [if_neg HNW.out, if_neg HNW.out] at this
            exact this
          clear HNO HADD hg4 hh4 B9 B0
          have d0 := hbk.cell 0
          have d1 := hbk.cell 1
          have d2 := hbk.cell 2
          have d3 := hbk.cell 3
          have d4 := hbk.cell 4
          have d5 := hbk.cell 5
          go_wp2_with fail
          go_fit (HSD.out _ x1 x2 x3 x4)
          rintro e w8 ⟨rfl, hb8⟩
          replace RU := Lib.hid ((RU.out.after hBw).after hb8)
          replace HB := Lib.hid (HB.out.trans ((hBw.mono HB.out.size).trans (hb8.mono (Nat.le_trans HB.out.size hBw.size))))
          have PF : Hid (RQ w8 0 w8.heap.size (.agg #[.bool (qS p), .slice C1 (lim (qN p)).length j1, .slice C2 (lim p.den).length j2]) p 9) := RQ.of ⟨_, _, rfl, x1.after hb8, x2.after hb8⟩ ZP.out
          have QF : Hid (RQ w8 0 w8.heap.size (.agg #[.bool (qS q), .slice C3 (lim (qN q)).length j3, .slice C4 (lim q.den).length j4]) q 9) := RQ.of ⟨_, _, rfl, x3.after hb8, x4.after hb8⟩ ZQ.out
          have BG := Lib.hid (hbk.below hb8 hbk.lt)
          have UC := Lib.hid (s3_of hb8 c0 c1 c2 hg0)
          have hh5 : gb < w8.heap.size := Nat.lt_of_lt_of_le hg0 hb8.size
          have hg5 : g < w8.heap.size := BG.out.lt
          clear hBw hb8 hbk x1 x2 x3 x4 c0 c1 c2 hg0 d0 d1 d2 d3 d4 d5 HSD
          obtain ⟨r, hr7, hand⟩ := and7 i
          obtain ⟨h, hh⟩ : ∃ h, qv false (val [r]) (val [7]) = h := ⟨_, rfl⟩
          have zh : Sz h 1 := by rw [← hh]; exact Sz.qv (lim_length_le (by rw [val_one]; omega)) (lim_length_le (by rw [val_one]; omega)) (by omega)
          have HOF : Hid (∀ (va vb : Value) (W : World), Nt W 0 W.heap.size va [r] → Nt W 0 W.heap.size vb [7] → Calls Tryz.prog 21 #[.bool false, va, vb] W (GivesF h W)) := fun va vb W h1 h2 => by
            have := ratOf_q false va vb [r] [7] W (dig_one (by omega)) (dig_one (by omega)) h1 h2 (by simp) (by simp)
            rw [hh] at this
            exact this
          obtain ⟨uh, huh⟩ : ∃ q, uq * h = q := ⟨_, rfl⟩
          have zuh : Sz uh 6 := by rw [← huh]; exact Sz.mul ZU.out zh (by omega)
          have HMUL : Hid (∀ W a b, RQ W 0 W.heap.size a uq 5 → RQ W 0 W.heap.size b h 1 → Calls Tryz.prog 19 #[a, b] W (GivesF uh W)) := fun W a b ha hb => by
            have := ratMul_q a b _ _ 5 1 W ha hb (by omega) (by omega)
            rw [huh] at this
            exact this
          obtain ⟨y, hy⟩ : ∃ q, p + uh = q := ⟨_, rfl⟩
          have HADD : Hid (∀ W a b, RQ W 0 W.heap.size a p 9 → RQ W 0 W.heap.size b uh 6 → Calls Tryz.prog 23 #[a, b] W (GivesF y W)) := fun W a b ha hb => by
            have := ratAdd_q a b _ _ 9 6 W ha hb (by omega) (by omega)
            rw [hy] at this
            exact this
          have ZY : Hid (Sz y 16) := by
            show Sz y 16
            rw [← hy]
            exact Sz.add ZP.out zuh
          have HY : Hid (p ≤ y ∧ y ≤ q) := by
            have h1 := frac_range (x := r) (y := 7) hr7 (by omega)
            have hh' := hh
            rw [val_one, val_one] at hh'
            rw [hh'] at h1
            have h2 := part_range HUR.out.1 h1.1 h1.2
            rw [huh] at h2
            have h3 := HQ.out
            show p ≤ y ∧ y ≤ q
            rw [← hy, ← h3]
            constructor <;> grind
          have ZH := Lib.hid zh
          have ZUH := Lib.hid zuh
          have hr0 : (0 : Int) ≤ (r : Int) := by omega
          have hr8 : (r : Int) ≤ 7 := by omega
          have hwr : IntKind.u32.wrap (r : Int) = (r : Int) := IntWalk.u32_in _ (by omega)
          clear hh huh hy zh zuh
          go_wp2_with fail
          go_cut [13] from 44 to 54 (fun r wx => R6 w8 y r wx)
          case first =>
            have HS00 : Hid (Below w8.heap.size w8 w8 ∧ w8.cell? ⟨g, 0, none⟩ = some (.bool (qS p)) ∧ w8.cell? ⟨g, 1, none⟩ = some (.slice C1 (lim (qN p)).length j1) ∧ w8.cell? ⟨g, 2, none⟩ = some (.slice C2 (lim p.den).length j2) ∧ w8.cell? ⟨gb, 0, none⟩ = some (.bool (qS uq)) ∧ w8.cell? ⟨gb, 1, none⟩ = some (.slice E1 (lim (qN uq)).length e1) ∧ w8.cell? ⟨gb, 2, none⟩ = some (.slice E2 (lim uq.den).length e2)) := ⟨Below.refl _ _, BG.out.cell 0, BG.out.cell 1, BG.out.cell 2, UC.out.1, UC.out.2.1, UC.out.2.2⟩
            have HS0 : Hid (Below w8.heap.size w8 w8.drew ∧ w8.drew.cell? ⟨g, 0, none⟩ = some (.bool (qS p)) ∧ w8.drew.cell? ⟨g, 1, none⟩ = some (.slice C1 (lim (qN p)).length j1) ∧ w8.drew.cell? ⟨g, 2, none⟩ = some (.slice C2 (lim p.den).length j2) ∧ w8.drew.cell? ⟨gb, 0, none⟩ = some (.bool (qS uq)) ∧ w8.drew.cell? ⟨gb, 1, none⟩ = some (.slice E1 (lim (qN uq)).length e1) ∧ w8.drew.cell? ⟨gb, 2, none⟩ = some (.slice E2 (lim uq.den).length e2)) := sj_call HS00.out (Below.refl _ _).drew hg5 hh5
            go_region_held3 (fun W => Below w8.heap.size w8 W ∧ W.cell? ⟨g, 0, none⟩ = some (.bool (qS p)) ∧ W.cell? ⟨g, 1, none⟩ = some (.slice C1 (lim (qN p)).length j1) ∧ W.cell? ⟨g, 2, none⟩ = some (.slice C2 (lim p.den).length j2) ∧ W.cell? ⟨gb, 0, none⟩ = some (.bool (qS uq)) ∧ W.cell? ⟨gb, 1, none⟩ = some (.slice E1 (lim (qN uq)).length e1) ∧ W.cell? ⟨gb, 2, none⟩ = some (.slice E2 (lim uq.den).length e2))
              (with_reducible (first | exact HS0.out | exact sj_allocd (sj_alloc (sj_alloc HS00.out hg5 hh5) hg5 hh5) hg5 hh5 | exact sj_allocd (sj_alloc HS00.out hg5 hh5) hg5 hh5 | exact sj_allocd HS00.out hg5 hh5 | exact sj_alloc (by assumption) hg5 hh5 | exact sj_call (by assumption) (by assumption) hg5 hh5 | exact sj_set3 (by assumption) hg5 hh5 ZG.out | exact sj_alloc S11.out hg5 hh5 | fail))
              (first
                | (have hx := hb10
                   go_at_call 23
                   go_fit (HADD.out _ _ _ (PF.out.after (And.left (by assumption))) (by first | with_reducible exact t10 | with_reducible exact t10.after ((Below.refl _ _).alloc (Nat.le_refl _) _)))
                   rintro e w11 ⟨v11, rfl, ⟨yn, yd, rfl, hyn, hyd⟩, hb11⟩
                   obtain ⟨F1, l1, rfl, m7⟩ := nt_len hyn
                   obtain ⟨F2, l2, rfl, m8⟩ := nt_len hyd
                   have S11 := Lib.hid (sj_call (by assumption) hb11 hg5 hh5)
                   (first
                     | (have H8 := Lib.hid z.lt; replace z := z.below hb11 z.lt; have r0 := z.cell 0; have r1 := z.cell 1; have r2 := z.cell 2; have f0 := z.free 0; have f1 := z.free 1; have f2 := z.free 2)
                     | (have z := (Blk.new w10 25 #[.bool false, .slice none 0 0, .slice none 0 0]).below hb11 (Blk.new w10 25 #[.bool false, .slice none 0 0, .slice none 0 0]).lt; have H8 := Lib.hid (Blk.new w10 25 #[.bool false, .slice none 0 0, .slice none 0 0]).lt; have ZG : Hid (w8.heap.size ≤ w10.heap.size) := (And.left S10.out).size; have r0 := z.cell 0; have r1 := z.cell 1; have r2 := z.cell 2; have f0 := z.free 0; have f1 := z.free 1; have f2 := z.free 2)
                     | skip))
                | (have hx := hb9
                   go_at_call 19
                   go_fit (HMUL.out _ _ _ (RU.out.after (And.left (by assumption))) (by first | with_reducible exact t9 | with_reducible exact t9.after ((Below.refl _ _).alloc (Nat.le_refl _) _)))
                   rintro e w10 ⟨v10, rfl, h10, hb10⟩
                   have t10 : RQ w10 0 w10.heap.size v10 uh 6 := RQ.of (h10.low (Nat.zero_le _)) ZUH.out
                   have S10 := Lib.hid (sj_call (by assumption) hb10 hg5 hh5)
                   (first
                     | (replace z := z.below hb10 z.lt)
                     | (have z := (Blk.new w9 25 #[.bool false, .slice none 0 0, .slice none 0 0]).below hb10 (Blk.new w9 25 #[.bool false, .slice none 0 0, .slice none 0 0]).lt; have ZG : Hid (w8.heap.size ≤ w9.heap.size) := (And.left S9.out).size)
                     | skip))
                | (go_at_call 21
                   go_fit (HOF.out _ _ _ (by first | with_reducible exact lit_b (blk_new2 _ _ _ _ _).drew | with_reducible exact lit_b ((blk_new1 _ _ _ _).alloc _).drew | with_reducible exact lit_b (((Blk.new _ _ _).alloc _).alloc _).drew | with_reducible exact lit_b (blk_new1 _ _ _ _).drew | with_reducible exact lit_b ((Blk.new _ _ _).alloc _).drew | trace_state) (by first | with_reducible exact lit_b (blk_new2 _ _ _ _ _).drew | with_reducible exact lit_b ((blk_new1 _ _ _ _).alloc _).drew | with_reducible exact lit_b (((Blk.new _ _ _).alloc _).alloc _).drew | with_reducible exact lit_b (blk_new1 _ _ _ _).drew | with_reducible exact lit_b ((Blk.new _ _ _).alloc _).drew))
                   rintro e w9 ⟨v9, rfl, h9, hb9⟩
                   have t9 : RQ w9 0 w9.heap.size v9 h 1 := RQ.of (h9.low (Nat.zero_le _)) ZH.out
                   have S9 := Lib.hid (sj_call (by assumption) hb9 hg5 hh5)
                   (first
                     | (have z := (blk_new2 w8 _ _ 25 #[.bool false, .slice none 0 0, .slice none 0 0]).drew.below hb9 (blk_new2 w8 _ _ 25 #[.bool false, .slice none 0 0, .slice none 0 0]).drew.lt; have ZG : Hid (w8.heap.size ≤ w8.heap.size + 1 + 1) := Nat.le_succ_of_le (Nat.le_succ _))
                     | (have z := ((blk_new1 w8 _ 25 #[.bool false, .slice none 0 0, .slice none 0 0]).alloc _).drew.below hb9 ((blk_new1 w8 _ 25 #[.bool false, .slice none 0 0, .slice none 0 0]).alloc _).drew.lt; have ZG : Hid (w8.heap.size ≤ w8.heap.size + 1) := Nat.le_succ _)
                     | (have z := (((Blk.new w8 25 #[.bool false, .slice none 0 0, .slice none 0 0]).alloc _).alloc _).drew.below hb9 (((Blk.new w8 25 #[.bool false, .slice none 0 0, .slice none 0 0]).alloc _).alloc _).drew.lt; have ZG : Hid (w8.heap.size ≤ w8.heap.size) := Nat.le_refl _)
                     | skip))
                | fail)
            all_goals (go_wp2_with fail; go_meet)
            all_goals first
              | with_reducible exact r6_new hyn hyd (And.left S11.out)
              | with_reducible exact r6_set hyn hyd (And.left S11.out) z H8.out ZG.out
              | trace_state
          case rest =>
            obtain ⟨g6, F1, l1, F2, l2, rfl, hbk6, y3, y4, hB6⟩ := hcut
            have HLN : Hid ((fixT ((p + q) / 2) D).length ≤ 100) := by
              have h1 : uq ≤ 1 := Rat.le_trans HUR.out.2 (tenth_le D)
              have h2 : val n ≤ 4294967296 ^ 3 := Nat.le_trans (Nat.le_of_lt (val_lt dn)) (Nat.pow_le_pow_right (by omega) ln3)
              have h3 := mid_len (s := s) (m := val m) h2 hD HUR.out.1 h1
              rw [hp, HQ.out] at h3
              exact h3
            have HD30 : Hid (hold30 (D : Int) = (D : Int)) := by
              show _ = _
              unfold hold30
              omega
            have HW : Hid (q - p ≤ tenth D) := Rat.not_lt.1 HNW.out
            have YF : Hid (RQ wc 0 wc.heap.size (.agg #[.bool (qS y), .slice F1 (lim (qN y)).length l1, .slice F2 (lim y.den).length l2]) y 16) := RQ.of ⟨_, _, rfl, y3, y4⟩ ZY.out
            replace PF := Lib.hid (PF.out.after hB6)
            replace QF := Lib.hid (QF.out.after hB6)
            replace BG := Lib.hid (BG.out.below hB6 BG.out.lt)
            replace HB := Lib.hid (HB.out.trans (hB6.mono HB.out.size))
            have BY := Lib.hid hbk6
            clear hB6 hbk6 y3 y4 RU UC hh5 hg5 hand hwr hr0 hr8 HOF HMUL HADD
            have HNR : Hid (∀ W, Below wc.heap.size wc W → Calls Tryz.prog 17 #[.string (strN (fixT ((p + q) / 2) D)), .agg #[.bool (qS y), .slice F1 (lim (qN y)).length l1, .slice F2 (lim y.den).length l2], .int .i64 (D : Int)] W fun e w' => e = .returned (.bool true) ∧ Below W.heap.size W w') := fun W hb => by
              have := refNear_any (fixT ((p + q) / 2) D) (fixT_byt _ _) HLN.out (qS y) F1 F2 (lim (qN y)).length (lim y.den).length l1 l2 y 16 (D : Int) D HD30.out W (YF.out.after hb) (by omega) (by omega)
              rw [near_mid HW.out HY.out.1 HY.out.2] at this
              exact this
            have HNY : Hid (∀ W, Below wc.heap.size wc W → Calls Tryz.prog 16 #[.string (strN (fixT ((p + q) / 2) D)), .agg #[.bool (qS y), .slice F1 (lim (qN y)).length l1, .slice F2 (lim y.den).length l2], .int .i64 (D : Int)] W fun e w' => e = .returned (.bool true) ∧ Below W.heap.size W w') := fun W hb => by
              have := showNear_any (fixT ((p + q) / 2) D) (fixT_byt _ _) HLN.out (qS y) F1 F2 (lim (qN y)).length (lim y.den).length l1 l2 y 16 (D : Int) D HD30.out W (YF.out.after hb) (by omega) (by omega)
              rw [near_mid HW.out HY.out.1 HY.out.2] at this
              exact this
            have HNP : Hid (∀ W, Below wc.heap.size wc W → Calls Tryz.prog 16 #[.string (strN (fixT ((p + q) / 2) D)), .agg #[.bool (qS p), .slice C1 (lim (qN p)).length j1, .slice C2 (lim p.den).length j2], .int .i64 (D : Int)] W fun e w' => e = .returned (.bool true) ∧ Below W.heap.size W w') := fun W hb => by
              have := showNear_any (fixT ((p + q) / 2) D) (fixT_byt _ _) HLN.out (qS p) C1 C2 (lim (qN p)).length (lim p.den).length j1 j2 p 9 (D : Int) D HD30.out W (PF.out.after hb) (by omega) (by omega)
              rw [near_mid HW.out (Rat.le_refl) HPQ.out] at this
              exact this
            have HNQ : Hid (∀ W, Below wc.heap.size wc W → Calls Tryz.prog 16 #[.string (strN (fixT ((p + q) / 2) D)), .agg #[.bool (qS q), .slice C3 (lim (qN q)).length j3, .slice C4 (lim q.den).length j4], .int .i64 (D : Int)] W fun e w' => e = .returned (.bool true) ∧ Below W.heap.size W w') := fun W hb => by
              have := showNear_any (fixT ((p + q) / 2) D) (fixT_byt _ _) HLN.out (qS q) C3 C4 (lim (qN q)).length (lim q.den).length j3 j4 q 9 (D : Int) D HD30.out W (QF.out.after hb) (by omega) (by omega)
              rw [near_mid HW.out HPQ.out (Rat.le_refl)] at this
              exact this
            have HHS : Hid (∀ W, Below wc.heap.size wc W → Calls Tryz.prog 24 #[.agg #[.bool (qS p), .slice C1 (lim (qN p)).length j1, .slice C2 (lim p.den).length j2, .bool (qS q), .slice C3 (lim (qN q)).length j3, .slice C4 (lim q.den).length j4], .agg #[.bool (qS y), .slice F1 (lim (qN y)).length l1, .slice F2 (lim y.den).length l2]] W fun e w' => e = .returned (.bool true) ∧ Below W.heap.size W w') := fun W hb => refHas_yes _ _ _ _ _ _ _ _ _ _ _ _ _ _ _ _ _ _ _ _ _ p q y 16 W ((PF.out.after hb).wide (by omega)) ((QF.out.after hb).wide (by omega)) (YF.out.after hb) (by omega) (cmpQ_le HY.out.1) (cmpQ_le HY.out.2)
            clear YF PF QF HLN HD30 HW
            generalize strN (fixT ((p + q) / 2) D) = TXT at *
            have hk10 : Below wc.heap.size wc wc := Below.refl _ _
            have t0 := BY.out.cell 0
            have t1 := BY.out.cell 1
            have t2 := BY.out.cell 2
            go_wp2_with fail
            go_fit (HNR.out _ hk10)
            rintro e w11 ⟨rfl, hb11⟩
            have hk11 : Below wc.heap.size wc w11 := hk10.trans (hb11.mono hk10.size)
            replace BG := Lib.hid (BG.out.below hb11 BG.out.lt)
            replace BY := Lib.hid (BY.out.below hb11 BY.out.lt)
            clear hb11 t0 t1 t2
            have t0 := BY.out.cell 0
            have t1 := BY.out.cell 1
            have t2 := BY.out.cell 2
            go_wp2_with fail
            go_fit (HNY.out _ hk11)
            rintro e w12 ⟨rfl, hb12⟩
            have hk12 : Below wc.heap.size wc w12 := hk11.trans (hb12.mono hk11.size)
            replace BG := Lib.hid (BG.out.below hb12 BG.out.lt)
            replace BY := Lib.hid (BY.out.below hb12 BY.out.lt)
            clear hb12 t0 t1 t2
            have r0 := BG.out.cell 0
            have r1 := BG.out.cell 1
            have r2 := BG.out.cell 2
            go_wp2_with fail
            go_fit (HNP.out _ hk12)
            rintro e w13 ⟨rfl, hb13⟩
            have hk13 : Below wc.heap.size wc w13 := hk12.trans (hb13.mono hk12.size)
            replace BG := Lib.hid (BG.out.below hb13 BG.out.lt)
            replace BY := Lib.hid (BY.out.below hb13 BY.out.lt)
            clear hb13 r0 r1 r2
            have r3 := BG.out.cell 3
            have r4 := BG.out.cell 4
            have r5 := BG.out.cell 5
            go_wp2_with fail
            go_fit (HNQ.out _ hk13)
            rintro e w14 ⟨rfl, hb14⟩
            have hk14 : Below wc.heap.size wc w14 := hk13.trans (hb14.mono hk13.size)
            replace BG := Lib.hid (BG.out.below hb14 BG.out.lt)
            replace BY := Lib.hid (BY.out.below hb14 BY.out.lt)
            clear hb14 r3 r4 r5
            have t0 := BY.out.cell 0
            have t1 := BY.out.cell 1
            have t2 := BY.out.cell 2
            have r0 := BG.out.cell 0
            have r1 := BG.out.cell 1
            have r2 := BG.out.cell 2
            have r3 := BG.out.cell 3
            have r4 := BG.out.cell 4
            have r5 := BG.out.cell 5
            go_wp2_with fail
            go_fit (HHS.out _ hk14)
            rintro e w15 ⟨rfl, hb15⟩
            have hk15 : Below wc.heap.size wc w15 := hk14.trans (hb15.mono hk14.size)
            replace BG := Lib.hid (BG.out.below hb15 BG.out.lt)
            replace BY := Lib.hid (BY.out.below hb15 BY.out.lt)
            clear hb15 t0 t1 t2 r0 r1 r2 r3 r4 r5
            go_wp2_with fail
            go_fit (known20_any _)
            rintro e w16 ⟨rfl, hb16⟩
            have hk16 : Below wc.heap.size wc w16 := hk15.trans (hb16.mono hk15.size)
            have HBF := Lib.hid (HB.out.trans (hk16.mono HB.out.size))
            clear hk10 hk11 hk12 hk13 hk14 hk15 hk16 HB
            go_wp2_with fail
            go_ret
            exact ⟨rfl, HBF.out⟩
  · clear hb
    go_wp2_with fail
    go_ret
    exact ⟨rfl, HB.out⟩
end Go.Proofs.YtobmjcbjailclaaGreatDoor

/- The walk, at what the frame gives. Condition: none. -/
namespace Go.Proofs.YtobmjcbjailclaaGreatDoor
open Go.RowKit Go.Shelf
theorem lawShowNear_int (u : Value) (s : Bool) (n m : List Nat) (z d i : Int) (w : World) (dn : Dig n) (dm : Dig m) (R : Rt w 0 w.heap.size u s n m) (hz : (Lit.int .u32 z).wf = true) :
    Calls Tryz.prog 5 #[u, .int .u32 z, .int .i64 d, .int .i64 i] w fun e w' => e = .returned (.bool true) ∧ Below w.heap.size w w' := by
  have hz' : 0 ≤ z ∧ z < 4294967296 := by
    have := Go.bounds_u32 hz
    omega
  obtain ⟨x, rfl⟩ : ∃ x : Nat, z = (x : Int) := ⟨z.toNat, by omega⟩
  exact lawShowNear_any u s n m x d i w dn dm R (by omega)
end Go.Proofs.YtobmjcbjailclaaGreatDoor
