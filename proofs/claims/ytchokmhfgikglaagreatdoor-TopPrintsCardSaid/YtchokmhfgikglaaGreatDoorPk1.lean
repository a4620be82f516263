/- Several texts in one: Nums. Condition: each says its own. -/
namespace Go.Proofs.YtchokmhfgikglaaGreatDoor

/-- The number of a row of limbs. -/
def val : List Nat → Nat
  | [] => 0
  | x :: r => x + 4294967296 * val r

/-- Each limb has 32 bits. -/
def Dig (l : List Nat) : Prop := ∀ n ∈ l, n < 4294967296

/-- The last limb is not 0. -/
def Canon (l : List Nat) : Prop := ∀ x r, l = r ++ [x] → x ≠ 0

/-- A number's limbs. -/
def lim (n : Nat) : List Nat := if h : n = 0 then [] else (n % 4294967296) :: lim (n / 4294967296)
termination_by n
decreasing_by omega

theorem lim_zero : lim 0 = [] := by rw [lim]; rfl
theorem lim_pos {n : Nat} (h : n ≠ 0) : lim n = (n % 4294967296) :: lim (n / 4294967296) := by rw [lim, dif_neg h]

theorem val_lim (n : Nat) : val (lim n) = n := by
  induction n using Nat.strongRecOn with
  | _ n ih =>
    by_cases h : n = 0
    · subst h; rw [lim_zero]; rfl
    · rw [lim_pos h, val, ih _ (by omega)]; omega

theorem dig_lim (n : Nat) : Dig (lim n) := by
  induction n using Nat.strongRecOn with
  | _ n ih =>
    by_cases h : n = 0
    · subst h; rw [lim_zero]; intro x hx; cases hx
    · rw [lim_pos h]
      intro x hx
      rcases List.mem_cons.1 hx with rfl | hx
      · exact Nat.mod_lt _ (by omega)
      · exact ih _ (by omega) x hx

theorem Dig.nil : Dig [] := fun _ h => by cases h
theorem Dig.cons {x : Nat} {l : List Nat} (hx : x < 4294967296) (h : Dig l) : Dig (x :: l) := fun y hy => by
  rcases List.mem_cons.1 hy with rfl | hy
  · exact hx
  · exact h y hy
theorem Dig.tail {x : Nat} {l : List Nat} (h : Dig (x :: l)) : Dig l := fun y hy => h y (List.mem_cons_of_mem _ hy)
theorem Dig.head {x : Nat} {l : List Nat} (h : Dig (x :: l)) : x < 4294967296 := h x (List.mem_cons_self ..)
theorem Dig.append {a b : List Nat} (ha : Dig a) (hb : Dig b) : Dig (a ++ b) := fun y hy => by
  rcases List.mem_append.1 hy with h | h
  · exact ha y h
  · exact hb y h
theorem Dig.take {l : List Nat} (h : Dig l) (k : Nat) : Dig (l.take k) := fun y hy => h y (List.mem_of_mem_take hy)
theorem Dig.drop {l : List Nat} (h : Dig l) (k : Nat) : Dig (l.drop k) := fun y hy => h y (List.mem_of_mem_drop hy)
theorem Dig.set {l : List Nat} (h : Dig l) (k x : Nat) (hx : x < 4294967296) : Dig (l.set k x) := fun y hy => by
  rcases List.mem_or_eq_of_mem_set hy with h' | rfl
  · exact h y h'
  · exact hx
theorem Dig.at {l : List Nat} (h : Dig l) {k : Nat} (hk : k < l.length) : l[k] < 4294967296 := h _ (List.getElem_mem hk)
theorem dig_zeros (n : Nat) : Dig (List.replicate n 0) := fun x hx => by rw [(List.mem_replicate.1 hx).2]; omega

theorem val_append (a b : List Nat) : val (a ++ b) = val a + 4294967296 ^ a.length * val b := by
  induction a with
  | nil => simp [val]
  | cons x r ih => simp only [List.cons_append, val, ih, List.length_cons, Nat.pow_succ]; rw [Nat.mul_add]; grind

theorem val_zeros (n : Nat) : val (List.replicate n 0) = 0 := by
  induction n with
  | zero => rfl
  | succ n ih => rw [List.replicate_succ, val, ih]

theorem val_lt {l : List Nat} (h : Dig l) : val l < 4294967296 ^ l.length := by
  induction l with
  | nil => simp [val]
  | cons x r ih =>
    have h1 := h.head
    have h2 := ih h.tail
    rw [val, List.length_cons, Nat.pow_succ]
    have : val r + 1 ≤ 4294967296 ^ r.length := h2
    have := Nat.mul_le_mul_left 4294967296 this
    rw [Nat.mul_comm (4294967296 ^ r.length)]
    omega

/-- One limb more. -/
theorem val_take_succ (l : List Nat) (k : Nat) (h : k < l.length) : val (l.take (k + 1)) = val (l.take k) + 4294967296 ^ k * l[k] := by
  rw [List.take_add_one, List.getElem?_eq_getElem h]
  show val (l.take k ++ [l[k]]) = _
  rw [val_append, List.length_take, Nat.min_eq_left (by omega)]
  simp [val]

theorem Canon.nil : Canon [] := fun x r h => by simp at h
theorem Canon.tail {x : Nat} {l : List Nat} (h : Canon (x :: l)) : Canon l := fun y r e => h y (x :: r) (by rw [e]; rfl)

theorem canon_val_pos {l : List Nat} (h : Canon l) (hl : l ≠ []) : val l ≠ 0 := by
  induction l with
  | nil => exact absurd rfl hl
  | cons x r ih =>
    rw [val]
    by_cases hr : r = []
    · subst hr
      have := h x [] rfl
      simp [val]; exact this
    · have := ih h.tail hr
      omega

/-- Limbs without noughts at their end are their number's. -/
theorem lim_val {l : List Nat} (hd : Dig l) (hc : Canon l) : lim (val l) = l := by
  induction l with
  | nil => exact lim_zero
  | cons x r ih =>
    have h0 := canon_val_pos hc (by simp)
    have hx := hd.head
    rw [lim_pos h0, val]
    have e1 : (x + 4294967296 * val r) % 4294967296 = x := by omega
    have e2 : (x + 4294967296 * val r) / 4294967296 = val r := by omega
    rw [e1, e2, ih hd.tail hc.tail]

theorem canon_lim (n : Nat) : Canon (lim n) := by
  induction n using Nat.strongRecOn with
  | _ n ih =>
    by_cases h : n = 0
    · subst h; rw [lim_zero]; exact Canon.nil
    · rw [lim_pos h]
      intro x r e
      cases r with
      | nil =>
        simp at e
        have h2 : n / 4294967296 = 0 := by
          rcases Nat.eq_zero_or_pos (n / 4294967296) with h3 | h3
          · exact h3
          · have := lim_pos (n := n / 4294967296) (by omega)
            rw [e.2] at this
            cases this
        omega
      | cons y s =>
        simp at e
        exact ih _ (by omega) x s e.2

theorem canon_of_last {l : List Nat} (h : l = [] ∨ ∃ h : 0 < l.length, l[l.length - 1] ≠ 0) : Canon l := by
  rcases h with rfl | ⟨h, hn⟩
  · exact Canon.nil
  · intro x r e
    subst e
    simpa using hn

/-- How many limbs a number has. -/
theorem lim_length_le {n k : Nat} (h : n < 4294967296 ^ k) : (lim n).length ≤ k := by
  induction k generalizing n with
  | zero =>
    have : n = 0 := by simp at h; exact h
    subst this; rw [lim_zero]; simp
  | succ k ih =>
    by_cases h0 : n = 0
    · subst h0; rw [lim_zero]; simp
    · rw [lim_pos h0, List.length_cons]
      have : n / 4294967296 < 4294967296 ^ k := by
        rw [Nat.div_lt_iff_lt_mul (by omega)]
        rw [Nat.pow_succ] at h
        exact h
      have := ih this
      omega

theorem lim_length_lt {n k : Nat} (h : 4294967296 ^ k ≤ n) : k < (lim n).length := by
  rcases Nat.lt_or_ge k (lim n).length with h1 | h1
  · exact h1
  · have h2 := val_lt (dig_lim n)
    rw [val_lim] at h2
    have := Nat.pow_le_pow_right (n := 4294967296) (by omega) h1
    omega

theorem lim_eq_nil {n : Nat} : lim n = [] ↔ n = 0 := by
  constructor
  · intro h
    have := val_lim n
    rw [h] at this
    exact this.symm
  · rintro rfl; exact lim_zero

/-- A number's trimmed limbs are the first ones of any row that tells it. -/
theorem lim_val_take {l : List Nat} (hd : Dig l) {k : Nat} (hz : val l = val (l.take k)) (hc : Canon (l.take k)) : lim (val l) = l.take k := by
  rw [hz]; exact lim_val (hd.take k) hc

theorem lim_val_length (l : List Nat) (hd : Dig l) : (lim (val l)).length ≤ l.length := lim_length_le (val_lt hd)

/-- The number of a row of 2 parts. -/
theorem val_split (l : List Nat) (k : Nat) (hk : k ≤ l.length) : val l = val (l.take k) + 4294967296 ^ k * val (l.drop k) := by
  have := val_append (l.take k) (l.drop k)
  rw [List.take_append_drop, List.length_take, Nat.min_eq_left hk] at this
  exact this

theorem val_set_take (l : List Nat) (k x : Nat) (h : k < l.length) : val ((l.set k x).take (k + 1)) = val (l.take k) + 4294967296 ^ k * x := by
  rw [val_take_succ _ k (by simpa using h)]
  simp [List.take_set_of_le]


/-- A number in lowest terms: its sign, what is divided, the divisor. -/
def nrS (s : Bool) (n d : Nat) : Bool := if n = 0 ∨ d = 0 then false else s
def nrN (n d : Nat) : Nat := if n = 0 ∨ d = 0 then 0 else n / Nat.gcd n d
def nrD (n d : Nat) : Nat := if n = 0 ∨ d = 0 then 1 else d / Nat.gcd n d

theorem nr_zero {s : Bool} {n d : Nat} (h : n = 0 ∨ d = 0) : nrS s n d = false ∧ nrN n d = 0 ∧ nrD n d = 1 := by
  unfold nrS nrN nrD
  rw [if_pos h, if_pos h, if_pos h]
  exact ⟨rfl, rfl, rfl⟩

theorem nr_some {s : Bool} {n d : Nat} (hn : n ≠ 0) (hd : d ≠ 0) : nrS s n d = s ∧ nrN n d = n / Nat.gcd n d ∧ nrD n d = d / Nat.gcd n d := by
  have h : ¬ (n = 0 ∨ d = 0) := by omega
  unfold nrS nrN nrD
  rw [if_neg h, if_neg h, if_neg h]
  exact ⟨rfl, rfl, rfl⟩

theorem nrD_pos (n d : Nat) : 0 < nrD n d := by
  by_cases h : n = 0 ∨ d = 0
  · rw [(nr_zero (s := false) h).2.2]; omega
  · rw [(nr_some (s := false) (by omega : n ≠ 0) (by omega : d ≠ 0)).2.2]
    have hd : 0 < d := by omega
    exact Nat.div_pos (Nat.gcd_le_right _ hd) (Nat.gcd_pos_of_pos_right _ hd)

theorem nrN_le (n d : Nat) : nrN n d ≤ n := by
  unfold nrN
  split
  · omega
  · exact Nat.div_le_self _ _

theorem nrD_le {n d m : Nat} (h : d ≤ m) (h1 : 1 ≤ m) : nrD n d ≤ m := by
  unfold nrD
  split
  · exact h1
  · exact Nat.le_trans (Nat.div_le_self _ _) h

theorem nrN_zero {n d : Nat} : nrN n d = 0 ↔ n = 0 ∨ d = 0 := by
  constructor
  · intro h
    refine Classical.byContradiction fun hc => ?_
    rw [(nr_some (s := false) (by omega : n ≠ 0) (by omega : d ≠ 0)).2.1] at h
    have hn : 0 < n := by omega
    have := Nat.div_pos (Nat.gcd_le_left d hn) (Nat.gcd_pos_of_pos_left d hn)
    omega
  · intro h
    exact (nr_zero (s := false) h).2.1

theorem nr_low {s : Bool} {n d : Nat} (h : Nat.gcd n d = 1) (hn : n ≠ 0) (hd : d ≠ 0) : nrS s n d = s ∧ nrN n d = n ∧ nrD n d = d := by
  have := nr_some (s := s) hn hd
  rw [h, Nat.div_one, Nat.div_one] at this
  exact this

/-- -1, 0 or 1: which of two whole numbers is greater. -/
def cmpI (a b : Int) : Int := if a < b then -1 else if b < a then 1 else 0

/-- A whole number with a sign. -/
def sg (s : Bool) (n : Nat) : Int := if s then -(n : Int) else (n : Int)

/-- A sum with signs: its sign, how great it is. -/
def addS (s t : Bool) (p q : Nat) : Bool := if s = t then s else if q ≤ p then s else t
def addN (s t : Bool) (p q : Nat) : Nat := if s = t then p + q else if q ≤ p then p - q else q - p

theorem addN_le (s t : Bool) (p q : Nat) : addN s t p q ≤ p + q := by
  unfold addN
  split
  · omega
  · split <;> omega


theorem pow_pos' (k : Nat) : 0 < 4294967296 ^ k := Nat.pow_pos (by omega)

/-- A limb behind the end counts for nothing. -/
theorem val_take_getD (l : List Nat) (k : Nat) : val (l.take (k + 1)) = val (l.take k) + 4294967296 ^ k * l.getD k 0 := by
  by_cases h : k < l.length
  · rw [val_take_succ l k h, List.getD_eq_getElem?_getD, List.getElem?_eq_getElem h]; rfl
  · rw [List.take_of_length_le (by omega), List.take_of_length_le (by omega), List.getD_eq_getElem?_getD, List.getElem?_eq_none (by omega)]; simp

theorem dig_getD {l : List Nat} (h : Dig l) (k : Nat) : l.getD k 0 < 4294967296 := by
  by_cases hk : k < l.length
  · rw [List.getD_eq_getElem?_getD, List.getElem?_eq_getElem hk]; exact h.at hk
  · rw [List.getD_eq_getElem?_getD, List.getElem?_eq_none (by omega)]; simp

theorem carry_eq {P d q s : Nat} (h : s = d + 4294967296 * q) : P * d + P * 4294967296 * q = P * s := by
  rw [h, Nat.mul_add, Nat.mul_assoc]

theorem step_eq {P c x y d q va vb vc : Nat} (h : vc + P * c = va + vb) (hs : c + x + y = d + 4294967296 * q) : vc + P * d + P * 4294967296 * q = va + P * x + (vb + P * y) := by
  have := carry_eq (P := P) hs
  rw [Nat.mul_add, Nat.mul_add] at this
  omega

theorem end_eq {P c va vb vc PA PB : Nat} (h : vc + P * 4294967296 * c = va + vb) (h1 : va < PA) (h2 : vb < PB) (h3 : PA ≤ P) (h4 : PB ≤ P) : vc = va + vb := by
  rcases Nat.eq_zero_or_pos c with h0 | h0
  · rw [h0, Nat.mul_zero, Nat.add_zero] at h
    exact h
  · have : P * 4294967296 ≤ P * 4294967296 * c := Nat.le_mul_of_pos_right _ h0
    generalize P * 4294967296 * c = Z at *
    omega

/-- The state of an addition behind k rounds: k limbs of the sum lie in c, the rest is the carry. -/
def AddAt (a b c : List Nat) (carry k : Nat) : Prop :=
  val (c.take k) + 4294967296 ^ k * carry = val (a.take k) + val (b.take k)

theorem addAt_zero (a b c : List Nat) : AddAt a b c 0 0 := by simp [AddAt, val]

theorem addAt_step {a b c : List Nat} {carry k t : Nat} (h : AddAt a b c carry k) (hk : k < c.length) (ht : t = carry + a.getD k 0 + b.getD k 0) :
    AddAt a b (c.set k (t % 4294967296)) (t / 4294967296) (k + 1) := by
  unfold AddAt at h ⊢
  rw [val_set_take _ _ _ hk, val_take_getD, val_take_getD, Nat.pow_succ]
  exact step_eq h (by rw [← ht]; omega)

/-- An addition that has gone through both. -/
theorem addAt_end {a b c : List Nat} {carry k : Nat} (h : AddAt a b c carry k) (ha : a.length ≤ k) (hb : b.length ≤ k) (hk : k < c.length) :
    val ((c.set k carry).take (k + 1)) = val a + val b := by
  unfold AddAt at h
  rw [val_set_take _ _ _ hk, h, List.take_of_length_le ha, List.take_of_length_le hb]

/-- The same where limbs are laid one by one. -/
def SumAt (a b c : List Nat) (carry k : Nat) : Prop :=
  c.length = k ∧ val c + 4294967296 ^ k * carry = val (a.take k) + val (b.take k)

theorem sumAt_step {a b c : List Nat} {carry k t : Nat} (h : SumAt a b c carry k) (ht : t = carry + a.getD k 0 + b.getD k 0) :
    SumAt a b (c ++ [t % 4294967296]) (t / 4294967296) (k + 1) := by
  obtain ⟨hl, h⟩ := h
  refine ⟨by simp [hl], ?_⟩
  rw [val_append, hl, val_take_getD, val_take_getD, Nat.pow_succ]
  have e0 : val [t % 4294967296] = t % 4294967296 := by simp [val]
  rw [e0]
  exact step_eq h (by rw [← ht]; omega)

/-- Behind the last limb nothing is carried. -/
theorem sumAt_end {a b c : List Nat} {carry k : Nat} (hda : Dig a) (hdb : Dig b) (h : SumAt a b c carry (k + 1)) (ha : a.length ≤ k) (hb : b.length ≤ k) : val c = val a + val b := by
  obtain ⟨hl, h⟩ := h
  rw [List.take_of_length_le (by omega), List.take_of_length_le (by omega)] at h
  rw [Nat.pow_succ] at h
  exact end_eq h (val_lt hda) (val_lt hdb) (Nat.pow_le_pow_right (by omega) ha) (Nat.pow_le_pow_right (by omega) hb)


/-- One limb laid anew. -/
theorem val_set (l : List Nat) (j d : Nat) (h : j < l.length) : val (l.set j d) + 4294967296 ^ j * l.getD j 0 = val l + 4294967296 ^ j * d := by
  have h1 := val_split l (j + 1) h
  have h2 := val_split (l.set j d) (j + 1) (by rw [List.length_set]; exact h)
  rw [val_set_take l j d h] at h2
  rw [val_take_getD] at h1
  have h3 : (l.set j d).drop (j + 1) = l.drop (j + 1) := by rw [List.drop_set_of_lt (by omega)]
  rw [h3] at h2
  generalize 4294967296 ^ (j + 1) * val (l.drop (j + 1)) = Z at *
  generalize 4294967296 ^ j * l.getD j 0 = X at *
  generalize 4294967296 ^ j * d = Y at *
  omega

def MulIn (p q cs : List Nat) (i t k : Nat) : Prop :=
  val cs + 4294967296 ^ (i + k) * t = val (p.take i) * val q + 4294967296 ^ i * (p.getD i 0 * val (q.take k))

theorem mulIn_zero {p q cs : List Nat} {i : Nat} (h : val cs = val (p.take i) * val q) : MulIn p q cs i 0 0 := by
  unfold MulIn
  rw [h]
  simp [val]

theorem mul_step_eq {va vb P Q x y z t d c X : Nat} (h1 : va + P * t = X + Q) (h2 : vb + P * z = va + P * d) (h3 : t + x * y + z = d + 4294967296 * c) : vb + P * 4294967296 * c = X + (Q + P * (x * y)) := by
  have h4 := carry_eq (P := P) h3
  rw [Nat.mul_add, Nat.mul_add] at h4
  generalize P * (x * y) = A at *
  generalize P * t = B at *
  generalize P * z = C at *
  generalize P * d = D at *
  generalize P * 4294967296 * c = E at *
  omega

theorem mulIn_step {p q cs : List Nat} {i t k s : Nat} (h : MulIn p q cs i t k) (hk : i + k < cs.length) (hs : s = t + p.getD i 0 * q.getD k 0 + cs.getD (i + k) 0) :
    MulIn p q (cs.set (i + k) (s % 4294967296)) i (s / 4294967296) (k + 1) := by
  unfold MulIn at h ⊢
  have h2 := val_set cs (i + k) (s % 4294967296) hk
  have h3 : t + p.getD i 0 * q.getD k 0 + cs.getD (i + k) 0 = s % 4294967296 + 4294967296 * (s / 4294967296) := by rw [← hs]; omega
  have h4 := mul_step_eq h h2 h3
  have e1 : 4294967296 ^ (i + (k + 1)) = 4294967296 ^ (i + k) * 4294967296 := by rw [← Nat.add_assoc, Nat.pow_succ]
  rw [e1, h4, val_take_getD, Nat.mul_add, Nat.mul_add]
  have e2 : 4294967296 ^ i * (p.getD i 0 * (4294967296 ^ k * q.getD k 0)) = 4294967296 ^ (i + k) * (p.getD i 0 * q.getD k 0) := by rw [Nat.pow_add]; ac_rfl
  rw [e2]

/-- A row is through: what is carried is laid, or there is nothing to lay. -/
theorem mulIn_end {p q cs : List Nat} {i t k : Nat} (h : MulIn p q cs i t k) (hk : q.length ≤ k) : val cs + 4294967296 ^ (i + k) * t = val (p.take (i + 1)) * val q := by
  unfold MulIn at h
  rw [h, List.take_of_length_le hk, val_take_getD, Nat.add_mul]
  congr 1
  ac_rfl

theorem mulIn_done {p q cs : List Nat} {i k : Nat} (h : MulIn p q cs i 0 k) (hk : q.length ≤ k) : val cs = val (p.take (i + 1)) * val q := by
  have := mulIn_end h hk
  rw [Nat.mul_zero, Nat.add_zero] at this
  exact this

/-- Behind the last place nothing is carried. -/
theorem mulIn_full {p q cs : List Nat} {i t k : Nat} (hp : Dig p) (hq : Dig q) (h : MulIn p q cs i t k) (hk : q.length ≤ k) (hi : i < p.length) (hl : p.length + q.length ≤ i + k) : t = 0 := by
  have h1 := mulIn_end h hk
  have h2 := val_lt (hp.take (i + 1))
  have h3 := val_lt hq
  have h4 : (p.take (i + 1)).length = i + 1 := by rw [List.length_take]; omega
  rw [h4] at h2
  have h5 : val (p.take (i + 1)) * val q < 4294967296 ^ (i + 1) * 4294967296 ^ q.length := by
    rcases Nat.eq_zero_or_pos (val q) with h0 | h0
    · rw [h0, Nat.mul_zero]; exact Nat.mul_pos (pow_pos' _) (pow_pos' _)
    · exact Nat.mul_lt_mul_of_lt_of_le h2 (Nat.le_of_lt h3) (pow_pos' _)
  rw [← Nat.pow_add] at h5
  have h6 : 4294967296 ^ (i + 1 + q.length) ≤ 4294967296 ^ (i + k) := Nat.pow_le_pow_right (by omega) (by omega)
  rcases Nat.eq_zero_or_pos t with h0 | h0
  · exact h0
  · have h7 : 4294967296 ^ (i + k) ≤ 4294967296 ^ (i + k) * t := Nat.le_mul_of_pos_right _ h0
    generalize 4294967296 ^ (i + k) * t = Z at *
    generalize 4294967296 ^ (i + k) = Y at *
    generalize 4294967296 ^ (i + 1 + q.length) = X at *
    omega

theorem mul_carry {a b c d : Nat} (ha : a < 4294967296) (hb : b < 4294967296) (hc : c < 4294967296) (hd : d < 4294967296) : a + b * c + d < 18446744073709551616 ∧ (a + b * c + d) / 4294967296 < 4294967296 ∧ b * c ≤ 18446744065119617025 := by
  have := Nat.mul_le_mul (show b ≤ 4294967295 by omega) (show c ≤ 4294967295 by omega)
  generalize b * c = Z at *
  omega

/-- What is carried is laid where a nought was. -/
theorem val_set_zero {cs : List Nat} {j t : Nat} (hj : j < cs.length) (h : cs.getD j 0 = 0) : val (cs.set j t) = val cs + 4294967296 ^ j * t := by
  have := val_set cs j t hj
  rw [h, Nat.mul_zero, Nat.add_zero] at this
  exact this

/-- From place n on there are noughts. -/
def Bare (cs : List Nat) (n : Nat) : Prop := ∀ j, n ≤ j → cs.getD j 0 = 0
theorem bare_zeros (m n : Nat) : Bare (List.replicate m 0) n := by
  intro j _
  rw [List.getD_eq_getElem?_getD]
  by_cases h : j < m
  · rw [List.getElem?_eq_getElem (by simpa using h)]; simp
  · rw [List.getElem?_eq_none (by simpa using h)]; rfl
theorem Bare.set {cs : List Nat} {n : Nat} (h : Bare cs n) {j d : Nat} (hj : j < n) : Bare (cs.set j d) n := by
  intro i hi
  rw [List.getD_eq_getElem?_getD, List.getElem?_set_ne (by omega), ← List.getD_eq_getElem?_getD]
  exact h i hi
theorem Bare.more {cs : List Nat} {n m : Nat} (h : Bare cs n) (hm : n ≤ m) : Bare cs m := fun j hj => h j (by omega)


/-- -1, 0 or 1. -/
def cmpN (m n : Nat) : Int := if m < n then -1 else if n < m then 1 else 0

theorem cmpN_lt {m n : Nat} (h : m < n) : cmpN m n = -1 := if_pos h
theorem cmpN_gt {m n : Nat} (h : n < m) : cmpN m n = 1 := by unfold cmpN; rw [if_neg (by omega), if_pos h]
theorem cmpN_eq {m n : Nat} (h : m = n) : cmpN m n = 0 := by unfold cmpN; rw [if_neg (by omega), if_neg (by omega)]
theorem cmpN_neg {m n : Nat} : (cmpN m n < 0) ↔ m < n := by
  unfold cmpN
  by_cases h : m < n
  · rw [if_pos h]; simp [h]
  · rw [if_neg h]
    by_cases h2 : n < m
    · rw [if_pos h2]; simp [h]
    · rw [if_neg h2]; simp [h]

theorem lim_ge {n k : Nat} (h : k < (lim n).length) : 4294967296 ^ k ≤ n := by
  refine Nat.le_of_not_lt fun hc => ?_
  have := lim_length_le hc
  omega

theorem lim_len_lt {m n : Nat} (h : (lim m).length < (lim n).length) : m < n := by
  have h1 := lim_ge h
  have h2 := val_lt (dig_lim m)
  rw [val_lim] at h2
  omega

theorem cmp_at {p q : List Nat} {j : Nat} (hp : Dig p) (hj : j < p.length) (hk : j < q.length) (hlt : p[j] < q[j]) (hd : p.drop (j + 1) = q.drop (j + 1)) : val p < val q := by
  have h1 := val_split p (j + 1) hj
  have h2 := val_split q (j + 1) hk
  rw [hd] at h1
  rw [val_take_succ p j hj] at h1
  rw [val_take_succ q j hk] at h2
  have h3 := val_lt (hp.take j)
  have h4 : (p.take j).length = j := by rw [List.length_take]; omega
  rw [h4] at h3
  have h5 : 4294967296 ^ j * (p[j] + 1) ≤ 4294967296 ^ j * q[j] := Nat.mul_le_mul_left _ hlt
  rw [Nat.mul_add, Nat.mul_one] at h5
  generalize 4294967296 ^ (j + 1) * val (q.drop (j + 1)) = Z at *
  generalize 4294967296 ^ j * p[j] = X at *
  generalize 4294967296 ^ j * q[j] = Y at *
  generalize 4294967296 ^ j = P at *
  omega

theorem drop_at {p q : List Nat} {j : Nat} (hj : j < p.length) (hk : j < q.length) (he : p[j] = q[j]) (hd : p.drop (j + 1) = q.drop (j + 1)) : p.drop j = q.drop j := by
  rw [List.drop_eq_getElem_cons hj, List.drop_eq_getElem_cons hk, he, hd]


theorem borrow_tbl (a b c : Nat) (ha : a = 0 ∨ a = 1) (hb : b = 0 ∨ b = 1) (hc : c = 0 ∨ c = 1) : (((1 ^^^ a) &&& b) ||| ((1 ^^^ (a ^^^ b)) &&& c)) = if a < b then 1 else if b < a then 0 else c := by
  rcases ha with rfl | rfl <;> rcases hb with rfl | rfl <;> rcases hc with rfl | rfl <;> decide
theorem borrow_bits (x y d : Nat) : (((4294967295 ^^^ x) &&& y) ||| ((4294967295 ^^^ (x ^^^ y)) &&& d)) / 2 ^ 31 =
      ((1 ^^^ (x / 2 ^ 31)) &&& (y / 2 ^ 31)) ||| ((1 ^^^ ((x / 2 ^ 31) ^^^ (y / 2 ^ 31))) &&& (d / 2 ^ 31)) := by
    rw [Nat.or_div_two_pow, Nat.and_div_two_pow, Nat.and_div_two_pow, Nat.xor_div_two_pow, Nat.xor_div_two_pow, Nat.xor_div_two_pow]
theorem top_cases {n : Nat} (h : n < 4294967296) : n / 2147483648 = 0 ∨ n / 2147483648 = 1 := by omega
theorem borrow_num (x y b d : Nat) (hx : x < 4294967296) (hy : y < 4294967296) (hb : b ≤ 1) (hd : d = (x + 8589934592 - y - b) % 4294967296) :
    (if x / 2147483648 < y / 2147483648 then 1 else if y / 2147483648 < x / 2147483648 then 0 else d / 2147483648) = if x < y + b then 1 else 0 := by
  by_cases h1 : x / 2147483648 < y / 2147483648
  · rw [if_pos h1, if_pos (by omega)]
  · rw [if_neg h1]
    by_cases h2 : y / 2147483648 < x / 2147483648
    · rw [if_pos h2, if_neg (by omega)]
    · rw [if_neg h2]
      by_cases h : x < y + b
      · rw [if_pos h]; omega
      · rw [if_neg h]; omega
theorem borrow_eq (x y b d : Nat) (hx : x < 4294967296) (hy : y < 4294967296) (hb : b ≤ 1) (hd : d = (x + 8589934592 - y - b) % 4294967296) :
    (((4294967295 ^^^ x) &&& y) ||| ((4294967295 ^^^ (x ^^^ y)) &&& d)) / 2147483648 = if x < y + b then 1 else 0 := by
  have hd' : d < 4294967296 := by omega
  have := borrow_bits x y d
  have e : (2 : Nat) ^ 31 = 2147483648 := by decide
  rw [e, borrow_tbl _ _ _ (top_cases hx) (top_cases hy) (top_cases hd')] at this
  rw [this]
  exact borrow_num x y b d hx hy hb hd

/-- The state of a subtraction behind k rounds. -/
def SubAt (p q c : List Nat) (b k : Nat) : Prop := val (c.take k) + val (q.take k) = val (p.take k) + 4294967296 ^ k * b

theorem subAt_zero (p q c : List Nat) : SubAt p q c 0 0 := by simp [SubAt, val]

theorem sub_step_eq {P vc vq vp b d y x b' : Nat} (h : vc + vq = vp + P * b) (hs : d + y + b = x + 4294967296 * b') : vc + P * d + (vq + P * y) = vp + P * x + P * 4294967296 * b' := by
  have h1 : P * (d + y + b) = P * (x + 4294967296 * b') := by rw [hs]
  rw [Nat.mul_add, Nat.mul_add, Nat.mul_add, ← Nat.mul_assoc] at h1
  generalize P * d = D at *
  generalize P * y = Y at *
  generalize P * b = Z at *
  generalize P * x = X at *
  generalize P * 4294967296 * b' = W at *
  omega

theorem sub_digit {x y b : Nat} (hx : x < 4294967296) (hy : y < 4294967296) (hb : b ≤ 1) : (x + 8589934592 - y - b) % 4294967296 + y + b = x + 4294967296 * (if x < y + b then 1 else 0) := by
  by_cases h : x < y + b
  · rw [if_pos h]; omega
  · rw [if_neg h]; omega

theorem subAt_step {p q c : List Nat} {b k : Nat} (hp : Dig p) (hq : Dig q) (h : SubAt p q c b k) (hk : k < c.length) (hb : b ≤ 1) :
    SubAt p q (c.set k ((p.getD k 0 + 8589934592 - q.getD k 0 - b) % 4294967296)) (if p.getD k 0 < q.getD k 0 + b then 1 else 0) (k + 1) := by
  unfold SubAt at h ⊢
  rw [val_set_take _ _ _ hk, val_take_getD, val_take_getD, Nat.pow_succ]
  exact sub_step_eq h (sub_digit (dig_getD hp k) (dig_getD hq k) hb)

theorem val_one (n : Nat) : val [n] = n := by simp [val]

/-- The same where limbs are laid one by one. -/
def SubIn (p q c : List Nat) (b k : Nat) : Prop := c.length = k ∧ val c + val (q.take k) = val (p.take k) + 4294967296 ^ k * b

theorem subIn_step {p q c : List Nat} {b k : Nat} (hp : Dig p) (hq : Dig q) (h : SubIn p q c b k) (hb : b ≤ 1) :
    SubIn p q (c ++ [(p.getD k 0 + 8589934592 - q.getD k 0 - b) % 4294967296]) (if p.getD k 0 < q.getD k 0 + b then 1 else 0) (k + 1) := by
  obtain ⟨hl, h⟩ := h
  refine ⟨by simp [hl], ?_⟩
  rw [val_append, hl, val_take_getD, val_take_getD, Nat.pow_succ]
  rw [val_one]
  exact sub_step_eq h (sub_digit (dig_getD hp k) (dig_getD hq k) hb)

/-- What is left of the lesser number behind the greater one's limbs is nothing. -/
theorem val_take_all {q : List Nat} {n : Nat} (h : val q < 4294967296 ^ n) : val (q.take n) = val q := by
  by_cases hn : n ≤ q.length
  · have h1 := val_split q n hn
    rcases Nat.eq_zero_or_pos (val (q.drop n)) with h0 | h0
    · rw [h0, Nat.mul_zero, Nat.add_zero] at h1; exact h1.symm
    · have h2 : 4294967296 ^ n ≤ 4294967296 ^ n * val (q.drop n) := Nat.le_mul_of_pos_right _ h0
      generalize 4294967296 ^ n * val (q.drop n) = Z at *
      omega
  · rw [List.take_of_length_le (by omega)]

theorem sub_end_eq {c p q P b : Nat} (h : c + q = p + P * b) (hle : q ≤ p) (hc : c < P) : c = p - q := by
  rcases Nat.eq_zero_or_pos b with h0 | h0
  · rw [h0, Nat.mul_zero] at h; omega
  · have : P ≤ P * b := Nat.le_mul_of_pos_right _ h0
    generalize P * b = Z at *
    omega

theorem subAt_end {p q c : List Nat} {b : Nat} (hp : Dig p) (hd : Dig c) (h : SubAt p q c b p.length) (hl : c.length = p.length) (hle : val q ≤ val p) : val c = val p - val q := by
  unfold SubAt at h
  have h1 := val_lt hp
  rw [val_take_all (by omega : val q < 4294967296 ^ p.length), List.take_length, List.take_of_length_le (by omega)] at h
  have h2 := val_lt hd
  rw [hl] at h2
  exact sub_end_eq h hle h2

theorem subIn_end {p q c : List Nat} {b : Nat} (hp : Dig p) (hd : Dig c) (h : SubIn p q c b p.length) (hle : val q ≤ val p) : val c = val p - val q := by
  obtain ⟨hl, h⟩ := h
  have h1 := val_lt hp
  rw [val_take_all (by omega : val q < 4294967296 ^ p.length), List.take_length] at h
  have h2 := val_lt hd
  rw [hl] at h2
  exact sub_end_eq h hle h2


theorem two_pow_le {s : Nat} (h : s ≤ 31) : 2 ^ s ≤ 2147483648 := by
  have : 2 ^ s ≤ 2 ^ 31 := Nat.pow_le_pow_right (by omega) h
  have e : (2 : Nat) ^ 31 = 2147483648 := by decide
  omega

theorem base_split {s : Nat} (h : s ≤ 32) : (4294967296 : Nat) = 2 ^ s * 2 ^ (32 - s) := by
  rw [← Nat.pow_add]
  have : s + (32 - s) = 32 := by omega
  rw [this]

/-- A multiple of a power of two, and what is less than the power: laid together they are the sum. -/
theorem or_add {m h s : Nat} (hh : h < 2 ^ s) (hm : 2 ^ s ∣ m) : h ||| m = m + h := by
  obtain ⟨q, rfl⟩ := hm
  have := Nat.shiftLeft_add_eq_or_of_lt hh q
  rw [Nat.shiftLeft_eq, Nat.mul_comm] at this
  rw [Nat.or_comm, ← this]

/-- What a limb times 2 ^ s lays down, and what it hands on. -/
theorem shl_parts {v s : Nat} (hv : v < 4294967296) (hs : s ≤ 31) : v * 2 ^ s < 18446744073709551616 ∧ v * 2 ^ s / 4294967296 < 2 ^ s ∧ 2 ^ s ∣ v * 2 ^ s % 4294967296 ∧ v * 2 ^ s % 4294967296 + 2 ^ s ≤ 4294967296 := by
  have hp := two_pow_le hs
  have hb := base_split (s := s) (by omega)
  have hp0 : 0 < 2 ^ s := Nat.two_pow_pos s
  refine ⟨?_, ?_, ?_, ?_⟩
  · have := Nat.mul_le_mul (show v ≤ 4294967295 by omega) hp
    generalize v * 2 ^ s = Z at *
    omega
  · rw [Nat.div_lt_iff_lt_mul (by omega), Nat.mul_comm]
    exact Nat.mul_lt_mul_of_pos_left hv hp0
  · rw [Nat.dvd_mod_iff ⟨_, hb⟩]
    exact ⟨v, Nat.mul_comm _ _⟩
  · have h1 : 2 ^ s ∣ v * 2 ^ s % 4294967296 := by rw [Nat.dvd_mod_iff ⟨_, hb⟩]; exact ⟨v, Nat.mul_comm _ _⟩
    have h2 : v * 2 ^ s % 4294967296 < 4294967296 := Nat.mod_lt _ (by omega)
    obtain ⟨q, hq⟩ := h1
    rw [hq] at h2 ⊢
    have h3 : 2 ^ s * q < 2 ^ s * 2 ^ (32 - s) := by rw [← hb]; exact h2
    have h4 : q < 2 ^ (32 - s) := Nat.lt_of_mul_lt_mul_left h3
    have h5 : 2 ^ s * (q + 1) ≤ 2 ^ s * 2 ^ (32 - s) := Nat.mul_le_mul_left _ h4
    rw [← hb, Nat.mul_add, Nat.mul_one] at h5
    exact h5

/-- Shifted to the left behind k rounds: h is to be handed on. -/
def LeftAt (a c : List Nat) (s h k : Nat) : Prop := val (c.take k) + 4294967296 ^ k * h = val (a.take k) * 2 ^ s ∧ h < 2 ^ s

theorem leftAt_zero (a c : List Nat) (s : Nat) : LeftAt a c s 0 0 := ⟨by simp [val], Nat.two_pow_pos s⟩

theorem left_eq {P vc h va v T w lo hi : Nat} (h1 : vc + P * h = va * T) (hw : w = v * T) (h2 : w = lo + 4294967296 * hi) : vc + P * (lo + h) + P * 4294967296 * hi = (va + P * v) * T := by
  have h3 := carry_eq (P := P) h2
  rw [Nat.mul_add, Nat.add_mul, ← h1]
  have h4 : P * v * T = P * w := by rw [hw, Nat.mul_assoc]
  rw [h4]
  generalize P * lo = A at *
  generalize P * h = B at *
  generalize P * 4294967296 * hi = C at *
  generalize P * w = D at *
  omega

theorem leftAt_step {a c : List Nat} {s h k : Nat} (ha : Dig a) (hs : s ≤ 31) (hl : LeftAt a c s h k) (hk : k < c.length) :
    LeftAt a (c.set k (h ||| a.getD k 0 * 2 ^ s % 4294967296)) s (a.getD k 0 * 2 ^ s / 4294967296) (k + 1) ∧ (h ||| a.getD k 0 * 2 ^ s % 4294967296) < 4294967296 := by
  obtain ⟨h1, h2⟩ := hl
  have hp := shl_parts (dig_getD ha k) hs
  rw [or_add h2 hp.2.2.1]
  refine ⟨⟨?_, hp.2.1⟩, by omega⟩
  rw [val_set_take _ _ _ hk, val_take_getD, Nat.pow_succ]
  exact left_eq h1 rfl (by omega)

/-- A row shifted whole. -/
theorem leftAt_end {a c : List Nat} {s h : Nat} (hl : LeftAt a c s h a.length) (hk : a.length < c.length) (hz : Bare c (a.length + 1)) (hh : c.getD a.length 0 = h) : val c = val a * 2 ^ s := by
  obtain ⟨h1, _⟩ := hl
  rw [List.take_length] at h1
  have h2 := val_split c (a.length + 1) hk
  rw [val_take_getD, hh, h1] at h2
  have h3 : val (c.drop (a.length + 1)) = 0 := by
    have : ∀ l : List Nat, (∀ x ∈ l, x = 0) → val l = 0 := by
      intro l
      induction l with
      | nil => intro _; rfl
      | cons x r ih => intro h; rw [val, h x (by simp), ih fun y hy => h y (by simp [hy])]
    refine this _ fun x hx => ?_
    obtain ⟨j, hj, rfl⟩ := List.getElem_of_mem hx
    have := hz (a.length + 1 + j) (by omega)
    rw [List.getElem_drop]
    rw [List.getD_eq_getElem?_getD, List.getElem?_eq_getElem (by rw [List.length_drop] at hj; omega)] at this
    exact this
  rw [h3, Nat.mul_zero, Nat.add_zero] at h2
  exact h2

/-- A row shifted within its own length: nothing is handed on. -/
theorem leftAt_fit {a c : List Nat} {s h : Nat} (hl : LeftAt a c s h a.length) (hk : c.length = a.length) (hf : val a * 2 ^ s < 4294967296 ^ a.length) : val c = val a * 2 ^ s := by
  obtain ⟨h1, _⟩ := hl
  rw [List.take_length, List.take_of_length_le (by omega)] at h1
  rcases Nat.eq_zero_or_pos h with h0 | h0
  · rw [h0, Nat.mul_zero, Nat.add_zero] at h1; exact h1
  · have : 4294967296 ^ a.length ≤ 4294967296 ^ a.length * h := Nat.le_mul_of_pos_right _ h0
    generalize 4294967296 ^ a.length * h = Z at *
    generalize val a * 2 ^ s = Y at *
    omega

/-- The same where limbs are laid one by one. -/
def LeftIn (a c : List Nat) (n s h k : Nat) : Prop := c.length = n + k ∧ val c + 4294967296 ^ (n + k) * h = 4294967296 ^ n * (val (a.take k) * 2 ^ s) ∧ h < 2 ^ s

theorem leftIn_zero (a : List Nat) (n s : Nat) : LeftIn a (List.replicate n 0) n s 0 0 := ⟨by simp, by rw [val_zeros]; simp [val], Nat.two_pow_pos s⟩

theorem leftIn_eq {N P Q vc h va v T w lo hi : Nat} (hQ : Q = N * P) (h1 : vc + Q * h = N * (va * T)) (hw : w = v * T) (h2 : w = lo + 4294967296 * hi) : vc + Q * (lo + h) + Q * 4294967296 * hi = N * ((va + P * v) * T) := by
  have h3 := carry_eq (P := Q) h2
  rw [Nat.add_mul, Nat.mul_add, Nat.mul_add, ← h1]
  have h4 : N * (P * v * T) = Q * w := by rw [hw, hQ]; ac_rfl
  rw [h4]
  generalize Q * lo = A at *
  generalize Q * h = B at *
  generalize Q * 4294967296 * hi = C at *
  generalize Q * w = D at *
  omega

theorem leftIn_step {a c : List Nat} {n s h k : Nat} (ha : Dig a) (hs : s ≤ 31) (hl : LeftIn a c n s h k) :
    LeftIn a (c ++ [(a.getD k 0 * 2 ^ s ||| h) % 4294967296]) n s (a.getD k 0 * 2 ^ s / 4294967296) (k + 1) := by
  obtain ⟨h0, h1, h2⟩ := hl
  have hp := shl_parts (dig_getD ha k) hs
  have e : (a.getD k 0 * 2 ^ s ||| h) % 4294967296 = a.getD k 0 * 2 ^ s % 4294967296 + h := by
    rw [Nat.or_comm, or_add h2 ⟨a.getD k 0, Nat.mul_comm _ _⟩]
    have h3 := hp.2.2.2
    generalize a.getD k 0 * 2 ^ s = Z at *
    omega
  rw [e]
  refine ⟨by simp [h0]; omega, ?_, hp.2.1⟩
  have e1 : n + (k + 1) = (n + k) + 1 := by omega
  rw [val_append, h0, val_one, val_take_getD, e1, Nat.pow_succ]
  exact leftIn_eq (Nat.pow_add ..) h1 rfl (by omega)

theorem leftIn_end {a c : List Nat} {n s h k : Nat} (hl : LeftIn a c n s h (k + 1)) (hk : a.length ≤ k) : val c + 4294967296 ^ (n + (k + 1)) * h = 4294967296 ^ n * (val a * 2 ^ s) := by
  have := hl.2.1
  rw [List.take_of_length_le (by omega)] at this
  exact this

/-- A limb cut in two by a shift to the right. -/
theorem shr_parts {v s : Nat} (hv : v < 4294967296) (hs : s ≤ 31) : v * 4294967296 / 2 ^ s = v * 2 ^ (32 - s) ∧ v * 2 ^ (32 - s) < 18446744073709551616 ∧ v * 2 ^ (32 - s) / 4294967296 = v / 2 ^ s ∧ v * 2 ^ (32 - s) % 4294967296 = 2 ^ (32 - s) * (v % 2 ^ s) ∧ v / 2 ^ s < 2 ^ (32 - s) := by
  have hb := base_split (s := s) (by omega)
  have hp0 : 0 < 2 ^ s := Nat.two_pow_pos s
  have hm0 : 0 < 2 ^ (32 - s) := Nat.two_pow_pos _
  refine ⟨?_, ?_, ?_, ?_, ?_⟩
  · conv => lhs; rw [hb]
    rw [Nat.mul_comm (2 ^ s), ← Nat.mul_assoc, Nat.mul_div_cancel _ hp0]
  · have h1 : 2 ^ (32 - s) ≤ 4294967296 := by
      have : 2 ^ (32 - s) ≤ 2 ^ 32 := Nat.pow_le_pow_right (by omega) (by omega)
      have e : (2 : Nat) ^ 32 = 4294967296 := by decide
      omega
    have := Nat.mul_le_mul (show v ≤ 4294967295 by omega) h1
    generalize v * 2 ^ (32 - s) = Z at *
    omega
  · conv => lhs; rw [hb]
    rw [Nat.mul_div_mul_right _ _ hm0]
  · conv => lhs; rw [hb]
    rw [Nat.mul_mod_mul_right, Nat.mul_comm]
  · rw [Nat.div_lt_iff_lt_mul hp0, Nat.mul_comm, ← hb]
    exact hv

/-- Shifted to the right behind k rounds. -/
def RightAt (a c : List Nat) (s k : Nat) : Prop :=
  val c * 2 ^ s + (if k = 0 then 0 else a.getD 0 0 % 2 ^ s) = val (a.take k) ∧ Bare c k ∧ (k ≠ 0 → c.getD (k - 1) 0 = a.getD (k - 1) 0 / 2 ^ s)

theorem rightAt_zero (a : List Nat) (n s : Nat) : RightAt a (List.replicate n 0) s 0 := ⟨by rw [val_zeros]; simp [val], bare_zeros _ _, fun h => absurd rfl h⟩

theorem right_eq {vc T P hi r v r0 va X M : Nat} (h : vc * T + r0 = va) (hv : hi * T + r = v) (hX : X * M * T = P * r) : (vc + P * hi + X * M) * T + r0 = va + P * v := by
  rw [← hv, Nat.add_mul, Nat.add_mul, hX, Nat.mul_add, ← h, Nat.mul_assoc]
  generalize vc * T = A
  generalize P * (hi * T) = B
  generalize P * r = C
  omega

/-- The first round. -/
theorem rightAt_first {a c : List Nat} {s : Nat} (h : RightAt a c s 0) (hk : 0 < c.length) : RightAt a (c.set 0 (a.getD 0 0 / 2 ^ s)) s 1 := by
  obtain ⟨h1, h2, _⟩ := h
  refine ⟨?_, (h2.more (Nat.zero_le 1)).set (by omega), fun _ => ?_⟩
  · rw [val_set_zero hk (h2 0 (Nat.le_refl _)), if_neg (by omega), val_take_getD]
    rw [if_pos rfl] at h1
    have e : val (a.take 0) = 0 := by simp [val]
    rw [e] at h1 ⊢
    have hp0 : 0 < 2 ^ s := Nat.two_pow_pos s
    have h3 : val c = 0 := by
      rcases Nat.eq_zero_or_pos (val c) with h0 | h0
      · exact h0
      · have := Nat.mul_pos h0 hp0; omega
    rw [h3, Nat.pow_zero, Nat.one_mul, Nat.one_mul, Nat.zero_add, Nat.zero_add]
    exact Nat.div_add_mod' _ _
  · rw [List.getD_eq_getElem?_getD, List.getElem?_set_self hk]; rfl

theorem getD_set_ne {l : List Nat} {i j d : Nat} (h : i ≠ j) : (l.set i d).getD j 0 = l.getD j 0 := by
  rw [List.getD_eq_getElem?_getD, List.getElem?_set_ne h, ← List.getD_eq_getElem?_getD]
theorem getD_set_same {l : List Nat} {i d : Nat} (h : i < l.length) : (l.set i d).getD i 0 = d := by
  rw [List.getD_eq_getElem?_getD, List.getElem?_set_self h]; rfl

/-- The rounds behind it. -/
theorem rightAt_step {a c : List Nat} {s k : Nat} (ha : Dig a) (hs : s ≤ 31) (h : RightAt a c s (k + 1)) (hk : k + 1 < c.length) :
    RightAt a ((c.set (k + 1) (a.getD (k + 1) 0 / 2 ^ s)).set k (a.getD k 0 / 2 ^ s ||| a.getD (k + 1) 0 * 2 ^ (32 - s) % 4294967296)) s (k + 2) ∧
    (c.set (k + 1) (a.getD (k + 1) 0 / 2 ^ s)).getD k 0 = a.getD k 0 / 2 ^ s := by
  obtain ⟨h1, h2, h3⟩ := h
  have h3 := h3 (by omega)
  have e0 : k + 1 - 1 = k := by omega
  rw [e0] at h3
  have hb := base_split (s := s) (by omega)
  have hp := shr_parts (dig_getD ha (k + 1)) hs
  have hq := shr_parts (dig_getD ha k) hs
  have hold : (c.set (k + 1) (a.getD (k + 1) 0 / 2 ^ s)).getD k 0 = a.getD k 0 / 2 ^ s := by rw [getD_set_ne (by omega), h3]
  refine ⟨⟨?_, ((h2.more (by omega : k + 1 ≤ k + 2)).set (by omega)).set (by omega), fun _ => ?_⟩, hold⟩
  · rw [or_add hq.2.2.2.2 ⟨_, hp.2.2.2.1⟩, hp.2.2.2.1]
    have h5 := val_set (c.set (k + 1) (a.getD (k + 1) 0 / 2 ^ s)) k (2 ^ (32 - s) * (a.getD (k + 1) 0 % 2 ^ s) + a.getD k 0 / 2 ^ s) (by rw [List.length_set]; omega)
    rw [hold, val_set_zero hk (h2 _ (Nat.le_refl _)), Nat.mul_add] at h5
    have h6 : val ((c.set (k + 1) (a.getD (k + 1) 0 / 2 ^ s)).set k (2 ^ (32 - s) * (a.getD (k + 1) 0 % 2 ^ s) + a.getD k 0 / 2 ^ s)) = val c + 4294967296 ^ (k + 1) * (a.getD (k + 1) 0 / 2 ^ s) + 4294967296 ^ k * (2 ^ (32 - s) * (a.getD (k + 1) 0 % 2 ^ s)) := by
      generalize 4294967296 ^ k * (a.getD k 0 / 2 ^ s) = A at *
      generalize 4294967296 ^ k * (2 ^ (32 - s) * (a.getD (k + 1) 0 % 2 ^ s)) = B at *
      generalize 4294967296 ^ (k + 1) * (a.getD (k + 1) 0 / 2 ^ s) = C at *
      omega
    rw [h6, if_neg (by omega), val_take_getD]
    rw [if_neg (by omega)] at h1
    refine right_eq h1 (Nat.div_add_mod' _ _) ?_
    have e7 : 2 ^ (32 - s) * 2 ^ s = 4294967296 := by rw [Nat.mul_comm]; exact hb.symm
    rw [Nat.pow_succ, ← e7]
    generalize 2 ^ (32 - s) = M
    generalize 2 ^ s = T
    ac_rfl
  · have e1 : k + 2 - 1 = k + 1 := by omega
    rw [e1, getD_set_ne (by omega), getD_set_same hk]

theorem rightAt_step' {a c : List Nat} {s k : Nat} (ha : Dig a) (hs : s ≤ 31) (hk0 : 1 ≤ k) (h : RightAt a c s k) (hk : k < c.length) :
    RightAt a ((c.set k (a.getD k 0 / 2 ^ s)).set (k - 1) (a.getD (k - 1) 0 / 2 ^ s ||| a.getD k 0 * 2 ^ (32 - s) % 4294967296)) s (k + 1) ∧
    (c.set k (a.getD k 0 / 2 ^ s)).getD (k - 1) 0 = a.getD (k - 1) 0 / 2 ^ s := by
  obtain ⟨i, rfl⟩ : ∃ i, k = i + 1 := ⟨k - 1, by omega⟩
  exact rightAt_step ha hs h hk

theorem rightAt_end {a c : List Nat} {s : Nat} (h : RightAt a c s a.length) (h0 : 0 < a.length) : val c = val a / 2 ^ s := by
  obtain ⟨h1, _, _⟩ := h
  rw [if_neg (by omega), List.take_length] at h1
  have hp0 : 0 < 2 ^ s := Nat.two_pow_pos s
  have hr : a.getD 0 0 % 2 ^ s < 2 ^ s := Nat.mod_lt _ hp0
  rw [← h1, Nat.add_comm, Nat.add_mul_div_right _ _ hp0, Nat.div_eq_of_lt hr, Nat.zero_add]

/-- The same where limbs are laid one by one. -/
def RightIn (a c : List Nat) (s k : Nat) : Prop := c.length = k ∧ val c * 2 ^ s + a.getD 0 0 % 2 ^ s = val (a.take k) + 4294967296 ^ k * (a.getD k 0 % 2 ^ s)

theorem rightIn_zero (a : List Nat) (s : Nat) : RightIn a [] s 0 := ⟨rfl, by simp [val]⟩

theorem shr_two {v u s : Nat} (hv : v < 4294967296) (hu : u < 4294967296) (hs : s ≤ 31) : (v ||| u * 4294967296) / 2 ^ s % 4294967296 = v / 2 ^ s + 2 ^ (32 - s) * (u % 2 ^ s) ∧ (v ||| u * 4294967296) < 18446744073709551616 := by
  have hb := base_split (s := s) (by omega)
  have hp0 : 0 < 2 ^ s := Nat.two_pow_pos s
  have e32 : (2 : Nat) ^ 32 = 4294967296 := by decide
  have h1 : (v ||| u * 4294967296) = u * 4294967296 + v := or_add (s := 32) (by omega) ⟨u, by rw [e32, Nat.mul_comm]⟩
  rw [h1]
  refine ⟨?_, by omega⟩
  have hq := shr_parts hv hs
  have h2 : (u * 4294967296 + v) / 2 ^ s = v / 2 ^ s + u * 2 ^ (32 - s) := by
    conv => lhs; rw [hb]
    have : u * (2 ^ s * 2 ^ (32 - s)) + v = v + u * 2 ^ (32 - s) * 2 ^ s := by rw [Nat.add_comm]; congr 1; ac_rfl
    rw [this, Nat.add_mul_div_right _ _ hp0]
  rw [h2]
  have h3 : u * 2 ^ (32 - s) = 2 ^ (32 - s) * (u % 2 ^ s) + 4294967296 * (u / 2 ^ s) := by
    have := Nat.mod_add_div u (2 ^ s)
    conv => lhs; rw [← this]
    rw [hb, Nat.add_mul]
    congr 1
    · exact Nat.mul_comm _ _
    · ac_rfl
  rw [h3, ← Nat.add_assoc, Nat.add_mul_mod_self_left]
  refine Nat.mod_eq_of_lt ?_
  have h4 : u % 2 ^ s + 1 ≤ 2 ^ s := Nat.mod_lt _ hp0
  have h5 := Nat.mul_le_mul_left (2 ^ (32 - s)) h4
  rw [Nat.mul_comm (2 ^ (32 - s)) (2 ^ s), ← hb, Nat.mul_add, Nat.mul_one] at h5
  have h6 := hq.2.2.2.2
  omega

theorem rightIn_eq {vc T r0 va P X r' M v r q : Nat} (h : vc * T + r0 = va + P * r) (hv : q * T + r = v) (hM : M * T = 4294967296) (hX : X = q + M * r') : (vc + P * X) * T + r0 = va + P * v + P * 4294967296 * r' := by
  subst hX
  subst hv
  rw [Nat.add_mul, Nat.mul_assoc P, Nat.add_mul, Nat.mul_add, ← hM]
  have e1 : P * (M * r' * T) = P * (M * T) * r' := by ac_rfl
  rw [e1, Nat.mul_add]
  generalize P * (q * T) = A at *
  generalize P * (M * T) * r' = B at *
  generalize P * r = C at *
  generalize vc * T = D at *
  omega

theorem rightIn_step {a c : List Nat} {s k : Nat} (ha : Dig a) (hs : s ≤ 31) (h : RightIn a c s k) :
    RightIn a (c ++ [(a.getD k 0 ||| a.getD (k + 1) 0 * 4294967296) / 2 ^ s % 4294967296]) s (k + 1) := by
  obtain ⟨h0, h1⟩ := h
  have hp := shr_two (dig_getD ha k) (dig_getD ha (k + 1)) hs
  rw [hp.1]
  refine ⟨by simp [h0], ?_⟩
  rw [val_append, h0, val_one, val_take_getD, Nat.pow_succ]
  exact rightIn_eq h1 (Nat.div_add_mod' _ _) (by rw [Nat.mul_comm]; exact (base_split (s := s) (by omega)).symm) rfl

theorem rightIn_end {a c : List Nat} {s : Nat} (h : RightIn a c s a.length) : val c = val a / 2 ^ s := by
  obtain ⟨_, h1⟩ := h
  have e : a.getD a.length 0 = 0 := by rw [List.getD_eq_getElem?_getD, List.getElem?_eq_none (Nat.le_refl _)]; rfl
  rw [List.take_length, e, Nat.zero_mod, Nat.mul_zero, Nat.add_zero] at h1
  have hp0 : 0 < 2 ^ s := Nat.two_pow_pos s
  have hr : a.getD 0 0 % 2 ^ s < 2 ^ s := Nat.mod_lt _ hp0
  rw [← h1, Nat.add_comm, Nat.add_mul_div_right _ _ hp0, Nat.div_eq_of_lt hr, Nat.zero_add]

/-- What is left of a row without its first limbs. -/
theorem val_drop (a : List Nat) (hd : Dig a) (k : Nat) : val (a.drop k) = val a / 4294967296 ^ k := by
  by_cases hk : k ≤ a.length
  · have h1 := val_split a k hk
    have h2 := val_lt (hd.take k)
    have h3 : (a.take k).length = k := by rw [List.length_take]; omega
    rw [h3] at h2
    rw [h1, Nat.add_mul_div_left _ _ (pow_pos' k), Nat.div_eq_of_lt h2, Nat.zero_add]
  · rw [List.drop_eq_nil_of_le (by omega)]
    have h1 := val_lt hd
    have h2 : 4294967296 ^ a.length ≤ 4294967296 ^ k := Nat.pow_le_pow_right (by omega) (by omega)
    rw [Nat.div_eq_of_lt (by omega)]
    rfl

/-- n held within -2^12 and 2^12. -/
def held12 (n : Int) : Int := min (max n (-4096)) 4096

/-- A number shifted. -/
def shiftN (v : Nat) (n : Int) : Nat := if held12 n < 0 then v / 2 ^ (-(held12 n)).toNat else v * 2 ^ (held12 n).toNat

theorem base_pow (k : Nat) : (4294967296 : Nat) ^ k = 2 ^ (32 * k) := by
  have e32 : (2 : Nat) ^ 32 = 4294967296 := by decide
  rw [Nat.pow_mul, e32]

theorem shift_right_eq {a : List Nat} (hd : Dig a) (m : Nat) : val (a.drop (m / 32)) / 2 ^ (m % 32) = val a / 2 ^ m := by
  rw [val_drop a hd, base_pow, Nat.div_div_eq_div_mul, ← Nat.pow_add]
  have : 32 * (m / 32) + m % 32 = m := by omega
  rw [this]

theorem shift_left_eq (v m : Nat) : 4294967296 ^ (m / 32) * (v * 2 ^ (m % 32)) = v * 2 ^ m := by
  rw [base_pow, Nat.mul_comm v, ← Nat.mul_assoc, ← Nat.pow_add]
  have : 32 * (m / 32) + m % 32 = m := by omega
  rw [this, Nat.mul_comm]


/-- The limbs from the k-th on are divided; r is what is left. -/
def SmallAt (a cs : List Nat) (b r k : Nat) : Prop := r < b ∧ (∀ j, j < k → cs.getD j 0 = 0) ∧ val cs * b + 4294967296 ^ k * r + val (a.take k) = val a

theorem smallAt_zero (a : List Nat) (b : Nat) (hb : 0 < b) : SmallAt a (List.replicate a.length 0) b 0 a.length :=
  ⟨hb, fun j _ => bare_zeros _ 0 j (Nat.zero_le _), by rw [val_zeros, List.take_length]; simp⟩

theorem small_eq {vc b P r T vt v t d m va : Nat} (h : vc * b + P * T * r + (vt + P * v) = va) (ht : t = r * T + v) (hd : d * b + m = t) : (vc + P * d) * b + P * m + vt = va := by
  have e1 : P * T * r = P * (r * T) := by grind
  have e2 : P * (r * T) + P * v = P * t := by rw [ht]; grind
  have e3 : (vc + P * d) * b + P * m = vc * b + P * (d * b + m) := by grind
  rw [e3, hd]
  rw [e1] at h
  omega

theorem smallAt_step {a cs : List Nat} {b r k : Nat} (hb : b ≤ 4294967296) (ha : Dig a) (hl : cs.length = a.length) (hk : k < a.length) (h : SmallAt a cs b r (k + 1)) :
    SmallAt a (cs.set k ((r * 4294967296 + a.getD k 0) / b)) b ((r * 4294967296 + a.getD k 0) % b) k ∧ (r * 4294967296 + a.getD k 0) / b < 4294967296 := by
  obtain ⟨h0, h1, h2⟩ := h
  have ha0 := dig_getD ha k
  refine ⟨⟨Nat.mod_lt _ (by omega), fun j hj => ?_, ?_⟩, ?_⟩
  · rw [getD_set_ne (by omega)]; exact h1 j (by omega)
  · rw [val_set_zero (by omega) (h1 k (by omega))]
    rw [val_take_getD, Nat.pow_succ] at h2
    exact small_eq h2 rfl (Nat.div_add_mod' _ _)
  · rw [Nat.div_lt_iff_lt_mul (by omega)]
    calc r * 4294967296 + a.getD k 0 < r * 4294967296 + 4294967296 := by omega
      _ = (r + 1) * 4294967296 := by omega
      _ ≤ b * 4294967296 := Nat.mul_le_mul_right _ h0
      _ = 4294967296 * b := Nat.mul_comm _ _

theorem smallAt_end {a cs : List Nat} {b r : Nat} (h : SmallAt a cs b r 0) : val cs = val a / b ∧ r = val a % b := by
  obtain ⟨h0, _, h2⟩ := h
  rw [List.take_zero, Nat.pow_zero, Nat.one_mul, show val [] = 0 from rfl, Nat.add_zero] at h2
  have hb : 0 < b := by omega
  have e : val a = r + b * val cs := by rw [← h2, Nat.add_comm, Nat.mul_comm]
  rw [e, Nat.add_mul_div_left _ _ hb, Nat.div_eq_of_lt h0, Nat.add_mul_mod_self_left, Nat.mod_eq_of_lt h0]
  exact ⟨(Nat.zero_add _).symm, rfl⟩


/-- The bits from the i-th on are divided. -/
def BitAt (va vq vr B i : Nat) : Prop := vr = va / 2 ^ i % B ∧ vq = va / 2 ^ i / B * 2 ^ i

theorem bitAt_start {va i : Nat} (B : Nat) (h : va < 2 ^ i) : BitAt va 0 0 B i := by
  unfold BitAt
  rw [Nat.div_eq_of_lt h]
  simp

theorem bitAt_end {va vq vr B : Nat} (h : BitAt va vq vr B 0) : vq = va / B ∧ vr = va % B := by
  unfold BitAt at h
  rw [Nat.pow_zero, Nat.div_one, Nat.mul_one] at h
  exact ⟨h.2, h.1⟩

theorem twice_div {X B c : Nat} (hB : 0 < B) (hc : c ≤ 1) :
    (X * 2 + c) / B = X / B * 2 + (if B ≤ X % B * 2 + c then 1 else 0) ∧ (X * 2 + c) % B = (if B ≤ X % B * 2 + c then X % B * 2 + c - B else X % B * 2 + c) := by
  have e := Nat.div_add_mod' X B
  have hr := Nat.mod_lt X hB
  generalize X / B = Q at *
  generalize X % B = r at *
  have e2 : X * 2 + c = (r * 2 + c) + B * (Q * 2) := by rw [← e]; grind
  rw [e2, Nat.add_mul_div_left _ _ hB, Nat.add_mul_mod_self_left]
  by_cases h : B ≤ r * 2 + c
  · rw [if_pos h, if_pos h]
    have e3 : r * 2 + c = (r * 2 + c - B) + B * 1 := by omega
    rw [e3, Nat.add_mul_div_left _ _ hB, Nat.add_mul_mod_self_left, Nat.div_eq_of_lt (by omega), Nat.mod_eq_of_lt (by omega)]
    omega
  · rw [if_neg h, if_neg h, Nat.div_eq_of_lt (by omega), Nat.mod_eq_of_lt (by omega)]
    omega

theorem bitAt_step {va vq vr B i c : Nat} (hB : 0 < B) (hc : c = va / 2 ^ i % 2) (h : BitAt va vq vr B (i + 1)) :
    (B ≤ vr * 2 + c → BitAt va (vq + 2 ^ i) (vr * 2 + c - B) B i) ∧ (vr * 2 + c < B → BitAt va vq (vr * 2 + c) B i) := by
  obtain ⟨h1, h2⟩ := h
  have e : va / 2 ^ (i + 1) = va / 2 ^ i / 2 := by rw [Nat.div_div_eq_div_mul, Nat.pow_succ]
  rw [e] at h1 h2
  have e2 : va / 2 ^ i = va / 2 ^ i / 2 * 2 + c := by rw [hc]; omega
  have t := twice_div (X := va / 2 ^ i / 2) (B := B) (c := c) hB (by omega)
  rw [← e2, ← h1] at t
  have ep : 2 ^ (i + 1) = 2 * 2 ^ i := by rw [Nat.pow_succ, Nat.mul_comm]
  rw [ep, ← Nat.mul_assoc] at h2
  generalize va / 2 ^ i / 2 / B * 2 = Q2 at *
  constructor
  · intro hle
    rw [if_pos hle, if_pos hle] at t
    unfold BitAt
    rw [t.1, t.2, h2, Nat.add_mul, Nat.one_mul]
    exact ⟨rfl, rfl⟩
  · intro hlt
    rw [if_neg (by omega), if_neg (by omega)] at t
    unfold BitAt
    rw [t.1, t.2, h2, Nat.add_zero]
    exact ⟨rfl, rfl⟩

theorem getD_in0 {l : List Nat} {j : Nat} (h : j < l.length) : l.getD j 0 = l[j] := by
  rw [List.getD_eq_getElem?_getD, List.getElem?_eq_getElem h]; rfl
theorem getD_out0 {l : List Nat} {j : Nat} (h : l.length ≤ j) : l.getD j 0 = 0 := by
  rw [List.getD_eq_getElem?_getD, List.getElem?_eq_none h]; rfl

/-- A bit of a number is a bit of one of its limbs. -/
theorem bit_of (a : List Nat) (hd : Dig a) (k s : Nat) (hs : s ≤ 31) : val a / 2 ^ (32 * k + s) % 2 = a.getD k 0 / 2 ^ s % 2 := by
  have e1 : val a / 2 ^ (32 * k + s) = val (a.drop k) / 2 ^ s := by rw [Nat.pow_add, ← Nat.div_div_eq_div_mul, ← base_pow, val_drop a hd k]
  have e2 : val (a.drop k) = a.getD k 0 + 4294967296 * val (a.drop (k + 1)) := by
    by_cases hk : k < a.length
    · rw [List.drop_eq_getElem_cons hk, getD_in0 hk]; rfl
    · rw [List.drop_eq_nil_of_le (by omega), List.drop_eq_nil_of_le (by omega), getD_out0 (by omega)]; rfl
  have hb := base_split (s := s + 1) (by omega)
  have p2 : 2 ^ (s + 1) = 2 ^ s * 2 := Nat.pow_succ ..
  rw [e1, e2, hb, p2]
  have p0 : 0 < 2 ^ s := Nat.two_pow_pos s
  generalize val (a.drop (k + 1)) = y
  generalize a.getD k 0 = x
  generalize 2 ^ (32 - (s + 1)) = z
  have e3 : x + 2 ^ s * 2 * z * y = x + 2 ^ s * (2 * (z * y)) := by grind
  rw [e3, Nat.add_mul_div_left _ _ p0]
  omega

/-- A bit more in a limb whose lower bits, that one too, are 0. -/
theorem bit_set {cs : List Nat} {Y k s : Nat} (hd : Dig cs) (hk : k < cs.length) (hs : s ≤ 31) (hv : val cs = Y * 2 ^ (32 * k + s + 1)) :
    val (cs.set k (cs.getD k 0 ||| 2 ^ s)) = val cs + 2 ^ (32 * k + s) ∧ cs.getD k 0 ||| 2 ^ s < 4294967296 := by
  have e1 : val (cs.drop k) = Y * 2 ^ (s + 1) := by
    rw [val_drop cs hd k, hv, base_pow, Nat.add_assoc, Nat.pow_add, ← Nat.mul_assoc, Nat.mul_right_comm, Nat.mul_div_cancel _ (Nat.two_pow_pos _)]
  have e2 : val (cs.drop k) = cs.getD k 0 + 4294967296 * val (cs.drop (k + 1)) := by
    rw [List.drop_eq_getElem_cons hk, getD_in0 hk]; rfl
  have hb := base_split (s := s + 1) (by omega)
  have hdv : 2 ^ (s + 1) ∣ cs.getD k 0 := by
    have h1 : 2 ^ (s + 1) ∣ cs.getD k 0 + 4294967296 * val (cs.drop (k + 1)) := by rw [← e2, e1]; exact Nat.dvd_mul_left _ _
    have h2 : 2 ^ (s + 1) ∣ 4294967296 * val (cs.drop (k + 1)) := by rw [hb, Nat.mul_assoc]; exact Nat.dvd_mul_right _ _
    exact (Nat.dvd_add_left h2).1 h1
  have hlt : 2 ^ s < 2 ^ (s + 1) := Nat.pow_lt_pow_right (by omega) (by omega)
  have ho : cs.getD k 0 ||| 2 ^ s = cs.getD k 0 + 2 ^ s := by rw [Nat.or_comm]; exact or_add hlt hdv
  refine ⟨?_, Nat.or_lt_two_pow (n := 32) (dig_getD hd k) (Nat.pow_lt_pow_right (by omega) (by omega))⟩
  rw [ho]
  have e3 := val_set cs k (cs.getD k 0 + 2 ^ s) hk
  have e4 : (2 : Nat) ^ (32 * k + s) = 4294967296 ^ k * 2 ^ s := by rw [Nat.pow_add, base_pow]
  rw [e4]
  rw [Nat.mul_add] at e3
  omega


/-- The guess of a digit, at most one too many. -/
def guessN (B u low b1 b2 : Nat) : Nat := min ((u * B + low) / (b1 * B + b2)) (B - 1)

theorem guessN_lt {B u low b1 b2 : Nat} (hB : 0 < B) : guessN B u low b1 b2 < B := by
  unfold guessN
  omega

/-- The guess so far: it is not below the digit. -/
def GuessAt (B u low b1 b2 q r : Nat) : Prop := q * b1 + r = u ∧ guessN B u low b1 b2 ≤ q ∧ r < B

theorem guess_times {B q b1 b2 r low u : Nat} (h : q * b1 + r = u) : q * (b1 * B + b2) + (r * B + low) = (u * B + low) + q * b2 := by
  subst h
  grind

theorem guess_fit {B q b1 b2 r low u : Nat} (hd : 0 < b1 * B + b2) (h : q * b1 + r = u) (hle : q * b2 ≤ r * B + low) : q ≤ (u * B + low) / (b1 * B + b2) := by
  rw [Nat.le_div_iff_mul_le hd]
  have e := guess_times (B := B) (b2 := b2) (low := low) h
  omega

theorem guess_over {B q b1 b2 r low u : Nat} (hd : 0 < b1 * B + b2) (h : q * b1 + r = u) (hlt : r * B + low < q * b2) : (u * B + low) / (b1 * B + b2) < q := by
  rw [Nat.div_lt_iff_lt_mul hd]
  have e := guess_times (B := B) (b2 := b2) (low := low) h
  omega

theorem guessAt_start {B u low b1 b2 : Nat} (hb : 0 < b1) (hb1 : b1 < B) (hl : low < B) : GuessAt B u low b1 b2 (u / b1) (u % b1) := by
  refine ⟨Nat.div_add_mod' u b1, ?_, Nat.lt_trans (Nat.mod_lt _ hb) hb1⟩
  refine Nat.le_trans (Nat.min_le_left _ _) ?_
  have hd : 0 < b1 * B + b2 := by
    have : 0 < b1 * B := Nat.mul_pos hb (by omega)
    omega
  have hr := Nat.mod_lt u hb
  have e := Nat.div_add_mod' u b1
  generalize u / b1 = q at *
  generalize u % b1 = r at *
  have h1 : (u * B + low) / (b1 * B + b2) < q + 1 := by
    rw [Nat.div_lt_iff_lt_mul hd]
    have e2 : (q + 1) * (b1 * B + b2) = q * b1 * B + b1 * B + (q + 1) * b2 := by grind
    have e3 : u * B = q * b1 * B + r * B := by rw [← e]; grind
    have e4 : (r + 1) * B ≤ b1 * B := Nat.mul_le_mul_right _ hr
    have e5 : (r + 1) * B = r * B + B := by grind
    rw [e2, e3]
    omega
  omega

/-- The guess that is not too many is the one. -/
theorem guessAt_end {B u low b1 b2 q r : Nat} (hb : 0 < b1) (hB : 0 < B) (h : GuessAt B u low b1 b2 q r) (hq : q < B) (hle : q * b2 ≤ r * B + low) : q = guessN B u low b1 b2 := by
  have hd : 0 < b1 * B + b2 := by
    have : 0 < b1 * B := Nat.mul_pos hb hB
    omega
  have h1 := guess_fit (B := B) hd h.1 hle
  have h2 := h.2.1
  unfold guessN at h2 ⊢
  omega

theorem guessAt_less {B u low b1 b2 q r : Nat} (hb : 0 < b1) (hB : 0 < B) (h : GuessAt B u low b1 b2 q r) (hq : B ≤ q ∨ r * B + low < q * b2) :
    0 < q ∧ (q - 1) * b1 + (r + b1) = u ∧ guessN B u low b1 b2 ≤ q - 1 := by
  have hd : 0 < b1 * B + b2 := by
    have : 0 < b1 * B := Nat.mul_pos hb hB
    omega
  obtain ⟨h1, h2, h3⟩ := h
  have hq0 : 0 < q := by
    rcases hq with h | h
    · omega
    · refine Nat.pos_of_ne_zero fun e => ?_
      rw [e, Nat.zero_mul] at h
      omega
  refine ⟨hq0, ?_, ?_⟩
  · obtain ⟨p, rfl⟩ : ∃ p, q = p + 1 := ⟨q - 1, by omega⟩
    rw [Nat.add_sub_cancel, ← h1]
    grind
  · unfold guessN at h2 ⊢
    rcases hq with h | h
    · omega
    · have := guess_over (B := B) hd h1 h
      omega

/-- Where the rest is a whole limb, the guess is the one. -/
theorem guessAt_break {B u low b1 b2 q r : Nat} (hb : 0 < b1) (hb2 : b2 < B) (hu : u < (b1 + 1) * B) (h1 : q * b1 + r = u) (h2 : guessN B u low b1 b2 ≤ q) (hr : B ≤ r) : q = guessN B u low b1 b2 := by
  have hB : 0 < B := by omega
  have hd : 0 < b1 * B + b2 := by
    have : 0 < b1 * B := Nat.mul_pos hb hB
    omega
  have hq : q < B := by
    refine Nat.lt_of_not_le fun hle => ?_
    have e1 : B * b1 ≤ q * b1 := Nat.mul_le_mul_right _ hle
    have e2 : (b1 + 1) * B = B * b1 + B := by grind
    omega
  have e3 : q * b2 ≤ r * B + low := by
    have a1 : q * b2 ≤ B * B := Nat.mul_le_mul (by omega) (by omega)
    have a2 : B * B ≤ r * B := Nat.mul_le_mul_right _ hr
    omega
  have h3 := guess_fit (B := B) hd h1 e3
  unfold guessN at h2 ⊢
  omega

/-- The guess is the digit, or one more. -/
theorem guess_near {B P U D u low b1 b2 Q lo dl : Nat} (hU : U = (u * B + low) * P + lo) (hlo : lo < P) (hD : D = (b1 * B + b2) * P + dl) (hdl : dl < P)
    (hb : B ≤ b1 * B) (hQ1 : Q * D ≤ U) (hQ2 : U < (Q + 1) * D) (hQB : Q < B) : Q ≤ guessN B u low b1 b2 ∧ guessN B u low b1 b2 ≤ Q + 1 := by
  have hd : 0 < b1 * B + b2 := by omega
  generalize hX : u * B + low = X at *
  generalize hY : b1 * B + b2 = Y at *
  have h1 : Q ≤ X / Y := by
    rw [Nat.le_div_iff_mul_le hd]
    have e1 : Q * Y * P ≤ Q * D := by
      rw [hD, Nat.mul_add, Nat.mul_assoc]
      exact Nat.le_add_right _ _
    have e2 : Q * Y * P < (X + 1) * P := by
      have : (X + 1) * P = X * P + P := by grind
      omega
    have := Nat.lt_of_mul_lt_mul_right e2
    omega
  have h2 : X / Y < Q + 2 := by
    rw [Nat.div_lt_iff_lt_mul hd]
    have e1 : (Q + 1) * D ≤ (Q + 1) * (Y + 1) * P := by
      rw [Nat.mul_assoc]
      refine Nat.mul_le_mul_left _ ?_
      have : (Y + 1) * P = Y * P + P := by grind
      omega
    have e2 : X * P < (Q + 1) * (Y + 1) * P := by omega
    have e3 := Nat.lt_of_mul_lt_mul_right e2
    have e4 : (Q + 1) * (Y + 1) = Q * Y + Y + Q + 1 := by grind
    have e5 : (Q + 2) * Y = Q * Y + 2 * Y := by grind
    omega
  unfold guessN
  rw [hX, hY]
  omega


theorem take_eq {P K B q vb v c w x y lo hi w' vc vc' vx : Nat} (h : vc + P * (q * vb) = vx + P * (K * (c + w))) (hs : vc' + P * K * x = vc + P * K * y) (hy : y + lo + w = x + B * w') (ht : c + q * v = lo + B * hi) :
    vc' + P * (q * (vb + K * v)) = vx + P * (K * B * (hi + w')) := by
  have e1 : P * (q * (vb + K * v)) = P * (q * vb) + P * K * (q * v) := by grind
  have e2 : P * (K * (c + w)) = P * K * c + P * K * w := by grind
  have e3 : P * (K * B * (hi + w')) = P * K * (B * hi) + P * K * (B * w') := by grind
  have e4 := congrArg (fun z => P * K * z) hy
  have e5 := congrArg (fun z => P * K * z) ht
  simp only [Nat.mul_add] at e4 e5
  rw [e1, e3]
  rw [e2] at h
  generalize P * K * x = a1 at *
  generalize P * K * y = a2 at *
  generalize P * K * c = a3 at *
  generalize P * K * w = a4 at *
  generalize P * K * lo = a5 at *
  generalize P * K * (B * w') = a6 at *
  generalize P * K * (B * hi) = a7 at *
  generalize P * K * (q * v) = a8 at *
  omega

/-- A product's first limbs are taken away, at a place. -/
def TakeAt (b xs cs : List Nat) (q i c w k : Nat) : Prop := val cs + 4294967296 ^ i * (q * val (b.take k)) = val xs + 4294967296 ^ i * (4294967296 ^ k * (c + w))

theorem takeAt_zero (b xs : List Nat) (q i : Nat) : TakeAt b xs xs q i 0 0 0 := by
  unfold TakeAt
  simp [val]

theorem takeAt_step {b xs cs : List Nat} {q i c w k t : Nat} (hd : Dig cs) (hk : i + k < cs.length) (hw : w ≤ 1) (ht : t = c + q * b.getD k 0) (h : TakeAt b xs cs q i c w k) :
    TakeAt b xs (cs.set (i + k) ((cs.getD (i + k) 0 + 8589934592 - t % 4294967296 - w) % 4294967296)) q i (t / 4294967296) (if cs.getD (i + k) 0 < t % 4294967296 + w then 1 else 0) (k + 1) := by
  have hx := dig_getD hd (i + k)
  have hy := sub_digit hx (Nat.mod_lt t (by omega : 4294967296 > 0)) hw
  have hs := val_set cs (i + k) ((cs.getD (i + k) 0 + 8589934592 - t % 4294967296 - w) % 4294967296) hk
  have e := (Nat.mod_add_div t 4294967296).symm
  unfold TakeAt at h ⊢
  rw [val_take_getD]
  generalize (if cs.getD (i + k) 0 < t % 4294967296 + w then 1 else 0) = w' at *
  generalize (cs.getD (i + k) 0 + 8589934592 - t % 4294967296 - w) % 4294967296 = y at *
  rw [Nat.pow_add] at hs
  rw [Nat.pow_succ]
  exact take_eq h hs hy (ht ▸ e)

theorem give_eq {P K B vb v x y m m' vc vc' vx : Nat} (h : vc + P * K * m = vx + P * vb) (hs : vc' + P * K * x = vc + P * K * y) (hy : x + v + m = y + B * m') : vc' + P * (K * B) * m' = vx + P * (vb + K * v) := by
  have e1 : P * (vb + K * v) = P * vb + P * K * v := by grind
  have e2 : P * (K * B) * m' = P * K * (B * m') := by grind
  have e4 := congrArg (fun z => P * K * z) hy
  simp only [Nat.mul_add] at e4
  rw [e1, e2]
  generalize P * K * (B * m') = a1 at *
  generalize P * K * x = a2 at *
  generalize P * K * y = a3 at *
  generalize P * K * v = a4 at *
  generalize P * K * m = a5 at *
  omega

/-- A number's first limbs are given back, at a place. -/
def GiveAt (b ys cs : List Nat) (i m k : Nat) : Prop := val cs + 4294967296 ^ i * 4294967296 ^ k * m = val ys + 4294967296 ^ i * val (b.take k)

theorem giveAt_zero (b ys : List Nat) (i : Nat) : GiveAt b ys ys i 0 0 := by
  unfold GiveAt
  simp [val]

theorem giveAt_step {b ys cs : List Nat} {i m k : Nat} (hk : i + k < cs.length) (h : GiveAt b ys cs i m k) :
    GiveAt b ys (cs.set (i + k) ((cs.getD (i + k) 0 + b.getD k 0 + m) % 4294967296)) i ((cs.getD (i + k) 0 + b.getD k 0 + m) / 4294967296) (k + 1) := by
  have hs := val_set cs (i + k) ((cs.getD (i + k) 0 + b.getD k 0 + m) % 4294967296) hk
  have e := (Nat.mod_add_div (cs.getD (i + k) 0 + b.getD k 0 + m) 4294967296).symm
  unfold GiveAt at h ⊢
  rw [val_take_getD]
  generalize hs0 : cs.getD (i + k) 0 + b.getD k 0 + m = s at *
  rw [Nat.pow_add] at hs
  rw [Nat.pow_succ]
  exact give_eq h hs (hs0.trans e)

theorem bare_of_lt {cs : List Nat} {m : Nat} (hd : Dig cs) (h : val cs < 4294967296 ^ m) : Bare cs m := by
  intro j hj
  have e1 := val_drop cs hd j
  have p : 4294967296 ^ m ≤ 4294967296 ^ j := Nat.pow_le_pow_right (by omega) hj
  rw [Nat.div_eq_of_lt (by omega)] at e1
  by_cases hk : j < cs.length
  · rw [List.drop_eq_getElem_cons hk] at e1
    rw [getD_in0 hk]
    have : val (cs[j] :: cs.drop (j + 1)) = cs[j] + 4294967296 * val (cs.drop (j + 1)) := rfl
    omega
  · exact getD_out0 (by omega)

theorem lt_of_bare {cs : List Nat} {m : Nat} (hd : Dig cs) (h : Bare cs m) : val cs < 4294967296 ^ m := by
  have e1 := val_drop cs hd m
  have z : ∀ l : List Nat, (∀ j, l.getD j 0 = 0) → val l = 0 := by
    intro l
    induction l with
    | nil => intro _; rfl
    | cons x r ih =>
      intro hz
      have h0 : x = 0 := hz 0
      have h1 := ih (fun j => hz (j + 1))
      show x + 4294967296 * val r = 0
      omega
  have e2 : val (cs.drop m) = 0 := z _ fun j => by
    rw [List.getD_eq_getElem?_getD, List.getElem?_drop, ← List.getD_eq_getElem?_getD]
    exact h (m + j) (by omega)
  rw [e2] at e1
  have := Nat.lt_of_div_eq_zero (pow_pos' m) e1.symm
  exact this

theorem over_eq {P B' q D vx vy : Nat} (h : vy + P * (q * D) = vx + P * (B' * (0 + 1))) (hy : vy < P * B') : vx < P * (q * D) := by
  rw [Nat.zero_add, Nat.mul_one] at h
  omega

theorem back_eq {P B' q D vx vy vc m : Nat} (h : vy + P * (q * D) = vx + P * (B' * (0 + 1))) (hc : vc + P * B' * m = vy + P * D) (hl : vc < P * B') (hq : P * ((q - 1) * D) ≤ vx) (h0 : 0 < q) (hm : m ≤ 1) : vc + P * ((q - 1) * D) = vx := by
  obtain ⟨p, rfl⟩ : ∃ p, q = p + 1 := ⟨q - 1, by omega⟩
  rw [Nat.add_sub_cancel] at hq ⊢
  have e : P * ((p + 1) * D) = P * (p * D) + P * D := by grind
  rw [e, Nat.zero_add, Nat.mul_one] at h
  rcases m with _ | _ | m
  · rw [Nat.mul_zero] at hc
    omega
  · rw [Nat.zero_add, Nat.mul_one] at hc
    omega
  · omega

/-- Nothing was borrowed: the product is away. -/
theorem takeAt_fits {b xs cs : List Nat} {q i k : Nat} (hk : b.length ≤ k) (h : TakeAt b xs cs q i 0 0 k) : val cs + 4294967296 ^ i * (q * val b) = val xs := by
  unfold TakeAt at h
  rw [List.take_of_length_le hk] at h
  simpa using h

/-- A limb was borrowed: that was too much. -/
theorem takeAt_over {b xs cs : List Nat} {q i : Nat} (hd : Dig cs) (hz : Bare cs (i + (b.length + 1))) (h : TakeAt b xs cs q i 0 1 (b.length + 1)) : val xs < 4294967296 ^ i * (q * val b) := by
  unfold TakeAt at h
  rw [List.take_of_length_le (by omega)] at h
  have := lt_of_bare hd hz
  rw [Nat.pow_add] at this
  exact over_eq h this

/-- It is given back. -/
theorem giveAt_end {b xs ys cs : List Nat} {q i m : Nat} (hd : Dig cs) (hz : Bare cs (i + (b.length + 1))) (hy : TakeAt b xs ys q i 0 1 (b.length + 1)) (h : GiveAt b ys cs i m (b.length + 1))
    (h0 : 0 < q) (hq : 4294967296 ^ i * ((q - 1) * val b) ≤ val xs) (hm : m ≤ 1) : val cs + 4294967296 ^ i * ((q - 1) * val b) = val xs := by
  unfold TakeAt at hy
  unfold GiveAt at h
  rw [List.take_of_length_le (by omega)] at h hy
  have := lt_of_bare hd hz
  rw [Nat.pow_add] at this
  exact back_eq hy h this hq h0 hm

theorem take_carry {c q v : Nat} (hc : c < 4294967296) (hq : q < 4294967296) (hv : v < 4294967296) : c + q * v < 18446744073709551616 ∧ (c + q * v) / 4294967296 < 4294967296 ∧ q * v < 18446744073709551616 := by
  have h1 : q * v ≤ 4294967295 * 4294967295 := Nat.mul_le_mul (by omega) (by omega)
  omega


/-- The first k digits of a number, the least first. -/
def pad : Nat → Nat → List Nat
  | 0, _ => []
  | k + 1, n => n % 10 :: pad k (n / 10)

/-- A number's digits, the least first; none of 0. -/
def dec (n : Nat) : List Nat := if h : n = 0 then [] else n % 10 :: dec (n / 10)
termination_by n
decreasing_by omega

theorem dec_zero : dec 0 = [] := by rw [dec]; rfl
theorem dec_pos {n : Nat} (h : n ≠ 0) : dec n = n % 10 :: dec (n / 10) := by rw [dec, dif_neg h]

theorem pad_length : ∀ (k n : Nat), (pad k n).length = k
  | 0, _ => rfl
  | k + 1, n => by rw [pad, List.length_cons, pad_length k]

theorem pad_more : ∀ (k n : Nat), pad (k + 1) n = pad k n ++ [n / 10 ^ k % 10]
  | 0, n => by simp [pad]
  | k + 1, n => by
    rw [pad, pad_more k (n / 10), pad, List.cons_append, Nat.div_div_eq_div_mul, Nat.pow_succ, Nat.mul_comm 10]

theorem pad_zero : ∀ k : Nat, pad k 0 = List.replicate k 0
  | 0 => rfl
  | k + 1 => by rw [pad, Nat.zero_mod, Nat.zero_div, pad_zero k, List.replicate_succ]

/-- So many digits are the number's own, and noughts behind them. -/
theorem pad_dec : ∀ (k n : Nat), n < 10 ^ k → ∃ z, pad k n = dec n ++ List.replicate z 0 ∧ (dec n).length + z = k
  | 0, n, h => by
    have : n = 0 := by simpa using h
    subst this
    exact ⟨0, by rw [dec_zero]; rfl, by rw [dec_zero]; rfl⟩
  | k + 1, n, h => by
    by_cases h0 : n = 0
    · subst h0
      exact ⟨k + 1, by rw [pad_zero, dec_zero]; rfl, by rw [dec_zero]; simp⟩
    · have hd : n / 10 < 10 ^ k := by
        rw [Nat.pow_succ] at h
        omega
      obtain ⟨z, e, l⟩ := pad_dec k (n / 10) hd
      refine ⟨z, ?_, ?_⟩
      · rw [pad, e, dec_pos h0, List.cons_append]
      · rw [dec_pos h0, List.length_cons]
        omega

theorem dec_lt : ∀ (n : Nat) (x : Nat), x ∈ dec n → x < 10 := by
  intro n
  induction n using Nat.strongRecOn with
  | _ n ih =>
    intro x hx
    by_cases h : n = 0
    · rw [h, dec_zero] at hx; cases hx
    · rw [dec_pos h] at hx
      rcases List.mem_cons.1 hx with rfl | hx
      · omega
      · exact ih (n / 10) (by omega) x hx

/-- The highest digit is no nought. -/
theorem dec_last : ∀ (n : Nat) (r : List Nat) (x : Nat), dec n = r ++ [x] → x ≠ 0 := by
  intro n
  induction n using Nat.strongRecOn with
  | _ n ih =>
    intro r x h
    by_cases h0 : n = 0
    · rw [h0, dec_zero] at h; simp at h
    · rw [dec_pos h0] at h
      cases r with
      | nil =>
        rw [List.nil_append] at h
        have h1 := List.cons.inj h
        by_cases h2 : n / 10 = 0
        · omega
        · rw [dec_pos h2] at h1
          cases h1.2
      | cons y r =>
        rw [List.cons_append] at h
        exact ih (n / 10) (by omega) r x (List.cons.inj h).2

/-- Digits, the highest first, as a number. -/
def undec (l : List Nat) : Nat := l.foldl (fun a x => a * 10 + x) 0

theorem undec_snoc (l : List Nat) (x : Nat) : undec (l ++ [x]) = undec l * 10 + x := by unfold undec; rw [List.foldl_append]; rfl

theorem dec_length_le : ∀ (k n : Nat), n < 10 ^ k → (dec n).length ≤ k := fun k n h => by
  obtain ⟨z, _, l⟩ := pad_dec k n h
  omega

theorem fold_lt : ∀ (l : List Nat) (a k : Nat), (∀ x ∈ l, x < 10) → a < 10 ^ k → l.foldl (fun a x => a * 10 + x) a < 10 ^ (k + l.length)
  | [], _, _, _, h => h
  | x :: r, a, k, hx, h => by
    have h1 := hx x (List.mem_cons_self ..)
    have h2 : a * 10 + x < 10 ^ (k + 1) := by rw [Nat.pow_succ]; omega
    have h3 := fold_lt r (a * 10 + x) (k + 1) (fun y hy => hx y (List.mem_cons_of_mem _ hy)) h2
    rw [List.foldl_cons, List.length_cons, show k + (r.length + 1) = k + 1 + r.length by omega]
    exact h3

theorem undec_lt {l : List Nat} (h : ∀ x ∈ l, x < 10) : undec l < 10 ^ l.length := by
  have := fold_lt l 0 0 h (by simp)
  rw [Nat.zero_add] at this
  exact this

/-- A group of nine digits behind those that there are. -/
theorem pad_group (n j i : Nat) : n / 10 ^ (9 * j) % 1000000000 / 10 ^ i % 10 = n / 10 ^ (9 * j + i) % 10 ∨ 9 ≤ i := by
  rcases Nat.lt_or_ge i 9 with hi | hi
  · left
    have e : n / 10 ^ (9 * j + i) = n / 10 ^ (9 * j) / 10 ^ i := by rw [Nat.pow_add, ← Nat.div_div_eq_div_mul]
    rw [e]
    generalize n / 10 ^ (9 * j) = y
    have hc : i = 0 ∨ i = 1 ∨ i = 2 ∨ i = 3 ∨ i = 4 ∨ i = 5 ∨ i = 6 ∨ i = 7 ∨ i = 8 := by omega
    rcases hc with rfl | rfl | rfl | rfl | rfl | rfl | rfl | rfl | rfl <;> simp <;> omega
  · exact Or.inr hi

end Go.Proofs.YtchokmhfgikglaaGreatDoor
