/- 'NatLaws' returns true at any rows of limbs. No condition. -/
import Derived.Test.YtgbpaibggpgniaaKnown
namespace Go.Proofs.Ytgbpaibggpgniaa
open Go.RowKit

theorem nt_len {w : World} {L B : Nat} {v : Value} {x : List Nat} (h : Nt w L B v x) : ∃ A c, v = .slice A x.length c ∧ x.length ≤ 9223372036854775807 := by
  obtain ⟨A, c, rfl, hc, hm, _⟩ := h
  exact ⟨A, c, rfl, by unfold maxLen at hm; omega⟩

theorem lim_add_len {a b n : Nat} {x y : List Nat} (hx : Dig x) (hy : Dig y) (ha : a = val x) (hb : b = val y) (h1 : x.length ≤ n) (h2 : y.length ≤ n) : (lim (a + b)).length ≤ n + 1 := by
  subst ha; subst hb
  refine lim_length_le ?_
  have e1 := val_lt hx
  have e2 := val_lt hy
  have e3 : 4294967296 ^ x.length ≤ 4294967296 ^ n := Nat.pow_le_pow_right (by omega) h1
  have e4 : 4294967296 ^ y.length ≤ 4294967296 ^ n := Nat.pow_le_pow_right (by omega) h2
  rw [Nat.pow_succ]
  generalize 4294967296 ^ n = N at *
  omega

theorem lim_mul_len {a b m n : Nat} {x y : List Nat} (hx : Dig x) (hy : Dig y) (ha : a = val x) (hb : b = val y) (h1 : x.length ≤ m) (h2 : y.length ≤ n) : (lim (a * b)).length ≤ m + n := by
  subst ha; subst hb
  refine lim_length_le ?_
  rw [Nat.pow_add]
  have e1 := val_lt hx
  have e2 := val_lt hy
  have e3 : 4294967296 ^ x.length ≤ 4294967296 ^ m := Nat.pow_le_pow_right (by omega) h1
  have e4 : 4294967296 ^ y.length ≤ 4294967296 ^ n := Nat.pow_le_pow_right (by omega) h2
  exact Nat.mul_lt_mul_of_lt_of_le (Nat.lt_of_lt_of_le e1 e3) (Nat.le_of_lt (Nat.lt_of_lt_of_le e2 e4)) (pow_pos' _)

theorem eqb_eq {x y : List Nat} (h : x = y) : eqb x y = true := decide_eq_true h

set_option maxHeartbeats 3200000 in
theorem lawLaws_any (u v z : Value) (a b c : List Nat) (w : World) (da : Dig a) (db : Dig b) (dc : Dig c) (ha : Nt w 0 w.heap.size u a) (hb_ : Nt w 0 w.heap.size v b) (hc : Nt w 0 w.heap.size z c) :
    Calls Try.prog 3 #[u, v, z] w fun e w' => e = .returned (.bool true) ∧ Below w.heap.size w w' := by
  obtain ⟨A1, c1, rfl, m1⟩ := nt_len ha
  obtain ⟨A2, c2, rfl, m2⟩ := nt_len hb_
  obtain ⟨A3, c3, rfl, m3⟩ := nt_len hc
  by_cases la : a.length ≤ 20
  · by_cases lb : b.length ≤ 20
    · by_cases lc : c.length ≤ 20
      · have l1 := lim_add_len da db rfl rfl la lb
        have l2 := lim_mul_len da dc rfl rfl la lc
        have l3 := lim_mul_len db dc rfl rfl lb lc
        have l4 := lim_mul_len da db rfl rfl la lb
        go_enter Try.func3, Try.ntmps3
        have hB : Below w.heap.size w w := Below.refl _ _
        go_wp2_with fail
        refine (add_any _ _ _ _ _ da db ha hb_ (by omega) (by omega)).mono ?_
        rintro e w1 ⟨v1, rfl, s1', hb⟩
        have s1 := s1'.low (Nat.zero_le _)
        clear s1'
        replace ha := ha.after hb
        replace hb_ := hb_.after hb
        replace hc := hc.after hb
        replace hB := hB.trans (hb.mono hB.size)
        clear hb
        go_wp2_with fail
        refine (mul_any _ _ _ _ _ (dig_lim _) dc s1 hc (by omega) (by omega)).mono ?_
        rintro e w2 ⟨v2, rfl, x1', hb⟩
        have x1 := x1'.low (Nat.zero_le _)
        clear x1'
        replace ha := ha.after hb
        replace hb_ := hb_.after hb
        replace hc := hc.after hb
        replace s1 := s1.after hb
        replace hB := hB.trans (hb.mono hB.size)
        clear hb
        clear s1
        go_wp2_with fail
        refine (mul_any _ _ _ _ _ da dc ha hc (by omega) (by omega)).mono ?_
        rintro e w3 ⟨v3, rfl, p1', hb⟩
        have p1 := p1'.low (Nat.zero_le _)
        clear p1'
        replace ha := ha.after hb
        replace hb_ := hb_.after hb
        replace hc := hc.after hb
        replace x1 := x1.after hb
        replace hB := hB.trans (hb.mono hB.size)
        clear hb
        go_wp2_with fail
        refine (mul_any _ _ _ _ _ db dc hb_ hc (by omega) (by omega)).mono ?_
        rintro e w4 ⟨v4, rfl, p2', hb⟩
        have p2 := p2'.low (Nat.zero_le _)
        clear p2'
        replace ha := ha.after hb
        replace hb_ := hb_.after hb
        replace hc := hc.after hb
        replace x1 := x1.after hb
        replace p1 := p1.after hb
        replace hB := hB.trans (hb.mono hB.size)
        clear hb
        go_wp2_with fail
        refine (add_any _ _ _ _ _ (dig_lim _) (dig_lim _) p1 p2 (by omega) (by omega)).mono ?_
        rintro e w5 ⟨v5, rfl, y1', hb⟩
        have y1 := y1'.low (Nat.zero_le _)
        clear y1'
        replace ha := ha.after hb
        replace hb_ := hb_.after hb
        replace hc := hc.after hb
        replace x1 := x1.after hb
        replace p1 := p1.after hb
        replace p2 := p2.after hb
        replace hB := hB.trans (hb.mono hB.size)
        clear hb
        clear p1 p2
        go_wp2_with fail
        refine (add_any _ _ _ _ _ da db ha hb_ (by omega) (by omega)).mono ?_
        rintro e w6 ⟨v6, rfl, s1', hb⟩
        have s1 := s1'.low (Nat.zero_le _)
        clear s1'
        replace ha := ha.after hb
        replace hb_ := hb_.after hb
        replace hc := hc.after hb
        replace x1 := x1.after hb
        replace y1 := y1.after hb
        replace hB := hB.trans (hb.mono hB.size)
        clear hb
        go_wp2_with fail
        refine (add_any _ _ _ _ _ db da hb_ ha (by omega) (by omega)).mono ?_
        rintro e w7 ⟨v7, rfl, s2', hb⟩
        have s2 := s2'.low (Nat.zero_le _)
        clear s2'
        replace ha := ha.after hb
        replace hb_ := hb_.after hb
        replace hc := hc.after hb
        replace x1 := x1.after hb
        replace y1 := y1.after hb
        replace s1 := s1.after hb
        replace hB := hB.trans (hb.mono hB.size)
        clear hb
        go_wp2_with fail
        refine (limbs_any _ _ _ _ _ s1 s2).mono ?_
        rintro e w8 ⟨rfl, hb⟩
        rw [eqb_eq (by rw [Nat.add_comm])]
        replace ha := ha.after hb
        replace hb_ := hb_.after hb
        replace hc := hc.after hb
        replace x1 := x1.after hb
        replace y1 := y1.after hb
        replace s1 := s1.after hb
        replace s2 := s2.after hb
        replace hB := hB.trans (hb.mono hB.size)
        clear hb
        clear s1 s2
        go_wp2_with fail
        refine (mul_any _ _ _ _ _ da db ha hb_ (by omega) (by omega)).mono ?_
        rintro e w9 ⟨v9, rfl, s1', hb⟩
        have s1 := s1'.low (Nat.zero_le _)
        clear s1'
        replace ha := ha.after hb
        replace hb_ := hb_.after hb
        replace hc := hc.after hb
        replace x1 := x1.after hb
        replace y1 := y1.after hb
        replace hB := hB.trans (hb.mono hB.size)
        clear hb
        go_wp2_with fail
        refine (mul_any _ _ _ _ _ db da hb_ ha (by omega) (by omega)).mono ?_
        rintro e w10 ⟨v10, rfl, s2', hb⟩
        have s2 := s2'.low (Nat.zero_le _)
        clear s2'
        replace ha := ha.after hb
        replace hb_ := hb_.after hb
        replace hc := hc.after hb
        replace x1 := x1.after hb
        replace y1 := y1.after hb
        replace s1 := s1.after hb
        replace hB := hB.trans (hb.mono hB.size)
        clear hb
        go_wp2_with fail
        refine (limbs_any _ _ _ _ _ s1 s2).mono ?_
        rintro e w11 ⟨rfl, hb⟩
        rw [eqb_eq (by rw [Nat.mul_comm])]
        replace ha := ha.after hb
        replace hb_ := hb_.after hb
        replace hc := hc.after hb
        replace x1 := x1.after hb
        replace y1 := y1.after hb
        replace s1 := s1.after hb
        replace s2 := s2.after hb
        replace hB := hB.trans (hb.mono hB.size)
        clear hb
        clear s1 s2
        go_wp2_with fail
        refine (limbs_any _ _ _ _ _ x1 y1).mono ?_
        rintro e w12 ⟨rfl, hb⟩
        rw [eqb_eq (by simp only [val_lim]; rw [Nat.add_mul])]
        replace ha := ha.after hb
        replace hb_ := hb_.after hb
        replace hc := hc.after hb
        replace x1 := x1.after hb
        replace y1 := y1.after hb
        replace hB := hB.trans (hb.mono hB.size)
        clear hb
        clear x1 y1
        go_wp2_with fail
        refine (mul_any _ _ _ _ _ da db ha hb_ (by omega) (by omega)).mono ?_
        rintro e w13 ⟨v13, rfl, s1', hb⟩
        have s1 := s1'.low (Nat.zero_le _)
        clear s1'
        replace ha := ha.after hb
        replace hb_ := hb_.after hb
        replace hc := hc.after hb
        replace hB := hB.trans (hb.mono hB.size)
        clear hb
        go_wp2_with fail
        refine (mul_any _ _ _ _ _ (dig_lim _) dc s1 hc (by omega) (by omega)).mono ?_
        rintro e w14 ⟨v14, rfl, x1', hb⟩
        have x1 := x1'.low (Nat.zero_le _)
        clear x1'
        replace ha := ha.after hb
        replace hb_ := hb_.after hb
        replace hc := hc.after hb
        replace s1 := s1.after hb
        replace hB := hB.trans (hb.mono hB.size)
        clear hb
        clear s1
        go_wp2_with fail
        refine (mul_any _ _ _ _ _ db dc hb_ hc (by omega) (by omega)).mono ?_
        rintro e w15 ⟨v15, rfl, s1', hb⟩
        have s1 := s1'.low (Nat.zero_le _)
        clear s1'
        replace ha := ha.after hb
        replace hb_ := hb_.after hb
        replace hc := hc.after hb
        replace x1 := x1.after hb
        replace hB := hB.trans (hb.mono hB.size)
        clear hb
        go_wp2_with fail
        refine (mul_any _ _ _ _ _ da (dig_lim _) ha s1 (by omega) (by omega)).mono ?_
        rintro e w16 ⟨v16, rfl, y1', hb⟩
        have y1 := y1'.low (Nat.zero_le _)
        clear y1'
        replace ha := ha.after hb
        replace hb_ := hb_.after hb
        replace hc := hc.after hb
        replace x1 := x1.after hb
        replace s1 := s1.after hb
        replace hB := hB.trans (hb.mono hB.size)
        clear hb
        clear s1
        go_wp2_with fail
        refine (limbs_any _ _ _ _ _ x1 y1).mono ?_
        rintro e w17 ⟨rfl, hb⟩
        rw [eqb_eq (by simp only [val_lim]; rw [Nat.mul_assoc])]
        replace ha := ha.after hb
        replace hb_ := hb_.after hb
        replace hc := hc.after hb
        replace x1 := x1.after hb
        replace y1 := y1.after hb
        replace hB := hB.trans (hb.mono hB.size)
        clear hb
        clear x1 y1
        go_wp2_with fail
        refine (known_any _).mono ?_
        rintro e w18 ⟨rfl, hb⟩
        replace ha := ha.after hb
        replace hb_ := hb_.after hb
        replace hc := hc.after hb
        replace hB := hB.trans (hb.mono hB.size)
        clear hb
        go_wp2_with fail
        go_ret
        exact ⟨rfl, hB⟩
      · have hgt : (20 : Int) < (c.length : Int) := by omega
        go_enter Try.func3, Try.ntmps3
        go_wp2
        go_ret
        exact ⟨rfl, Below.refl _ _⟩
    · have hgt : (20 : Int) < (b.length : Int) := by omega
      go_enter Try.func3, Try.ntmps3
      go_wp2
      go_ret
      exact ⟨rfl, Below.refl _ _⟩
  · have hgt : (20 : Int) < (a.length : Int) := by omega
    go_enter Try.func3, Try.ntmps3
    go_wp2
    go_ret
    exact ⟨rfl, Below.refl _ _⟩
end Go.Proofs.Ytgbpaibggpgniaa
