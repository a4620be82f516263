/- 'NatGcds' returns true at any rows of limbs. No condition. -/
import Derived.Test.YtgbpaibggpgniaaLawBack
namespace Go.Proofs.Ytgbpaibggpgniaa
open Go.RowKit

theorem gcd_rest {m g : Nat} (h0 : g ≠ 0) (h : g ∣ m) : lim (remN m g) = [] := by
  unfold remN
  rw [if_neg h0, Nat.mod_eq_zero_of_dvd h]
  exact lim_zero

theorem gcd_one {m n : Nat} (h : m ≠ 0) : lim (Nat.gcd (m / Nat.gcd m n) (n / Nat.gcd m n)) = [1] := by
  rw [Nat.gcd_div_gcd_div_gcd_of_pos_left (Nat.pos_of_ne_zero h)]
  exact lim_one (by omega) (by omega)

set_option maxHeartbeats 3200000 in
theorem lawGcdsA_any (u v : Value) (a b : List Nat) (w : World) (da : Dig a) (db : Dig b) (ha : Nt w 0 w.heap.size u a) (hb_ : Nt w 0 w.heap.size v b) (la : a.length ≤ 8) (lb : b.length ≤ 8) (h0 : val a = 0) :
    Calls Try.prog 9 #[u, v] w fun e w' => e = .returned (.bool true) ∧ Below w.heap.size w w' := by
  obtain ⟨A1, c1, rfl, m1⟩ := nt_len ha
  obtain ⟨A2, c2, rfl, m2⟩ := nt_len hb_
  have e4 : lim (val a) = [] := by rw [h0]; exact lim_zero
  have E4 := Lib.hid e4
  clear e4 h0
  go_enter Try.func9, Try.ntmps9
  go_wp2_with fail
  refine (refTrim_any _ a _ da ha (by omega)).mono ?_
  rintro e w2 ⟨v2, rfl, h2, hb⟩
  rw [E4.out] at h2
  obtain ⟨A5, c5, rfl⟩ := nt_nil_len h2
  go_wp2
  go_ret
  exact ⟨rfl, hb⟩

set_option maxHeartbeats 3200000 in
theorem lawGcdsB_any (u v : Value) (a b : List Nat) (w : World) (da : Dig a) (db : Dig b) (ha : Nt w 0 w.heap.size u a) (hb_ : Nt w 0 w.heap.size v b) (la : a.length ≤ 8) (lb : b.length ≤ 8) (ha0 : val a ≠ 0) (h0 : val b = 0) :
    Calls Try.prog 9 #[u, v] w fun e w' => e = .returned (.bool true) ∧ Below w.heap.size w w' := by
  obtain ⟨A1, c1, rfl, m1⟩ := nt_len ha
  obtain ⟨A2, c2, rfl, m2⟩ := nt_len hb_
  have e4 : lim (val b) = [] := by rw [h0]; exact lim_zero
  have E4 := Lib.hid e4
  have n0 : ¬ (lim (val a)).length = 0 := fun h => ha0 (lim_eq_nil.1 (List.eq_nil_of_length_eq_zero h))
  clear e4 h0 ha0
  go_enter Try.func9, Try.ntmps9
  go_wp2_with fail
  refine (refTrim_any _ a _ da ha (by omega)).mono ?_
  rintro e w2 ⟨v2, rfl, h2, hb⟩
  obtain ⟨A5, c5, rfl, m5⟩ := nt_len h2
  replace hb_ := hb_.after hb
  clear h2
  go_wp2_with fail
  refine (refTrim_any _ b _ db hb_ (by omega)).mono ?_
  rintro e w3 ⟨v3, rfl, h3, hb3⟩
  rw [E4.out] at h3
  obtain ⟨A6, c6, rfl⟩ := nt_nil_len h3
  go_wp2
  go_ret
  exact ⟨rfl, hb.trans (hb3.mono hb.size)⟩

set_option maxHeartbeats 3200000 in
theorem lawGcdsC_any (u v : Value) (a b : List Nat) (w : World) (da : Dig a) (db : Dig b) (ha : Nt w 0 w.heap.size u a) (hb_ : Nt w 0 w.heap.size v b) (la : a.length ≤ 8) (lb : b.length ≤ 8) (ha0 : val a ≠ 0) (hb0 : val b ≠ 0) :
    Calls Try.prog 9 #[u, v] w fun e w' => e = .returned (.bool true) ∧ Below w.heap.size w w' := by
  obtain ⟨A1, c1, rfl, m1⟩ := nt_len ha
  obtain ⟨A2, c2, rfl, m2⟩ := nt_len hb_
  have n0 : ¬ (lim (val a)).length = 0 := fun h => ha0 (lim_eq_nil.1 (List.eq_nil_of_length_eq_zero h))
  have n1 : ¬ (lim (val b)).length = 0 := fun h => hb0 (lim_eq_nil.1 (List.eq_nil_of_length_eq_zero h))
  have z1 : ((((lim (val a)).length : Nat) : Int) == 0) = false := beq_eq_false_iff_ne.2 (by omega)
  have z2 : ((((lim (val b)).length : Nat) : Int) == 0) = false := beq_eq_false_iff_ne.2 (by omega)
  have i1 : ¬ (8 : Int) < (a.length : Int) := by omega
  have i2 : ¬ (8 : Int) < (b.length : Int) := by omega
  have g0 : Nat.gcd (val a) (val b) ≠ 0 := fun h => ha0 (Nat.eq_zero_of_gcd_eq_zero_left h)
  have hal : val a < 4294967296 ^ 8 := Nat.lt_of_lt_of_le (val_lt da) (Nat.pow_le_pow_right (by omega) la)
  have hbl : val b < 4294967296 ^ 8 := Nat.lt_of_lt_of_le (val_lt db) (Nat.pow_le_pow_right (by omega) lb)
  have R1 := Lib.hid (gcd_rest g0 (Nat.gcd_dvd_left (val a) (val b)))
  have R2 := Lib.hid (gcd_rest g0 (Nat.gcd_dvd_right (val a) (val b)))
  have ONE := Lib.hid (gcd_one (n := val b) ha0)
  have D0 : Hid (decide (val (lim (Nat.gcd (val a) (val b))) ≠ 0) = true) := by show _ = _; rw [val_lim]; exact decide_eq_true g0
  have VG := Lib.hid (val_lim (Nat.gcd (val a) (val b)))
  have V1 := Lib.hid (val_lim (val a / Nat.gcd (val a) (val b)))
  have V2 := Lib.hid (val_lim (val b / Nat.gcd (val a) (val b)))
  have dg := dig_lim (Nat.gcd (val a) (val b))
  have d1 := dig_lim (val a / Nat.gcd (val a) (val b))
  have d2 := dig_lim (val b / Nat.gcd (val a) (val b))
  have lg : (lim (Nat.gcd (val a) (val b))).length ≤ 8 := lim_length_le (Nat.lt_of_le_of_lt (Nat.gcd_le_left _ (Nat.pos_of_ne_zero ha0)) hal)
  have l1 : (lim (val a / Nat.gcd (val a) (val b))).length ≤ 8 := lim_length_le (Nat.lt_of_le_of_lt (Nat.div_le_self _ _) hal)
  have l2 : (lim (val b / Nat.gcd (val a) (val b))).length ≤ 8 := lim_length_le (Nat.lt_of_le_of_lt (Nat.div_le_self _ _) hbl)
  have eo : eqb [1] [1] = true := rfl
  have EO := Lib.hid eo
  clear hal hbl ha0 hb0 g0 eo
  generalize hG : Nat.gcd (val a) (val b) = G at *
  have HG := Lib.hid hG
  clear hG
  generalize hX : val a / G = X at *
  have HX := Lib.hid hX
  clear hX
  generalize hY : val b / G = Y at *
  have HY := Lib.hid hY
  clear hY
  go_enter Try.func9, Try.ntmps9
  have hB : Below w.heap.size w w := Below.refl _ _
  go_wp2_with fail
  refine (refTrim_any _ a _ da ha (by omega)).mono ?_
  rintro e w1 ⟨v1, rfl, t1, hb⟩
  obtain ⟨B1, k1, rfl, n5⟩ := nt_len t1
  replace ha := ha.after hb
  replace hb_ := hb_.after hb
  replace hB := hB.trans (hb.mono hB.size)
  clear hb
  clear t1
  go_wp2_with fail
  refine (refTrim_any _ b _ db hb_ (by omega)).mono ?_
  rintro e w2 ⟨v2, rfl, t2, hb⟩
  obtain ⟨B2, k2, rfl, n6⟩ := nt_len t2
  replace ha := ha.after hb
  replace hb_ := hb_.after hb
  replace hB := hB.trans (hb.mono hB.size)
  clear hb
  clear t2
  go_wp2_with fail
  refine (gcd_any _ _ _ _ _ da db ha hb_ (by omega) (by omega)).mono ?_
  rintro e w3 ⟨v3, rfl, g1', hb⟩
  have g1 := g1'.low (Nat.zero_le _)
  clear g1'
  replace ha := ha.after hb
  replace hb_ := hb_.after hb
  replace hB := hB.trans (hb.mono hB.size)
  clear hb
  rw [HG.out] at g1
  go_wp2_with fail
  refine (div_any _ _ a (lim G) _ da dg ha g1 (by omega) (by omega)).mono ?_
  rintro e w4 ⟨v4, y4, rfl, q1', r4, hb⟩
  rw [VG.out] at q1' r4
  rw [R1.out] at r4
  rw [HX.out] at q1'
  rw [D0.out]
  obtain ⟨B4, k4, rfl⟩ := nt_nil_len r4
  have q1 := q1'.low (Nat.zero_le _)
  clear q1' r4
  replace ha := ha.after hb
  replace hb_ := hb_.after hb
  replace g1 := g1.after hb
  replace hB := hB.trans (hb.mono hB.size)
  clear hb
  go_wp2_with fail
  refine (div_any _ _ b (lim G) _ db dg hb_ g1 (by omega) (by omega)).mono ?_
  rintro e w5 ⟨v5, y5, rfl, q2', r5, hb⟩
  rw [VG.out] at q2' r5
  rw [R2.out] at r5
  rw [HY.out] at q2'
  rw [D0.out]
  obtain ⟨B5, k5, rfl⟩ := nt_nil_len r5
  have q2 := q2'.low (Nat.zero_le _)
  clear q2' r5
  replace ha := ha.after hb
  replace hb_ := hb_.after hb
  replace g1 := g1.after hb
  replace q1 := q1.after hb
  replace hB := hB.trans (hb.mono hB.size)
  clear hb
  clear g1
  go_wp2_with fail
  refine (gcd_any _ _ (lim X) (lim Y) _ d1 d2 q1 q2 (by omega) (by omega)).mono ?_
  rintro e w6 ⟨v6, rfl, s1', hb⟩
  have s1 := s1'.low (Nat.zero_le _)
  clear s1'
  replace ha := ha.after hb
  replace hb_ := hb_.after hb
  replace q1 := q1.after hb
  replace q2 := q2.after hb
  replace hB := hB.trans (hb.mono hB.size)
  clear hb
  rw [V1.out, V2.out, ONE.out] at s1
  clear q1 q2
  obtain ⟨o1, hb⟩ := nt_laid w6 27 [1] (by simp)
  have ev : (lv [1]).toArray = #[Value.int .u32 1] := rfl
  rw [ev] at o1 hb
  clear ev
  replace ha := ha.after hb
  replace hb_ := hb_.after hb
  replace s1 := s1.after hb
  replace hB := hB.trans (hb.mono hB.size)
  clear hb
  go_wp2_with fail
  refine (limbs_any _ _ _ _ _ s1 (o1.low (Nat.zero_le _))).mono ?_
  rintro e w7 ⟨rfl, hb⟩
  rw [EO.out]
  replace ha := ha.after hb
  replace hb_ := hb_.after hb
  replace s1 := s1.after hb
  replace hB := hB.trans (hb.mono hB.size)
  clear hb
  clear s1
  go_wp2_with fail
  refine (known_any _).mono ?_
  rintro e w8 ⟨rfl, hb⟩
  replace ha := ha.after hb
  replace hb_ := hb_.after hb
  replace hB := hB.trans (hb.mono hB.size)
  clear hb
  go_wp2_with fail
  go_ret
  exact ⟨rfl, hB⟩

set_option maxHeartbeats 3200000 in
theorem lawGcds_any (u v : Value) (a b : List Nat) (w : World) (da : Dig a) (db : Dig b) (ha : Nt w 0 w.heap.size u a) (hb_ : Nt w 0 w.heap.size v b) :
    Calls Try.prog 9 #[u, v] w fun e w' => e = .returned (.bool true) ∧ Below w.heap.size w w' := by
  by_cases la : a.length ≤ 8
  · by_cases lb : b.length ≤ 8
    · by_cases h0 : val a = 0
      · exact lawGcdsA_any u v a b w da db ha hb_ la lb h0
      · by_cases h1 : val b = 0
        · exact lawGcdsB_any u v a b w da db ha hb_ la lb h0 h1
        · exact lawGcdsC_any u v a b w da db ha hb_ la lb h0 h1
    · obtain ⟨A1, c1, rfl, m1⟩ := nt_len ha
      obtain ⟨A2, c2, rfl, m2⟩ := nt_len hb_
      have hgt : (8 : Int) < (b.length : Int) := by omega
      go_enter Try.func9, Try.ntmps9
      go_wp2
      go_ret
      exact ⟨rfl, Below.refl _ _⟩
  · obtain ⟨A1, c1, rfl, m1⟩ := nt_len ha
    obtain ⟨A2, c2, rfl, m2⟩ := nt_len hb_
    have hgt : (8 : Int) < (a.length : Int) := by omega
    go_enter Try.func9, Try.ntmps9
    go_wp2
    go_ret
    exact ⟨rfl, Below.refl _ _⟩
end Go.Proofs.Ytgbpaibggpgniaa
