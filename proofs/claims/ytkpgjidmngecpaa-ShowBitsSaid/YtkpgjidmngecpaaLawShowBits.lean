/- 'ShowBits' returns true at any number of digits. No condition. -/
import Derived.Test.YtkpgjidmngecpaaShowB
namespace Go.Proofs.Ytkpgjidmngecpaa
open Go.RowKit

theorem bits_lt {m k : Nat} (hm : 1 ≤ m) : k < bl (m - 1) ↔ 2 ^ k < m := by
  by_cases h : m - 1 = 0
  · rw [h, bl_zero]
    have := Nat.two_pow_pos k
    omega
  · obtain ⟨a, b, c⟩ := bl_spec (m - 1) h
    constructor
    · intro hk
      have : 2 ^ k ≤ 2 ^ (bl (m - 1) - 1) := Nat.pow_le_pow_right (by omega) (by omega)
      omega
    · intro hk
      refine Nat.lt_of_not_le fun hle => ?_
      have : 2 ^ bl (m - 1) ≤ 2 ^ k := Nat.pow_le_pow_right (by omega) hle
      omega

theorem ten_pos (h : Nat) : 1 ≤ 10 ^ h := Nat.one_le_pow _ _ (by omega)

theorem bits_le {h : Nat} (hh : h ≤ 30) : bl (10 ^ h - 1) ≤ 100 := by
  refine Nat.le_of_not_lt fun hlt => ?_
  have h1 := (bits_lt (ten_pos h)).1 hlt
  have h2 : 10 ^ h ≤ 10 ^ 30 := Nat.pow_le_pow_right (by omega) hh
  have h3 : (10 : Nat) ^ 30 ≤ 2 ^ 100 := by decide
  omega

theorem cmpI_pos {a b : Nat} : 0 < cmpI (a : Int) (b : Int) ↔ b < a := by
  unfold cmpI
  by_cases h : (a : Int) < b
  · rw [if_pos h]; omega
  · rw [if_neg h]
    by_cases h2 : (b : Int) < a
    · rw [if_pos h2]; omega
    · rw [if_neg h2]; omega

set_option maxHeartbeats 3200000 in
theorem refBits20_any (d : Int) (w : World) : Calls Try.prog 5 #[.int .i64 d] w fun e w' => e = .returned (.int .i64 ((bl (10 ^ (hold30 d).toNat - 1) : Nat) : Int)) ∧ Below w.heap.size w w' := by
  obtain ⟨h, hh⟩ : ∃ h : Nat, (hold30 d).toNat = h := ⟨_, rfl⟩
  have hr := hold30_range d
  have hI : hold30 d = (h : Int) := by omega
  have h30 : h ≤ 30 := by omega
  rw [hh]
  have HI := Lib.hid hI
  obtain ⟨T, hT⟩ : ∃ T, bl (10 ^ h - 1) = T := ⟨_, rfl⟩
  have hT1 : T ≤ 100 := by rw [← hT]; exact bits_le h30
  have HL : Hid (∀ k, k < T ↔ 2 ^ k < 10 ^ h) := fun k => by rw [← hT]; exact bits_lt (ten_pos h)
  rw [hT]
  clear hT hh hr hI
  go_enter Try.func5, Try.ntmps5
  have hB : Below w.heap.size w w := Below.refl _ _
  go_wp2_with fail
  go_loopw [3] (fun p wr => ∃ k : Nat, k ≤ T ∧ p = .int .i64 (k : Nat) ∧ Below w.heap.size w wr)
    (fun p _ => T - (intOf p).toNat)
  case atStart => exact ⟨0, Nat.zero_le _, rfl, hB⟩
  case round =>
    obtain ⟨k, hk, rfl, hb⟩ := hrel
    clear hB
    obtain ⟨cz, hcz⟩ : ∃ cz, cmpI ((10 ^ h : Nat) : Int) ((2 ^ k : Nat) : Int) = cz := ⟨_, rfl⟩
    have hpos := cmpI_pos (a := 10 ^ h) (b := 2 ^ k)
    rw [hcz, ← HL.out k] at hpos
    have CZ := Lib.hid hcz
    have HP := Lib.hid hpos
    clear hcz hpos
    by_cases hlt : k < T
    · have hz : 0 < cz := HP.out.2 hlt
      go_wp2_with fail
      refine (refBit_any k _ (by omega)).mono ?_
      rintro e w1 ⟨v1, rfl, h1, hb1⟩
      have h1' := h1.low (Nat.zero_le _)
      have hb2 := hb.trans (hb1.mono hb.size)
      clear h1 hb1
      go_wp2_with fail
      refine (hold_any d _).mono ?_
      rintro e w2 ⟨rfl, rfl⟩
      rw [HI.out]
      go_wp2_with fail
      refine (refTen_any h _ h30).mono ?_
      rintro e w3 ⟨v3, rfl, h3, hb3⟩
      have h1'' := h1'.after hb3
      have h3' := h3.low (Nat.zero_le _)
      have hb4 := hb2.trans (hb3.mono hb2.size)
      clear h3 hb3 h1' hb2
      go_wp2_with fail
      refine (cmpBT_any _ _ k h _ (by omega) h30 h1'' h3').mono ?_
      rintro e w4 ⟨rfl, hb5⟩
      rw [CZ.out]
      have hb6 := hb4.trans (hb5.mono hb4.size)
      clear h1'' h3' hb4 hb5
      go_wp2_with fail
      go_roundw
      case rel => exact ⟨k + 1, by omega, by go_num, hb6⟩
      case measure => simp [intOf]; omega
    · have hz : ¬ 0 < cz := fun hc => hlt (HP.out.1 hc)
      obtain rfl : k = T := by omega
      go_wp2_with fail
      refine (refBit_any k _ (by omega)).mono ?_
      rintro e w1 ⟨v1, rfl, h1, hb1⟩
      have h1' := h1.low (Nat.zero_le _)
      have hb2 := hb.trans (hb1.mono hb.size)
      clear h1 hb1
      go_wp2_with fail
      refine (hold_any d _).mono ?_
      rintro e w2 ⟨rfl, rfl⟩
      rw [HI.out]
      go_wp2_with fail
      refine (refTen_any h _ h30).mono ?_
      rintro e w3 ⟨v3, rfl, h3, hb3⟩
      have h1'' := h1'.after hb3
      have h3' := h3.low (Nat.zero_le _)
      have hb4 := hb2.trans (hb3.mono hb2.size)
      clear h3 hb3 h1' hb2
      go_wp2_with fail
      refine (cmpBT_any _ _ k h _ (by omega) h30 h1'' h3').mono ?_
      rintro e w4 ⟨rfl, hb5⟩
      rw [CZ.out]
      have hb6 := hb4.trans (hb5.mono hb4.size)
      clear h1'' h3' hb4 hb5
      go_wp2_with fail
      go_ret
      exact ⟨rfl, hb6⟩

set_option maxHeartbeats 3200000 in
theorem lawShowBits_out (d : Int) (w : World) (hd : d < 0 ∨ 30 < d) : Calls Try.prog 3 #[.int .i64 d] w fun e w' => e = .returned (.bool true) ∧ Below w.heap.size w w' := by
  obtain ⟨T, hT⟩ : ∃ T, bl (10 ^ (hold30 d).toNat - 1) = T := ⟨_, rfl⟩
  have HT := Lib.hid hT
  clear hT
  have hbe : ((T : Int) == (T : Int)) = true := beq_self_eq_true _
  rcases hd with hd | hd
  · skip
    go_enter Try.func3, Try.ntmps3
    go_wp2_with fail
    refine (showBits_any d w).mono ?_
    rintro e w1 ⟨rfl, hb1⟩
    rw [HT.out]
    go_wp2_with fail
    refine (refBits20_any d _).mono ?_
    rintro e w2 ⟨rfl, hb2⟩
    rw [HT.out]
    have hb3 := hb1.trans (hb2.mono hb1.size)
    clear hb1 hb2
    go_wp2_with fail
    refine (known20_any _).mono ?_
    rintro e w3 ⟨rfl, hb4⟩
    go_wp2_with fail
    go_ret
    exact ⟨rfl, hb3.trans (hb4.mono hb3.size)⟩
  · have hd0 : ¬ d < 0 := by omega
    go_enter Try.func3, Try.ntmps3
    go_wp2_with fail
    refine (showBits_any d w).mono ?_
    rintro e w1 ⟨rfl, hb1⟩
    rw [HT.out]
    go_wp2_with fail
    refine (refBits20_any d _).mono ?_
    rintro e w2 ⟨rfl, hb2⟩
    rw [HT.out]
    have hb3 := hb1.trans (hb2.mono hb1.size)
    clear hb1 hb2
    go_wp2_with fail
    refine (known20_any _).mono ?_
    rintro e w3 ⟨rfl, hb4⟩
    go_wp2_with fail
    go_ret
    exact ⟨rfl, hb3.trans (hb4.mono hb3.size)⟩

set_option maxHeartbeats 3200000 in
theorem lawShowBits_in (d : Int) (h : Nat) (w : World) (hd : d = (h : Int)) (h30 : h ≤ 30) : Calls Try.prog 3 #[.int .i64 d] w fun e w' => e = .returned (.bool true) ∧ Below w.heap.size w w' := by
  subst hd
  have hh : (hold30 (h : Int)).toNat = h := by unfold hold30; omega
  obtain ⟨T, hT⟩ : ∃ T, bl (10 ^ h - 1) = T := ⟨_, rfl⟩
  have hT1 : T ≤ 100 := by rw [← hT]; exact bits_le h30
  have HL : Hid (∀ k, k < T ↔ 2 ^ k < 10 ^ h) := fun k => by rw [← hT]; exact bits_lt (ten_pos h)
  have HT : Hid (bl (10 ^ (hold30 (h : Int)).toNat - 1) = T) := by show _ = _; rw [hh]; exact hT
  clear hh hT
  have i1 : ¬ (h : Int) < 0 := by omega
  have i2 : ¬ 30 < (h : Int) := by omega
  have i3 : ¬ (T : Int) < 0 := by omega
  have i4 : ¬ 200 < (T : Int) := by omega
  obtain ⟨cz, hcz⟩ : ∃ cz, cmpI ((10 ^ h : Nat) : Int) ((2 ^ T : Nat) : Int) = cz := ⟨_, rfl⟩
  have hpos := cmpI_pos (a := 10 ^ h) (b := 2 ^ T)
  rw [hcz, ← HL.out T] at hpos
  have hz : cz ≤ 0 := Int.not_lt.1 fun hc => Nat.lt_irrefl _ (hpos.1 hc)
  have CZ := Lib.hid hcz
  clear hcz hpos
  go_enter Try.func3, Try.ntmps3
  go_wp2_with fail
  refine (showBits_any _ w).mono ?_
  rintro e w0 ⟨rfl, hb⟩
  rw [HT.out]
  go_wp2_with fail
  refine (refBit_any T _ (by omega)).mono ?_
  rintro e w1 ⟨v1, rfl, h1, hb1⟩
  have h1' := h1.low (Nat.zero_le _)
  have hb2 := hb.trans (hb1.mono hb.size)
  clear h1 hb1
  go_wp2_with fail
  refine (refTen_any h _ h30).mono ?_
  rintro e w3 ⟨v3, rfl, h3, hb3⟩
  have h1'' := h1'.after hb3
  have h3' := h3.low (Nat.zero_le _)
  have hb4 := hb2.trans (hb3.mono hb2.size)
  clear h3 hb3 h1' hb2
  go_wp2_with fail
  refine (cmpBT_any _ _ T h _ (by omega) h30 h1'' h3').mono ?_
  rintro e w4 ⟨rfl, hb5⟩
  rw [CZ.out]
  have hb6 := hb4.trans (hb5.mono hb4.size)
  clear h1'' h3' hb4 hb5
  clear CZ
  rcases Nat.eq_zero_or_pos T with h0 | h0
  · subst h0
    go_wp2_with fail
    refine (known20_any _).mono ?_
    rintro e w5 ⟨rfl, hb7⟩
    go_wp2_with fail
    go_ret
    exact ⟨rfl, hb6.trans (hb7.mono hb6.size)⟩
  · obtain ⟨k, hk⟩ : ∃ k, T - 1 = k := ⟨_, rfl⟩
    have ek : (T : Int) - 1 = (k : Int) := by omega
    have t0 : ¬ (T : Int) = 0 := by omega
    have t1 : ((T : Int) == 0) = false := beq_eq_false_iff_ne.2 t0
    have k100 : k ≤ 100 := by omega
    have hkT : k < T := by omega
    obtain ⟨cy, hcy⟩ : ∃ cy, cmpI ((10 ^ h : Nat) : Int) ((2 ^ k : Nat) : Int) = cy := ⟨_, rfl⟩
    have hpos := cmpI_pos (a := 10 ^ h) (b := 2 ^ k)
    rw [hcy, ← HL.out k] at hpos
    have hy : 0 < cy := hpos.2 hkT
    have CZ := Lib.hid hcy
    clear hcy hpos hk h0 hkT
    go_wp2_with fail
    refine (refBit_any k _ (by omega)).mono ?_
    rintro e w1 ⟨v1, rfl, h1, hb1⟩
    have h1' := h1.low (Nat.zero_le _)
    have hb2 := hb6.trans (hb1.mono hb6.size)
    clear h1 hb1
    go_wp2_with fail
    refine (refTen_any h _ h30).mono ?_
    rintro e w3 ⟨v3, rfl, h3, hb3⟩
    have h1'' := h1'.after hb3
    have h3' := h3.low (Nat.zero_le _)
    have hb4 := hb2.trans (hb3.mono hb2.size)
    clear h3 hb3 h1' hb2
    go_wp2_with fail
    refine (cmpBT_any _ _ k h _ (by omega) h30 h1'' h3').mono ?_
    rintro e w4 ⟨rfl, hb5⟩
    rw [CZ.out]
    have hb8 := hb4.trans (hb5.mono hb4.size)
    clear h1'' h3' hb4 hb5
    go_wp2_with fail
    refine (known20_any _).mono ?_
    rintro e w5 ⟨rfl, hb7⟩
    go_wp2_with fail
    go_ret
    exact ⟨rfl, hb8.trans (hb7.mono hb8.size)⟩

theorem lawShowBits_any (d : Int) (w : World) : Calls Try.prog 3 #[.int .i64 d] w fun e w' => e = .returned (.bool true) ∧ Below w.heap.size w w' := by
  by_cases hd : d < 0 ∨ 30 < d
  · exact lawShowBits_out d w hd
  · exact lawShowBits_in d d.toNat w (by omega) (by omega)
end Go.Proofs.Ytkpgjidmngecpaa
