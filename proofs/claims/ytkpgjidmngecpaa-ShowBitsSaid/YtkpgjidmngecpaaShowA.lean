/- The program's 'tens', 'held', 'Bits' of package show by their contracts. No condition but small sizes. -/
import Derived.Test.YtkpgjidmngecpaaBits
import Derived.Test.YtkpgjidmngecpaaMuls
import Derived.Test.YtkpgjidmngecpaaSubs
import Derived.Test.YtkpgjidmngecpaaOfs
import Derived.Outline
namespace Go.Proofs.Ytkpgjidmngecpaa
open Go.RowKit

/-- A number held between 0 and 30. -/
def hold30 (d : Int) : Int := min (max d 0) 30
theorem hold30_range (d : Int) : 0 ≤ hold30 d ∧ hold30 d ≤ 30 := by unfold hold30; omega

theorem held_any (d : Int) (w : World) : Calls Try.prog 12 #[.int .i64 d] w fun e w' => e = .returned (.int .i64 (hold30 d)) ∧ w = w' := by
  by_cases h1 : d < 0
  · have e : hold30 d = 0 := by unfold hold30; omega
    rw [e]
    have h2 : ¬ 0 ≤ d := by omega
    have h3 : d ≤ 0 := by omega
    go_enter Try.func12, Try.ntmps12
    go_wp2
    go_ret
    exact ⟨rfl, rfl⟩
  · have h2 : 0 ≤ d := by omega
    by_cases h3 : d ≤ 30
    · have e : hold30 d = d := by unfold hold30; omega
      rw [e]
      have h4 : ¬ 30 < d := by omega
      go_enter Try.func12, Try.ntmps12
      go_wp2
      go_ret
      exact ⟨rfl, rfl⟩
    · have e : hold30 d = 30 := by unfold hold30; omega
      rw [e]
      have h4 : 30 < d := by omega
      go_enter Try.func12, Try.ntmps12
      go_wp2
      go_ret
      exact ⟨rfl, rfl⟩

theorem hold_any (d : Int) (w : World) : Calls Try.prog 15 #[.int .i64 d] w fun e w' => e = .returned (.int .i64 (hold30 d)) ∧ w = w' := by
  by_cases h1 : d < 0
  · have e : hold30 d = 0 := by unfold hold30; omega
    rw [e]
    have h2 : ¬ 0 ≤ d := by omega
    have h3 : d ≤ 0 := by omega
    go_enter Try.func15, Try.ntmps15
    go_wp2
    go_ret
    exact ⟨rfl, rfl⟩
  · have h2 : 0 ≤ d := by omega
    by_cases h3 : d ≤ 30
    · have e : hold30 d = d := by unfold hold30; omega
      rw [e]
      have h4 : ¬ 30 < d := by omega
      go_enter Try.func15, Try.ntmps15
      go_wp2
      go_ret
      exact ⟨rfl, rfl⟩
    · have e : hold30 d = 30 := by unfold hold30; omega
      rw [e]
      have h4 : 30 < d := by omega
      go_enter Try.func15, Try.ntmps15
      go_wp2
      go_ret
      exact ⟨rfl, rfl⟩

theorem ten_len {k : Nat} (h : k ≤ 30) : (lim (10 ^ k)).length ≤ 30 := by
  refine lim_length_le (Nat.lt_of_le_of_lt (Nat.pow_le_pow_right (by omega) h) ?_)
  exact Nat.pow_lt_pow_left (by omega) (by omega)

set_option maxHeartbeats 3200000 in
theorem tens_any (d : Nat) (w : World) (hd : d ≤ 30) : Calls Try.prog 11 #[.int .i64 (d : Int)] w (Gives (lim (10 ^ d)) w) := by
  go_enter Try.func11, Try.ntmps11
  go_wp2_with fail
  refine (of_any 1 _ (by omega)).mono ?_
  rintro e w1 ⟨v1, rfl, h1, hb1⟩
  go_wp2_with fail
  have l0 : lim 1 = lim (10 ^ 0) := rfl
  rw [l0] at h1
  clear l0
  go_loopw [3, 6] (fun a i wr => ∃ k : Nat, k ≤ d ∧ i = .int .i64 (k : Nat) ∧ Nt wr w.heap.size wr.heap.size a (lim (10 ^ k)) ∧ Below w.heap.size w wr)
    (fun _ i _ => d - (intOf i).toNat)
  case atStart => exact ⟨0, Nat.zero_le _, rfl, h1, hb1⟩
  case round =>
    obtain ⟨k, hk, rfl, ha, hb⟩ := hrel
    clear h1 hb1
    by_cases hlt : k < d
    · have hlI : (k : Int) < (d : Int) := by omega
      have hl := ten_len (Nat.le_of_lt (Nat.lt_of_lt_of_le hlt hd))
      have dk := dig_lim (10 ^ k)
      have dt := dig_lim 10
      have lt : (lim 10).length ≤ 1 := lim_length_le (by omega)
      have V := Lib.hid (val_lim (10 ^ k))
      have V2 := Lib.hid (val_lim 10)
      have P : Hid (10 ^ k * 10 = 10 ^ (k + 1)) := (Nat.pow_succ ..).symm
      go_wp2_with fail
      refine (of_any 10 _ (by omega)).mono ?_
      rintro e w2 ⟨v2, rfl, h2, hb2⟩
      have ha2 := (ha.low (Nat.zero_le _)).after hb2
      have h2' := h2.low (Nat.zero_le _)
      have hb02 := hb.trans (hb2.mono hb.size)
      clear ha h2 hb hb2
      go_wp2_with fail
      refine (mul_any _ _ (lim (10 ^ k)) (lim 10) _ dk dt ha2 h2' (by omega) (by omega)).mono ?_
      rw [V.out, V2.out, P.out]
      rintro e w4 ⟨v4, rfl, h4, hb4⟩
      have h4' := h4.low hb02.size
      have hb04 := hb02.trans (hb4.mono hb02.size)
      clear h4 hb4 ha2 h2' hb02
      go_wp2_with fail
      go_roundw
      case rel => exact ⟨k + 1, by omega, by go_num, h4', hb04⟩
      case measure => simp [intOf]; omega
    · obtain rfl : k = d := by omega
      go_wp2_with fail
      go_ret
      exact ⟨_, rfl, ha, hb⟩

theorem bits_ten {h : Nat} : bl (val (lim (10 ^ h - 1))) = bl (10 ^ h - 1) := by rw [val_lim]

set_option maxHeartbeats 3200000 in
theorem showBits_any (d : Int) (w : World) : Calls Try.prog 4 #[.int .i64 d] w fun e w' => e = .returned (.int .i64 ((bl (10 ^ (hold30 d).toNat - 1) : Nat) : Int)) ∧ Below w.heap.size w w' := by
  obtain ⟨h, hh⟩ : ∃ h : Nat, (hold30 d).toNat = h := ⟨_, rfl⟩
  have hr := hold30_range d
  have hI : hold30 d = (h : Int) := by omega
  have h30 : h ≤ 30 := by omega
  rw [hh]
  have HI := Lib.hid hI
  have l := ten_len h30
  have dk := dig_lim (10 ^ h)
  have dt := dig_lim 1
  have lt : (lim 1).length ≤ 1 := lim_length_le (by omega)
  have V : Hid (val (lim (10 ^ h)) - val (lim 1) = 10 ^ h - 1) := by show _ = _; rw [val_lim, val_lim]
  have V2 := Lib.hid (bits_ten (h := h))
  have d1 := dig_lim (10 ^ h - 1)
  have l1 : (lim (10 ^ h - 1)).length ≤ 30 := Nat.le_trans (by
    refine lim_length_le ?_
    have := val_lt dk
    rw [val_lim] at this
    have := pow_pos' (lim (10 ^ h)).length
    omega) l
  clear hh hr hI
  go_enter Try.func4, Try.ntmps4
  go_wp2_with fail
  refine (held_any d w).mono ?_
  rintro e w1 ⟨rfl, rfl⟩
  rw [HI.out]
  go_wp2_with fail
  refine (tens_any h _ h30).mono ?_
  rintro e w2 ⟨v2, rfl, h2, hb2⟩
  have h2' := h2.low (Nat.zero_le _)
  clear h2
  go_wp2_with fail
  refine (of_any 1 _ (by omega)).mono ?_
  rintro e w3 ⟨v3, rfl, h3, hb3⟩
  have h2'' := h2'.after hb3
  have h3' := h3.low (Nat.zero_le _)
  have hB3 := hb2.trans (hb3.mono hb2.size)
  clear h2' h3 hb3
  go_wp2_with fail
  refine (sub_any _ _ (lim (10 ^ h)) (lim 1) _ dk dt h2'' h3' (by omega) (by omega)).mono ?_
  rw [V.out]
  rintro e w4 ⟨v4, rfl, h4, hb4⟩
  have h4' := h4.low (Nat.zero_le _)
  have hB4 := hB3.trans (hb4.mono hB3.size)
  clear h2'' h3' h4 hb4
  go_wp2_with fail
  refine (bits_any _ (lim (10 ^ h - 1)) _ d1 h4' (by omega)).mono ?_
  rw [V2.out]
  rintro e w5 ⟨rfl, rfl⟩
  go_wp2
  go_ret
  exact ⟨rfl, hB4⟩

theorem known20_any (w : World) : Calls Try.prog 6 #[] w fun e w' => e = .returned (.bool true) ∧ Below w.heap.size w w' := by
  have hk : (bl (10 ^ (hold30 1).toNat - 1)) = 4 := by
    have e : (hold30 1).toNat = 1 := by decide
    rw [e, show 10 ^ 1 - 1 = 9 by rfl, bl_pos (by omega), bl_pos (by omega), bl_pos (by omega), bl_pos (by omega), bl_zero]
  have HK := Lib.hid hk
  clear hk
  go_enter Try.func6, Try.ntmps6
  go_wp2_with fail
  refine (showBits_any 1 w).mono ?_
  rintro e w1 ⟨rfl, hb⟩
  rw [HK.out]
  go_wp2
  go_ret
  exact ⟨rfl, hb⟩
end Go.Proofs.Ytkpgjidmngecpaa
