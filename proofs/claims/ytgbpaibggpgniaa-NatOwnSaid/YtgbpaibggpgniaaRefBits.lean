/- The reference's 'Bits' by its contract. Condition: a bound on lengths. -/
import Derived.Test.YtgbpaibggpgniaaBits
namespace Go.Proofs.Ytgbpaibggpgniaa
open Go.RowKit

set_option maxHeartbeats 800000 in
theorem refBits_any (v : Value) (x : List Nat) (w : World) (hd : Dig x) (h : Nt w 0 w.heap.size v x) (hl : x.length ≤ 90000) :
    Calls Try.prog 28 #[v] w fun e w' => e = .returned (.int .i64 ((bl (val x) : Nat) : Int)) ∧ Below w.heap.size w w' := by
  have hxl := limBd' hd _ hl
  have hdp := dig_lim (val x)
  have vx := val_lim (val x)
  have hlast : ∀ k, (lim (val x)).length = k + 1 → (lim (val x)).getD k 0 ≠ 0 := fun k hk => lim_last hk
  have HLast := Lib.hid hlast
  have VX := Lib.hid vx
  clear hlast vx
  go_enter Try.func28, Try.ntmps28
  go_wp2_with fail
  refine (refTrim_any _ x _ hd h (by omega)).mono ?_
  rintro e w1 ⟨v1, rfl, h1', hb0⟩
  have h1 := h1'.low (Nat.zero_le _)
  clear h1'
  generalize lim (val x) = p at *
  obtain ⟨A, c, rfl, hc, hm, _, hx⟩ := h1
  by_cases h0 : p.length = 0
  · have e1 : bl (val x) = 0 := by
      rw [← VX.out]
      obtain rfl := List.eq_nil_of_length_eq_zero h0
      rw [show val [] = 0 from rfl]
      exact bl_zero
    have E1 := Lib.hid e1
    clear e1
    go_wp2
    go_ret
    exact ⟨by rw [E1.out]; rfl, hb0⟩
  · obtain ⟨k, hk⟩ : ∃ k, p.length = k + 1 := ⟨p.length - 1, by omega⟩
    have e1 := bl_val hdp hk (HLast.out k hk)
    rw [VX.out] at e1
    obtain ⟨b, off, rfl, _, hbl, hcell⟩ := hx (by omega)
    have hca := hcell k (by omega)
    have b1 := hdp.at (show k < p.length by omega)
    have hgk : p.getD k 0 = p[k] := getD_at (by omega)
    rw [hgk] at e1
    clear hgk
    generalize p[k] = y at *
    have h8 : bl y ≤ 32 := by rw [← bl_lib y (by omega)]; exact Lib.bitLen_le y 32 (by omega) (by omega)
    have E1 := Lib.hid e1
    have hk1 : (p.length : Int) - 1 = (k : Int) := by omega
    have hk2 : ¬ p.length = 0 := h0
    have hk3 : (k : Int) < (p.length : Int) := by omega
    have hk4 : k ≤ 100000 := by omega
    have H8 := Lib.hid h8
    clear e1 hcell hx HLast hk h8
    go_wp2_with fail
    generalize ((p.length : Int) == 0) = bz at *
    clear hk1 hk2 hk3 h0 hca
    go_loopw [4, 5] (fun n u wr => ∃ (j z : Nat), n = .int .i64 (32 * (k : Int) + (j : Int)) ∧ u = .int .u32 (z : Nat) ∧ Hid (j + bl z = bl y) ∧ j ≤ 32 ∧ z ≤ y ∧ wr = w1)
      (fun _ u _ => (intOf u).toNat)
    case atStart => exact ⟨0, y, by simp, rfl, (show _ = _ from Nat.zero_add _), by omega, Nat.le_refl _, rfl⟩
    case round =>
      obtain ⟨j, z, rfl, rfl, HJ, hj, hz, rfl⟩ := hrel
      by_cases hlt : 0 < z
      · have e3 := bl_pos (n := z) (by omega)
        have e4 : j + 1 + bl (z / 2) = bl y := by have := HJ.out; omega
        have hj2 : j + 1 ≤ 32 := by have := H8.out; omega
        have E4 := Lib.hid e4
        clear e3 e4 HJ
        have hdv : (z : Int) / 2 = ((z / 2 : Nat) : Int) := by omega
        obtain ⟨q, hq⟩ : ∃ q, z / 2 = q := ⟨_, rfl⟩
        rw [hq] at hdv E4
        have hqz : q < z := by omega
        clear hq
        go_wp2_with fail
        go_roundw
        case rel => exact ⟨j + 1, q, by go_num, rfl, E4, hj2, by omega, trivial⟩
        case measure => simp [intOf]; omega
      · obtain rfl : z = 0 := by omega
        have e4 : j = bl y := by have := HJ.out; rw [bl_zero] at this; exact this
        have E4 := Lib.hid e4
        clear e4 HJ
        go_wp2
        go_ret
        exact ⟨by rw [E1.out, ← E4.out]; simp, hb0⟩
end Go.Proofs.Ytgbpaibggpgniaa
