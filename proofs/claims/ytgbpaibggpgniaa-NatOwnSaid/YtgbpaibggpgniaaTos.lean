/- 'To' and the reference's: limbs as a number of 64 bits, where it has no more. No condition. -/
import Derived.Test.YtgbpaibggpgniaaRefShiftL
import Derived.Outline
namespace Go.Proofs.Ytgbpaibggpgniaa
open Go.RowKit

/-- What a number of 64 bits is told as. -/
def toN (v : Nat) : Nat := if v < 18446744073709551616 then v else 0

theorem lim_len_two {v : Nat} : (lim v).length ≤ 2 ↔ v < 18446744073709551616 := by
  constructor
  · intro h
    have := val_lt (dig_lim v)
    rw [val_lim] at this
    have h2 : 4294967296 ^ (lim v).length ≤ 4294967296 ^ 2 := Nat.pow_le_pow_right (by omega) h
    have e : (4294967296 : Nat) ^ 2 = 18446744073709551616 := by decide
    omega
  · intro h
    refine lim_length_le ?_
    have e : (4294967296 : Nat) ^ 2 = 18446744073709551616 := by decide
    omega

set_option maxHeartbeats 800000 in
theorem to_any (v : Value) (x : List Nat) (w : World) (hd : Dig x) (h : Nt w 0 w.heap.size v x) :
    Calls Try.prog 23 #[v] w fun e w' => e = .returned (.tuple #[.int .u64 ((toN (val x) : Nat) : Int), .bool (decide (val x < 18446744073709551616))]) ∧ w = w' := by
  have hdp := dig_lim (val x)
  have hL := lim_len_two (v := val x)
  have vx := val_lim (val x)
  have HL := Lib.hid hL
  have VX := Lib.hid vx
  clear hL vx
  go_enter Try.func23, Try.ntmps23
  go_wp2_with fail
  refine (trim_any _ x _ _ _ hd h).mono ?_
  rintro e w1 ⟨v1, rfl, h1, rfl⟩
  generalize lim (val x) = p at *
  obtain ⟨A, c, rfl, hc, hm, _, hx⟩ := h1
  by_cases h2 : p.length ≤ 2
  · have hv : val x < 18446744073709551616 := HL.out.1 h2
    have E1 : toN (val x) = val p := by unfold toN; rw [if_pos hv, VX.out]
    have E2 := Lib.hid (decide_eq_true hv)
    have E1 := Lib.hid E1
    have hI : ¬ (2 : Int) < (p.length : Int) := by omega
    clear hv h hd
    go_wp2_with fail
    go_loopw [4, 5, 6, 14] (fun n _ _ i wr => ∃ (k : Nat), k ≤ p.length ∧ i = .int .i64 (k : Nat) ∧ n = .int .u64 ((val (p.take k) : Nat) : Int) ∧ wr = w)
      (fun _ _ _ i _ => p.length - (intOf i).toNat)
    case atStart => exact ⟨0, Nat.zero_le _, rfl, rfl, rfl⟩
    case round =>
      obtain ⟨k, hk, rfl, rfl, rfl⟩ := hrel
      by_cases hlt : k < p.length
      · have b1 := hdp.at hlt
        obtain ⟨ba, oa, rfl, _, hba, hcella⟩ := hx (by omega)
        have hca := hcella k hlt
        have HS : val (p.take (k + 1)) = val (p.take k) + 4294967296 ^ k * p[k] := by rw [val_take_getD, getD_at hlt]
        clear hcella hx HL VX E1 E2
        have h0l : k = 1 → val (p.take k) < 4294967296 := by
          intro h
          have := val_lt (hdp.take k)
          rw [List.length_take, Nat.min_eq_left (by omega), h, Nat.pow_one] at this
          rw [h]; exact this
        have h00 : k = 0 → val (p.take k) = 0 := by intro h; rw [h]; rfl
        generalize p[k] = v1 at *
        generalize val (p.take k) = z at *
        obtain ⟨y, hy⟩ : ∃ y, val (p.take (k + 1)) = y := ⟨_, rfl⟩
        have Y := Lib.hid hy
        rw [hy] at HS
        clear hy
        by_cases hk0 : k = 0
        · subst hk0
          rw [Nat.add_zero] at hca
          obtain rfl := h00 rfl
          clear h00 h0l
          have hor : bits BinOp.or IntKind.u64 0 (v1 : Int) = (v1 : Int) := by
            have e := u64_or_nat 0 v1 (by omega) (by omega)
            rw [Nat.zero_or] at e
            exact e
          rw [Nat.pow_zero, Nat.one_mul, Nat.zero_add] at HS
          subst HS
          go_wp2_with fail
          go_roundw
          case rel => exact ⟨1, by omega, rfl, by rw [Y.out], trivial⟩
          case measure => simp [intOf]; omega
        · obtain rfl : k = 1 := by omega
          have hz := h0l rfl
          clear h00 h0l hk0
          obtain ⟨m, hm0⟩ : ∃ m, v1 * 4294967296 = m := ⟨_, rfl⟩
          have hW2 : (v1 : Int) * 4294967296 = (m : Int) := by omega
          have hor := u64_or_nat z m (by omega) (by omega)
          have ho : (z ||| m) = y := by
            have e1 : (z ||| m) = m + z := or_add (s := 32) (by omega) ⟨v1, by omega⟩
            rw [Nat.pow_one] at HS
            omega
          rw [ho] at hor
          clear ho hm0 HS
          go_wp2_with fail
          go_roundw
          case rel => exact ⟨2, by omega, rfl, by rw [Y.out], trivial⟩
          case measure => simp [intOf]; omega
      · obtain rfl : k = p.length := by omega
        rw [List.take_length]
        clear hx
        go_wp2
        go_ret2
        exact ⟨by rw [E1.out, E2.out]; rfl, rfl⟩
  · have hv : ¬ val x < 18446744073709551616 := fun h => h2 (HL.out.2 h)
    have E1 : toN (val x) = 0 := by unfold toN; rw [if_neg hv]
    have E2 := Lib.hid (decide_eq_false hv)
    have E1 := Lib.hid E1
    have hI : (2 : Int) < (p.length : Int) := by omega
    clear hv h hd hx
    go_wp2
    go_ret2
    exact ⟨by rw [E1.out, E2.out]; rfl, rfl⟩
end Go.Proofs.Ytgbpaibggpgniaa
