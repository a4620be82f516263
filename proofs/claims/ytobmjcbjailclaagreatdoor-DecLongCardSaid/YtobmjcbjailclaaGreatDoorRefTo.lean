/- The reference's 'To': limbs as a number of 64 bits, where it has no more. Condition: a bound on lengths. -/
import Derived.Test.YtobmjcbjailclaaGreatDoorTos
namespace Go.Proofs.YtobmjcbjailclaaGreatDoor
set_option maxRecDepth 100000
open Go.RowKit

set_option maxHeartbeats 800000 in
theorem refTo_any (v : Value) (x : List Nat) (w : World) (hd : Dig x) (h : Nt w 0 w.heap.size v x) (hl : x.length ≤ 90000) :
    Calls Tryz.prog 101 #[v] w fun e w' => e = .returned (.tuple #[.int .u64 ((toN (val x) : Nat) : Int), .bool (decide (val x < 18446744073709551616))]) ∧ Below w.heap.size w w' := by
  have hxl := limBd' hd _ hl
  have hdp := dig_lim (val x)
  have hL := lim_len_two (v := val x)
  have vx := val_lim (val x)
  have HL := Lib.hid hL
  have VX := Lib.hid vx
  clear hL vx
  go_enter Tryz.func101, Tryz.ntmps101
  go_wp2_with fail
  refine (refTrim_any _ x _ hd h (by omega)).mono ?_
  rintro e w1 ⟨v1, rfl, h1', hb0⟩
  have h1 := h1'.low (Nat.zero_le _)
  clear h1'
  generalize lim (val x) = p at *
  obtain ⟨A, c, rfl, hc, hm, _, hx⟩ := h1
  by_cases h2 : p.length ≤ 2
  · have hv : val x < 18446744073709551616 := HL.out.1 h2
    have E1 : toN (val x) = val p := by unfold toN; rw [if_pos hv, VX.out]
    have E2 := Lib.hid (decide_eq_true hv)
    have E1 := Lib.hid E1
    have hI : ¬ (2 : Int) < (p.length : Int) := by omega
    clear hv h hd
    go_wp2_with fail
    go_loopw [5, 6] (fun n i wr => ∃ (k : Nat), k ≤ p.length ∧ i = .int .i64 ((k : Int) - 1) ∧ n = .int .u64 ((val (p.drop k) : Nat) : Int) ∧ wr = w1)
      (fun _ i _ => (intOf i + 1).toNat)
    case atStart => exact ⟨p.length, Nat.le_refl _, rfl, by rw [List.drop_length]; rfl, rfl⟩
    case round =>
      obtain ⟨k, hk, rfl, rfl, rfl⟩ := hrel
      by_cases hlt : 0 < k
      · obtain ⟨j, rfl⟩ : ∃ j, k = j + 1 := ⟨k - 1, by omega⟩
        have b1 := hdp.at (show j < p.length by omega)
        obtain ⟨ba, oa, rfl, _, hba, hcella⟩ := hx (by omega)
        have hca := hcella j (by omega)
        have HS : val (p.drop j) = p[j] + 4294967296 * val (p.drop (j + 1)) := by
          rw [List.drop_eq_getElem_cons (show j < p.length by omega)]
          rfl
        have hz : val (p.drop (j + 1)) < 4294967296 := by
          have := val_lt (hdp.drop (j + 1))
          rw [List.length_drop] at this
          have h3 : 4294967296 ^ (p.length - (j + 1)) ≤ 4294967296 ^ 1 := Nat.pow_le_pow_right (by omega) (by omega)
          rw [Nat.pow_one] at h3
          exact Nat.lt_of_lt_of_le this h3
        have hi1 : ((j + 1 : Nat) : Int) - 1 = (j : Int) := by omega
        have hj0 : (0 : Int) ≤ (j : Int) := by omega
        have hj1 : (j : Int) < (p.length : Int) := by omega
        rw [hi1]
        clear hcella hx HL VX E1 E2 hi1
        obtain ⟨y, hy⟩ : ∃ y, val (p.drop j) = y := ⟨_, rfl⟩
        have Y := Lib.hid hy
        rw [hy] at HS
        clear hy
        generalize p[j] = v1 at *
        generalize val (p.drop (j + 1)) = z at *
        obtain ⟨m, hm0⟩ : ∃ m, z * 4294967296 = m := ⟨_, rfl⟩
        have hW2 : (z : Int) * 4294967296 = (m : Int) := by omega
        have hm1 : m < 18446744073709551616 := by omega
        have hor : bits BinOp.or IntKind.u64 (m : Int) (v1 : Int) = (y : Int) := by
          rw [u64_or_nat m v1 (by omega) (by omega), Nat.or_comm, or_add (m := m) (h := v1) (s := 32) (by omega) ⟨z, by omega⟩]
          omega
        clear hm0 HS hz
        go_wp2_with fail
        go_roundw
        case rel => exact ⟨j, by omega, rfl, by rw [Y.out], trivial⟩
        case measure => simp [intOf]
      · obtain rfl : k = 0 := by omega
        rw [List.drop_zero]
        clear hx
        go_wp2
        go_ret2
        exact ⟨by rw [E1.out, E2.out]; rfl, hb0⟩
  · have hv : ¬ val x < 18446744073709551616 := fun h => h2 (HL.out.2 h)
    have E1 : toN (val x) = 0 := by unfold toN; rw [if_neg hv]
    have E2 := Lib.hid (decide_eq_false hv)
    have E1 := Lib.hid E1
    have hI : (2 : Int) < (p.length : Int) := by omega
    clear hv h hd hx
    go_wp2
    go_ret2
    exact ⟨by rw [E1.out, E2.out]; rfl, hb0⟩
end Go.Proofs.YtobmjcbjailclaaGreatDoor
