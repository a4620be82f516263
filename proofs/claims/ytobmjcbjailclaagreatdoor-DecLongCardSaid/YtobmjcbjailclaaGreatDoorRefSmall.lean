/- The reference's 'small' by its contract: division by one limb. Condition: a bound on lengths. -/
import Derived.Test.YtobmjcbjailclaaGreatDoorNums
import Derived.Test.YtobmjcbjailclaaGreatDoorRefTo
import Derived.Outline
namespace Go.Proofs.YtobmjcbjailclaaGreatDoor
set_option maxRecDepth 100000
open Go.RowKit

/-- What a division by a small number hands back. -/
def GivesR (x : List Nat) (r : Nat) (w : World) (e : Ending) (w' : World) : Prop :=
  ∃ v', e = .returned (.tuple #[v', .int .u64 (r : Int)]) ∧ Nt w' w.heap.size w'.heap.size v' x ∧ Below w.heap.size w w'

set_option maxHeartbeats 3200000 in
theorem refSmall_any (v : Value) (x : List Nat) (b : Nat) (w : World) (hd : Dig x) (h : Nt w 0 w.heap.size v x) (hl : x.length ≤ 90000) (hb0 : 0 < b) (hb1 : b ≤ 4294967295) :
    Calls Tryz.prog 102 #[v, .int .u64 (b : Int)] w (GivesR (lim (val x / b)) (val x % b) w) := by
  have hmk := make_limbs x.length (x.length : Int) rfl (by omega)
  obtain ⟨A, c, rfl, hc, hm, _, hx⟩ := h
  go_enter Tryz.func102, Tryz.ntmps102
  go_wp2_with fail
  go_loopw [7, 8] (fun u i wr => ∃ (k r : Nat) (cs : List Nat), k ≤ x.length ∧ i = .int .i64 ((k : Int) - 1) ∧ u = .int .u64 (r : Nat) ∧ Dig cs ∧ Hid (cs.length = x.length) ∧ SmallAt x cs b r k ∧ Lb wr w.heap.size 43 cs ∧ Below w.heap.size w wr)
    (fun _ i _ => (intOf i + 1).toNat)
  case atStart => exact ⟨x.length, 0, _, Nat.le_refl _, rfl, rfl, dig_zeros _, List.length_replicate, smallAt_zero _ _ hb0, Lb.made w _ _, (Below.refl _ _).alloc (Nat.le_refl _) _⟩
  case round =>
    obtain ⟨k, r, cs, hk, rfl, rfl, hdc, HL, hs0, hB, hb⟩ := hrel
    by_cases hlt : 0 < k
    · obtain ⟨j, rfl⟩ : ∃ j, k = j + 1 := ⟨k - 1, by omega⟩
      obtain ⟨ba, oa, rfl, _, hba, hcella⟩ := hx (by omega)
      have hjl : j < x.length := by omega
      have b1 := hd.at hjl
      have hca := (hb.cell (p := ⟨ba, oa + j, none⟩) hba).trans (hcella j hjl)
      have hcl : j < cs.length := by have := HL.out; omega
      have hcc := hB.cell j hcl
      have hfr := hB.free j
      have HS := smallAt_step (by omega) hd HL.out hjl hs0
      rw [getD_at hjl] at HS
      have hr := hs0.1
      generalize cs[j] = z0 at *
      generalize x[j] = v1 at *
      obtain ⟨m, hm0⟩ : ∃ m, r * 4294967296 = m := ⟨_, rfl⟩
      have hW2 : (r : Int) * 4294967296 = (m : Int) := by omega
      obtain ⟨t, ht0⟩ : ∃ t, m + v1 = t := ⟨_, rfl⟩
      have hm1 : m < 18446744073709551616 := by omega
      have hor : bits BinOp.or IntKind.u64 (m : Int) (v1 : Int) = (t : Int) := by
        rw [u64_or_nat m v1 (by omega) (by omega), Nat.or_comm, or_add (m := m) (h := v1) (s := 32) (by omega) ⟨r, by omega⟩]
        omega
      rw [hm0, ht0] at HS
      have ht1 : t < 18446744073709551616 := by omega
      clear hm0 ht0
      obtain ⟨d, hd0⟩ : ∃ d, t / b = d := ⟨_, rfl⟩
      obtain ⟨q, hq0⟩ : ∃ q, t % b = q := ⟨_, rfl⟩
      have hdv : (t : Int) / (b : Int) = (d : Int) := by rw [← hd0]; exact (Int.natCast_ediv t b).symm
      have hmd : (t : Int) % (b : Int) = (q : Int) := by rw [← hq0]; exact (Int.natCast_emod t b).symm
      rw [hd0, hq0] at HS
      clear hd0 hq0
      have hi1 : ((j + 1 : Nat) : Int) - 1 = (j : Int) := by omega
      rw [hi1]
      have hj1 : (j : Int) < (x.length : Int) := by omega
      have hdl := HS.2
      have hS1 := HS.1
      have hq1 := hS1.1
      have hB1 := hB.put j d
      have hd1 := hdc.set j d hdl
      have hbb : Below w.heap.size w (wr.setCell ⟨w.heap.size, j, none⟩ (.int .u32 (d : Int))) := hb.setCell (Nat.le_refl _) _
      have HL1 : Hid ((cs.set j d).length = x.length) := by have := HL.out; show _ = _; rw [List.length_set]; exact this
      clear hdc HL hs0 hB hb hcl HS hi1 hx hcella hmk
      generalize cs.set j d = c1 at *
      go_wp2_with fail
      go_roundw
      case rel => exact ⟨j, q, c1, by omega, rfl, by rw [hmd], hd1, HL1, hS1, hB1, hbb⟩
      case measure => simp [intOf]
    · obtain rfl : k = 0 := by omega
      have hv := smallAt_end hs0
      have hl2 := HL.out
      have hr := hB.reads (n := x.length) (by omega) (by unfold maxLen; omega)
      rw [hl2, List.take_of_length_le (by omega)] at hr
      have V := Lib.hid hv.1
      have R := Lib.hid hv.2
      have hcl : cs.length ≤ 1000000 := by omega
      clear hv HL hs0 hB hl2 hmk hx
      go_wp2_with fail
      refine (refTrim_any _ cs _ hdc (hr.low (Nat.zero_le _)) hcl).mono ?_
      rintro e w2 ⟨v3, rfl, h3, hb3⟩
      rw [V.out] at h3
      go_wp2
      go_ret2
      exact ⟨_, by rw [R.out]; rfl, h3.low hb.size, hb.trans (hb3.mono hb.size)⟩
end Go.Proofs.YtobmjcbjailclaaGreatDoor
