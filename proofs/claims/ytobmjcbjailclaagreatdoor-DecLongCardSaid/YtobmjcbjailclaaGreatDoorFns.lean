/- 'bits.Div32', 'bits.Add32', 'bits.LeadingZeros32' by their contracts. No condition but the words' sizes. -/
import Derived.Test.YtobmjcbjailclaaGreatDoorRefSmall
import Derived.Test.YtobmjcbjailclaaGreatDoorBits
import Derived.Test.YtobmjcbjailclaaGreatDoorSub32
namespace Go.Proofs.YtobmjcbjailclaaGreatDoor
set_option maxRecDepth 100000
open Go.RowKit

set_option maxHeartbeats 800000 in
theorem div32_any (hi lo y : Nat) (w : World) (h1 : hi < y) (h2 : y < 4294967296) (h3 : lo < 4294967296) :
    Calls Tryz.prog 131 #[.int .u32 (hi : Int), .int .u32 (lo : Int), .int .u32 (y : Int)] w fun e w' => e = .returned (.tuple #[.int .u32 (((hi * 4294967296 + lo) / y : Nat) : Int), .int .u32 (((hi * 4294967296 + lo) % y : Nat) : Int)]) ∧ w.drew = w' := by
  have hdl : (hi * 4294967296 + lo) / y < 4294967296 := by
    rw [Nat.div_lt_iff_lt_mul (by omega)]
    calc hi * 4294967296 + lo < hi * 4294967296 + 4294967296 := by omega
      _ = (hi + 1) * 4294967296 := by omega
      _ ≤ y * 4294967296 := Nat.mul_le_mul_right _ h1
      _ = 4294967296 * y := Nat.mul_comm _ _
  have hml : (hi * 4294967296 + lo) % y < y := Nat.mod_lt _ (by omega)
  obtain ⟨m, hm0⟩ : ∃ m, hi * 4294967296 = m := ⟨_, rfl⟩
  have hW2 : (hi : Int) * 4294967296 = (m : Int) := by omega
  rw [hm0] at hdl hml ⊢
  obtain ⟨t, ht0⟩ : ∃ t, m + lo = t := ⟨_, rfl⟩
  have hm1 : m < 18446744073709551616 := by omega
  have hor : bits BinOp.or IntKind.u64 (m : Int) (lo : Int) = (t : Int) := by
    rw [u64_or_nat m lo (by omega) (by omega), Nat.or_comm, or_add (m := m) (h := lo) (s := 32) (by omega) ⟨hi, by omega⟩]
    omega
  rw [ht0] at hdl hml ⊢
  have ht1 : t < 18446744073709551616 := by omega
  clear hm0 ht0
  obtain ⟨d, hd0⟩ : ∃ d, t / y = d := ⟨_, rfl⟩
  obtain ⟨q, hq0⟩ : ∃ q, t % y = q := ⟨_, rfl⟩
  have hdv : (t : Int) / (y : Int) = (d : Int) := by rw [← hd0]; exact (Int.natCast_ediv t y).symm
  have hmd : (t : Int) % (y : Int) = (q : Int) := by rw [← hq0]; exact (Int.natCast_emod t y).symm
  rw [hd0] at hdl
  rw [hq0] at hml
  rw [hd0, hq0]
  clear hd0 hq0
  have hy0 : ¬ (y : Int) = 0 := by omega
  have hyh : ¬ (y : Int) ≤ (hi : Int) := by omega
  have ed : (d : Int) % 4294967296 = (d : Int) := by omega
  go_enter Tryz.func131, Tryz.ntmps131
  go_wp2
  have eq : (q : Int) % 4294967296 = (q : Int) := by omega
  have eqt : (t : Int).tmod (y : Int) = (q : Int) := by rw [Int.tmod_eq_emod_of_nonneg (by omega)]; exact hmd
  go_region
  go_wp2
  go_ret2
  exact ⟨rfl, rfl⟩

set_option maxHeartbeats 800000 in
theorem add32_any (x y c : Nat) (w : World) (h1 : x < 4294967296) (h2 : y < 4294967296) (h3 : c ≤ 1) :
    Calls Tryz.prog 148 #[.int .u32 (x : Int), .int .u32 (y : Int), .int .u32 (c : Int)] w fun e w' => e = .returned (.tuple #[.int .u32 (((x + y + c) % 4294967296 : Nat) : Int), .int .u32 (((x + y + c) / 4294967296 : Nat) : Int)]) ∧ w = w' := by
  go_enter Tryz.func148, Tryz.ntmps148
  go_wp2
  go_ret2
  refine ⟨?_, rfl⟩
  have e1 : ((x : Int) + y + c) % 4294967296 = (((x + y + c) % 4294967296 : Nat) : Int) := by omega
  have e2 : ((x : Int) + y + c) / 4294967296 = (((x + y + c) / 4294967296 : Nat) : Int) := by omega
  show Ending.returned (.tuple #[.int .u32 (((x : Int) + y + c) % 4294967296), .int .u32 (((x : Int) + y + c) / 4294967296)]) = _
  rw [e1, e2]

set_option maxHeartbeats 800000 in
theorem lead32_any (x : Int) (w : World) (h0 : 0 ≤ x) (h1 : x ≤ 4294967295) :
    Calls Tryz.prog 132 #[.int .u32 x] w fun e w' => e = .returned (.int .i64 (32 - Lib.bitLen x.toNat)) ∧ w = w' := by
  go_enter Tryz.func132, Tryz.ntmps132
  go_wp2_with fail
  refine (len32_any x w h0 h1).mono ?_
  rintro e w1 ⟨rfl, rfl⟩
  go_wp2
  go_ret
  refine ⟨?_, rfl⟩
  have l := Lib.bitLen_le x.toNat 32 (by omega) (by omega)
  have e := wrap_small (32 - (Lib.bitLen x.toNat : Int)) (by omega) (by omega)
  show Ending.returned (.int .i64 (wrap64 (32 - (Lib.bitLen x.toNat : Int)))) = _
  rw [e]
end Go.Proofs.YtobmjcbjailclaaGreatDoor
