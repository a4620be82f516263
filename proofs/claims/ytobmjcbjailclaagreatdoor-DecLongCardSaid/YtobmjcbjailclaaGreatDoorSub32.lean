/- 'bits.Sub32' and 'Sub' of the program and of the reference by their contracts. Condition: a bound on lengths. -/
import Derived.Test.YtobmjcbjailclaaGreatDoorCmps
import Derived.Test.YtobmjcbjailclaaGreatDoorNums
import Derived.Laws.BitsAllLaws
namespace Go.Proofs.YtobmjcbjailclaaGreatDoor
set_option maxRecDepth 100000
open Go.RowKit

theorem xor_top {a : Nat} (h : a < 4294967296) : 4294967295 ^^^ a < 4294967296 := Nat.xor_lt_two_pow (n := 32) (by omega) (by omega)
theorem xor_lt {a b : Nat} (h : a < 4294967296) (hb : b < 4294967296) : a ^^^ b < 4294967296 := Nat.xor_lt_two_pow (n := 32) (by omega) (by omega)
theorem and_lt {a b : Nat} (hb : b < 4294967296) : a &&& b < 4294967296 := Nat.and_lt_two_pow (n := 32) _ (by omega)

theorem borrow_run (x y d : Nat) (hx : x < 4294967296) (hy : y < 4294967296) (hd : d < 4294967296) :
    bits BinOp.or IntKind.u32 (bits BinOp.and IntKind.u32 (bits BinOp.xor IntKind.u32 IntKind.u32.max (x : Int)) (y : Int))
      (bits BinOp.and IntKind.u32 (bits BinOp.xor IntKind.u32 IntKind.u32.max (bits BinOp.xor IntKind.u32 (x : Int) (y : Int))) (d : Int)) / 2147483648 =
      (((((4294967295 ^^^ x) &&& y) ||| ((4294967295 ^^^ (x ^^^ y)) &&& d)) / 2147483648 : Nat) : Int) := by
  have e : IntKind.u32.max = ((4294967295 : Nat) : Int) := rfl
  rw [e, u32_xor_nat _ _ (by omega) hx, u32_and_nat _ _ (xor_top hx) hy, u32_xor_nat _ _ hx hy, u32_xor_nat _ _ (by omega) (xor_lt hx hy), u32_and_nat _ _ (xor_top (xor_lt hx hy)) hd,
    u32_or_nat _ _ (and_lt hy) (and_lt hd)]
  exact (Int.natCast_ediv _ _).symm

set_option maxHeartbeats 800000 in
theorem sub32_any (x y b : Nat) (w : World) (hx : x < 4294967296) (hy : y < 4294967296) (hb : b ≤ 1) :
    Calls Tryz.prog 92 #[.int .u32 (x : Int), .int .u32 (y : Int), .int .u32 (b : Int)] w fun e w' => e = .returned (.tuple #[.int .u32 (((x + 8589934592 - y - b) % 4294967296 : Nat) : Int), .int .u32 ((if x < y + b then 1 else 0 : Nat) : Int)]) ∧ w = w' := by
  obtain ⟨d, hd⟩ : ∃ d, d = (x + 8589934592 - y - b) % 4294967296 := ⟨_, rfl⟩
  have hdl : d < 4294967296 := by omega
  have hdi : ((x : Int) - (y : Int) - (b : Int)) % 4294967296 = (d : Int) := by omega
  have hdj : (((x : Int) - (y : Int)) % 4294967296 - (b : Int)) % 4294967296 = (d : Int) := by omega
  have hbr := borrow_run x y d hx hy hdl
  rw [borrow_eq x y b d hx hy hb hd] at hbr
  rw [← hd]
  obtain ⟨r, hr⟩ : ∃ r : Nat, r = if x < y + b then 1 else 0 := ⟨_, rfl⟩
  rw [← hr] at hbr ⊢
  clear hr hd
  have hsg : IntKind.u32.signed = false := rfl
  go_enter Tryz.func92, Tryz.ntmps92
  go_wp2
  go_ret2
  refine ⟨?_, rfl⟩
  show Ending.returned (.tuple #[.int .u32 ((((x : Int) - (y : Int)) % 4294967296 - (b : Int)) % 4294967296), .int .u32 (r : Int)]) = _
  rw [hdj]
end Go.Proofs.YtobmjcbjailclaaGreatDoor
