/- 'bits.Sub32' and 'Sub' of the program and of the reference by their contracts. Condition: a bound on lengths. -/
import Derived.Test.YtdgfijnficbblaaDoorCmps
import Derived.Test.YtdgfijnficbblaaDoorNumSub
import Derived.Laws.BitsAllLaws
namespace Go.Proofs.YtdgfijnficbblaaDoor
open Go.RowKit

theorem xor_top {a : Nat} (h : a < 4294967296) : 4294967295 ^^^ a < 4294967296 := Nat.xor_lt_two_pow (n := 32) (by omega) (by omega)
theorem xor_lt {a b : Nat} (h : a < 4294967296) (hb : b < 4294967296) : a ^^^ b < 4294967296 := Nat.xor_lt_two_pow (n := 32) (by omega) (by omega)
theorem and_lt {a b : Nat} (hb : b < 4294967296) : a &&& b < 4294967296 := Nat.and_lt_two_pow (n := 32) _ (by omega)

theorem borrow_run (x y d : Nat) (hx : x < 4294967296) (hy : y < 4294967296) (hd : d < 4294967296) :
    bits BinOp.or IntKind.u32 (bits BinOp.and IntKind.u32 (bits BinOp.xor IntKind.u32 IntKind.u32.max (x : Int)) (y : Int))
      (bits BinOp.and IntKind.u32 (bits BinOp.xor IntKind.u32 IntKind.u32.max (bits BinOp.xor IntKind.u32 (x : Int) (y : Int))) (d : Int)) / 2147483648 =
      (((((4294967295 ^^^ x) &&& y) ||| ((4294967295 ^^^ (x ^^^ y)) &&& d)) / 2147483648 : Nat) : Int) := by
  have e : IntKind.u32.max = ((4294967295 : Nat) : Int) := rfl
  rw [e, u32_xor_nat _ _ (by omega) hx, u32_and_nat _ _ (xor_top hx) hy, u32_xor_nat _ _ hx hy, u32_xor_nat _ _ (by omega) (xor_lt hx hy), u32_and_nat _ _ (xor_top (xor_lt hx hy)) hd,
    u32_or_nat _ _ (and_lt hy) (and_lt hd)]
  exact (Int.natCast_ediv _ _).symm

end Go.Proofs.YtdgfijnficbblaaDoor
