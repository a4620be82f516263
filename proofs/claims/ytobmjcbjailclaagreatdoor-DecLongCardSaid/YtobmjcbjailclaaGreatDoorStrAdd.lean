/- Bytes as strings, one behind the other. No condition. -/
import Derived.Test.YtobmjcbjailclaaGreatDoorRev
import Derived.Laws.Concat
namespace Go.Proofs.YtobmjcbjailclaaGreatDoor
set_option maxRecDepth 100000
open Go.RowKit

theorem strN_append (a b : List Nat) : strN a ++ strN b = strN (a ++ b) := by
  unfold strN
  rw [ByteArray.mk_append_mk, List.map_append]

theorem add_str (a b : List Nat) (h : a.length + b.length ≤ 1000000) {P : Program} (w : World) : (Op.stringOp .add (strN a) (strN b)).run P w = .ok (.string (strN (a ++ b))) w := by
  rw [run_string_add_sum w _ _ (by rw [strN_size, strN_size]; omega), strN_append]
end Go.Proofs.YtobmjcbjailclaaGreatDoor
