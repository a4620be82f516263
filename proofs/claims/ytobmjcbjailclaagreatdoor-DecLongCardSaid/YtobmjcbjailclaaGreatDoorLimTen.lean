/- Limbs of a number below a power of ten. No condition. -/
import Derived.Test.YtobmjcbjailclaaGreatDoorNums
namespace Go.Proofs.YtobmjcbjailclaaGreatDoor
set_option maxRecDepth 100000
theorem lim_ten {n l m : Nat} (h : n < 10 ^ l) (hl : l ≤ m) : (lim n).length ≤ m :=
  lim_length_le (Nat.lt_of_lt_of_le h (Nat.le_trans (Nat.pow_le_pow_left (by omega : 10 ≤ 4294967296) _) (Nat.pow_le_pow_right (by decide) hl)))
end Go.Proofs.YtobmjcbjailclaaGreatDoor
