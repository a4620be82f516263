/- 'To' and the reference's: limbs as a number of 64 bits, where it has no more. No condition. -/
import Derived.Test.YtobmjcbjailclaaGreatDoorRefShiftL
import Derived.Outline
namespace Go.Proofs.YtobmjcbjailclaaGreatDoor
set_option maxRecDepth 100000
open Go.RowKit

/-- What a number of 64 bits is told as. -/
def toN (v : Nat) : Nat := if v < 18446744073709551616 then v else 0

theorem lim_len_two {v : Nat} : (lim v).length ≤ 2 ↔ v < 18446744073709551616 := by
  constructor
  · intro h
    have := val_lt (dig_lim v)
    rw [val_lim] at this
    have h2 : 4294967296 ^ (lim v).length ≤ 4294967296 ^ 2 := Nat.pow_le_pow_right (by omega) h
    have e : (4294967296 : Nat) ^ 2 = 18446744073709551616 := by decide
    omega
  · intro h
    refine lim_length_le ?_
    have e : (4294967296 : Nat) ^ 2 = 18446744073709551616 := by decide
    omega

end Go.Proofs.YtobmjcbjailclaaGreatDoor
