/- The reference's 'Bits' by its contract. Condition: a bound on lengths. -/
import Derived.Test.YtobmjcbjailclaaGreatDoorBits
namespace Go.Proofs.YtobmjcbjailclaaGreatDoor
set_option maxRecDepth 100000
open Go.RowKit

end Go.Proofs.YtobmjcbjailclaaGreatDoor
