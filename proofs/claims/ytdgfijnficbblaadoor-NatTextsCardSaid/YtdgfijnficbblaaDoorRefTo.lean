/- The reference's 'To': limbs as a number of 64 bits, where it has no more. Condition: a bound on lengths. -/
import Derived.Test.YtdgfijnficbblaaDoorTos
namespace Go.Proofs.YtdgfijnficbblaaDoor
open Go.RowKit

end Go.Proofs.YtdgfijnficbblaaDoor
