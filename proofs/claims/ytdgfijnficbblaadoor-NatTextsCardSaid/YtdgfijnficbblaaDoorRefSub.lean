/- The reference's 'Sub' by its contract. Condition: a bound on lengths. -/
import Derived.Test.YtdgfijnficbblaaDoorSubs
namespace Go.Proofs.YtdgfijnficbblaaDoor
open Go.RowKit

end Go.Proofs.YtdgfijnficbblaaDoor
