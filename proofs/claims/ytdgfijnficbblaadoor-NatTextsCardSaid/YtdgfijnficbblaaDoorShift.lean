/- 'Shift' by its contract: to the right. Condition: a bound on lengths. -/
import Derived.Test.YtdgfijnficbblaaDoorLeft
namespace Go.Proofs.YtdgfijnficbblaaDoor
open Go.RowKit

end Go.Proofs.YtdgfijnficbblaaDoor
