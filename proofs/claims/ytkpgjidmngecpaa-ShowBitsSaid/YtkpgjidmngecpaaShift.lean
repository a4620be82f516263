/- 'Shift' by its contract: to the right. Condition: a bound on lengths. -/
import Derived.Test.YtkpgjidmngecpaaLeft
namespace Go.Proofs.Ytkpgjidmngecpaa
open Go.RowKit

end Go.Proofs.Ytkpgjidmngecpaa
