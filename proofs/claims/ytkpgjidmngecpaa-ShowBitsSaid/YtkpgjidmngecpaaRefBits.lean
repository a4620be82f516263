/- The reference's 'Bits' by its contract. Condition: a bound on lengths. -/
import Derived.Test.YtkpgjidmngecpaaBits
namespace Go.Proofs.Ytkpgjidmngecpaa
open Go.RowKit

end Go.Proofs.Ytkpgjidmngecpaa
