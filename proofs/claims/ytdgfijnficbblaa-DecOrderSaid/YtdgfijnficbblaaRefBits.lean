/- The reference's 'Bits' by its contract. Condition: a bound on lengths. -/
import Derived.Test.YtdgfijnficbblaaBits
namespace Go.Proofs.Ytdgfijnficbblaa
open Go.RowKit

end Go.Proofs.Ytdgfijnficbblaa
