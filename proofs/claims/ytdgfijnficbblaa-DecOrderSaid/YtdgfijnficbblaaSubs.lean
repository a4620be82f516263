/- 'Sub' of the program and of the reference by their contracts. Condition: a bound on lengths. -/
import Derived.Test.YtdgfijnficbblaaSub32
namespace Go.Proofs.Ytdgfijnficbblaa
open Go.RowKit

/-- A row and whether there is one. -/
def GivesB (x : List Nat) (b : Bool) (w : World) (e : Ending) (w' : World) : Prop :=
  ∃ v', e = .returned (.tuple #[v', .bool b]) ∧ Nt w' w.heap.size w'.heap.size v' x ∧ Below w.heap.size w w'

end Go.Proofs.Ytdgfijnficbblaa
