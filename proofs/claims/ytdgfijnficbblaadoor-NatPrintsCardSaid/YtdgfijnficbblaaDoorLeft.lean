/- 'left' by its contract. Condition: a bound on lengths; a shift below 32. -/
import Derived.Test.YtdgfijnficbblaaDoorRefSub
import Derived.Test.YtdgfijnficbblaaDoorNumShift
namespace Go.Proofs.YtdgfijnficbblaaDoor
open Go.RowKit

def LeftPost (a : List Nat) (s n : Nat) (w : World) (e : Ending) (w' : World) : Prop :=
  ∃ c, e = .returned (.slice (some ⟨w.heap.size, 0, none⟩) n n) ∧ Lb w' w.heap.size 33 c ∧ c.length = n ∧ Dig c ∧ val c = val a * 2 ^ s ∧ Below w.heap.size w w'

theorem leftAt_set {a c : List Nat} {s h k d : Nat} (hl : LeftAt a c s h k) : LeftAt a (c.set k d) s h k := by
  unfold LeftAt at hl ⊢
  rw [List.take_set_of_le (Nat.le_refl _)]
  exact hl

end Go.Proofs.YtdgfijnficbblaaDoor
