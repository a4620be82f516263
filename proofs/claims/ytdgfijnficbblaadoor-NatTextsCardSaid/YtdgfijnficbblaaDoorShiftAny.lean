/- 'Shift' by its contract, at any whole number. Condition: a bound on lengths. -/
import Derived.Test.YtdgfijnficbblaaDoorShiftL
import Derived.Test.YtdgfijnficbblaaDoorKnown
namespace Go.Proofs.YtdgfijnficbblaaDoor
open Go.RowKit

/-- A row of limbs, laid anew. -/
theorem nt_laid (w : World) (e : TypeId) (x : List Nat) (hx : x.length ≤ 1000) : Nt (w.alloc (.cells (lv x).toArray e)) 0 (w.alloc (.cells (lv x).toArray e)).heap.size (.slice (some ⟨w.heap.size, 0, none⟩) x.length x.length) x ∧ Below w.heap.size w (w.alloc (.cells (lv x).toArray e)) := by
  have hs : (w.alloc (.cells (lv x).toArray e)).heap.size = w.heap.size + 1 := by simp
  refine ⟨?_, (Below.refl _ _).alloc (Nat.le_refl _) _⟩
  rw [hs]
  exact (nt_new w e x hx).low (Nat.zero_le _)
end Go.Proofs.YtdgfijnficbblaaDoor
