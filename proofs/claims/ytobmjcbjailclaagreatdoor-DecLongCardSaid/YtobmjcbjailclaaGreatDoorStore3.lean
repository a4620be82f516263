/- A result with a divisor, laid into its own block. No condition. -/
import Derived.Test.YtobmjcbjailclaaGreatDoorRefRat
namespace Go.Proofs.YtobmjcbjailclaaGreatDoor
set_option maxRecDepth 100000
open Go.RowKit

/-- A result with a divisor, laid into its own block. -/
def St3 (w : World) (g : Nat) (s : Bool) (a b : Value) : World := ((w.setCell ⟨g, 0, none⟩ (.bool s)).setCell ⟨g, 1, none⟩ a).setCell ⟨g, 2, none⟩ b

theorem store3 {w w0 : World} {g : Nat} {t : TypeId} (q : Blk w g t #[.bool false, .slice none 0 0, .slice none 0 0]) (hB : Below w0.heap.size w0 w) (hg : w0.heap.size ≤ g) (s : Bool) (a b : Value) {x y : List Nat}
    (h1 : Nt w (g + 1) w.heap.size a x) (h2 : Nt w (g + 1) w.heap.size b y) :
    (St3 w g s a b).cell? ⟨g, 0, none⟩ = some (.bool s) ∧ (St3 w g s a b).cell? ⟨g, 1, none⟩ = some a ∧ (St3 w g s a b).cell? ⟨g, 2, none⟩ = some b ∧
      Rt (St3 w g s a b) w0.heap.size (St3 w g s a b).heap.size (.agg #[.bool s, a, b]) s x y ∧ Below w0.heap.size w0 (St3 w g s a b) := by
  have p3 := ((q.put 0 (.bool s)).put 1 a).put 2 b
  have hBB := ((hB.setCell (p := ⟨g, 0, none⟩) hg (.bool s)).setCell (p := ⟨g, 1, none⟩) hg a).setCell (p := ⟨g, 2, none⟩) hg b
  have t1 := ((h1.put3 (Nat.lt_succ_self _) 0 (.bool s)).put3 (Nat.lt_succ_self _) 1 a).put3 (Nat.lt_succ_self _) 2 b
  have t2 := ((h2.put3 (Nat.lt_succ_self _) 0 (.bool s)).put3 (Nat.lt_succ_self _) 1 a).put3 (Nat.lt_succ_self _) 2 b
  exact ⟨by unfold St3; rw [p3.cell]; rfl, by unfold St3; rw [p3.cell]; rfl, by unfold St3; rw [p3.cell]; rfl, ⟨_, _, rfl, t1.low (by omega), t2.low (by omega)⟩, hBB⟩

end Go.Proofs.YtobmjcbjailclaaGreatDoor
