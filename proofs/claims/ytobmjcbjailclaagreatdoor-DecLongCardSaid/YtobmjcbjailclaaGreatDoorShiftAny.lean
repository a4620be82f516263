/- 'Shift' by its contract, at any whole number. Condition: a bound on lengths. -/
import Derived.Test.YtobmjcbjailclaaGreatDoorShiftL
import Derived.Test.YtobmjcbjailclaaGreatDoorKnown
namespace Go.Proofs.YtobmjcbjailclaaGreatDoor
set_option maxRecDepth 100000
open Go.RowKit

theorem shift_any (v : Value) (x : List Nat) (n : Int) (w : World) (hd : Dig x) (h : Nt w 0 w.heap.size v x) (hl : x.length ≤ 90000) :
    Calls Tryz.prog 117 #[v, .int .i64 n] w (Gives (lim (shiftN (val x) n)) w) := by
  by_cases hn : held12 n < 0
  · have e : shiftN (val x) n = val x / 2 ^ (-(held12 n)).toNat := by unfold shiftN; rw [if_pos hn]
    rw [e]
    refine shiftRight_any v x n (-(held12 n)).toNat w hd h (by omega) (by omega) (by omega) ?_
    unfold held12 at hn ⊢
    omega
  · have e : shiftN (val x) n = val x * 2 ^ (held12 n).toNat := by unfold shiftN; rw [if_neg hn]
    rw [e]
    by_cases h1 : (4096 : Int) < n
    · have e2 : (held12 n).toNat = 4096 := by unfold held12; omega
      rw [e2]
      exact shiftLeft_out v x n 4096 w hd h hl h1 rfl
    · have e2 : (held12 n).toNat = n.toNat := by unfold held12; omega
      rw [e2]
      unfold held12 at hn
      exact shiftLeft_in v x n n.toNat w hd h hl (by omega) (by omega)

/-- A row of limbs, laid anew. -/
theorem nt_laid (w : World) (e : TypeId) (x : List Nat) (hx : x.length ≤ 1000) : Nt (w.alloc (.cells (lv x).toArray e)) 0 (w.alloc (.cells (lv x).toArray e)).heap.size (.slice (some ⟨w.heap.size, 0, none⟩) x.length x.length) x ∧ Below w.heap.size w (w.alloc (.cells (lv x).toArray e)) := by
  have hs : (w.alloc (.cells (lv x).toArray e)).heap.size = w.heap.size + 1 := by simp
  refine ⟨?_, (Below.refl _ _).alloc (Nat.le_refl _) _⟩
  rw [hs]
  exact (nt_new w e x hx).low (Nat.zero_le _)
end Go.Proofs.YtobmjcbjailclaaGreatDoor
