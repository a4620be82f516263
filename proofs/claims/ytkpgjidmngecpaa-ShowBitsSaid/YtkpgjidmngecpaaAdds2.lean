/- 'Add' of the program by its contract. Condition: a bound on lengths. -/
import Derived.Test.YtkpgjidmngecpaaTrims
import Derived.Test.YtkpgjidmngecpaaNumAdd
namespace Go.Proofs.Ytkpgjidmngecpaa
open Go.RowKit

/-- 'make([]uint32, z)'. -/
theorem make_limbs (n : Nat) (z : Int) (hz : z = (n : Int)) (hn : n ≤ 1000000) (w : World) :
    (Instr.makeSlice 25 (.int .i64 z) (.int .i64 z)).run Try.prog w = .ok (.slice (some ⟨w.heap.size, 0, none⟩) n n) (w.alloc (.cells (madeCells #[.int .u32 0] n) 38)) := by
  subst hz
  exact run_make_row' (P := Try.prog) 25 38 (.int .u32 0) 4 Try.underlying25 Try.info32 rfl .i64 .i64 n (by omega) (by omega) w

theorem limBd' {x : List Nat} (hd : Dig x) (n : Nat) (h : x.length ≤ n) : (lim (val x)).length ≤ n := Nat.le_trans (limBd hd) h

theorem getD_at {x : List Nat} {k : Nat} (h : k < x.length) : x.getD k 0 = x[k] := by rw [List.getD_eq_getElem?_getD, List.getElem?_eq_getElem h]; rfl
theorem getD_out {x : List Nat} {k : Nat} (h : ¬ k < x.length) : x.getD k 0 = 0 := by rw [List.getD_eq_getElem?_getD, List.getElem?_eq_none (by omega)]; rfl

/-- The row of the sum behind the last limb. -/
theorem add_final {p q cs : List Nat} {s k : Nat} (h : AddAt p q cs s k) (hp : p.length ≤ k) (hq : q.length ≤ k) (hl : cs.length = k + 1) : val (cs.set k s) = val p + val q := by
  have := addAt_end h hp hq (by omega)
  rw [List.take_of_length_le (by simp; omega)] at this
  exact this

/-! WALKS -/

end Go.Proofs.Ytkpgjidmngecpaa
