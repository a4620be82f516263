/- Rows of bytes of a call's own. Condition: a bound on lengths. -/
import Derived.Test.YtobmjcbjailclaaGreatDoorTrims
import Derived.Deep.AppendLies
namespace Go.Proofs.YtobmjcbjailclaaGreatDoor
set_option maxRecDepth 100000
open Go.RowKit

theorem Tryz.info8 : (Tryz.prog.info? 5).map (fun i => (i.zero, i.size, i.bytes)) = some (some (.int .u8 0), 1, 1) := by kernel_rfl

/-- Numbers as bytes. -/
def bv (l : List Nat) : List Value := l.map fun n : Nat => Value.int .u8 (n : Int)
theorem bv_snoc (cs : List Nat) (d : Nat) : bv (cs ++ [d]) = bv cs ++ [.int .u8 (d : Int)] := by unfold bv; rw [List.map_append]; rfl

/-- The call's own row v holds these bytes. -/
def OwnB (w : World) (base : Nat) (e : TypeId) (v : Value) (cs : List Nat) : Prop := w.ownsRow base e 1 v cs.length (bv cs)
theorem OwnB.nil (w : World) (base : Nat) (e : TypeId) : OwnB w base e (.slice none 0 0) [] := World.ownsRow_nil _ _ _ _

theorem OwnB.after {w w' : World} {base : Nat} {e : TypeId} {v : Value} {cs : List Nat} (h : OwnB w base e v cs) (hb : Below w.heap.size w w') : OwnB w' base e v cs := by
  obtain ⟨hl, h | ⟨g, cap, cur, hv, hg, hc, rest⟩⟩ := h
  · exact ⟨hl, Or.inl h⟩
  · exact ⟨hl, Or.inr ⟨g, cap, cur, hv, hg, (hb.block g (Array.getElem?_eq_some_iff.1 hc).1).trans hc, rest⟩⟩

theorem OwnB.own_lt {w : World} {base : Nat} {e : TypeId} {v : Value} {cs : List Nat} (h : OwnB w base e v cs) {g : Nat} (hg : v.ownBlock = some g) : g < w.heap.size := (World.ownsRow.lt h g hg).2

/-- One byte more onto a row of the call's own. -/
theorem wpList_append_byte {P : Program} {w : World} {ops : Array Oper} {rest : List Oper} {o : Oper} {a : Act} {Q : Exit → Act → World → Prop} (hgd : o.guard = none) (s x : Operand) (t : TypeId)
    (ho : o.op = .call { callee := .builtin .append, args := #[s, x], argTypes := #[t, t] })
    (base : Nat) (e : TypeId) (i : TypeInfo) (ht : P.underlying t = some (.slice e)) (hi : P.info? e = some i) (hz : i.zero = some (.int .u8 0)) (hsize : i.size = 1) (hby : i.bytes = 1)
    (v : Value) (cs : List Nat) (hs : a.eval s = v) (hown : OwnB w base e v cs) (y : Value) (d : Nat) (hy : y = .int .u8 (d : Int)) (hx : a.eval x = .slice (some ⟨w.heap.size, 0, none⟩) 1 1)
    (hlen : cs.length ≤ 1000000) (hbase : base ≤ w.heap.size)
    (h : ∀ v' w', OwnB w' base e v' (cs ++ [d]) → Below base w w' → wpList P ops Q rest (a.put o.dst v') w') : wpList P ops Q (o :: rest) a (w.alloc (.cells #[y] e)) := by
  refine wpList_append_own _ hgd s x t ho base e i (.int .u8 0) 1 1 ht hi hz hsize hby rfl (by decide) v cs.length (bv cs) hs (World.ownsRow.alloc hown _) ⟨w.heap.size, 0, none⟩ 1 1 [y] hx rfl (cell_one_new _ _ _) ?_ ?_ ?_ ?_ ?_
  · intro u hu
    rw [List.mem_singleton] at hu
    subst hu
    rw [hy]; rfl
  · unfold maxLen; omega
  · omega
  · simp; omega
  · intro v' w' h1 h2 _
    refine h v' w' ?_ ?_
    · show w'.ownsRow base e 1 v' (cs ++ [d]).length (bv (cs ++ [d]))
      rw [bv_snoc, List.length_append, ← hy]; exact h1
    · exact ((Below.refl base w).alloc hbase _).grown h2 (by simp; omega) (fun j hj => (World.ownsRow.lt hown j hj).1)

/-- The same, and all other blocks are as they were. -/
theorem wpList_append_byte2 {P : Program} {w : World} {ops : Array Oper} {rest : List Oper} {o : Oper} {a : Act} {Q : Exit → Act → World → Prop} (hgd : o.guard = none) (s x : Operand) (t : TypeId)
    (ho : o.op = .call { callee := .builtin .append, args := #[s, x], argTypes := #[t, t] })
    (base : Nat) (e : TypeId) (i : TypeInfo) (ht : P.underlying t = some (.slice e)) (hi : P.info? e = some i) (hz : i.zero = some (.int .u8 0)) (hsize : i.size = 1) (hby : i.bytes = 1)
    (v : Value) (cs : List Nat) (hs : a.eval s = v) (hown : OwnB w base e v cs) (y : Value) (d : Nat) (hy : y = .int .u8 (d : Int)) (hx : a.eval x = .slice (some ⟨w.heap.size, 0, none⟩) 1 1)
    (hlen : cs.length ≤ 1000000) (hbase : base ≤ w.heap.size)
    (h : ∀ v' w', OwnB w' base e v' (cs ++ [d]) → Below base w w' → (∀ k, v.ownBlock ≠ some k → k < w.heap.size → w'.heap[k]? = w.heap[k]?) → wpList P ops Q rest (a.put o.dst v') w') : wpList P ops Q (o :: rest) a (w.alloc (.cells #[y] e)) := by
  refine wpList_append_own _ hgd s x t ho base e i (.int .u8 0) 1 1 ht hi hz hsize hby rfl (by decide) v cs.length (bv cs) hs (World.ownsRow.alloc hown _) ⟨w.heap.size, 0, none⟩ 1 1 [y] hx rfl (cell_one_new _ _ _) ?_ ?_ ?_ ?_ ?_
  · intro u hu
    rw [List.mem_singleton] at hu
    subst hu
    rw [hy]; rfl
  · unfold maxLen; omega
  · omega
  · simp; omega
  · intro v' w' h1 h2 _
    refine h v' w' ?_ ?_ (fun k hk hl => (h2.block k (by simp; omega) (fun e => hk e.symm)).trans (Below.heap_alloc _ _ _ hl))
    · show w'.ownsRow base e 1 v' (cs ++ [d]).length (bv (cs ++ [d]))
      rw [bv_snoc, List.length_append, ← hy]; exact h1
    · exact ((Below.refl base w).alloc hbase _).grown h2 (by simp; omega) (fun j hj => (World.ownsRow.lt hown j hj).1)

/-- The same, and where the row lies then: where it lay, or in a new block. -/
theorem wpList_append_byte3 {P : Program} {w : World} {ops : Array Oper} {rest : List Oper} {o : Oper} {a : Act} {Q : Exit → Act → World → Prop} (hgd : o.guard = none) (s x : Operand) (t : TypeId)
    (ho : o.op = .call { callee := .builtin .append, args := #[s, x], argTypes := #[t, t] })
    (base : Nat) (e : TypeId) (i : TypeInfo) (ht : P.underlying t = some (.slice e)) (hi : P.info? e = some i) (hz : i.zero = some (.int .u8 0)) (hsize : i.size = 1) (hby : i.bytes = 1)
    (v : Value) (cs : List Nat) (hs : a.eval s = v) (hown : OwnB w base e v cs) (y : Value) (d : Nat) (hy : y = .int .u8 (d : Int)) (hx : a.eval x = .slice (some ⟨w.heap.size, 0, none⟩) 1 1)
    (hlen : cs.length ≤ 1000000) (hbase : base ≤ w.heap.size)
    (h : ∀ g cap w', OwnB w' base e (.slice (some ⟨g, 0, none⟩) (cs.length + 1) cap) (cs ++ [d]) → Below base w w' → (∀ k, v.ownBlock ≠ some k → k < w.heap.size → w'.heap[k]? = w.heap[k]?) → (v.ownBlock = some g ∨ w.heap.size ≤ g) → g < w'.heap.size →
      wpList P ops Q rest (a.put o.dst (.slice (some ⟨g, 0, none⟩) (cs.length + 1) cap)) w') : wpList P ops Q (o :: rest) a (w.alloc (.cells #[y] e)) := by
  refine wpList_append_lies _ hgd s x t ho base e i (.int .u8 0) 1 1 ht hi hz hsize hby rfl (by decide) v cs.length (bv cs) hs (World.ownsRow.alloc hown _) ⟨w.heap.size, 0, none⟩ 1 1 [y] hx rfl (cell_one_new _ _ _) ?_ (by decide) ?_ ?_ ?_ _ rfl ?_
  · intro u hu
    rw [List.mem_singleton] at hu
    subst hu
    rw [hy]; rfl
  · unfold maxLen; omega
  · omega
  · simp; omega
  · intro g cap w' h1 h2 h3 h4
    refine h g cap w' ?_ ?_ (fun k hk hl => (h2.block k (by simp; omega) (fun e => hk e.symm)).trans (Below.heap_alloc _ _ _ hl)) ?_ h4
    · show w'.ownsRow base e 1 _ (cs ++ [d]).length (bv (cs ++ [d]))
      rw [bv_snoc, List.length_append, ← hy]; exact h1
    · exact ((Below.refl base w).alloc hbase _).grown h2 (by simp; omega) (fun j hj => (World.ownsRow.lt hown j hj).1)
    · rcases h3 with h3 | h3
      · exact Or.inl h3
      · right; rw [h3]; simp
end Go.Proofs.YtobmjcbjailclaaGreatDoor
