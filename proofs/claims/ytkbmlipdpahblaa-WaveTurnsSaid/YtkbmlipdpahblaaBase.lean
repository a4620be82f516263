/- Words for slices that read as a list, and for blocks of the call's own. -/
import Derived.WalkKit
import Derived.ProofKit
import Derived.Below
import Derived.Laws.OwnMore
import Derived.Laws.Rows
import Derived.Deep.Draws
namespace Go.Proofs.Ytkbmlipdpahblaa
open Go.RowKit

/-- The slice value v holds the cells xs in the world w, in a block below number B. -/
def Rd (w : World) (B : Nat) (v : Value) (xs : List Value) : Prop :=
  ∃ A c, v = .slice A xs.length c ∧ xs.length ≤ c ∧ c ≤ maxLen ∧
    (0 < xs.length → ∃ b off, A = some ⟨b, off, none⟩ ∧ b < B ∧ ∀ j u, xs[j]? = some u → w.cell? ⟨b, off + j, none⟩ = some u)

section
variable {w w' : World} {B B' : Nat} {v : Value} {xs : List Value}

theorem Rd.nil (w : World) (B : Nat) : Rd w B (.slice none 0 0) [] := ⟨none, 0, rfl, Nat.le_refl _, by decide, fun h => absurd h (by simp)⟩

theorem Rd.stay (h : Rd w B v xs) (hB : B ≤ B') (hk : ∀ p : Addr, p.block < B → w'.cell? p = w.cell? p) : Rd w' B' v xs := by
  obtain ⟨A, c, rfl, hc, hm, hx⟩ := h
  refine ⟨A, c, rfl, hc, hm, fun h0 => ?_⟩
  obtain ⟨b, off, hA, hb, hcell⟩ := hx h0
  exact ⟨b, off, hA, by omega, fun j u hu => (hk ⟨b, off + j, none⟩ hb).trans (hcell j u hu)⟩

theorem Rd.below {C : Nat} (h : Rd w B v xs) (hb : Below C w w') (hB : B ≤ C) : Rd w' B v xs := h.stay (Nat.le_refl _) fun _ hp => hb.cell (Nat.lt_of_lt_of_le hp hB)
theorem Rd.up (h : Rd w B v xs) (hB : B ≤ B') : Rd w B' v xs := h.stay hB fun _ _ => rfl
theorem Rd.after (h : Rd w w.heap.size v xs) (hb : Below w.heap.size w w') : Rd w' w'.heap.size v xs := (h.below hb (Nat.le_refl _)).up hb.size
theorem Rd.drew (h : Rd w B v xs) : Rd w.drew B v xs := h
theorem Rd.alloc (h : Rd w B v xs) (hB : B ≤ w.heap.size) (o : Obj) : Rd (w.alloc o) B v xs := h.below ((Below.refl B w).alloc hB o) (Nat.le_refl _)

/-- A row of the call's own reads as its cells. -/
theorem Rd.of_own {base n : Nat} {e : TypeId} (h : w.ownsRow base e 1 v n xs) : Rd w w.heap.size v xs := by
  obtain ⟨hl, hc⟩ := h
  have hn : xs.length = n := by omega
  subst hn
  rcases hc with ⟨rfl, h0⟩ | ⟨g, cap, cur, rfl, hb, hg, hnc, hcm, hcs, htake⟩
  · have := List.eq_nil_of_length_eq_zero h0
    subst this
    exact Rd.nil w _
  · refine ⟨some ⟨g, 0, none⟩, cap, rfl, hnc, hcm, fun h0 => ⟨g, 0, rfl, (Array.getElem?_eq_some_iff.1 hg).1, fun j u hu => ?_⟩⟩
    rw [Nat.zero_add, cell_of_row w g j cur e (0, 0) hg]
    rw [← htake, List.getElem?_take] at hu
    split at hu
    · simpa using hu
    · cases hu
end

/-- Block g is just the cells cs of element type t, none frozen. -/
def Blk (w : World) (g : Nat) (t : TypeId) (cs : Array Value) : Prop := w.heap[g]? = some (.cells cs t (0, 0))

section
variable {w w' : World} {g : Nat} {t : TypeId} {cs : Array Value}
theorem Blk.lt (h : Blk w g t cs) : g < w.heap.size := (Array.getElem?_eq_some_iff.1 h).1
theorem Blk.cell (h : Blk w g t cs) (i : Nat) : w.cell? ⟨g, i, none⟩ = cs[i]? := cell_of_row w g i cs t (0, 0) h
theorem Blk.free (h : Blk w g t cs) (i : Nat) : w.frozen? ⟨g, i, none⟩ = false := by
  have h' : w.heap[g]? = some (.cells cs t (0, 0)) := h
  simp [World.frozen?, h']
theorem Blk.new (w : World) (t : TypeId) (cs : Array Value) : Blk (w.alloc (.cells cs t)) w.heap.size t cs := heap_alloc_new w _
theorem Blk.drew (h : Blk w g t cs) : Blk w.drew g t cs := h
theorem Blk.alloc (h : Blk w g t cs) (o : Obj) : Blk (w.alloc o) g t cs := (Below.heap_alloc w o g h.lt).trans h
theorem Blk.put (h : Blk w g t cs) (i : Nat) (u : Value) : Blk (w.setCell ⟨g, i, none⟩ u) g t (cs.setIfInBounds i u) := by
  have h' : w.heap[g]? = some (.cells cs t (0, 0)) := h
  show (w.setCell ⟨g, i, none⟩ u).heap[g]? = _
  simp [World.setCell, Array.getElem?_modify, h']
theorem Blk.same (h : Blk w g t cs) {i : Nat} (hi : i < cs.size) (u : Value) : (w.setCell ⟨g, i, none⟩ u).cell? ⟨g, i, none⟩ = some u := by
  rw [(h.put i u).cell, Array.getElem?_setIfInBounds]
  simp [hi]
theorem Blk.far (h : Blk w g t cs) {p : Addr} (hp : g ≠ p.block) (u : Value) : Blk (w.setCell p u) g t cs := (Below.heap_setCell w p u g hp).trans h
theorem Blk.below {B : Nat} (h : Blk w g t cs) (hb : Below B w w') (hg : g < B) : Blk w' g t cs := (hb.block g hg).trans h

/-- A block of the call's own, taken from its head as a slice. -/
theorem Blk.reads {n : Nat} (h : Blk w g t cs) (hn : n ≤ cs.size) (hm : cs.size ≤ maxLen) : Rd w w.heap.size (.slice (some ⟨g, 0, none⟩) n cs.size) (cs.toList.take n) := by
  have hl : (cs.toList.take n).length = n := by rw [List.length_take, Array.length_toList]; omega
  refine ⟨some ⟨g, 0, none⟩, cs.size, by rw [hl], by omega, hm, fun _ => ⟨g, 0, rfl, h.lt, fun j u hu => ?_⟩⟩
  rw [Nat.zero_add, h.cell]
  rw [List.getElem?_take] at hu
  split at hu
  · simpa using hu
  · cases hu
end

/-- What the frame of a law's proof tells of a slice of integers that came in, as 'Rd'. -/
theorem rd_of_row {k : IntKind} {w : World} {a : Option Addr} {len cap : Nat} {zs : List Int}
    (h : (a = none ∧ len = 0 ∧ cap = 0 ∧ zs = []) ∨ ∃ x, a = some x ∧ len ≤ cap ∧ cap ≤ maxLen ∧ zs.length = cap ∧ (∀ i, i < zs.length → w.cell? (x.add i) = some (.int k (zs.getD i 0))) ∧ ∀ n ∈ zs, (Lit.int k n).wf = true) :
    Rd w w.heap.size (.slice a len cap) ((zs.take len).map (Value.int k)) ∧ ∀ n ∈ zs.take len, (Lit.int k n).wf = true := by
  rcases h with ⟨rfl, rfl, rfl, rfl⟩ | ⟨x, rfl, hl, hm, hz, hcell, hwz⟩
  · exact ⟨Rd.nil w _, by simp⟩
  · have hlen : ((zs.take len).map (Value.int k)).length = len := by rw [List.length_map, List.length_take]; omega
    refine ⟨⟨some x, cap, by rw [hlen], by omega, hm, fun h0 => ?_⟩, fun n hn => hwz n (List.mem_of_mem_take hn)⟩
    obtain ⟨b, off, spot⟩ := x
    rw [hlen] at h0
    have hc := hcell 0 (by omega)
    have hspot : spot = none := by simpa [Addr.add] using World.cell?_spot hc
    subst hspot
    have hadd : ∀ i, (⟨b, off, none⟩ : Addr).add i = ⟨b, off + i, none⟩ := fun i => by unfold Addr.add; split <;> simp_all
    refine ⟨b, off, rfl, ?_, fun j u hu => ?_⟩
    · have := World.block_lt_of_cell? w _ hc
      rw [hadd] at this
      exact this
    · rw [List.getElem?_map, List.getElem?_take] at hu
      by_cases hj : j < len
      · rw [if_pos hj, List.getElem?_eq_getElem (by omega)] at hu
        have := hcell j (by omega)
        rw [hadd] at this
        rw [this]
        simp at hu
        subst hu
        simp [List.getD_eq_getElem?_getD, List.getElem?_eq_getElem (show j < zs.length by omega)]
      · rw [if_neg hj] at hu; simp at hu

theorem ret_eq {a b : Value} (h : a = b) : Ending.returned a = .returned b := by rw [h]

end Go.Proofs.Ytkbmlipdpahblaa
