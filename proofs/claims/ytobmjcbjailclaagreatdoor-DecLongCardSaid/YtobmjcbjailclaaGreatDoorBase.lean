/- Words for slices that read as a list, and for blocks of the call's own. -/
import Derived.WalkKit
import Derived.ProofKit
import Derived.Below
import Derived.Laws.OwnMore
import Derived.Laws.Rows
import Derived.Laws.AppendOwnNone
import Derived.Deep.Draws
namespace Go.Proofs.YtobmjcbjailclaaGreatDoor
set_option maxRecDepth 100000
open Go.RowKit

/-- The slice value v holds the cells xs in the world w, in a block below number B. -/
def Rd (w : World) (B : Nat) (v : Value) (xs : List Value) : Prop :=
  ∃ A c, v = .slice A xs.length c ∧ xs.length ≤ c ∧ c ≤ maxLen ∧ (A = none → c = 0) ∧
    (0 < xs.length → ∃ b off, A = some ⟨b, off, none⟩ ∧ b < B ∧ ∀ j u, xs[j]? = some u → w.cell? ⟨b, off + j, none⟩ = some u)

section
variable {w w' : World} {B B' : Nat} {v : Value} {xs : List Value}

theorem Rd.nil (w : World) (B : Nat) : Rd w B (.slice none 0 0) [] := ⟨none, 0, rfl, Nat.le_refl _, by decide, fun _ => rfl, fun h => absurd h (by simp)⟩

theorem Rd.stay (h : Rd w B v xs) (hB : B ≤ B') (hk : ∀ p : Addr, p.block < B → w'.cell? p = w.cell? p) : Rd w' B' v xs := by
  obtain ⟨A, c, rfl, hc, hm, hA0, hx⟩ := h
  refine ⟨A, c, rfl, hc, hm, hA0, fun h0 => ?_⟩
  obtain ⟨b, off, hA, hb, hcell⟩ := hx h0
  exact ⟨b, off, hA, by omega, fun j u hu => (hk ⟨b, off + j, none⟩ hb).trans (hcell j u hu)⟩

theorem Rd.below {C : Nat} (h : Rd w B v xs) (hb : Below C w w') (hB : B ≤ C) : Rd w' B v xs := h.stay (Nat.le_refl _) fun _ hp => hb.cell (Nat.lt_of_lt_of_le hp hB)
theorem Rd.up (h : Rd w B v xs) (hB : B ≤ B') : Rd w B' v xs := h.stay hB fun _ _ => rfl
theorem Rd.after (h : Rd w w.heap.size v xs) (hb : Below w.heap.size w w') : Rd w' w'.heap.size v xs := (h.below hb (Nat.le_refl _)).up hb.size
theorem Rd.drew (h : Rd w B v xs) : Rd w.drew B v xs := h
theorem Rd.alloc (h : Rd w B v xs) (hB : B ≤ w.heap.size) (o : Obj) : Rd (w.alloc o) B v xs := h.below ((Below.refl B w).alloc hB o) (Nat.le_refl _)

/-- A row of the call's own reads as its cells. -/
theorem Rd.of_own {base n : Nat} {e : TypeId} (h : w.ownsRow base e 1 v n xs) : Rd w w.heap.size v xs := by
  obtain ⟨hl, hc⟩ := h
  have hn : xs.length = n := by omega
  subst hn
  rcases hc with ⟨rfl, h0⟩ | ⟨g, cap, cur, rfl, hb, hg, hnc, hcm, hcs, htake⟩
  · have := List.eq_nil_of_length_eq_zero h0
    subst this
    exact Rd.nil w _
  · refine ⟨some ⟨g, 0, none⟩, cap, rfl, hnc, hcm, fun h => (by cases h), fun h0 => ⟨g, 0, rfl, (Array.getElem?_eq_some_iff.1 hg).1, fun j u hu => ?_⟩⟩
    rw [Nat.zero_add, cell_of_row w g j cur e (0, 0) hg]
    rw [← htake, List.getElem?_take] at hu
    split at hu
    · simpa using hu
    · cases hu
end

/-- Block g is just the cells cs of element type t, none frozen. -/
def Blk (w : World) (g : Nat) (t : TypeId) (cs : Array Value) : Prop := w.heap[g]? = some (.cells cs t (0, 0))

section
variable {w w' : World} {g : Nat} {t : TypeId} {cs : Array Value}
theorem Blk.lt (h : Blk w g t cs) : g < w.heap.size := (Array.getElem?_eq_some_iff.1 h).1
theorem Blk.cell (h : Blk w g t cs) (i : Nat) : w.cell? ⟨g, i, none⟩ = cs[i]? := cell_of_row w g i cs t (0, 0) h
theorem Blk.free (h : Blk w g t cs) (i : Nat) : w.frozen? ⟨g, i, none⟩ = false := by
  have h' : w.heap[g]? = some (.cells cs t (0, 0)) := h
  simp [World.frozen?, h']
theorem Blk.new (w : World) (t : TypeId) (cs : Array Value) : Blk (w.alloc (.cells cs t)) w.heap.size t cs := heap_alloc_new w _
theorem Blk.drew (h : Blk w g t cs) : Blk w.drew g t cs := h
theorem Blk.alloc (h : Blk w g t cs) (o : Obj) : Blk (w.alloc o) g t cs := (Below.heap_alloc w o g h.lt).trans h
theorem Blk.put (h : Blk w g t cs) (i : Nat) (u : Value) : Blk (w.setCell ⟨g, i, none⟩ u) g t (cs.setIfInBounds i u) := by
  have h' : w.heap[g]? = some (.cells cs t (0, 0)) := h
  show (w.setCell ⟨g, i, none⟩ u).heap[g]? = _
  simp [World.setCell, Array.getElem?_modify, h']
theorem Blk.same (h : Blk w g t cs) {i : Nat} (hi : i < cs.size) (u : Value) : (w.setCell ⟨g, i, none⟩ u).cell? ⟨g, i, none⟩ = some u := by
  rw [(h.put i u).cell, Array.getElem?_setIfInBounds]
  simp [hi]
theorem Blk.far (h : Blk w g t cs) {p : Addr} (hp : g ≠ p.block) (u : Value) : Blk (w.setCell p u) g t cs := (Below.heap_setCell w p u g hp).trans h
theorem Blk.below {B : Nat} (h : Blk w g t cs) (hb : Below B w w') (hg : g < B) : Blk w' g t cs := (hb.block g hg).trans h

/-- A block of the call's own, taken from its head as a slice. -/
theorem Blk.reads {n : Nat} (h : Blk w g t cs) (hn : n ≤ cs.size) (hm : cs.size ≤ maxLen) : Rd w w.heap.size (.slice (some ⟨g, 0, none⟩) n cs.size) (cs.toList.take n) := by
  have hl : (cs.toList.take n).length = n := by rw [List.length_take, Array.length_toList]; omega
  refine ⟨some ⟨g, 0, none⟩, cs.size, by rw [hl], by omega, hm, fun h => (by cases h), fun _ => ⟨g, 0, rfl, h.lt, fun j u hu => ?_⟩⟩
  rw [Nat.zero_add, h.cell]
  rw [List.getElem?_take] at hu
  split at hu
  · simpa using hu
  · cases hu
end

/-- What the frame of a law's proof tells of a slice of integers that came in, as 'Rd'. -/
theorem rd_of_row {k : IntKind} {w : World} {a : Option Addr} {len cap : Nat} {zs : List Int}
    (h : (a = none ∧ len = 0 ∧ cap = 0 ∧ zs = []) ∨ ∃ x, a = some x ∧ len ≤ cap ∧ cap ≤ maxLen ∧ zs.length = cap ∧ (∀ i, i < zs.length → w.cell? (x.add i) = some (.int k (zs.getD i 0))) ∧ ∀ n ∈ zs, (Lit.int k n).wf = true) :
    Rd w w.heap.size (.slice a len cap) ((zs.take len).map (Value.int k)) ∧ ∀ n ∈ zs.take len, (Lit.int k n).wf = true := by
  rcases h with ⟨rfl, rfl, rfl, rfl⟩ | ⟨x, rfl, hl, hm, hz, hcell, hwz⟩
  · exact ⟨Rd.nil w _, by simp⟩
  · have hlen : ((zs.take len).map (Value.int k)).length = len := by rw [List.length_map, List.length_take]; omega
    refine ⟨⟨some x, cap, by rw [hlen], by omega, hm, fun h => (by cases h), fun h0 => ?_⟩, fun n hn => hwz n (List.mem_of_mem_take hn)⟩
    obtain ⟨b, off, spot⟩ := x
    rw [hlen] at h0
    have hc := hcell 0 (by omega)
    have hspot : spot = none := by simpa [Addr.add] using World.cell?_spot hc
    subst hspot
    have hadd : ∀ i, (⟨b, off, none⟩ : Addr).add i = ⟨b, off + i, none⟩ := fun i => by unfold Addr.add; split <;> simp_all
    refine ⟨b, off, rfl, ?_, fun j u hu => ?_⟩
    · have := World.block_lt_of_cell? w _ hc
      rw [hadd] at this
      exact this
    · rw [List.getElem?_map, List.getElem?_take] at hu
      by_cases hj : j < len
      · rw [if_pos hj, List.getElem?_eq_getElem (by omega)] at hu
        have := hcell j (by omega)
        rw [hadd] at this
        rw [this]
        simp at hu
        subst hu
        simp [List.getD_eq_getElem?_getD, List.getElem?_eq_getElem (show j < zs.length by omega)]
      · rw [if_neg hj] at hu; simp at hu

/-- The same of a slice of uint32, its numbers as natural ones. -/
def lv (l : List Nat) : List Value := l.map fun n : Nat => Value.int .u32 (n : Int)

theorem rd_of_nats {w : World} {a : Option Addr} {len cap : Nat} {zs : List Int}
    (h : (a = none ∧ len = 0 ∧ cap = 0 ∧ zs = []) ∨ ∃ x, a = some x ∧ len ≤ cap ∧ cap ≤ maxLen ∧ zs.length = cap ∧ (∀ i, i < zs.length → w.cell? (x.add i) = some (.int .u32 (zs.getD i 0))) ∧ ∀ n ∈ zs, (Lit.int .u32 n).wf = true) :
    ∃ l : List Nat, Rd w w.heap.size (.slice a len cap) (lv l) ∧ ∀ n ∈ l, n < 4294967296 := by
  obtain ⟨h1, h2⟩ := rd_of_row h
  have hb : ∀ n ∈ zs.take len, 0 ≤ n ∧ n < 4294967296 := fun n hn => by
    have := h2 n hn
    simp [Lit.wf, IntKind.min, IntKind.max, IntKind.bits, IntKind.signed] at this
    omega
  refine ⟨(zs.take len).map Int.toNat, ?_, ?_⟩
  · have : lv ((zs.take len).map Int.toNat) = (zs.take len).map (Value.int .u32) := by
      unfold lv
      rw [List.map_map]
      refine List.map_congr_left fun n hn => ?_
      have := hb n hn
      simp; omega
    rw [this]; exact h1
  · intro n hn
    obtain ⟨m, hm, rfl⟩ := List.mem_map.1 hn
    have := hb m hm
    omega

/-- append onto a row of the call's own, the source a slice that reads as a list (nil, too). -/
theorem wpList_append_rd {P : Program} {w : World} {ops : Array Oper} {rest : List Oper} {o : Oper} {a : Act} {Q : Exit → Act → World → Prop} (hgd : o.guard = none) (s x : Operand) (t : TypeId)
    (ho : o.op = .call { callee := .builtin .append, args := #[s, x], argTypes := #[t, t] })
    (base : Nat) (e : TypeId) (i : TypeInfo) (z : Value) (bytes : Nat) (ht : P.underlying t = some (.slice e)) (hi : P.info? e = some i) (hz : i.zero = some z)
    (hsize : i.size = 1) (hby : i.bytes = bytes) (hzs : z.cells.size = 1)
    (v : Value) (n : Nat) (xs : List Value) (hs : a.eval s = v) (hown : w.ownsRow base e 1 v n xs)
    (B : Nat) (u : Value) (news : List Value) (hx : a.eval x = u) (hr : Rd w B u news) (h1 : ∀ u ∈ news, u.oneCell' = true)
    (h63 : n + news.length ≤ maxLen) (hbytes : (n + news.length) * bytes ≤ 140737488355328) (hbase : base ≤ w.heap.size)
    (h : ∀ v' w', w'.ownsRow base e 1 v' (n + news.length) (xs ++ news) → w.grownBy w' v.ownBlock → wpList P ops Q rest (a.put o.dst v') w') : wpList P ops Q (o :: rest) a w := by
  obtain ⟨A, c, rfl, hc, hm, hA0, hcell⟩ := hr
  rcases A with _ | ad
  · have hn : news = [] := by
      rcases Nat.eq_zero_or_pos news.length with h0 | h0
      · exact List.eq_nil_of_length_eq_zero h0
      · obtain ⟨b, off, h, _⟩ := hcell h0
        cases h
    subst hn
    have hc0 := hA0 rfl
    subst hc0
    exact wpList_append_own_none hgd s x t ho base e i 1 ht hi v n xs hs hown hx (h v w (by simpa using hown) (World.grownBy.refl w _))
  · refine wpList_append_own _ hgd s x t ho base e i z 1 bytes ht hi hz hsize hby hzs (by decide) v n xs hs hown ad news.length c news hx (by omega) ?_ h1 h63 hbytes hbase (fun v' w' h2 h3 _ => h v' w' h2 h3)
    intro j u hu
    have h0 : 0 < news.length := by
      rcases Nat.eq_zero_or_pos news.length with h0 | h0
      · have := List.eq_nil_of_length_eq_zero h0
        subst this
        simp at hu
      · exact h0
    obtain ⟨b, off, h, _, hc⟩ := hcell h0
    injection h with h
    subst h
    have hadd : (⟨b, off, none⟩ : Addr).add j = ⟨b, off + j, none⟩ := by unfold Addr.add; split <;> simp_all
    rw [hadd]
    exact hc j u hu

theorem ret_eq {a b : Value} (h : a = b) : Ending.returned a = .returned b := by rw [h]

end Go.Proofs.YtobmjcbjailclaaGreatDoor
