/- Several texts in one: Base, Nt, Trims, Adds2, Muls. Condition: each says its own. -/
import Derived.WalkKit
import Derived.ProofKit
import Derived.Below
import Derived.Laws.OwnMore
import Derived.Laws.Rows
import Derived.Laws.AppendOwnNone
import Derived.Deep.Draws
import Derived.Lib.Hide
import Derived.Deep.OwnRows
import Derived.Maps.AppendAt
import Derived.Test.YtobmjcbjailclaaGreatDoorRows
import Derived.WalkLawsBesides
import Derived.WalkSpells
import Derived.Deep.QuietTactic
import Derived.BigQuiet
import Derived.Test.YtobmjcbjailclaaGreatDoorPk1
/- Words for slices that read as a list, and for blocks of the call's own. -/
namespace Go.Proofs.YtobmjcbjailclaaGreatDoor
set_option maxRecDepth 100000
open Go.RowKit

/-- The slice value v holds the cells xs in the world w, in a block below number B. -/
def Rd (w : World) (B : Nat) (v : Value) (xs : List Value) : Prop :=
  ∃ A c, v = .slice A xs.length c ∧ xs.length ≤ c ∧ c ≤ maxLen ∧ (A = none → c = 0) ∧
    (0 < xs.length → ∃ b off, A = some ⟨b, off, none⟩ ∧ b < B ∧ ∀ j u, xs[j]? = some u → w.cell? ⟨b, off + j, none⟩ = some u)

section
variable {w w' : World} {B B' : Nat} {v : Value} {xs : List Value}

theorem Rd.nil (w : World) (B : Nat) : Rd w B (.slice none 0 0) [] := ⟨none, 0, rfl, Nat.le_refl _, by decide, fun _ => rfl, fun h => absurd h (by simp)⟩

theorem Rd.stay (h : Rd w B v xs) (hB : B ≤ B') (hk : ∀ p : Addr, p.block < B → w'.cell? p = w.cell? p) : Rd w' B' v xs := by
  obtain ⟨A, c, rfl, hc, hm, hA0, hx⟩ := h
  refine ⟨A, c, rfl, hc, hm, hA0, fun h0 => ?_⟩
  obtain ⟨b, off, hA, hb, hcell⟩ := hx h0
  exact ⟨b, off, hA, by omega, fun j u hu => (hk ⟨b, off + j, none⟩ hb).trans (hcell j u hu)⟩

theorem Rd.below {C : Nat} (h : Rd w B v xs) (hb : Below C w w') (hB : B ≤ C) : Rd w' B v xs := h.stay (Nat.le_refl _) fun _ hp => hb.cell (Nat.lt_of_lt_of_le hp hB)
theorem Rd.up (h : Rd w B v xs) (hB : B ≤ B') : Rd w B' v xs := h.stay hB fun _ _ => rfl
theorem Rd.after (h : Rd w w.heap.size v xs) (hb : Below w.heap.size w w') : Rd w' w'.heap.size v xs := (h.below hb (Nat.le_refl _)).up hb.size
theorem Rd.drew (h : Rd w B v xs) : Rd w.drew B v xs := h
theorem Rd.alloc (h : Rd w B v xs) (hB : B ≤ w.heap.size) (o : Obj) : Rd (w.alloc o) B v xs := h.below ((Below.refl B w).alloc hB o) (Nat.le_refl _)

/-- A row of the call's own reads as its cells. -/
theorem Rd.of_own {base n : Nat} {e : TypeId} (h : w.ownsRow base e 1 v n xs) : Rd w w.heap.size v xs := by
  obtain ⟨hl, hc⟩ := h
  have hn : xs.length = n := by omega
  subst hn
  rcases hc with ⟨rfl, h0⟩ | ⟨g, cap, cur, rfl, hb, hg, hnc, hcm, hcs, htake⟩
  · have := List.eq_nil_of_length_eq_zero h0
    subst this
    exact Rd.nil w _
  · refine ⟨some ⟨g, 0, none⟩, cap, rfl, hnc, hcm, fun h => (by cases h), fun h0 => ⟨g, 0, rfl, (Array.getElem?_eq_some_iff.1 hg).1, fun j u hu => ?_⟩⟩
    rw [Nat.zero_add, cell_of_row w g j cur e (0, 0) hg]
    rw [← htake, List.getElem?_take] at hu
    split at hu
    · simpa using hu
    · cases hu
end

/-- Block g is just the cells cs of element type t, none frozen. -/
def Blk (w : World) (g : Nat) (t : TypeId) (cs : Array Value) : Prop := w.heap[g]? = some (.cells cs t (0, 0))

section
variable {w w' : World} {g : Nat} {t : TypeId} {cs : Array Value}
theorem Blk.lt (h : Blk w g t cs) : g < w.heap.size := (Array.getElem?_eq_some_iff.1 h).1
theorem Blk.cell (h : Blk w g t cs) (i : Nat) : w.cell? ⟨g, i, none⟩ = cs[i]? := cell_of_row w g i cs t (0, 0) h
theorem Blk.free (h : Blk w g t cs) (i : Nat) : w.frozen? ⟨g, i, none⟩ = false := by
  have h' : w.heap[g]? = some (.cells cs t (0, 0)) := h
  simp [World.frozen?, h']
theorem Blk.new (w : World) (t : TypeId) (cs : Array Value) : Blk (w.alloc (.cells cs t)) w.heap.size t cs := heap_alloc_new w _
theorem Blk.drew (h : Blk w g t cs) : Blk w.drew g t cs := h
theorem Blk.alloc (h : Blk w g t cs) (o : Obj) : Blk (w.alloc o) g t cs := (Below.heap_alloc w o g h.lt).trans h
theorem Blk.put (h : Blk w g t cs) (i : Nat) (u : Value) : Blk (w.setCell ⟨g, i, none⟩ u) g t (cs.setIfInBounds i u) := by
  have h' : w.heap[g]? = some (.cells cs t (0, 0)) := h
  show (w.setCell ⟨g, i, none⟩ u).heap[g]? = _
  simp [World.setCell, Array.getElem?_modify, h']
theorem Blk.same (h : Blk w g t cs) {i : Nat} (hi : i < cs.size) (u : Value) : (w.setCell ⟨g, i, none⟩ u).cell? ⟨g, i, none⟩ = some u := by
  rw [(h.put i u).cell, Array.getElem?_setIfInBounds]
  simp [hi]
theorem Blk.far (h : Blk w g t cs) {p : Addr} (hp : g ≠ p.block) (u : Value) : Blk (w.setCell p u) g t cs := (Below.heap_setCell w p u g hp).trans h
theorem Blk.below {B : Nat} (h : Blk w g t cs) (hb : Below B w w') (hg : g < B) : Blk w' g t cs := (hb.block g hg).trans h

/-- A block of the call's own, taken from its head as a slice. -/
theorem Blk.reads {n : Nat} (h : Blk w g t cs) (hn : n ≤ cs.size) (hm : cs.size ≤ maxLen) : Rd w w.heap.size (.slice (some ⟨g, 0, none⟩) n cs.size) (cs.toList.take n) := by
  have hl : (cs.toList.take n).length = n := by rw [List.length_take, Array.length_toList]; omega
  refine ⟨some ⟨g, 0, none⟩, cs.size, by rw [hl], by omega, hm, fun h => (by cases h), fun _ => ⟨g, 0, rfl, h.lt, fun j u hu => ?_⟩⟩
  rw [Nat.zero_add, h.cell]
  rw [List.getElem?_take] at hu
  split at hu
  · simpa using hu
  · cases hu
end

/-- What the frame of a law's proof tells of a slice of integers that came in, as 'Rd'. -/
theorem rd_of_row {k : IntKind} {w : World} {a : Option Addr} {len cap : Nat} {zs : List Int}
    (h : (a = none ∧ len = 0 ∧ cap = 0 ∧ zs = []) ∨ ∃ x, a = some x ∧ len ≤ cap ∧ cap ≤ maxLen ∧ zs.length = cap ∧ (∀ i, i < zs.length → w.cell? (x.add i) = some (.int k (zs.getD i 0))) ∧ ∀ n ∈ zs, (Lit.int k n).wf = true) :
    Rd w w.heap.size (.slice a len cap) ((zs.take len).map (Value.int k)) ∧ ∀ n ∈ zs.take len, (Lit.int k n).wf = true := by
  rcases h with ⟨rfl, rfl, rfl, rfl⟩ | ⟨x, rfl, hl, hm, hz, hcell, hwz⟩
  · exact ⟨Rd.nil w _, by simp⟩
  · have hlen : ((zs.take len).map (Value.int k)).length = len := by rw [List.length_map, List.length_take]; omega
    refine ⟨⟨some x, cap, by rw [hlen], by omega, hm, fun h => (by cases h), fun h0 => ?_⟩, fun n hn => hwz n (List.mem_of_mem_take hn)⟩
    obtain ⟨b, off, spot⟩ := x
    rw [hlen] at h0
    have hc := hcell 0 (by omega)
    have hspot : spot = none := by simpa [Addr.add] using World.cell?_spot hc
    subst hspot
    have hadd : ∀ i, (⟨b, off, none⟩ : Addr).add i = ⟨b, off + i, none⟩ := fun i => by unfold Addr.add; split <;> simp_all
    refine ⟨b, off, rfl, ?_, fun j u hu => ?_⟩
    · have := World.block_lt_of_cell? w _ hc
      rw [hadd] at this
      exact this
    · rw [List.getElem?_map, List.getElem?_take] at hu
      by_cases hj : j < len
      · rw [if_pos hj, List.getElem?_eq_getElem (by omega)] at hu
        have := hcell j (by omega)
        rw [hadd] at this
        rw [this]
        simp at hu
        subst hu
        simp [List.getD_eq_getElem?_getD, List.getElem?_eq_getElem (show j < zs.length by omega)]
      · rw [if_neg hj] at hu; simp at hu

/-- The same of a slice of uint32, its numbers as natural ones. -/
def lv (l : List Nat) : List Value := l.map fun n : Nat => Value.int .u32 (n : Int)

theorem rd_of_nats {w : World} {a : Option Addr} {len cap : Nat} {zs : List Int}
    (h : (a = none ∧ len = 0 ∧ cap = 0 ∧ zs = []) ∨ ∃ x, a = some x ∧ len ≤ cap ∧ cap ≤ maxLen ∧ zs.length = cap ∧ (∀ i, i < zs.length → w.cell? (x.add i) = some (.int .u32 (zs.getD i 0))) ∧ ∀ n ∈ zs, (Lit.int .u32 n).wf = true) :
    ∃ l : List Nat, Rd w w.heap.size (.slice a len cap) (lv l) ∧ ∀ n ∈ l, n < 4294967296 := by
  obtain ⟨h1, h2⟩ := rd_of_row h
  have hb : ∀ n ∈ zs.take len, 0 ≤ n ∧ n < 4294967296 := fun n hn => by
    have := h2 n hn
    simp [Lit.wf, IntKind.min, IntKind.max, IntKind.bits, IntKind.signed] at this
    omega
  refine ⟨(zs.take len).map Int.toNat, ?_, ?_⟩
  · have : lv ((zs.take len).map Int.toNat) = (zs.take len).map (Value.int .u32) := by
      unfold lv
      rw [List.map_map]
      refine List.map_congr_left fun n hn => ?_
      have := hb n hn
      simp; omega
    rw [this]; exact h1
  · intro n hn
    obtain ⟨m, hm, rfl⟩ := List.mem_map.1 hn
    have := hb m hm
    omega

/-- append onto a row of the call's own, the source a slice that reads as a list (nil, too). -/
theorem wpList_append_rd {P : Program} {w : World} {ops : Array Oper} {rest : List Oper} {o : Oper} {a : Act} {Q : Exit → Act → World → Prop} (hgd : o.guard = none) (s x : Operand) (t : TypeId)
    (ho : o.op = .call { callee := .builtin .append, args := #[s, x], argTypes := #[t, t] })
    (base : Nat) (e : TypeId) (i : TypeInfo) (z : Value) (bytes : Nat) (ht : P.underlying t = some (.slice e)) (hi : P.info? e = some i) (hz : i.zero = some z)
    (hsize : i.size = 1) (hby : i.bytes = bytes) (hzs : z.cells.size = 1)
    (v : Value) (n : Nat) (xs : List Value) (hs : a.eval s = v) (hown : w.ownsRow base e 1 v n xs)
    (B : Nat) (u : Value) (news : List Value) (hx : a.eval x = u) (hr : Rd w B u news) (h1 : ∀ u ∈ news, u.oneCell' = true)
    (h63 : n + news.length ≤ maxLen) (hbytes : (n + news.length) * bytes ≤ 140737488355328) (hbase : base ≤ w.heap.size)
    (h : ∀ v' w', w'.ownsRow base e 1 v' (n + news.length) (xs ++ news) → w.grownBy w' v.ownBlock → wpList P ops Q rest (a.put o.dst v') w') : wpList P ops Q (o :: rest) a w := by
  obtain ⟨A, c, rfl, hc, hm, hA0, hcell⟩ := hr
  rcases A with _ | ad
  · have hn : news = [] := by
      rcases Nat.eq_zero_or_pos news.length with h0 | h0
      · exact List.eq_nil_of_length_eq_zero h0
      · obtain ⟨b, off, h, _⟩ := hcell h0
        cases h
    subst hn
    have hc0 := hA0 rfl
    subst hc0
    exact wpList_append_own_none hgd s x t ho base e i 1 ht hi v n xs hs hown hx (h v w (by simpa using hown) (World.grownBy.refl w _))
  · refine wpList_append_own _ hgd s x t ho base e i z 1 bytes ht hi hz hsize hby hzs (by decide) v n xs hs hown ad news.length c news hx (by omega) ?_ h1 h63 hbytes hbase (fun v' w' h2 h3 _ => h v' w' h2 h3)
    intro j u hu
    have h0 : 0 < news.length := by
      rcases Nat.eq_zero_or_pos news.length with h0 | h0
      · have := List.eq_nil_of_length_eq_zero h0
        subst this
        simp at hu
      · exact h0
    obtain ⟨b, off, h, _, hc⟩ := hcell h0
    injection h with h
    subst h
    have hadd : (⟨b, off, none⟩ : Addr).add j = ⟨b, off + j, none⟩ := by unfold Addr.add; split <;> simp_all
    rw [hadd]
    exact hc j u hu

theorem ret_eq {a b : Value} (h : a = b) : Ending.returned a = .returned b := by rw [h]

end Go.Proofs.YtobmjcbjailclaaGreatDoor

/- Slices of uint32 that read as rows of limbs; blocks of limbs. No condition on a program. -/
namespace Go.Proofs.YtobmjcbjailclaaGreatDoor
set_option maxRecDepth 100000
open Go.RowKit

/-- The slice value v reads as the limbs x in the world w; its cells lie in a block from L on, below B. -/
def Nt (w : World) (L B : Nat) (v : Value) (x : List Nat) : Prop :=
  ∃ A c, v = .slice A x.length c ∧ x.length ≤ c ∧ c ≤ maxLen ∧ (A = none → c = 0) ∧
    (0 < x.length → ∃ b off, A = some ⟨b, off, none⟩ ∧ L ≤ b ∧ b < B ∧ ∀ j (h : j < x.length), w.cell? ⟨b, off + j, none⟩ = some (.int .u32 ((x[j] : Nat) : Int)))

section
variable {w w' : World} {L L' B B' : Nat} {v : Value} {x : List Nat}

theorem Nt.stay (h : Nt w L B v x) (hL : L' ≤ L) (hB : B ≤ B') (hk : ∀ p : Addr, L ≤ p.block → p.block < B → w'.cell? p = w.cell? p) : Nt w' L' B' v x := by
  obtain ⟨A, c, rfl, hc, hm, hA0, hx⟩ := h
  refine ⟨A, c, rfl, hc, hm, hA0, fun h0 => ?_⟩
  obtain ⟨b, off, hA, hl, hb, hcell⟩ := hx h0
  exact ⟨b, off, hA, by omega, by omega, fun j hj => (hk ⟨b, off + j, none⟩ hl hb).trans (hcell j hj)⟩

theorem Nt.nil (w : World) (L B : Nat) : Nt w L B (.slice none 0 0) [] := ⟨none, 0, rfl, Nat.le_refl _, by decide, fun _ => rfl, fun h => absurd h (by simp)⟩
theorem Nt.below {C : Nat} (h : Nt w L B v x) (hb : Below C w w') (hB : B ≤ C) : Nt w' L B v x := h.stay (Nat.le_refl _) (Nat.le_refl _) fun _ _ hp => hb.cell (Nat.lt_of_lt_of_le hp hB)
theorem Nt.up (h : Nt w L B v x) (hB : B ≤ B') : Nt w L B' v x := h.stay (Nat.le_refl _) hB fun _ _ _ => rfl
theorem Nt.low (h : Nt w L B v x) (hL : L' ≤ L) : Nt w L' B v x := h.stay hL (Nat.le_refl _) fun _ _ _ => rfl
theorem Nt.after (h : Nt w L w.heap.size v x) (hb : Below w.heap.size w w') : Nt w' L w'.heap.size v x := (h.below hb (Nat.le_refl _)).up hb.size
theorem Nt.drew (h : Nt w L B v x) : Nt w.drew L B v x := h
theorem Nt.drewN (h : Nt w L B v x) (n : Nat) : Nt (w.drewN n) L B v x := h
theorem Nt.alloc (h : Nt w L B v x) (hB : B ≤ w.heap.size) (o : Obj) : Nt (w.alloc o) L B v x := h.below ((Below.refl B w).alloc hB o) (Nat.le_refl _)

theorem lv_length (x : List Nat) : (lv x).length = x.length := by unfold lv; rw [List.length_map]
theorem lv_at (x : List Nat) (j : Nat) : (lv x)[j]? = x[j]?.map fun n : Nat => Value.int .u32 (n : Int) := by unfold lv; rw [List.getElem?_map]
theorem lv_one (x : List Nat) : ∀ u ∈ lv x, u.oneCell' = true := by
  intro u hu
  obtain ⟨z, _, rfl⟩ := List.mem_map.1 hu
  rfl

theorem Nt.of_rd (h : Rd w B v (lv x)) : Nt w 0 B v x := by
  obtain ⟨A, c, rfl, hc, hm, hA0, hx⟩ := h
  rw [lv_length] at hc hx ⊢
  refine ⟨A, c, rfl, hc, hm, hA0, fun h0 => ?_⟩
  obtain ⟨b, off, hA, hb, hcell⟩ := hx h0
  exact ⟨b, off, hA, Nat.zero_le _, hb, fun j hj => hcell j _ (by rw [lv_at, List.getElem?_eq_getElem hj]; rfl)⟩

theorem Nt.rd (h : Nt w L B v x) : Rd w B v (lv x) := by
  obtain ⟨A, c, rfl, hc, hm, hA0, hx⟩ := h
  refine ⟨A, c, by rw [lv_length], by rw [lv_length]; exact hc, hm, hA0, fun h0 => ?_⟩
  rw [lv_length] at h0
  obtain ⟨b, off, hA, _, hb, hcell⟩ := hx h0
  refine ⟨b, off, hA, hb, fun j u hu => ?_⟩
  rw [lv_at] at hu
  by_cases hj : j < x.length
  · rw [List.getElem?_eq_getElem hj] at hu
    simp at hu
    subst hu
    exact hcell j hj
  · rw [List.getElem?_eq_none (by omega)] at hu; simp at hu

/-- A row of the call's own. -/
theorem Nt.of_own {base n : Nat} {e : TypeId} (h : w.ownsRow base e 1 v n (lv x)) : Nt w base w.heap.size v x := by
  obtain ⟨hl, hc⟩ := h
  rw [lv_length] at hl
  have hn : x.length = n := by omega
  subst hn
  rcases hc with ⟨rfl, h0⟩ | ⟨g, cap, cur, rfl, hb, hg, hnc, hcm, hcs, htake⟩
  · have := List.eq_nil_of_length_eq_zero h0
    subst this
    exact Nt.nil w _ _
  · refine ⟨some ⟨g, 0, none⟩, cap, rfl, hnc, hcm, fun h => (by cases h), fun h0 => ⟨g, 0, rfl, hb, (Array.getElem?_eq_some_iff.1 hg).1, fun j hj => ?_⟩⟩
    rw [Nat.zero_add, cell_of_row w g j cur e (0, 0) hg]
    have hu : (lv x)[j]? = some (Value.int .u32 ((x[j] : Nat) : Int)) := by rw [lv_at, List.getElem?_eq_getElem hj]; rfl
    rw [← htake, List.getElem?_take] at hu
    split at hu
    · simpa using hu
    · cases hu
end

/-- Block g is just the limbs x, none frozen. -/
def Lb (w : World) (g : Nat) (t : TypeId) (x : List Nat) : Prop := Blk w g t (lv x).toArray

section
variable {w w' : World} {g : Nat} {t : TypeId} {x : List Nat}
theorem Lb.lt (h : Lb w g t x) : g < w.heap.size := Blk.lt h
theorem Lb.cell (h : Lb w g t x) (i : Nat) (hi : i < x.length) : w.cell? ⟨g, i, none⟩ = some (.int .u32 ((x[i] : Nat) : Int)) := by
  rw [Blk.cell h, List.getElem?_toArray, lv_at, List.getElem?_eq_getElem hi]; rfl
theorem Lb.free (h : Lb w g t x) (i : Nat) : w.frozen? ⟨g, i, none⟩ = false := Blk.free h i
theorem Lb.drew (h : Lb w g t x) : Lb w.drew g t x := h
theorem Lb.drewN (h : Lb w g t x) (n : Nat) : Lb (w.drewN n) g t x := h
theorem Lb.alloc (h : Lb w g t x) (o : Obj) : Lb (w.alloc o) g t x := Blk.alloc h o
theorem Lb.put (h : Lb w g t x) (i n : Nat) : Lb (w.setCell ⟨g, i, none⟩ (.int .u32 (n : Int))) g t (x.set i n) := by
  have := Blk.put h i (.int .u32 (n : Int))
  have e : (lv x).toArray.setIfInBounds i (.int .u32 (n : Int)) = (lv (x.set i n)).toArray := by
    unfold lv
    rw [List.setIfInBounds_toArray, List.map_set]
  rw [e] at this
  exact this
theorem Lb.far (h : Lb w g t x) {p : Addr} (hp : g ≠ p.block) (u : Value) : Lb (w.setCell p u) g t x := Blk.far h hp u
theorem Lb.below {B : Nat} (h : Lb w g t x) (hb : Below B w w') (hg : g < B) : Lb w' g t x := Blk.below h hb hg

/-- What make lays. -/
theorem Lb.made (w : World) (t : TypeId) (n : Nat) : Lb (w.alloc (.cells (madeCells #[.int .u32 0] n) t)) w.heap.size t (List.replicate n 0) := by
  have e : (lv (List.replicate n 0)).toArray = madeCells #[.int .u32 0] n := by
    apply Array.ext
    · simp [lv, size_madeCells]
    · intro i h1 h2
      simp [lv, madeCells, Nat.mod_one]
  unfold Lb
  rw [e]
  exact Blk.new w t _

/-- A block of the call's own, a part of it from its head as a slice. -/
theorem Lb.reads {n : Nat} (h : Lb w g t x) (hn : n ≤ x.length) (hm : x.length ≤ maxLen) : Nt w g w.heap.size (.slice (some ⟨g, 0, none⟩) n x.length) (x.take n) := by
  have hl : (x.take n).length = n := by rw [List.length_take]; omega
  refine ⟨some ⟨g, 0, none⟩, x.length, by rw [hl], by omega, hm, fun h => (by cases h), fun _ => ⟨g, 0, rfl, Nat.le_refl _, h.lt, fun j hj => ?_⟩⟩
  rw [Nat.zero_add, h.cell j (by rw [hl] at hj; omega)]
  simp
end

theorem below_drewN {B : Nat} {a w : World} (h : Below B a w) (n : Nat) : Below B a (w.drewN n) := ⟨h.os, h.tape, h.output, h.size, h.block⟩

theorem beq_zero (a : Nat) : ((a : Int) == 0) = (a == 0) := by
  rw [Bool.eq_iff_iff, beq_iff_eq, beq_iff_eq]; omega
theorem bne_zero (a : Nat) : ((a : Int) != 0) = (a != 0) := by unfold bne; rw [beq_zero]
theorem beq_cast (a b : Nat) : ((a : Int) == (b : Int)) = (a == b) := by
  rw [Bool.eq_iff_iff, beq_iff_eq, beq_iff_eq]; omega
theorem bne_cast (a b : Nat) : ((a : Int) != (b : Int)) = (a != b) := by unfold bne; rw [beq_cast]
theorem beq_false {a b : Int} (h : a ≠ b) : (a == b) = false := beq_eq_false_iff_ne.2 h
theorem beq_true {a b : Int} (h : a = b) : (a == b) = true := beq_iff_eq.2 h
theorem bne_true {a b : Int} (h : a ≠ b) : (a != b) = true := bne_iff_ne.2 h
theorem bne_false {a b : Int} (h : a = b) : (a != b) = false := by unfold bne; rw [beq_true h]; rfl

theorem lv_snoc (cs : List Nat) (d : Nat) : lv (cs ++ [d]) = lv cs ++ [.int .u32 (d : Int)] := by unfold lv; rw [List.map_append]; rfl

/-- The call's own row v holds the limbs cs. -/
def Own (w : World) (base : Nat) (e : TypeId) (v : Value) (cs : List Nat) : Prop := w.ownsRow base e 1 v cs.length (lv cs)
theorem Own.nil (w : World) (base : Nat) (e : TypeId) : Own w base e (.slice none 0 0) [] := World.ownsRow_nil _ _ _ _
theorem Own.nt {w : World} {base : Nat} {e : TypeId} {v : Value} {cs : List Nat} (h : Own w base e v cs) : Nt w base w.heap.size v cs := Nt.of_own h

/-- One limb more onto a row of the call's own: 'c = append(c, d)'. -/
theorem wpList_append_limb {P : Program} {w : World} {ops : Array Oper} {rest : List Oper} {o : Oper} {a : Act} {Q : Exit → Act → World → Prop} (hgd : o.guard = none) (s x : Operand) (t : TypeId)
    (ho : o.op = .call { callee := .builtin .append, args := #[s, x], argTypes := #[t, t] })
    (base : Nat) (e : TypeId) (i : TypeInfo) (ht : P.underlying t = some (.slice e)) (hi : P.info? e = some i) (hz : i.zero = some (.int .u32 0)) (hsize : i.size = 1) (hby : i.bytes = 4)
    (v : Value) (cs : List Nat) (hs : a.eval s = v) (hown : Own w base e v cs) (y : Value) (d : Nat) (hy : y = .int .u32 (d : Int)) (hx : a.eval x = .slice (some ⟨w.heap.size, 0, none⟩) 1 1)
    (hlen : cs.length ≤ 1000000) (hbase : base ≤ w.heap.size)
    (h : ∀ v' w', Own w' base e v' (cs ++ [d]) → Below base w w' → wpList P ops Q rest (a.put o.dst v') w') : wpList P ops Q (o :: rest) a (w.alloc (.cells #[y] e)) := by
  refine wpList_append_own _ hgd s x t ho base e i (.int .u32 0) 1 4 ht hi hz hsize hby rfl (by decide) v cs.length (lv cs) hs (World.ownsRow.alloc hown _) ⟨w.heap.size, 0, none⟩ 1 1 [y] hx rfl (cell_one_new _ _ _) ?_ ?_ ?_ ?_ ?_
  · intro u hu
    rw [List.mem_singleton] at hu
    subst hu
    rw [hy]; rfl
  · unfold maxLen; omega
  · omega
  · simp; omega
  · intro v' w' h1 h2 _
    refine h v' w' ?_ ?_
    · show w'.ownsRow base e 1 v' (cs ++ [d]).length (lv (cs ++ [d]))
      rw [lv_snoc, List.length_append, ← hy]; exact h1
    · exact ((Below.refl base w).alloc hbase _).grown h2 (by simp; omega) (fun j hj => (World.ownsRow.lt hown j hj).1)

/-- The length in a slot that holds a slice: for a loop's measure. -/
def lenOf : Value → Nat | .slice _ n _ => n | _ => 0

/-- What a function of naturals hands back: a new row of limbs; nothing that was there has turned. -/
def Gives (x : List Nat) (w : World) (e : Ending) (w' : World) : Prop :=
  ∃ v', e = .returned v' ∧ Nt w' w.heap.size w'.heap.size v' x ∧ Below w.heap.size w w'

end Go.Proofs.YtobmjcbjailclaaGreatDoor

/- 'Is', 'trim', 'Trim', 'slices.Clone', 'limbs' and the reference's 'Trim' and 'at' by their contracts. Condition: a bound on lengths. -/
namespace Go.Proofs.YtobmjcbjailclaaGreatDoor
set_option maxRecDepth 100000
open Go.RowKit

theorem Tryz.info32 : (Tryz.prog.info? 43).map (fun i => (i.zero, i.size, i.bytes)) = some (some (.int .u32 0), 1, 4) := by kernel_rfl

/-- A call that leaves the world alone, inside a region that draws. -/
theorem quiet_of {P : Program} {f : FuncId} {args : Array Value} {w : World} {n : Nat} {v : Value} (h : Calls P f args (w.drewN n) fun e w' => e = .returned v ∧ w.drewN n = w') :
    Calls P f args (w.drewN n) fun e w'' => e = .returned v ∧ ∃ m, w'' = w.drewN m := h.mono fun _ _ ⟨he, hm⟩ => ⟨he, n, hm.symm⟩

/-- Is a row of limbs trimmed? -/
def cb (x : List Nat) : Bool := x.length == 0 || x.getD (x.length - 1) 0 != 0

theorem cb_iff (x : List Nat) : cb x = true ↔ Canon x := by
  unfold cb
  constructor
  · intro h
    refine canon_of_last ?_
    by_cases h0 : x.length = 0
    · exact .inl (List.eq_nil_of_length_eq_zero h0)
    · refine .inr ⟨by omega, ?_⟩
      have hb : (x.length == 0) = false := by simp; simpa using h0
      rw [hb, Bool.false_or, List.getD_eq_getElem?_getD, List.getElem?_eq_getElem (by omega)] at h
      simpa using h
  · intro hc
    by_cases h0 : x.length = 0
    · simp [h0]
    · have := hc x[x.length - 1] (x.take (x.length - 1)) (by
        have := List.take_append_drop (x.length - 1) x
        rw [List.drop_eq_getElem_cons (by omega)] at this
        have e : x.length - 1 + 1 = x.length := by omega
        rw [e, List.drop_length] at this
        exact this.symm)
      rw [List.getD_eq_getElem?_getD, List.getElem?_eq_getElem (by omega)]
      simp [this]

theorem cb_nil : cb [] = true := rfl
theorem cb_last {x : List Nat} (h : x.length - 1 < x.length) : cb x = (x[x.length - 1] != 0) := by
  unfold cb
  have hb : (x.length == 0) = false := by simp; rintro rfl; simp at h
  rw [hb, Bool.false_or, List.getD_eq_getElem?_getD, List.getElem?_eq_getElem h]
  rfl

set_option maxHeartbeats 800000 in
theorem is_any (v : Value) (x : List Nat) (L B : Nat) (w : World) (h : Nt w L B v x) :
    Calls Tryz.prog 118 #[v] w fun e w' => e = .returned (.bool (cb x)) ∧ w = w' := by
  obtain ⟨A, c, rfl, hc, hm, _, hx⟩ := h
  unfold maxLen at hm
  by_cases h0 : x.length = 0
  · have hz : ((x.length : Int) == 0) = true := by simp [h0]
    have e : cb x = true := by rw [List.eq_nil_of_length_eq_zero h0]; exact cb_nil
    have E := Lib.hid e
    clear e hx
    go_enter Tryz.func118, Tryz.ntmps118
    go_wp2
    go_ret
    exact ⟨by rw [E.out]; rfl, rfl⟩
  · have h1' : 1 ≤ x.length := by omega
    have hlt : x.length - 1 < x.length := by omega
    obtain ⟨b, off, rfl, _, _, hcell⟩ := hx h1'
    have hz : ((x.length : Int) == 0) = false := beq_false (by omega)
    have hc1 := hcell (x.length - 1) hlt
    have e : cb x = (x[x.length - 1] != 0) := cb_last hlt
    have E := Lib.hid e
    clear e hcell hx
    generalize x[x.length - 1] = y at *
    go_enter Tryz.func118, Tryz.ntmps118
    go_wp2
    go_ret
    exact ⟨by rw [E.out, ← bne_zero]; rfl, rfl⟩

set_option maxHeartbeats 800000 in
theorem trim_any (v : Value) (x : List Nat) (L B : Nat) (w : World) (hd : Dig x) (h : Nt w L B v x) :
    Calls Tryz.prog 91 #[v] w fun e w' => ∃ v', e = .returned v' ∧ Nt w L B v' (lim (val x)) ∧ w = w' := by
  obtain ⟨A, c, rfl, hc, hm, hA0, hx⟩ := h
  have hm' := hm
  unfold maxLen at hm
  go_enter Tryz.func91, Tryz.ntmps91
  go_wp2_with fail
  go_loop [0] (fun t => ∃ n, n ≤ x.length ∧ t = .slice A n c ∧ val (x.take n) = val x) (fun t => lenOf t)
  case atStart => exact ⟨_, Nat.le_refl _, rfl, by rw [List.take_length]⟩
  case round =>
    obtain ⟨n, hn, rfl, hv⟩ := hrel
    have hlen : (x.take n).length = n := by rw [List.length_take]; omega
    have hN : Nt w L B (.slice A n c) (x.take n) := ⟨A, c, by rw [hlen], by omega, hm', hA0, fun h0 => by
      rw [hlen] at h0
      obtain ⟨b, off, hA, hl, hb, hcell⟩ := hx (by omega)
      exact ⟨b, off, hA, hl, hb, fun j hj => by
        rw [hlen] at hj
        rw [hcell j (by omega)]
        simp⟩⟩
    by_cases hcn : cb (x.take n) = true
    · have HC := Lib.hid hcn
      have e : lim (val x) = x.take n := lim_val_take hd hv.symm ((cb_iff _).1 hcn)
      have E := Lib.hid e
      have V := Lib.hid hv
      clear hcn e hx hv
      go_wp2_with fail
      refine (is_any _ (x.take n) L B _ hN).mono ?_
      rintro e w1 ⟨rfl, rfl⟩
      rw [HC.out]
      clear hlen
      go_wp2
      go_ret
      exact ⟨_, rfl, by rw [E.out]; exact hN, rfl⟩
    · have hcf : cb (x.take n) = false := by simpa using hcn
      have HC := Lib.hid hcf
      have hn0 : 1 ≤ n := by
        rcases Nat.eq_zero_or_pos n with h0 | h0
        · subst h0; exact absurd cb_nil hcn
        · exact h0
      have hz : x[n - 1] = 0 := by
        have := cb_last (x := x.take n) (by omega)
        rw [hcf] at this
        simp [hlen] at this
        exact this
      have hv2 : val (x.take (n - 1)) = val x := by
        have := val_take_succ x (n - 1) (by omega)
        have e : n - 1 + 1 = n := by omega
        rw [e, hz, hv] at this
        omega
      have V := Lib.hid hv2
      clear hcn hcf hx hv hz hv2
      go_wp2_with fail
      refine (is_any _ (x.take n) L B _ hN).mono ?_
      rintro e w1 ⟨rfl, rfl⟩
      rw [HC.out]
      clear hlen hN
      go_wp2
      go_round
      case rel => exact ⟨n - 1, by omega, rfl, V.out⟩
      case measure => simp [lenOf]; omega

theorem limBd {x : List Nat} (hd : Dig x) : (lim (val x)).length ≤ x.length := lim_val_length x hd

set_option maxHeartbeats 800000 in
/-- 'slices.Clone': the same limbs in a new row. -/
theorem clone_any (v : Value) (x : List Nat) (w : World) (h : Nt w 0 w.heap.size v x) (hl : x.length ≤ 1000000) :
    Calls Tryz.prog 112 #[v] w (Gives x w) := by
  obtain ⟨i0, hi, hz0, hz1, hz2⟩ := info_parts Tryz.info32
  have hr := h.rd
  obtain ⟨A, c, rfl, hc, hm, hA0, hx⟩ := h
  have hll : (lv x).length = x.length := lv_length x
  have HL := Lib.hid hll
  have hk : (lv x).length ≤ 1000000 := by rw [hll]; exact hl
  clear hll
  have e1 := fun w => Lib.run_eql_slice_nil (P := Tryz.prog) w 23 43 A x.length c 0 0 Tryz.underlying23
  rcases A with _ | ad
  · have h0 : x = [] := by
      rcases Nat.eq_zero_or_pos x.length with h0 | h0
      · exact List.eq_nil_of_length_eq_zero h0
      · obtain ⟨b, off, hA, _⟩ := hx h0
        cases hA
    subst h0
    have hc0 := hA0 rfl
    subst hc0
    clear hx HL hk e1
    have e1 := fun w => Lib.run_eql_slice_nil (P := Tryz.prog) w 23 43 none 0 0 0 0 Tryz.underlying23
    go_enter Tryz.func112, Tryz.ntmps112
    go_wp2
    go_ret
    exact ⟨_, rfl, Nt.nil _ _ _, Below.refl _ _⟩
  · clear hx
    go_enter Tryz.func112, Tryz.ntmps112
    go_wp2_with (at_builtin; refine wpList_append_rd rfl _ _ 23 rfl w.heap.size 43 i0 (.int .u32 0) 4 Tryz.underlying23 hi hz0 hz1 hz2 rfl _ _ _ rfl (World.ownsRow_lit w #[] 0 (Nat.le_refl _) (by decide) rfl) w.heap.size _ _ rfl (hr.alloc (Nat.le_refl _) _) (lv_one x) ?c1 ?c2 ?c3 ?_)
    case c1 => unfold maxLen; omega
    case c2 => omega
    case c3 => simp
    intro u1 w2 hown1 hg1
    have hr2 : Nt w2 w.heap.size w2.heap.size u1 x := Nt.of_own hown1
    have hb2 : Below w.heap.size w w2 := ((Below.refl _ _).alloc (Nat.le_refl _) _).grown hg1 (by simp) (fun k hk => by simp [Value.ownBlock] at hk; omega)
    clear hown1 hg1 hi hz0 hz1 hz2 hr e1
    go_wp2
    go_ret
    exact ⟨_, rfl, hr2, hb2⟩

/-- 'Trim': a number's limbs, in a new row. -/
theorem Trim_any (v : Value) (x : List Nat) (w : World) (hd : Dig x) (h : Nt w 0 w.heap.size v x) (hl : x.length ≤ 1000000) :
    Calls Tryz.prog 73 #[v] w (Gives (lim (val x)) w) := by
  have hk := limBd hd
  go_enter Tryz.func73, Tryz.ntmps73
  go_wp2_with fail
  refine (trim_any _ x _ _ _ hd h).mono ?_
  rintro e w1 ⟨v1, rfl, h1, rfl⟩
  go_wp2_with fail
  refine (clone_any _ _ _ h1 (by omega)).mono ?_
  rintro e w2 ⟨v2, rfl, h2, hb⟩
  go_wp2_with fail
  go_ret
  exact ⟨_, rfl, h2, hb⟩

/-- Two rows of limbs held against each other. -/
def eqb (x y : List Nat) : Bool := decide (x = y)
theorem eqb_rfl (x : List Nat) : eqb x x = true := decide_eq_true rfl

/-- The first n limbs of a slice. -/
theorem nt_take {w : World} {L B n c : Nat} {A : Option Addr} {x : List Nat} (h : Nt w L B (.slice A x.length c) x) (hn : n ≤ x.length) (hc : x.length ≤ c) (hm : c ≤ maxLen) : Nt w L B (.slice A n c) (x.take n) := by
  obtain ⟨A', c', he, _, _, hA0, hx⟩ := h
  injection he with e1 e2 e3
  subst e1
  subst e3
  have hlen : (x.take n).length = n := by rw [List.length_take]; omega
  refine ⟨A, c, by rw [hlen], by omega, hm, hA0, fun h0 => ?_⟩
  rw [hlen] at h0
  obtain ⟨b, off, hA, hl, hb, hcell⟩ := hx (by omega)
  exact ⟨b, off, hA, hl, hb, fun j hj => by
    rw [hlen] at hj
    rw [hcell j (by omega)]
    simp⟩

theorem drop_last_zero {x : List Nat} {n : Nat} (hn : 1 ≤ n) (hl : n ≤ x.length) (hz : x[n - 1]'(by omega) = 0) (hv : val (x.take n) = val x) : val (x.take (n - 1)) = val x := by
  have := val_take_succ x (n - 1) (by omega)
  have e : n - 1 + 1 = n := by omega
  rw [e, hz, hv] at this
  omega

theorem canon_take {x : List Nat} {n : Nat} (hn : 1 ≤ n) (hl : n ≤ x.length) (hz : x[n - 1]'(by omega) ≠ 0) : Canon (x.take n) := by
  have hlen : (x.take n).length = n := by rw [List.length_take]; omega
  refine canon_of_last (.inr ⟨by omega, ?_⟩)
  simpa [hlen] using hz

set_option maxHeartbeats 1600000 in
theorem refTrim_any (v : Value) (x : List Nat) (w : World) (hd : Dig x) (h : Nt w 0 w.heap.size v x) (hl : x.length ≤ 1000000) :
    Calls Tryz.prog 63 #[v] w (Gives (lim (val x)) w) := by
  obtain ⟨i0, hi, hz0, hz1, hz2⟩ := info_parts Tryz.info32
  obtain ⟨A, c, rfl, hc, hm, hA0, hx⟩ := h
  have hN : Nt w 0 w.heap.size (.slice A x.length c) x := ⟨A, c, rfl, hc, hm, hA0, hx⟩
  have hm' := hm
  unfold maxLen at hm
  go_enter Tryz.func63, Tryz.ntmps63
  go_wp2_with fail
  go_loop [3] (fun t => ∃ n, n ≤ x.length ∧ t = .int .i64 (n : Nat) ∧ val (x.take n) = val x) (fun t => (intOf t).toNat)
  case atStart => exact ⟨_, Nat.le_refl _, rfl, by rw [List.take_length]⟩
  case round =>
    obtain ⟨n, hn, rfl, hv⟩ := hrel
    -- the end: what is left is a number's limbs
    have fin : Canon (x.take n) → Hid (lim (val x) = x.take n) := fun hcn => lim_val_take hd hv.symm hcn
    by_cases hn0 : n = 0
    · have E := fin (by subst hn0; simp; exact Canon.nil)
      have V := Lib.hid hv
      have hgt : ¬ (0 : Int) < (n : Int) := by omega
      clear hv fin hx hn0
      have hr := (nt_take hN hn hc hm').rd
      have hk : (lv (x.take n)).length ≤ 1000000 := by rw [lv_length, List.length_take]; omega
      generalize hy : x.take n = y at *
      clear hy hN hd
      go_wp2_with (at_builtin; refine wpList_append_rd rfl _ _ 23 rfl w.heap.size 43 i0 (.int .u32 0) 4 Tryz.underlying23 hi hz0 hz1 hz2 rfl _ _ _ rfl (World.ownsRow_lit w #[] 0 (Nat.le_refl _) (by decide) rfl) w.heap.size _ _ rfl (hr.alloc (Nat.le_refl _) _) (lv_one _) (by unfold maxLen; omega) (by omega) (by simp) ?_)
      intro u1 w2 hown1 hg1
      have hr2 : Nt w2 w.heap.size w2.heap.size u1 y := Nt.of_own hown1
      have hb2 : Below w.heap.size w w2 := ((Below.refl _ _).alloc (Nat.le_refl _) _).grown hg1 (by simp) (fun k hk => by simp [Value.ownBlock] at hk; omega)
      clear hown1 hg1 hi hz0 hz1 hz2 hr
      go_wp2
      go_ret
      exact ⟨_, rfl, by rw [E.out]; exact hr2, hb2⟩
    · have hn1 : 1 ≤ n := by omega
      have hlt : n - 1 < x.length := by omega
      obtain ⟨b, off, rfl, _, _, hcell⟩ := hx (by omega)
      have hc1 := hcell (n - 1) hlt
      clear hcell hx
      by_cases hz : x[n - 1] = 0
      · have V := Lib.hid (drop_last_zero hn1 hn hz hv)
        rw [hz] at hc1
        clear hv fin hz hN
        go_wp2_with fail
        go_round
        case rel => exact ⟨n - 1, by omega, by go_num, V.out⟩
        case measure => simp [intOf]; omega
      · have E := fin (canon_take hn1 hn hz)
        have V := Lib.hid hv
        have hzb : (((x[n - 1] : Nat) : Int) == 0) = false := beq_false (by omega)
        clear hv fin hz
        generalize x[n - 1] = p at *
        have hr := (nt_take hN hn hc hm').rd
        have hk : (lv (x.take n)).length ≤ 1000000 := by rw [lv_length, List.length_take]; omega
        generalize hy : x.take n = y at *
        clear hy hN hd
        go_wp2_with (at_builtin; refine wpList_append_rd rfl _ _ 23 rfl w.heap.size 43 i0 (.int .u32 0) 4 Tryz.underlying23 hi hz0 hz1 hz2 rfl _ _ _ rfl (World.ownsRow_lit w #[] 0 (Nat.le_refl _) (by decide) rfl) w.heap.size _ _ rfl (hr.alloc (Nat.le_refl _) _) (lv_one _) (by unfold maxLen; omega) (by omega) (by simp) ?_)
        intro u1 w2 hown1 hg1
        have hr2 : Nt w2 w.heap.size w2.heap.size u1 y := Nt.of_own hown1
        have hb2 : Below w.heap.size w w2 := ((Below.refl _ _).alloc (Nat.le_refl _) _).grown hg1 (by simp) (fun k hk => by simp [Value.ownBlock] at hk; omega)
        clear hown1 hg1 hi hz0 hz1 hz2 hr
        go_wp2
        go_ret
        exact ⟨_, rfl, by rw [E.out]; exact hr2, hb2⟩

theorem at_any (v : Value) (x : List Nat) (i : Nat) (w : World) (L B : Nat) (hd : Dig x) (h : Nt w L B v x) (hl : x.length ≤ 1000000) :
    Calls Tryz.prog 84 #[v, .int .i64 (i : Int)] w fun e w' => e = .returned (.int .u64 ((x.getD i 0 : Nat) : Int)) ∧ w = w' := by
  obtain ⟨A, c, rfl, hc, hm, hA0, hx⟩ := h
  by_cases hlt : i < x.length
  · obtain ⟨b, off, rfl, _, _, hcell⟩ := hx (by omega)
    have hc1 := hcell i hlt
    have hI : (i : Int) < (x.length : Int) := by omega
    have hdi := hd.at hlt
    have e : x.getD i 0 = x[i] := by rw [List.getD_eq_getElem?_getD, List.getElem?_eq_getElem hlt]; rfl
    have E := Lib.hid e
    clear e hcell hx
    generalize x[i] = y at *
    go_enter Tryz.func84, Tryz.ntmps84
    go_wp2
    go_ret
    exact ⟨by rw [E.out]; rfl, rfl⟩
  · have hI : ¬ (i : Int) < (x.length : Int) := by omega
    clear hx
    go_enter Tryz.func84, Tryz.ntmps84
    go_wp2
    go_ret
    exact ⟨rfl, rfl⟩
end Go.Proofs.YtobmjcbjailclaaGreatDoor

/- 'Add' of the program by its contract. Condition: a bound on lengths. -/
namespace Go.Proofs.YtobmjcbjailclaaGreatDoor
set_option maxRecDepth 100000
open Go.RowKit

/-- 'make([]uint32, z)'. -/
theorem make_limbs (n : Nat) (z : Int) (hz : z = (n : Int)) (hn : n ≤ 1000000) (w : World) :
    (Instr.makeSlice 23 (.int .i64 z) (.int .i64 z)).run Tryz.prog w = .ok (.slice (some ⟨w.heap.size, 0, none⟩) n n) (w.alloc (.cells (madeCells #[.int .u32 0] n) 43)) := by
  subst hz
  exact run_make_row' (P := Tryz.prog) 23 43 (.int .u32 0) 4 Tryz.underlying23 Tryz.info32 rfl .i64 .i64 n (by omega) (by omega) w

theorem limBd' {x : List Nat} (hd : Dig x) (n : Nat) (h : x.length ≤ n) : (lim (val x)).length ≤ n := Nat.le_trans (limBd hd) h

theorem getD_at {x : List Nat} {k : Nat} (h : k < x.length) : x.getD k 0 = x[k] := by rw [List.getD_eq_getElem?_getD, List.getElem?_eq_getElem h]; rfl
theorem getD_out {x : List Nat} {k : Nat} (h : ¬ k < x.length) : x.getD k 0 = 0 := by rw [List.getD_eq_getElem?_getD, List.getElem?_eq_none (by omega)]; rfl

/-- The row of the sum behind the last limb. -/
theorem add_final {p q cs : List Nat} {s k : Nat} (h : AddAt p q cs s k) (hp : p.length ≤ k) (hq : q.length ≤ k) (hl : cs.length = k + 1) : val (cs.set k s) = val p + val q := by
  have := addAt_end h hp hq (by omega)
  rw [List.take_of_length_le (by simp; omega)] at this
  exact this

/-! WALKS -/

set_option maxHeartbeats 1600000 in
theorem add_ge (u v : Value) (x y : List Nat) (w : World) (hdx : Dig x) (hdy : Dig y) (h : Nt w 0 w.heap.size u x) (h' : Nt w 0 w.heap.size v y) (hlx : x.length ≤ 100000) (hly : y.length ≤ 100000)
    (hcase : ¬ (lim (val x)).length < (lim (val y)).length) :
    Calls Tryz.prog 71 #[u, v] w (Gives (lim (val x + val y)) w) := by
  have hxl := limBd' hdx _ hlx
  have hyl := limBd' hdy _ hly
  have vx := val_lim (val x)
  have vy := val_lim (val y)
  have d1 := dig_lim (val x)
  have d2 := dig_lim (val y)
  have VS : Hid (lim (val x + val y) = lim (val (lim (val x)) + val (lim (val y)))) := by rw [vx, vy]; exact rfl
  clear vx vy
  go_enter Tryz.func71, Tryz.ntmps71
  go_wp2_with fail
  refine (trim_any _ x _ _ _ hdx h).mono ?_
  rintro e w1 ⟨v1, rfl, h1, rfl⟩
  go_wp2_with fail
  refine (trim_any _ y _ _ _ hdy h').mono ?_
  rintro e w1 ⟨v2, rfl, h2, rfl⟩
  generalize lim (val x) = p at *
  generalize lim (val y) = q at *
  clear h h' hdx hdy hlx hly
  obtain ⟨Ap, cp, rfl, hcp, hmp, _, hxp⟩ := h1
  obtain ⟨Aq, cq, rfl, hcq, hmq, _, hxq⟩ := h2
  have hdp : Dig p := by assumption
  have hdq : Dig q := by assumption
  clear d1 d2
  have hmk := make_limbs (p.length + 1) ((p.length : Int) + 1) (by omega) (by omega)
  go_wp2_with fail
  go_loopw [6, 7, 8, 26] (fun s _ _ i wr => ∃ (k t : Nat) (cs : List Nat), k ≤ p.length ∧ i = .int .i64 (k : Nat) ∧ s = .int .u64 (t : Nat) ∧ t ≤ 1 ∧ Dig cs ∧ Hid (cs.length = p.length + 1) ∧ AddAt p q cs t k ∧ Lb wr w.heap.size 43 cs ∧ Below w.heap.size w wr)
    (fun _ _ _ i _ => p.length - (intOf i).toNat)
  case atStart => exact ⟨0, 0, _, Nat.zero_le _, rfl, rfl, by omega, dig_zeros _, List.length_replicate, addAt_zero _ _ _, Lb.made w _ _, (Below.refl _ _).alloc (Nat.le_refl _) _⟩
  case round =>
    obtain ⟨k, t, cs, hk, rfl, rfl, ht, hdc, HL, hs, hB, hb⟩ := hrel
    have hcl : p.length + 1 ≤ cs.length ∧ cs.length ≤ p.length + 1 := by have := HL.out; omega
    by_cases hlt : k < p.length
    · have b1 := hdp.at hlt
      obtain ⟨ba, oa, rfl, _, hba, hcella⟩ := hxp (by omega)
      have hca := (hb.cell (p := ⟨ba, oa + k, none⟩) hba).trans (hcella k hlt)
      have HS := addAt_step hs (by omega : k < cs.length) (t := t + p.getD k 0 + q.getD k 0) rfl
      rw [getD_at hlt] at HS
      have hcc := hB.cell k (by omega)
      have hfr := hB.free k
      clear hs hcella
      by_cases hlq : k < q.length
      · obtain ⟨bb, ob, rfl, _, hbb, hcellb⟩ := hxq (by omega)
        have hcb := (hb.cell (p := ⟨bb, ob + k, none⟩) hbb).trans (hcellb k hlq)
        have b2 := hdq.at hlq
        rw [getD_at hlq] at HS
        have hd2 := hdc.set k ((t + p[k] + q[k]) % 4294967296) (Nat.mod_lt _ (by omega))
        have hB2 := hB.put k ((t + p[k] + q[k]) % 4294967296)
        have hb2 : Below w.heap.size w (wr.setCell ⟨w.heap.size, k, none⟩ (.int .u32 (((t + p[k] + q[k]) % 4294967296 : Nat) : Int))) := hb.setCell (Nat.le_refl _) _
        have HL2 : Hid ((cs.set k ((t + p[k] + q[k]) % 4294967296)).length = p.length + 1) := by have := HL.out; show _ = _; rw [List.length_set]; exact this
        have hq2 : (t + p[k] + q[k]) / 4294967296 ≤ 1 := by omega
        have ec : (((t + p[k] + q[k]) % 4294967296 : Nat) : Int) = ((t : Int) + p[k] + q[k]) % 4294967296 := by omega
        rw [ec] at hB2 hb2
        generalize cs.set k ((t + p[k] + q[k]) % 4294967296) = cs2 at *
        generalize cs[k] = old at *
        clear hdc hB hb hcellb HL hxp hxq hcl ec hmk
        generalize p[k] = pk at *
        generalize q[k] = qk at *
        go_wp2
        go_roundw
        case rel => exact ⟨k + 1, (t + pk + qk) / 4294967296, cs2, by omega, by go_num, by go_num, hq2, hd2, HL2, HS, hB2, hb2⟩
        case measure => simp [intOf]; omega
      · rw [getD_out hlq, Nat.add_zero] at HS
        have hd2 := hdc.set k ((t + p[k]) % 4294967296) (Nat.mod_lt _ (by omega))
        have hB2 := hB.put k ((t + p[k]) % 4294967296)
        have hb2 : Below w.heap.size w (wr.setCell ⟨w.heap.size, k, none⟩ (.int .u32 (((t + p[k]) % 4294967296 : Nat) : Int))) := hb.setCell (Nat.le_refl _) _
        have HL2 : Hid ((cs.set k ((t + p[k]) % 4294967296)).length = p.length + 1) := by have := HL.out; show _ = _; rw [List.length_set]; exact this
        have hq2 : (t + p[k]) / 4294967296 ≤ 1 := by omega
        have ec : (((t + p[k]) % 4294967296 : Nat) : Int) = ((t : Int) + p[k]) % 4294967296 := by omega
        rw [ec] at hB2 hb2
        generalize cs.set k ((t + p[k]) % 4294967296) = cs2 at *
        generalize cs[k] = old at *
        clear hdc hB hb HL hxp hxq hcl ec hmk
        generalize p[k] = pk at *
        go_wp2
        go_roundw
        case rel => exact ⟨k + 1, (t + pk) / 4294967296, cs2, by omega, by go_num, by go_num, hq2, hd2, HL2, HS, hB2, hb2⟩
        case measure => simp [intOf]; omega
    · obtain rfl : k = p.length := by omega
      have hv := add_final hs (Nat.le_refl _) (by omega) HL.out
      have hd2 := hdc.set p.length t (by omega)
      have hcc := hB.cell p.length (by omega)
      have hfr := hB.free p.length
      have hB2 := hB.put p.length t
      have hb2 : Below w.heap.size w (wr.setCell ⟨w.heap.size, p.length, none⟩ (.int .u32 (t : Int))) := hb.setCell (Nat.le_refl _) _
      have hl2 : (cs.set p.length t).length = p.length + 1 := by have := HL.out; rw [List.length_set]; exact this
      have hr := hB2.reads (n := p.length + 1) (by omega) (by unfold maxLen; omega)
      rw [hl2, List.take_of_length_le (by omega)] at hr
      have V := Lib.hid hv
      generalize cs.set p.length t = cs2 at *
      generalize cs[p.length] = old at *
      clear hs hdc HL hB hb hcl hv hB2 hxp hxq hmk
      go_wp2_with fail
      refine (trim_any _ cs2 _ _ _ hd2 hr).mono ?_
      rintro e w2 ⟨v3, rfl, h3, rfl⟩
      rw [V.out] at h3
      go_wp2
      go_ret
      refine ⟨_, rfl, ?_, hb2⟩
      rw [VS.out]
      exact h3

set_option maxHeartbeats 1600000 in
theorem add_lt (u v : Value) (x y : List Nat) (w : World) (hdx : Dig x) (hdy : Dig y) (h : Nt w 0 w.heap.size u x) (h' : Nt w 0 w.heap.size v y) (hlx : x.length ≤ 100000) (hly : y.length ≤ 100000)
    (hcase : (lim (val x)).length < (lim (val y)).length) :
    Calls Tryz.prog 71 #[u, v] w (Gives (lim (val x + val y)) w) := by
  have hxl := limBd' hdx _ hlx
  have hyl := limBd' hdy _ hly
  have vx := val_lim (val x)
  have vy := val_lim (val y)
  have d1 := dig_lim (val x)
  have d2 := dig_lim (val y)
  have VS : Hid (lim (val x + val y) = lim (val (lim (val x)) + val (lim (val y)))) := by rw [vx, vy]; exact rfl
  clear vx vy
  go_enter Tryz.func71, Tryz.ntmps71
  go_wp2_with fail
  refine (trim_any _ x _ _ _ hdx h).mono ?_
  rintro e w1 ⟨v1, rfl, h1, rfl⟩
  go_wp2_with fail
  refine (trim_any _ y _ _ _ hdy h').mono ?_
  rintro e w1 ⟨v2, rfl, h2, rfl⟩
  generalize lim (val x) = q at *
  generalize lim (val y) = p at *
  clear h h' hdx hdy hlx hly
  obtain ⟨Aq, cq, rfl, hcq, hmq, _, hxq⟩ := h1
  obtain ⟨Ap, cp, rfl, hcp, hmp, _, hxp⟩ := h2
  have hdp : Dig p := by assumption
  have hdq : Dig q := by assumption
  clear d1 d2
  have hmk := make_limbs (p.length + 1) ((p.length : Int) + 1) (by omega) (by omega)
  go_wp2_with fail
  go_loopw [6, 7, 8, 26] (fun s _ _ i wr => ∃ (k t : Nat) (cs : List Nat), k ≤ p.length ∧ i = .int .i64 (k : Nat) ∧ s = .int .u64 (t : Nat) ∧ t ≤ 1 ∧ Dig cs ∧ Hid (cs.length = p.length + 1) ∧ AddAt p q cs t k ∧ Lb wr w.heap.size 43 cs ∧ Below w.heap.size w wr)
    (fun _ _ _ i _ => p.length - (intOf i).toNat)
  case atStart => exact ⟨0, 0, _, Nat.zero_le _, rfl, rfl, by omega, dig_zeros _, List.length_replicate, addAt_zero _ _ _, Lb.made w _ _, (Below.refl _ _).alloc (Nat.le_refl _) _⟩
  case round =>
    obtain ⟨k, t, cs, hk, rfl, rfl, ht, hdc, HL, hs, hB, hb⟩ := hrel
    have hcl : p.length + 1 ≤ cs.length ∧ cs.length ≤ p.length + 1 := by have := HL.out; omega
    by_cases hlt : k < p.length
    · have b1 := hdp.at hlt
      obtain ⟨ba, oa, rfl, _, hba, hcella⟩ := hxp (by omega)
      have hca := (hb.cell (p := ⟨ba, oa + k, none⟩) hba).trans (hcella k hlt)
      have HS := addAt_step hs (by omega : k < cs.length) (t := t + p.getD k 0 + q.getD k 0) rfl
      rw [getD_at hlt] at HS
      have hcc := hB.cell k (by omega)
      have hfr := hB.free k
      clear hs hcella
      by_cases hlq : k < q.length
      · obtain ⟨bb, ob, rfl, _, hbb, hcellb⟩ := hxq (by omega)
        have hcb := (hb.cell (p := ⟨bb, ob + k, none⟩) hbb).trans (hcellb k hlq)
        have b2 := hdq.at hlq
        rw [getD_at hlq] at HS
        have hd2 := hdc.set k ((t + p[k] + q[k]) % 4294967296) (Nat.mod_lt _ (by omega))
        have hB2 := hB.put k ((t + p[k] + q[k]) % 4294967296)
        have hb2 : Below w.heap.size w (wr.setCell ⟨w.heap.size, k, none⟩ (.int .u32 (((t + p[k] + q[k]) % 4294967296 : Nat) : Int))) := hb.setCell (Nat.le_refl _) _
        have HL2 : Hid ((cs.set k ((t + p[k] + q[k]) % 4294967296)).length = p.length + 1) := by have := HL.out; show _ = _; rw [List.length_set]; exact this
        have hq2 : (t + p[k] + q[k]) / 4294967296 ≤ 1 := by omega
        have ec : (((t + p[k] + q[k]) % 4294967296 : Nat) : Int) = ((t : Int) + p[k] + q[k]) % 4294967296 := by omega
        rw [ec] at hB2 hb2
        generalize cs.set k ((t + p[k] + q[k]) % 4294967296) = cs2 at *
        generalize cs[k] = old at *
        clear hdc hB hb hcellb HL hxp hxq hcl ec hmk
        generalize p[k] = pk at *
        generalize q[k] = qk at *
        go_wp2
        go_roundw
        case rel => exact ⟨k + 1, (t + pk + qk) / 4294967296, cs2, by omega, by go_num, by go_num, hq2, hd2, HL2, HS, hB2, hb2⟩
        case measure => simp [intOf]; omega
      · rw [getD_out hlq, Nat.add_zero] at HS
        have hd2 := hdc.set k ((t + p[k]) % 4294967296) (Nat.mod_lt _ (by omega))
        have hB2 := hB.put k ((t + p[k]) % 4294967296)
        have hb2 : Below w.heap.size w (wr.setCell ⟨w.heap.size, k, none⟩ (.int .u32 (((t + p[k]) % 4294967296 : Nat) : Int))) := hb.setCell (Nat.le_refl _) _
        have HL2 : Hid ((cs.set k ((t + p[k]) % 4294967296)).length = p.length + 1) := by have := HL.out; show _ = _; rw [List.length_set]; exact this
        have hq2 : (t + p[k]) / 4294967296 ≤ 1 := by omega
        have ec : (((t + p[k]) % 4294967296 : Nat) : Int) = ((t : Int) + p[k]) % 4294967296 := by omega
        rw [ec] at hB2 hb2
        generalize cs.set k ((t + p[k]) % 4294967296) = cs2 at *
        generalize cs[k] = old at *
        clear hdc hB hb HL hxp hxq hcl ec hmk
        generalize p[k] = pk at *
        go_wp2
        go_roundw
        case rel => exact ⟨k + 1, (t + pk) / 4294967296, cs2, by omega, by go_num, by go_num, hq2, hd2, HL2, HS, hB2, hb2⟩
        case measure => simp [intOf]; omega
    · obtain rfl : k = p.length := by omega
      have hv := add_final hs (Nat.le_refl _) (by omega) HL.out
      have hd2 := hdc.set p.length t (by omega)
      have hcc := hB.cell p.length (by omega)
      have hfr := hB.free p.length
      have hB2 := hB.put p.length t
      have hb2 : Below w.heap.size w (wr.setCell ⟨w.heap.size, p.length, none⟩ (.int .u32 (t : Int))) := hb.setCell (Nat.le_refl _) _
      have hl2 : (cs.set p.length t).length = p.length + 1 := by have := HL.out; rw [List.length_set]; exact this
      have hr := hB2.reads (n := p.length + 1) (by omega) (by unfold maxLen; omega)
      rw [hl2, List.take_of_length_le (by omega)] at hr
      have V := Lib.hid hv
      generalize cs.set p.length t = cs2 at *
      generalize cs[p.length] = old at *
      clear hs hdc HL hB hb hcl hv hB2 hxp hxq hmk
      go_wp2_with fail
      refine (trim_any _ cs2 _ _ _ hd2 hr).mono ?_
      rintro e w2 ⟨v3, rfl, h3, rfl⟩
      rw [V.out] at h3
      go_wp2
      go_ret
      refine ⟨_, rfl, ?_, hb2⟩
      rw [VS.out]
      rw [Nat.add_comm (val q)]; exact h3

/-- 'Add': the sum's limbs, in a new row. -/
theorem add_any (u v : Value) (x y : List Nat) (w : World) (hdx : Dig x) (hdy : Dig y) (h : Nt w 0 w.heap.size u x) (h' : Nt w 0 w.heap.size v y) (hlx : x.length ≤ 100000) (hly : y.length ≤ 100000) :
    Calls Tryz.prog 71 #[u, v] w (Gives (lim (val x + val y)) w) := by
  by_cases hc : (lim (val x)).length < (lim (val y)).length
  · exact add_lt u v x y w hdx hdy h h' hlx hly hc
  · exact add_ge u v x y w hdx hdy h h' hlx hly hc
end Go.Proofs.YtobmjcbjailclaaGreatDoor

/- 'Mul' of the program and of the reference by their contracts. Condition: a bound on lengths. -/
namespace Go.Proofs.YtobmjcbjailclaaGreatDoor
set_option maxRecDepth 100000
open Go.RowKit

set_option maxHeartbeats 3200000 in
theorem mul_any (u v : Value) (x y : List Nat) (w : World) (hdx : Dig x) (hdy : Dig y) (h : Nt w 0 w.heap.size u x) (h' : Nt w 0 w.heap.size v y) (hlx : x.length ≤ 100000) (hly : y.length ≤ 100000) :
    Calls Tryz.prog 72 #[u, v] w (Gives (lim (val x * val y)) w) := by
  have hxl := limBd' hdx _ hlx
  have hyl := limBd' hdy _ hly
  have vx := val_lim (val x)
  have vy := val_lim (val y)
  have hdp := dig_lim (val x)
  have hdq := dig_lim (val y)
  have VS : Hid (lim (val x * val y) = lim (val (lim (val x)) * val (lim (val y)))) := by rw [vx, vy]; exact rfl
  clear vx vy
  go_enter Tryz.func72, Tryz.ntmps72
  go_wp2_with fail
  refine (trim_any _ x _ _ _ hdx h).mono ?_
  rintro e w1 ⟨v1, rfl, h1, rfl⟩
  go_wp2_with fail
  refine (trim_any _ y _ _ _ hdy h').mono ?_
  rintro e w1 ⟨v2, rfl, h2, rfl⟩
  generalize lim (val x) = p at *
  generalize lim (val y) = q at *
  clear h h' hdx hdy hlx hly
  obtain ⟨Ap, cp, rfl, hcp, hmp, _, hxp⟩ := h1
  obtain ⟨Aq, cq, rfl, hcq, hmq, _, hxq⟩ := h2
  have hmk := make_limbs (p.length + q.length) ((p.length : Int) + (q.length : Int)) (by omega) (by omega)
  go_wp2_with fail
  go_loopw [6, 7, 8, 9, 10, 23] (fun _ _ _ _ _ i wr => ∃ (k : Nat) (cs : List Nat), k ≤ p.length ∧ i = .int .i64 (k : Nat) ∧ Dig cs ∧ Hid (cs.length = p.length + q.length) ∧ Hid (val cs = val (p.take k) * val q) ∧ Bare cs (k + q.length) ∧ Lb wr w.heap.size 43 cs ∧ Below w.heap.size w wr)
    (fun _ _ _ _ _ i _ => p.length - (intOf i).toNat)
  case atStart => exact ⟨0, _, Nat.zero_le _, rfl, dig_zeros _, List.length_replicate, by show _ = _; rw [val_zeros]; simp [val], bare_zeros _ _, Lb.made w _ _, (Below.refl _ _).alloc (Nat.le_refl _) _⟩
  case round =>
    obtain ⟨i, cs0, hi, rfl, hdc, HL, HV, hbare, hB, hb⟩ := hrel
    obtain ⟨wo, rfl⟩ : ∃ wo : World, wo = wr := ⟨_, rfl⟩
    by_cases hlt : i < p.length
    · have b1 := hdp.at hlt
      obtain ⟨ba, oa, rfl, _, hba, hcella⟩ := hxp (by omega)
      have hca := (hb.cell (p := ⟨ba, oa + i, none⟩) hba).trans (hcella i hlt)
      clear hcella hmk
      go_wp2_with fail
      go_loopw [8, 9, 10, 30] (fun s _ _ j wi => ∃ (k t : Nat) (cs : List Nat), k ≤ q.length ∧ j = .int .i64 (k : Nat) ∧ s = .int .u64 (t : Nat) ∧ t < 4294967296 ∧ Dig cs ∧ Hid (cs.length = p.length + q.length) ∧ MulIn p q cs i t k ∧ Bare cs (i + q.length) ∧ Lb wi w.heap.size 43 cs ∧ Below w.heap.size w wi)
        (fun _ _ _ j _ => q.length - (intOf j).toNat)
      case atStart => exact ⟨0, 0, cs0, Nat.zero_le _, rfl, rfl, by omega, hdc, HL, mulIn_zero HV.out, hbare, hB, hb⟩
      case round =>
        clear hbare hB hb hdc HL HV hca
        obtain ⟨k, t, cs, hk, rfl, rfl, ht, hdc, HL, hs, hbare, hB, hb⟩ := hrel
        have hcl : p.length + q.length ≤ cs.length ∧ cs.length ≤ p.length + q.length := by have := HL.out; omega
        by_cases hlq : k < q.length
        · obtain ⟨bb, ob, rfl, _, hbb, hcellb⟩ := hxq (by omega)
          have hcb := (hb.cell (p := ⟨bb, ob + k, none⟩) hbb).trans (hcellb k hlq)
          have b2 := hdq.at hlq
          have hik : i + k < cs.length := by omega
          have b3 := hdc.at hik
          have HS := mulIn_step hs hik (s := t + p.getD i 0 * q.getD k 0 + cs.getD (i + k) 0) rfl
          rw [getD_at hlt, getD_at hlq, getD_at hik] at HS
          have hcc := hB.cell (i + k) hik
          have hfr := hB.free (i + k)
          have hcarry := mul_carry ht b1 b2 b3
          have hd2 := hdc.set (i + k) ((t + p[i] * q[k] + cs[i + k]) % 4294967296) (Nat.mod_lt _ (by omega))
          have hB2 := hB.put (i + k) ((t + p[i] * q[k] + cs[i + k]) % 4294967296)
          have hb2 : Below w.heap.size w (wr.setCell ⟨w.heap.size, i + k, none⟩ (.int .u32 (((t + p[i] * q[k] + cs[i + k]) % 4294967296 : Nat) : Int))) := hb.setCell (Nat.le_refl _) _
          have HL2 : Hid ((cs.set (i + k) ((t + p[i] * q[k] + cs[i + k]) % 4294967296)).length = p.length + q.length) := by have := HL.out; show _ = _; rw [List.length_set]; exact this
          have hba2 := hbare.set (j := i + k) (d := (t + p[i] * q[k] + cs[i + k]) % 4294967296) (by omega)
          generalize cs.set (i + k) ((t + p[i] * q[k] + cs[i + k]) % 4294967296) = cs2 at *
          generalize cs[i + k] = old at *
          clear hdc hB hb hcellb HL hxp hxq hcl hs hbare
          generalize p[i] = pk at *
          generalize q[k] = qk at *
          have ec : (((t + pk * qk + old) % 4294967296 : Nat) : Int) = ((t : Int) + ((pk : Int) * (qk : Int) + (old : Int))) % 4294967296 := by
            have em : ((pk * qk : Nat) : Int) = (pk : Int) * (qk : Int) := Int.natCast_mul _ _
            generalize pk * qk = m at *
            omega
          have ed : (((t + pk * qk + old) / 4294967296 : Nat) : Int) = ((t : Int) + ((pk : Int) * (qk : Int) + (old : Int))) / 4294967296 := by
            have em : ((pk * qk : Nat) : Int) = (pk : Int) * (qk : Int) := Int.natCast_mul _ _
            generalize pk * qk = m at *
            omega
          rw [ec] at hB2 hb2
          have ED := Lib.hid ed
          clear ec ed
          have hcb1 : (pk : Int) * (qk : Int) ≤ 18446744065119617025 := by
            have em : ((pk * qk : Nat) : Int) = (pk : Int) * (qk : Int) := Int.natCast_mul _ _
            omega
          have hcb0 : (0 : Int) ≤ (pk : Int) * (qk : Int) := Int.mul_nonneg (by omega) (by omega)
          have hcar := hcarry.2.1
          clear hcarry
          go_wp2
          go_roundw
          case rel => exact ⟨k + 1, (t + pk * qk + old) / 4294967296, cs2, by omega, by go_num, by rw [ED.out], hcar, hd2, HL2, HS, hba2, hB2, hb2⟩
          case measure => simp [intOf]; omega
        · obtain rfl : k = q.length := by omega
          have hik : i + q.length < cs.length := by omega
          have hcc := hB.cell (i + q.length) hik
          have hfr := hB.free (i + q.length)
          have hd2 := hdc.set (i + q.length) t ht
          have hB2 := hB.put (i + q.length) t
          have hb2 : Below w.heap.size w (wr.setCell ⟨w.heap.size, i + q.length, none⟩ (.int .u32 (t : Int))) := hb.setCell (Nat.le_refl _) _
          have HL2 : Hid ((cs.set (i + q.length) t).length = p.length + q.length) := by have := HL.out; show _ = _; rw [List.length_set]; exact this
          have HV2 : Hid (val (cs.set (i + q.length) t) = val (p.take (i + 1)) * val q) := by
            show _ = _
            rw [val_set_zero hik (hbare _ (Nat.le_refl _))]
            exact mulIn_end hs (Nat.le_refl _)
          have hba2 := (hbare.more (Nat.le_succ _)).set (j := i + q.length) (d := t) (by omega)
          have hba3 : Bare (cs.set (i + q.length) t) (i + 1 + q.length) := by
            have e : i + 1 + q.length = (i + q.length).succ := by omega
            rw [e]; exact hba2
          generalize cs.set (i + q.length) t = cs2 at *
          generalize cs[i + q.length] = old at *
          clear hs hbare hdc HL hB hb hcl hxp hxq hba2
          generalize p[i] = pk at *
          go_wp2
          go_roundw
          case rel => exact ⟨i + 1, cs2, by omega, by go_num, hd2, HL2, HV2, hba3, hB2, hb2⟩
          case measure => simp [intOf]; omega
    · obtain rfl : i = p.length := by omega
      have hv := HV.out
      rw [List.take_length] at hv
      have hl2 := HL.out
      have hr := hB.reads (n := p.length + q.length) (by omega) (by unfold maxLen; omega)
      rw [hl2, List.take_of_length_le (by omega)] at hr
      have V := Lib.hid hv
      clear hv HV HL hbare hB hxp hxq hl2 hmk
      go_wp2_with fail
      refine (trim_any _ cs0 _ _ _ hdc hr).mono ?_
      rintro e w2 ⟨v3, rfl, h3, rfl⟩
      rw [V.out] at h3
      go_wp2
      go_ret
      exact ⟨_, rfl, by rw [VS.out]; exact h3, hb⟩
end Go.Proofs.YtobmjcbjailclaaGreatDoor
