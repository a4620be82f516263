/- Slices of uint32 that read as rows of limbs; blocks of limbs. No condition on a program. -/
import Derived.Test.YtobmjcbjailclaaGreatDoorBase
import Derived.Test.YtobmjcbjailclaaGreatDoorNums
import Derived.Lib.Hide
import Derived.Deep.OwnRows
import Derived.Maps.AppendAt
namespace Go.Proofs.YtobmjcbjailclaaGreatDoor
set_option maxRecDepth 100000
open Go.RowKit

/-- The slice value v reads as the limbs x in the world w; its cells lie in a block from L on, below B. -/
def Nt (w : World) (L B : Nat) (v : Value) (x : List Nat) : Prop :=
  ∃ A c, v = .slice A x.length c ∧ x.length ≤ c ∧ c ≤ maxLen ∧ (A = none → c = 0) ∧
    (0 < x.length → ∃ b off, A = some ⟨b, off, none⟩ ∧ L ≤ b ∧ b < B ∧ ∀ j (h : j < x.length), w.cell? ⟨b, off + j, none⟩ = some (.int .u32 ((x[j] : Nat) : Int)))

section
variable {w w' : World} {L L' B B' : Nat} {v : Value} {x : List Nat}

theorem Nt.stay (h : Nt w L B v x) (hL : L' ≤ L) (hB : B ≤ B') (hk : ∀ p : Addr, L ≤ p.block → p.block < B → w'.cell? p = w.cell? p) : Nt w' L' B' v x := by
  obtain ⟨A, c, rfl, hc, hm, hA0, hx⟩ := h
  refine ⟨A, c, rfl, hc, hm, hA0, fun h0 => ?_⟩
  obtain ⟨b, off, hA, hl, hb, hcell⟩ := hx h0
  exact ⟨b, off, hA, by omega, by omega, fun j hj => (hk ⟨b, off + j, none⟩ hl hb).trans (hcell j hj)⟩

theorem Nt.nil (w : World) (L B : Nat) : Nt w L B (.slice none 0 0) [] := ⟨none, 0, rfl, Nat.le_refl _, by decide, fun _ => rfl, fun h => absurd h (by simp)⟩
theorem Nt.below {C : Nat} (h : Nt w L B v x) (hb : Below C w w') (hB : B ≤ C) : Nt w' L B v x := h.stay (Nat.le_refl _) (Nat.le_refl _) fun _ _ hp => hb.cell (Nat.lt_of_lt_of_le hp hB)
theorem Nt.up (h : Nt w L B v x) (hB : B ≤ B') : Nt w L B' v x := h.stay (Nat.le_refl _) hB fun _ _ _ => rfl
theorem Nt.low (h : Nt w L B v x) (hL : L' ≤ L) : Nt w L' B v x := h.stay hL (Nat.le_refl _) fun _ _ _ => rfl
theorem Nt.after (h : Nt w L w.heap.size v x) (hb : Below w.heap.size w w') : Nt w' L w'.heap.size v x := (h.below hb (Nat.le_refl _)).up hb.size
theorem Nt.drew (h : Nt w L B v x) : Nt w.drew L B v x := h
theorem Nt.drewN (h : Nt w L B v x) (n : Nat) : Nt (w.drewN n) L B v x := h
theorem Nt.alloc (h : Nt w L B v x) (hB : B ≤ w.heap.size) (o : Obj) : Nt (w.alloc o) L B v x := h.below ((Below.refl B w).alloc hB o) (Nat.le_refl _)

theorem lv_length (x : List Nat) : (lv x).length = x.length := by unfold lv; rw [List.length_map]
theorem lv_at (x : List Nat) (j : Nat) : (lv x)[j]? = x[j]?.map fun n : Nat => Value.int .u32 (n : Int) := by unfold lv; rw [List.getElem?_map]
theorem lv_one (x : List Nat) : ∀ u ∈ lv x, u.oneCell' = true := by
  intro u hu
  obtain ⟨z, _, rfl⟩ := List.mem_map.1 hu
  rfl

theorem Nt.of_rd (h : Rd w B v (lv x)) : Nt w 0 B v x := by
  obtain ⟨A, c, rfl, hc, hm, hA0, hx⟩ := h
  rw [lv_length] at hc hx ⊢
  refine ⟨A, c, rfl, hc, hm, hA0, fun h0 => ?_⟩
  obtain ⟨b, off, hA, hb, hcell⟩ := hx h0
  exact ⟨b, off, hA, Nat.zero_le _, hb, fun j hj => hcell j _ (by rw [lv_at, List.getElem?_eq_getElem hj]; rfl)⟩

theorem Nt.rd (h : Nt w L B v x) : Rd w B v (lv x) := by
  obtain ⟨A, c, rfl, hc, hm, hA0, hx⟩ := h
  refine ⟨A, c, by rw [lv_length], by rw [lv_length]; exact hc, hm, hA0, fun h0 => ?_⟩
  rw [lv_length] at h0
  obtain ⟨b, off, hA, _, hb, hcell⟩ := hx h0
  refine ⟨b, off, hA, hb, fun j u hu => ?_⟩
  rw [lv_at] at hu
  by_cases hj : j < x.length
  · rw [List.getElem?_eq_getElem hj] at hu
    simp at hu
    subst hu
    exact hcell j hj
  · rw [List.getElem?_eq_none (by omega)] at hu; simp at hu

/-- A row of the call's own. -/
theorem Nt.of_own {base n : Nat} {e : TypeId} (h : w.ownsRow base e 1 v n (lv x)) : Nt w base w.heap.size v x := by
  obtain ⟨hl, hc⟩ := h
  rw [lv_length] at hl
  have hn : x.length = n := by omega
  subst hn
  rcases hc with ⟨rfl, h0⟩ | ⟨g, cap, cur, rfl, hb, hg, hnc, hcm, hcs, htake⟩
  · have := List.eq_nil_of_length_eq_zero h0
    subst this
    exact Nt.nil w _ _
  · refine ⟨some ⟨g, 0, none⟩, cap, rfl, hnc, hcm, fun h => (by cases h), fun h0 => ⟨g, 0, rfl, hb, (Array.getElem?_eq_some_iff.1 hg).1, fun j hj => ?_⟩⟩
    rw [Nat.zero_add, cell_of_row w g j cur e (0, 0) hg]
    have hu : (lv x)[j]? = some (Value.int .u32 ((x[j] : Nat) : Int)) := by rw [lv_at, List.getElem?_eq_getElem hj]; rfl
    rw [← htake, List.getElem?_take] at hu
    split at hu
    · simpa using hu
    · cases hu
end

/-- Block g is just the limbs x, none frozen. -/
def Lb (w : World) (g : Nat) (t : TypeId) (x : List Nat) : Prop := Blk w g t (lv x).toArray

section
variable {w w' : World} {g : Nat} {t : TypeId} {x : List Nat}
theorem Lb.lt (h : Lb w g t x) : g < w.heap.size := Blk.lt h
theorem Lb.cell (h : Lb w g t x) (i : Nat) (hi : i < x.length) : w.cell? ⟨g, i, none⟩ = some (.int .u32 ((x[i] : Nat) : Int)) := by
  rw [Blk.cell h, List.getElem?_toArray, lv_at, List.getElem?_eq_getElem hi]; rfl
theorem Lb.free (h : Lb w g t x) (i : Nat) : w.frozen? ⟨g, i, none⟩ = false := Blk.free h i
theorem Lb.drew (h : Lb w g t x) : Lb w.drew g t x := h
theorem Lb.drewN (h : Lb w g t x) (n : Nat) : Lb (w.drewN n) g t x := h
theorem Lb.alloc (h : Lb w g t x) (o : Obj) : Lb (w.alloc o) g t x := Blk.alloc h o
theorem Lb.put (h : Lb w g t x) (i n : Nat) : Lb (w.setCell ⟨g, i, none⟩ (.int .u32 (n : Int))) g t (x.set i n) := by
  have := Blk.put h i (.int .u32 (n : Int))
  have e : (lv x).toArray.setIfInBounds i (.int .u32 (n : Int)) = (lv (x.set i n)).toArray := by
    unfold lv
    rw [List.setIfInBounds_toArray, List.map_set]
  rw [e] at this
  exact this
theorem Lb.far (h : Lb w g t x) {p : Addr} (hp : g ≠ p.block) (u : Value) : Lb (w.setCell p u) g t x := Blk.far h hp u
theorem Lb.below {B : Nat} (h : Lb w g t x) (hb : Below B w w') (hg : g < B) : Lb w' g t x := Blk.below h hb hg

/-- What make lays. -/
theorem Lb.made (w : World) (t : TypeId) (n : Nat) : Lb (w.alloc (.cells (madeCells #[.int .u32 0] n) t)) w.heap.size t (List.replicate n 0) := by
  have e : (lv (List.replicate n 0)).toArray = madeCells #[.int .u32 0] n := by
    apply Array.ext
    · simp [lv, size_madeCells]
    · intro i h1 h2
      simp [lv, madeCells, Nat.mod_one]
  unfold Lb
  rw [e]
  exact Blk.new w t _

/-- A block of the call's own, a part of it from its head as a slice. -/
theorem Lb.reads {n : Nat} (h : Lb w g t x) (hn : n ≤ x.length) (hm : x.length ≤ maxLen) : Nt w g w.heap.size (.slice (some ⟨g, 0, none⟩) n x.length) (x.take n) := by
  have hl : (x.take n).length = n := by rw [List.length_take]; omega
  refine ⟨some ⟨g, 0, none⟩, x.length, by rw [hl], by omega, hm, fun h => (by cases h), fun _ => ⟨g, 0, rfl, Nat.le_refl _, h.lt, fun j hj => ?_⟩⟩
  rw [Nat.zero_add, h.cell j (by rw [hl] at hj; omega)]
  simp
end

theorem below_drewN {B : Nat} {a w : World} (h : Below B a w) (n : Nat) : Below B a (w.drewN n) := ⟨h.os, h.tape, h.output, h.size, h.block⟩

theorem beq_zero (a : Nat) : ((a : Int) == 0) = (a == 0) := by
  rw [Bool.eq_iff_iff, beq_iff_eq, beq_iff_eq]; omega
theorem bne_zero (a : Nat) : ((a : Int) != 0) = (a != 0) := by unfold bne; rw [beq_zero]
theorem beq_cast (a b : Nat) : ((a : Int) == (b : Int)) = (a == b) := by
  rw [Bool.eq_iff_iff, beq_iff_eq, beq_iff_eq]; omega
theorem bne_cast (a b : Nat) : ((a : Int) != (b : Int)) = (a != b) := by unfold bne; rw [beq_cast]
theorem beq_false {a b : Int} (h : a ≠ b) : (a == b) = false := beq_eq_false_iff_ne.2 h
theorem beq_true {a b : Int} (h : a = b) : (a == b) = true := beq_iff_eq.2 h
theorem bne_true {a b : Int} (h : a ≠ b) : (a != b) = true := bne_iff_ne.2 h
theorem bne_false {a b : Int} (h : a = b) : (a != b) = false := by unfold bne; rw [beq_true h]; rfl

theorem lv_snoc (cs : List Nat) (d : Nat) : lv (cs ++ [d]) = lv cs ++ [.int .u32 (d : Int)] := by unfold lv; rw [List.map_append]; rfl

/-- The call's own row v holds the limbs cs. -/
def Own (w : World) (base : Nat) (e : TypeId) (v : Value) (cs : List Nat) : Prop := w.ownsRow base e 1 v cs.length (lv cs)
theorem Own.nil (w : World) (base : Nat) (e : TypeId) : Own w base e (.slice none 0 0) [] := World.ownsRow_nil _ _ _ _
theorem Own.nt {w : World} {base : Nat} {e : TypeId} {v : Value} {cs : List Nat} (h : Own w base e v cs) : Nt w base w.heap.size v cs := Nt.of_own h

/-- One limb more onto a row of the call's own: 'c = append(c, d)'. -/
theorem wpList_append_limb {P : Program} {w : World} {ops : Array Oper} {rest : List Oper} {o : Oper} {a : Act} {Q : Exit → Act → World → Prop} (hgd : o.guard = none) (s x : Operand) (t : TypeId)
    (ho : o.op = .call { callee := .builtin .append, args := #[s, x], argTypes := #[t, t] })
    (base : Nat) (e : TypeId) (i : TypeInfo) (ht : P.underlying t = some (.slice e)) (hi : P.info? e = some i) (hz : i.zero = some (.int .u32 0)) (hsize : i.size = 1) (hby : i.bytes = 4)
    (v : Value) (cs : List Nat) (hs : a.eval s = v) (hown : Own w base e v cs) (y : Value) (d : Nat) (hy : y = .int .u32 (d : Int)) (hx : a.eval x = .slice (some ⟨w.heap.size, 0, none⟩) 1 1)
    (hlen : cs.length ≤ 1000000) (hbase : base ≤ w.heap.size)
    (h : ∀ v' w', Own w' base e v' (cs ++ [d]) → Below base w w' → wpList P ops Q rest (a.put o.dst v') w') : wpList P ops Q (o :: rest) a (w.alloc (.cells #[y] e)) := by
  refine wpList_append_own _ hgd s x t ho base e i (.int .u32 0) 1 4 ht hi hz hsize hby rfl (by decide) v cs.length (lv cs) hs (World.ownsRow.alloc hown _) ⟨w.heap.size, 0, none⟩ 1 1 [y] hx rfl (cell_one_new _ _ _) ?_ ?_ ?_ ?_ ?_
  · intro u hu
    rw [List.mem_singleton] at hu
    subst hu
    rw [hy]; rfl
  · unfold maxLen; omega
  · omega
  · simp; omega
  · intro v' w' h1 h2 _
    refine h v' w' ?_ ?_
    · show w'.ownsRow base e 1 v' (cs ++ [d]).length (lv (cs ++ [d]))
      rw [lv_snoc, List.length_append, ← hy]; exact h1
    · exact ((Below.refl base w).alloc hbase _).grown h2 (by simp; omega) (fun j hj => (World.ownsRow.lt hown j hj).1)

/-- The length in a slot that holds a slice: for a loop's measure. -/
def lenOf : Value → Nat | .slice _ n _ => n | _ => 0

/-- What a function of naturals hands back: a new row of limbs; nothing that was there has turned. -/
def Gives (x : List Nat) (w : World) (e : Ending) (w' : World) : Prop :=
  ∃ v', e = .returned v' ∧ Nt w' w.heap.size w'.heap.size v' x ∧ Below w.heap.size w w'

end Go.Proofs.YtobmjcbjailclaaGreatDoor
