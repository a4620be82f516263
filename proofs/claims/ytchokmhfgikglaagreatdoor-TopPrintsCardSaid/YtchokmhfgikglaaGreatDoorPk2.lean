/- Several texts in one: ParseNum, Base, Nt, Trims, Adds2. Condition: each says its own. -/
import Derived.WalkKit
import Derived.ProofKit
import Derived.Below
import Derived.Laws.OwnMore
import Derived.Laws.Rows
import Derived.Laws.AppendOwnNone
import Derived.Deep.Draws
import Derived.Lib.Hide
import Derived.Deep.OwnRows
import Derived.Maps.AppendAt
import Derived.Test.YtchokmhfgikglaaGreatDoorProg
import Derived.WalkLawsBesides
import Derived.WalkSpells
import Derived.Deep.QuietTactic
import Derived.BigQuiet
import Derived.Test.YtchokmhfgikglaaGreatDoorPk1
namespace Go.Proofs.YtchokmhfgikglaaGreatDoor

/-- A digit. -/
def isD (x : Nat) : Bool := decide (48 ≤ x ∧ x ≤ 57)
/-- Digits that may be read. -/
def okD (l : List Nat) : Bool := decide (1 ≤ l.length) && (decide (l.length ≤ 400) && l.all isD)
/-- The number that digits tell. -/
def numD (l : List Nat) : Nat := undec (l.map (· - 48))

/-- What stands ahead of a sign, and whether it stands there. -/
def cutB (c : Nat) (l : List Nat) : List Nat × List Nat × Bool :=
  (l.takeWhile (· != c), (l.dropWhile (· != c)).drop 1, l.contains c)

/-- The program's way: cut at a point, else at a stroke. -/
def wayA (neg : Bool) (r : List Nat) : Option (Bool × Nat × Nat) :=
  if r.contains 46 then
    (if (r.takeWhile (· != 46)).length ≠ 0 ∧ okD ((r.dropWhile (· != 46)).drop 1) = true ∧ okD (r.takeWhile (· != 46) ++ (r.dropWhile (· != 46)).drop 1) = true then
      some (neg, numD (r.takeWhile (· != 46) ++ (r.dropWhile (· != 46)).drop 1), 10 ^ ((r.dropWhile (· != 46)).drop 1).length) else none)
  else if r.contains 47 then
    (if okD (r.takeWhile (· != 47)) = true ∧ okD ((r.dropWhile (· != 47)).drop 1) = true ∧ numD ((r.dropWhile (· != 47)).drop 1) ≠ 0 then
      some (neg, numD (r.takeWhile (· != 47)), numD ((r.dropWhile (· != 47)).drop 1)) else none)
  else (if okD r = true then some (neg, numD r, 1) else none)

/-- The reference's way: so many digits, then what follows. -/
def wayB (neg : Bool) (r : List Nat) : Option (Bool × Nat × Nat) :=
  if r.takeWhile isD = [] then none
  else match r.dropWhile isD with
    | [] => some (neg, numD (r.takeWhile isD), 1)
    | c :: t =>
      if (t.takeWhile isD).length = 0 ∨ (t.takeWhile isD).length ≠ t.length ∨ (c ≠ 46 ∧ c ≠ 47) then none
      else if c = 47 then (if numD t = 0 then none else some (neg, numD (r.takeWhile isD), numD t))
      else some (neg, numD (r.takeWhile isD) * 10 ^ t.length + numD t, 10 ^ t.length)

theorem fold_start : ∀ (m : List Nat) (a : Nat), m.foldl (fun a x => a * 10 + x) a = a * 10 ^ m.length + m.foldl (fun a x => a * 10 + x) 0
  | [], a => by simp
  | x :: m, a => by
    rw [List.foldl_cons, List.foldl_cons, fold_start m (a * 10 + x), fold_start m (0 * 10 + x), List.length_cons, Nat.pow_succ]
    grind

theorem undec_append (l m : List Nat) : undec (l ++ m) = undec l * 10 ^ m.length + undec m := by
  unfold undec
  rw [List.foldl_append, fold_start]

theorem numD_append (l m : List Nat) : numD (l ++ m) = numD l * 10 ^ m.length + numD m := by
  unfold numD
  rw [List.map_append, undec_append, List.length_map]

theorem tw_all {p : Nat → Bool} : ∀ l : List Nat, (l.takeWhile p).length = l.length ↔ l.all p = true
  | [] => by simp
  | a :: r => by
    by_cases h : p a = true
    · simp [h, tw_all r]
    · simp [h]

theorem mem_tw {p : Nat → Bool} {x : Nat} : ∀ l : List Nat, x ∈ l.takeWhile p → p x = true
  | a :: r, h => by
    by_cases ha : p a = true
    · rw [List.takeWhile_cons, if_pos ha] at h
      rcases List.mem_cons.1 h with rfl | h
      · exact ha
      · exact mem_tw r h
    · rw [List.takeWhile_cons, if_neg ha] at h
      cases h

theorem dw_head {p : Nat → Bool} {c : Nat} {t : List Nat} : ∀ l : List Nat, l.dropWhile p = c :: t → p c = false
  | a :: r, h => by
    by_cases ha : p a = true
    · rw [List.dropWhile_cons, if_pos ha] at h
      exact dw_head r h
    · rw [List.dropWhile_cons, if_neg ha] at h
      have := (List.cons.inj h).1
      subst this
      simpa using ha

theorem cut_at {w t : List Nat} {c : Nat} (hw : c ∉ w) : (w ++ c :: t).takeWhile (· != c) = w ∧ (w ++ c :: t).dropWhile (· != c) = c :: t := by
  induction w with
  | nil => simp
  | cons a r ih =>
    have h1 : a ≠ c := fun h => hw (by simp [h])
    have h2 := ih fun h => hw (by simp [h])
    have h3 : (a != c) = true := bne_iff_ne.2 h1
    rw [List.cons_append, List.takeWhile_cons, List.dropWhile_cons, if_pos h3, if_pos h3, h2.1, h2.2]
    exact ⟨rfl, rfl⟩

theorem okD_mem {l : List Nat} {x : Nat} (hx : x ∈ l) (hn : isD x = false) : okD l = false := by
  have : l.all isD = false := by
    apply Bool.eq_false_iff.2
    intro h
    rw [List.all_eq_true.1 h x hx] at hn
    cases hn
  unfold okD
  rw [this]
  simp

theorem okD_iff {l : List Nat} (h2 : l.length ≤ 400) : okD l = true ↔ l.length ≠ 0 ∧ l.all isD = true := by
  unfold okD
  simp only [Bool.and_eq_true, decide_eq_true_eq]
  constructor
  · rintro ⟨a, _, c⟩; exact ⟨by omega, c⟩
  · rintro ⟨a, c⟩; exact ⟨by omega, h2, c⟩

theorem takeWhile_pre {p : Nat → Bool} {w r : List Nat} (h : ∀ x ∈ w, p x = true) : (w ++ r).takeWhile p = w ++ r.takeWhile p := by
  induction w with
  | nil => rfl
  | cons a t ih => rw [List.cons_append, List.takeWhile_cons, if_pos (h a (by simp)), ih fun x hx => h x (by simp [hx]), List.cons_append]

/-- The two ways agree on texts that are not too long. -/
theorem ways_same (neg : Bool) (r : List Nat) (hl : r.length ≤ 400) : wayA neg r = wayB neg r := by
  have hsplit : r.takeWhile isD ++ r.dropWhile isD = r := List.takeWhile_append_dropWhile
  have hw : ∀ x ∈ r.takeWhile isD, isD x = true := fun x hx => mem_tw r hx
  have d46 : isD 46 = false := by decide
  have d47 : isD 47 = false := by decide
  obtain ⟨w, hwe⟩ : ∃ w, r.takeWhile isD = w := ⟨_, rfl⟩
  obtain ⟨q, hqe⟩ : ∃ q, r.dropWhile isD = q := ⟨_, rfl⟩
  have hwall : w.all isD = true := List.all_eq_true.2 (hwe ▸ hw)
  have n46 : 46 ∉ w := fun h => by have := hw 46 (hwe ▸ h); rw [d46] at this; cases this
  have n47 : 47 ∉ w := fun h => by have := hw 47 (hwe ▸ h); rw [d47] at this; cases this
  unfold wayB
  rw [hwe, hqe]
  rw [hwe, hqe] at hsplit
  cases q with
  | nil =>
    rw [List.append_nil] at hsplit
    subst hsplit
    have c46 : w.contains 46 = false := by simpa using n46
    have c47 : w.contains 47 = false := by simpa using n47
    unfold wayA
    rw [c46, c47]
    simp only [Bool.false_eq_true, if_false]
    by_cases h0 : w = []
    · subst h0
      rfl
    · rw [if_neg h0, if_pos ((okD_iff hl).2 ⟨fun h => h0 (List.eq_nil_of_length_eq_zero h), hwall⟩)]
  | cons c t =>
    change wayA neg r = (if w = [] then none else if (t.takeWhile isD).length = 0 ∨ (t.takeWhile isD).length ≠ t.length ∨ (c ≠ 46 ∧ c ≠ 47) then none else if c = 47 then (if numD t = 0 then none else some (neg, numD w, numD t)) else some (neg, numD w * 10 ^ t.length + numD t, 10 ^ t.length))
    have hc : isD c = false := dw_head r hqe
    have hlen : w.length + (t.length + 1) = r.length := by rw [← hsplit]; simp
    have htl : t.length ≤ 400 := by omega
    have hcr : c ∈ r := by rw [← hsplit]; simp
    by_cases h46 : c = 46
    · subst h46
      have hr46 : r.contains 46 = true := by simpa using hcr
      obtain ⟨e1, e2⟩ := cut_at (t := t) n46
      rw [hsplit] at e1 e2
      unfold wayA
      rw [if_pos hr46, e1, e2]
      simp only [List.drop_succ_cons, List.drop_zero]
      by_cases h0 : w = []
      · rw [if_pos h0, if_neg (by rintro ⟨h, _⟩; exact h (by rw [h0]; rfl))]
      · have h0' : w.length ≠ 0 := fun h => h0 (List.eq_nil_of_length_eq_zero h)
        rw [if_neg h0]
        by_cases hk : okD t = true
        · obtain ⟨k1, k2⟩ := (okD_iff htl).1 hk
          have hwt : okD (w ++ t) = true := (okD_iff (by rw [List.length_append]; omega)).2 ⟨by rw [List.length_append]; omega, by rw [List.all_append, hwall, k2]; rfl⟩
          have ht := (tw_all t).2 k2
          rw [if_pos ⟨h0', hk, hwt⟩, if_neg (by rw [ht]; omega), if_neg (by omega), numD_append]
        · rw [if_neg (by rintro ⟨_, h, _⟩; exact hk h)]
          rw [if_pos ?_]
          by_cases hz : (t.takeWhile isD).length = 0
          · exact Or.inl hz
          · right; left
            intro he
            refine hk ((okD_iff htl).2 ⟨by omega, (tw_all t).1 he⟩)
    · by_cases h47 : c = 47
      · subst h47
        by_cases ht46 : 46 ∈ t
        · have hr46 : r.contains 46 = true := by
            have : 46 ∈ r := by rw [← hsplit]; simp [ht46]
            simpa using this
          have hpre : r.takeWhile (· != 46) = w ++ 47 :: t.takeWhile (· != 46) := by
            rw [← hsplit, takeWhile_pre (p := (· != 46)) (w := w) (fun x hx => bne_iff_ne.2 fun h => n46 (h ▸ hx)), List.takeWhile_cons, if_pos (by decide)]
          unfold wayA
          rw [if_pos hr46, hpre, if_neg (by rintro ⟨_, _, h⟩; rw [okD_mem (x := 47) (by simp) d47] at h; cases h)]
          have hne : (t.takeWhile isD).length ≠ t.length := fun h => by
            have := List.all_eq_true.1 ((tw_all t).1 h) 46 ht46
            rw [d46] at this; cases this
          by_cases h0 : w = []
          · rw [if_pos h0]
          · rw [if_neg h0, if_pos (Or.inr (Or.inl hne))]
        · have hr46 : r.contains 46 = false := by
            have : 46 ∉ r := by rw [← hsplit]; simp [n46, ht46]
            simpa using this
          have hr47 : r.contains 47 = true := by simpa using hcr
          obtain ⟨e1, e2⟩ := cut_at (t := t) n47
          rw [hsplit] at e1 e2
          unfold wayA
          rw [hr46, hr47, e1, e2]
          simp only [Bool.false_eq_true, if_false, if_true, List.drop_succ_cons, List.drop_zero]
          by_cases h0 : w = []
          · rw [if_pos h0, h0]
            rfl
          · have hkw : okD w = true := (okD_iff (by omega)).2 ⟨fun h => h0 (List.eq_nil_of_length_eq_zero h), hwall⟩
            rw [if_neg h0]
            by_cases hk : okD t = true
            · obtain ⟨k1, k2⟩ := (okD_iff htl).1 hk
              have ht := (tw_all t).2 k2
              have hcond : ¬ ((t.takeWhile isD).length = 0 ∨ (t.takeWhile isD).length ≠ t.length ∨ ((47 : Nat) ≠ 46 ∧ (47 : Nat) ≠ 47)) := by rw [ht]; omega
              rw [if_neg hcond]
              by_cases hz : numD t = 0
              · rw [if_pos hz, if_neg (show ¬ (okD w = true ∧ okD t = true ∧ numD t ≠ 0) from fun h => h.2.2 hz)]
              · rw [if_neg hz, if_pos (show okD w = true ∧ okD t = true ∧ numD t ≠ 0 from ⟨hkw, hk, hz⟩)]
            · have hcond : (t.takeWhile isD).length = 0 ∨ (t.takeWhile isD).length ≠ t.length ∨ ((47 : Nat) ≠ 46 ∧ (47 : Nat) ≠ 47) := by
                by_cases hz : (t.takeWhile isD).length = 0
                · exact Or.inl hz
                · right; left
                  intro he
                  exact hk ((okD_iff htl).2 ⟨by omega, (tw_all t).1 he⟩)
              rw [if_pos hcond, if_neg (show ¬ (okD w = true ∧ okD t = true ∧ numD t ≠ 0) from fun h => hk h.2.1)]
      · have hB : (if w = [] then (none : Option (Bool × Nat × Nat)) else if (t.takeWhile isD).length = 0 ∨ (t.takeWhile isD).length ≠ t.length ∨ (c ≠ 46 ∧ c ≠ 47) then none
            else if c = 47 then (if numD t = 0 then none else some (neg, numD w, numD t)) else some (neg, numD w * 10 ^ t.length + numD t, 10 ^ t.length)) = none := by
          split
          · rfl
          · rw [if_pos (Or.inr (Or.inr ⟨h46, h47⟩))]
        have e : wayA neg r = none := by
          have hpre : ∀ d, d ∉ w → c ≠ d → c ∈ r.takeWhile (· != d) := fun d hd hcd => by
            rw [← hsplit, takeWhile_pre (p := (· != d)) (w := w) (fun x hx => bne_iff_ne.2 fun h => hd (h ▸ hx)), List.takeWhile_cons, if_pos (bne_iff_ne.2 hcd)]
            simp
          unfold wayA
          split
          · rw [if_neg]
            rintro ⟨_, _, h⟩
            rw [okD_mem (x := c) (List.mem_append_left _ (hpre 46 n46 h46)) hc] at h
            cases h
          · split
            · rw [if_neg]
              rintro ⟨h, _⟩
              rw [okD_mem (x := c) (hpre 47 n47 h47) hc] at h
              cases h
            · rw [okD_mem hcr hc]
              rfl
        rw [e]
        exact hB.symm
end Go.Proofs.YtchokmhfgikglaaGreatDoor

namespace Go.Proofs.YtchokmhfgikglaaGreatDoor
set_option maxRecDepth 100000
open Go.RowKit

/-- The slice value v holds the cells xs in the world w, in a block below number B. -/
def Rd (w : World) (B : Nat) (v : Value) (xs : List Value) : Prop :=
  ∃ A c, v = .slice A xs.length c ∧ xs.length ≤ c ∧ c ≤ maxLen ∧ (A = none → c = 0) ∧
    (0 < xs.length → ∃ b off, A = some ⟨b, off, none⟩ ∧ b < B ∧ ∀ j u, xs[j]? = some u → w.cell? ⟨b, off + j, none⟩ = some u)

section
variable {w w' : World} {B B' : Nat} {v : Value} {xs : List Value}

theorem Rd.nil (w : World) (B : Nat) : Rd w B (.slice none 0 0) [] := ⟨none, 0, rfl, Nat.le_refl _, by decide, fun _ => rfl, fun h => absurd h (by simp)⟩

theorem Rd.stay (h : Rd w B v xs) (hB : B ≤ B') (hk : ∀ p : Addr, p.block < B → w'.cell? p = w.cell? p) : Rd w' B' v xs := by
  obtain ⟨A, c, rfl, hc, hm, hA0, hx⟩ := h
  refine ⟨A, c, rfl, hc, hm, hA0, fun h0 => ?_⟩
  obtain ⟨b, off, hA, hb, hcell⟩ := hx h0
  exact ⟨b, off, hA, by omega, fun j u hu => (hk ⟨b, off + j, none⟩ hb).trans (hcell j u hu)⟩

theorem Rd.below {C : Nat} (h : Rd w B v xs) (hb : Below C w w') (hB : B ≤ C) : Rd w' B v xs := h.stay (Nat.le_refl _) fun _ hp => hb.cell (Nat.lt_of_lt_of_le hp hB)
theorem Rd.up (h : Rd w B v xs) (hB : B ≤ B') : Rd w B' v xs := h.stay hB fun _ _ => rfl
theorem Rd.after (h : Rd w w.heap.size v xs) (hb : Below w.heap.size w w') : Rd w' w'.heap.size v xs := (h.below hb (Nat.le_refl _)).up hb.size
theorem Rd.drew (h : Rd w B v xs) : Rd w.drew B v xs := h
theorem Rd.alloc (h : Rd w B v xs) (hB : B ≤ w.heap.size) (o : Obj) : Rd (w.alloc o) B v xs := h.below ((Below.refl B w).alloc hB o) (Nat.le_refl _)

/-- A row of the call's own reads as its cells. -/
theorem Rd.of_own {base n : Nat} {e : TypeId} (h : w.ownsRow base e 1 v n xs) : Rd w w.heap.size v xs := by
  obtain ⟨hl, hc⟩ := h
  have hn : xs.length = n := by omega
  subst hn
  rcases hc with ⟨rfl, h0⟩ | ⟨g, cap, cur, rfl, hb, hg, hnc, hcm, hcs, htake⟩
  · have := List.eq_nil_of_length_eq_zero h0
    subst this
    exact Rd.nil w _
  · refine ⟨some ⟨g, 0, none⟩, cap, rfl, hnc, hcm, fun h => (by cases h), fun h0 => ⟨g, 0, rfl, (Array.getElem?_eq_some_iff.1 hg).1, fun j u hu => ?_⟩⟩
    rw [Nat.zero_add, cell_of_row w g j cur e (0, 0) hg]
    rw [← htake, List.getElem?_take] at hu
    split at hu
    · simpa using hu
    · cases hu
end

/-- Block g is just the cells cs of element type t, none frozen. -/
def Blk (w : World) (g : Nat) (t : TypeId) (cs : Array Value) : Prop := w.heap[g]? = some (.cells cs t (0, 0))

section
variable {w w' : World} {g : Nat} {t : TypeId} {cs : Array Value}
theorem Blk.lt (h : Blk w g t cs) : g < w.heap.size := (Array.getElem?_eq_some_iff.1 h).1
theorem Blk.cell (h : Blk w g t cs) (i : Nat) : w.cell? ⟨g, i, none⟩ = cs[i]? := cell_of_row w g i cs t (0, 0) h
theorem Blk.free (h : Blk w g t cs) (i : Nat) : w.frozen? ⟨g, i, none⟩ = false := by
  have h' : w.heap[g]? = some (.cells cs t (0, 0)) := h
  simp [World.frozen?, h']
theorem Blk.new (w : World) (t : TypeId) (cs : Array Value) : Blk (w.alloc (.cells cs t)) w.heap.size t cs := heap_alloc_new w _
theorem Blk.drew (h : Blk w g t cs) : Blk w.drew g t cs := h
theorem Blk.alloc (h : Blk w g t cs) (o : Obj) : Blk (w.alloc o) g t cs := (Below.heap_alloc w o g h.lt).trans h
theorem Blk.put (h : Blk w g t cs) (i : Nat) (u : Value) : Blk (w.setCell ⟨g, i, none⟩ u) g t (cs.setIfInBounds i u) := by
  have h' : w.heap[g]? = some (.cells cs t (0, 0)) := h
  show (w.setCell ⟨g, i, none⟩ u).heap[g]? = _
  simp [World.setCell, Array.getElem?_modify, h']
theorem Blk.same (h : Blk w g t cs) {i : Nat} (hi : i < cs.size) (u : Value) : (w.setCell ⟨g, i, none⟩ u).cell? ⟨g, i, none⟩ = some u := by
  rw [(h.put i u).cell, Array.getElem?_setIfInBounds]
  simp [hi]
theorem Blk.far (h : Blk w g t cs) {p : Addr} (hp : g ≠ p.block) (u : Value) : Blk (w.setCell p u) g t cs := (Below.heap_setCell w p u g hp).trans h
theorem Blk.below {B : Nat} (h : Blk w g t cs) (hb : Below B w w') (hg : g < B) : Blk w' g t cs := (hb.block g hg).trans h

/-- A block of the call's own, taken from its head as a slice. -/
theorem Blk.reads {n : Nat} (h : Blk w g t cs) (hn : n ≤ cs.size) (hm : cs.size ≤ maxLen) : Rd w w.heap.size (.slice (some ⟨g, 0, none⟩) n cs.size) (cs.toList.take n) := by
  have hl : (cs.toList.take n).length = n := by rw [List.length_take, Array.length_toList]; omega
  refine ⟨some ⟨g, 0, none⟩, cs.size, by rw [hl], by omega, hm, fun h => (by cases h), fun _ => ⟨g, 0, rfl, h.lt, fun j u hu => ?_⟩⟩
  rw [Nat.zero_add, h.cell]
  rw [List.getElem?_take] at hu
  split at hu
  · simpa using hu
  · cases hu
end

/-- The same of a slice of uint32, its numbers as natural ones. -/
def lv (l : List Nat) : List Value := l.map fun n : Nat => Value.int .u32 (n : Int)

/-- append onto a row of the call's own, the source a slice that reads as a list (nil, too). -/
theorem wpList_append_rd {P : Program} {w : World} {ops : Array Oper} {rest : List Oper} {o : Oper} {a : Act} {Q : Exit → Act → World → Prop} (hgd : o.guard = none) (s x : Operand) (t : TypeId)
    (ho : o.op = .call { callee := .builtin .append, args := #[s, x], argTypes := #[t, t] })
    (base : Nat) (e : TypeId) (i : TypeInfo) (z : Value) (bytes : Nat) (ht : P.underlying t = some (.slice e)) (hi : P.info? e = some i) (hz : i.zero = some z)
    (hsize : i.size = 1) (hby : i.bytes = bytes) (hzs : z.cells.size = 1)
    (v : Value) (n : Nat) (xs : List Value) (hs : a.eval s = v) (hown : w.ownsRow base e 1 v n xs)
    (B : Nat) (u : Value) (news : List Value) (hx : a.eval x = u) (hr : Rd w B u news) (h1 : ∀ u ∈ news, u.oneCell' = true)
    (h63 : n + news.length ≤ maxLen) (hbytes : (n + news.length) * bytes ≤ 140737488355328) (hbase : base ≤ w.heap.size)
    (h : ∀ v' w', w'.ownsRow base e 1 v' (n + news.length) (xs ++ news) → w.grownBy w' v.ownBlock → wpList P ops Q rest (a.put o.dst v') w') : wpList P ops Q (o :: rest) a w := by
  obtain ⟨A, c, rfl, hc, hm, hA0, hcell⟩ := hr
  rcases A with _ | ad
  · have hn : news = [] := by
      rcases Nat.eq_zero_or_pos news.length with h0 | h0
      · exact List.eq_nil_of_length_eq_zero h0
      · obtain ⟨b, off, h, _⟩ := hcell h0
        cases h
    subst hn
    have hc0 := hA0 rfl
    subst hc0
    exact wpList_append_own_none hgd s x t ho base e i 1 ht hi v n xs hs hown hx (h v w (by simpa using hown) (World.grownBy.refl w _))
  · refine wpList_append_own _ hgd s x t ho base e i z 1 bytes ht hi hz hsize hby hzs (by decide) v n xs hs hown ad news.length c news hx (by omega) ?_ h1 h63 hbytes hbase (fun v' w' h2 h3 _ => h v' w' h2 h3)
    intro j u hu
    have h0 : 0 < news.length := by
      rcases Nat.eq_zero_or_pos news.length with h0 | h0
      · have := List.eq_nil_of_length_eq_zero h0
        subst this
        simp at hu
      · exact h0
    obtain ⟨b, off, h, _, hc⟩ := hcell h0
    injection h with h
    subst h
    have hadd : (⟨b, off, none⟩ : Addr).add j = ⟨b, off + j, none⟩ := by unfold Addr.add; split <;> simp_all
    rw [hadd]
    exact hc j u hu

end Go.Proofs.YtchokmhfgikglaaGreatDoor

namespace Go.Proofs.YtchokmhfgikglaaGreatDoor
set_option maxRecDepth 100000
open Go.RowKit

/-- The slice value v reads as the limbs x in the world w; its cells lie in a block from L on, below B. -/
def Nt (w : World) (L B : Nat) (v : Value) (x : List Nat) : Prop :=
  ∃ A c, v = .slice A x.length c ∧ x.length ≤ c ∧ c ≤ maxLen ∧ (A = none → c = 0) ∧
    (0 < x.length → ∃ b off, A = some ⟨b, off, none⟩ ∧ L ≤ b ∧ b < B ∧ ∀ j (h : j < x.length), w.cell? ⟨b, off + j, none⟩ = some (.int .u32 ((x[j] : Nat) : Int)))

section
variable {w w' : World} {L L' B B' : Nat} {v : Value} {x : List Nat}

theorem Nt.stay (h : Nt w L B v x) (hL : L' ≤ L) (hB : B ≤ B') (hk : ∀ p : Addr, L ≤ p.block → p.block < B → w'.cell? p = w.cell? p) : Nt w' L' B' v x := by
  obtain ⟨A, c, rfl, hc, hm, hA0, hx⟩ := h
  refine ⟨A, c, rfl, hc, hm, hA0, fun h0 => ?_⟩
  obtain ⟨b, off, hA, hl, hb, hcell⟩ := hx h0
  exact ⟨b, off, hA, by omega, by omega, fun j hj => (hk ⟨b, off + j, none⟩ hl hb).trans (hcell j hj)⟩

theorem Nt.nil (w : World) (L B : Nat) : Nt w L B (.slice none 0 0) [] := ⟨none, 0, rfl, Nat.le_refl _, by decide, fun _ => rfl, fun h => absurd h (by simp)⟩
theorem Nt.below {C : Nat} (h : Nt w L B v x) (hb : Below C w w') (hB : B ≤ C) : Nt w' L B v x := h.stay (Nat.le_refl _) (Nat.le_refl _) fun _ _ hp => hb.cell (Nat.lt_of_lt_of_le hp hB)
theorem Nt.up (h : Nt w L B v x) (hB : B ≤ B') : Nt w L B' v x := h.stay (Nat.le_refl _) hB fun _ _ _ => rfl
theorem Nt.low (h : Nt w L B v x) (hL : L' ≤ L) : Nt w L' B v x := h.stay hL (Nat.le_refl _) fun _ _ _ => rfl
theorem Nt.after (h : Nt w L w.heap.size v x) (hb : Below w.heap.size w w') : Nt w' L w'.heap.size v x := (h.below hb (Nat.le_refl _)).up hb.size
theorem Nt.drew (h : Nt w L B v x) : Nt w.drew L B v x := h
theorem Nt.drewN (h : Nt w L B v x) (n : Nat) : Nt (w.drewN n) L B v x := h
theorem Nt.alloc (h : Nt w L B v x) (hB : B ≤ w.heap.size) (o : Obj) : Nt (w.alloc o) L B v x := h.below ((Below.refl B w).alloc hB o) (Nat.le_refl _)

theorem lv_length (x : List Nat) : (lv x).length = x.length := by unfold lv; rw [List.length_map]
theorem lv_at (x : List Nat) (j : Nat) : (lv x)[j]? = x[j]?.map fun n : Nat => Value.int .u32 (n : Int) := by unfold lv; rw [List.getElem?_map]
theorem lv_one (x : List Nat) : ∀ u ∈ lv x, u.oneCell' = true := by
  intro u hu
  obtain ⟨z, _, rfl⟩ := List.mem_map.1 hu
  rfl

theorem Nt.rd (h : Nt w L B v x) : Rd w B v (lv x) := by
  obtain ⟨A, c, rfl, hc, hm, hA0, hx⟩ := h
  refine ⟨A, c, by rw [lv_length], by rw [lv_length]; exact hc, hm, hA0, fun h0 => ?_⟩
  rw [lv_length] at h0
  obtain ⟨b, off, hA, _, hb, hcell⟩ := hx h0
  refine ⟨b, off, hA, hb, fun j u hu => ?_⟩
  rw [lv_at] at hu
  by_cases hj : j < x.length
  · rw [List.getElem?_eq_getElem hj] at hu
    simp at hu
    subst hu
    exact hcell j hj
  · rw [List.getElem?_eq_none (by omega)] at hu; simp at hu

/-- A row of the call's own. -/
theorem Nt.of_own {base n : Nat} {e : TypeId} (h : w.ownsRow base e 1 v n (lv x)) : Nt w base w.heap.size v x := by
  obtain ⟨hl, hc⟩ := h
  rw [lv_length] at hl
  have hn : x.length = n := by omega
  subst hn
  rcases hc with ⟨rfl, h0⟩ | ⟨g, cap, cur, rfl, hb, hg, hnc, hcm, hcs, htake⟩
  · have := List.eq_nil_of_length_eq_zero h0
    subst this
    exact Nt.nil w _ _
  · refine ⟨some ⟨g, 0, none⟩, cap, rfl, hnc, hcm, fun h => (by cases h), fun h0 => ⟨g, 0, rfl, hb, (Array.getElem?_eq_some_iff.1 hg).1, fun j hj => ?_⟩⟩
    rw [Nat.zero_add, cell_of_row w g j cur e (0, 0) hg]
    have hu : (lv x)[j]? = some (Value.int .u32 ((x[j] : Nat) : Int)) := by rw [lv_at, List.getElem?_eq_getElem hj]; rfl
    rw [← htake, List.getElem?_take] at hu
    split at hu
    · simpa using hu
    · cases hu
end

/-- Block g is just the limbs x, none frozen. -/
def Lb (w : World) (g : Nat) (t : TypeId) (x : List Nat) : Prop := Blk w g t (lv x).toArray

section
variable {w w' : World} {g : Nat} {t : TypeId} {x : List Nat}
theorem Lb.lt (h : Lb w g t x) : g < w.heap.size := Blk.lt h
theorem Lb.cell (h : Lb w g t x) (i : Nat) (hi : i < x.length) : w.cell? ⟨g, i, none⟩ = some (.int .u32 ((x[i] : Nat) : Int)) := by
  rw [Blk.cell h, List.getElem?_toArray, lv_at, List.getElem?_eq_getElem hi]; rfl
theorem Lb.free (h : Lb w g t x) (i : Nat) : w.frozen? ⟨g, i, none⟩ = false := Blk.free h i
theorem Lb.drew (h : Lb w g t x) : Lb w.drew g t x := h
theorem Lb.drewN (h : Lb w g t x) (n : Nat) : Lb (w.drewN n) g t x := h
theorem Lb.alloc (h : Lb w g t x) (o : Obj) : Lb (w.alloc o) g t x := Blk.alloc h o
theorem Lb.put (h : Lb w g t x) (i n : Nat) : Lb (w.setCell ⟨g, i, none⟩ (.int .u32 (n : Int))) g t (x.set i n) := by
  have := Blk.put h i (.int .u32 (n : Int))
  have e : (lv x).toArray.setIfInBounds i (.int .u32 (n : Int)) = (lv (x.set i n)).toArray := by
    unfold lv
    rw [List.setIfInBounds_toArray, List.map_set]
  rw [e] at this
  exact this
theorem Lb.far (h : Lb w g t x) {p : Addr} (hp : g ≠ p.block) (u : Value) : Lb (w.setCell p u) g t x := Blk.far h hp u
theorem Lb.below {B : Nat} (h : Lb w g t x) (hb : Below B w w') (hg : g < B) : Lb w' g t x := Blk.below h hb hg

/-- What make lays. -/
theorem Lb.made (w : World) (t : TypeId) (n : Nat) : Lb (w.alloc (.cells (madeCells #[.int .u32 0] n) t)) w.heap.size t (List.replicate n 0) := by
  have e : (lv (List.replicate n 0)).toArray = madeCells #[.int .u32 0] n := by
    apply Array.ext
    · simp [lv, size_madeCells]
    · intro i h1 h2
      simp [lv, madeCells, Nat.mod_one]
  unfold Lb
  rw [e]
  exact Blk.new w t _

/-- A block of the call's own, a part of it from its head as a slice. -/
theorem Lb.reads {n : Nat} (h : Lb w g t x) (hn : n ≤ x.length) (hm : x.length ≤ maxLen) : Nt w g w.heap.size (.slice (some ⟨g, 0, none⟩) n x.length) (x.take n) := by
  have hl : (x.take n).length = n := by rw [List.length_take]; omega
  refine ⟨some ⟨g, 0, none⟩, x.length, by rw [hl], by omega, hm, fun h => (by cases h), fun _ => ⟨g, 0, rfl, Nat.le_refl _, h.lt, fun j hj => ?_⟩⟩
  rw [Nat.zero_add, h.cell j (by rw [hl] at hj; omega)]
  simp
end

theorem below_drewN {B : Nat} {a w : World} (h : Below B a w) (n : Nat) : Below B a (w.drewN n) := ⟨h.os, h.tape, h.output, h.size, h.block⟩

theorem beq_zero (a : Nat) : ((a : Int) == 0) = (a == 0) := by
  rw [Bool.eq_iff_iff, beq_iff_eq, beq_iff_eq]; omega
theorem bne_zero (a : Nat) : ((a : Int) != 0) = (a != 0) := by unfold bne; rw [beq_zero]
theorem beq_cast (a b : Nat) : ((a : Int) == (b : Int)) = (a == b) := by
  rw [Bool.eq_iff_iff, beq_iff_eq, beq_iff_eq]; omega
theorem beq_false {a b : Int} (h : a ≠ b) : (a == b) = false := beq_eq_false_iff_ne.2 h
theorem beq_true {a b : Int} (h : a = b) : (a == b) = true := beq_iff_eq.2 h
theorem bne_true {a b : Int} (h : a ≠ b) : (a != b) = true := bne_iff_ne.2 h
theorem bne_false {a b : Int} (h : a = b) : (a != b) = false := by unfold bne; rw [beq_true h]; rfl

theorem lv_snoc (cs : List Nat) (d : Nat) : lv (cs ++ [d]) = lv cs ++ [.int .u32 (d : Int)] := by unfold lv; rw [List.map_append]; rfl

/-- The call's own row v holds the limbs cs. -/
def Own (w : World) (base : Nat) (e : TypeId) (v : Value) (cs : List Nat) : Prop := w.ownsRow base e 1 v cs.length (lv cs)
theorem Own.nil (w : World) (base : Nat) (e : TypeId) : Own w base e (.slice none 0 0) [] := World.ownsRow_nil _ _ _ _
theorem Own.nt {w : World} {base : Nat} {e : TypeId} {v : Value} {cs : List Nat} (h : Own w base e v cs) : Nt w base w.heap.size v cs := Nt.of_own h

/-- One limb more onto a row of the call's own: 'c = append(c, d)'. -/
theorem wpList_append_limb {P : Program} {w : World} {ops : Array Oper} {rest : List Oper} {o : Oper} {a : Act} {Q : Exit → Act → World → Prop} (hgd : o.guard = none) (s x : Operand) (t : TypeId)
    (ho : o.op = .call { callee := .builtin .append, args := #[s, x], argTypes := #[t, t] })
    (base : Nat) (e : TypeId) (i : TypeInfo) (ht : P.underlying t = some (.slice e)) (hi : P.info? e = some i) (hz : i.zero = some (.int .u32 0)) (hsize : i.size = 1) (hby : i.bytes = 4)
    (v : Value) (cs : List Nat) (hs : a.eval s = v) (hown : Own w base e v cs) (y : Value) (d : Nat) (hy : y = .int .u32 (d : Int)) (hx : a.eval x = .slice (some ⟨w.heap.size, 0, none⟩) 1 1)
    (hlen : cs.length ≤ 1000000) (hbase : base ≤ w.heap.size)
    (h : ∀ v' w', Own w' base e v' (cs ++ [d]) → Below base w w' → wpList P ops Q rest (a.put o.dst v') w') : wpList P ops Q (o :: rest) a (w.alloc (.cells #[y] e)) := by
  refine wpList_append_own _ hgd s x t ho base e i (.int .u32 0) 1 4 ht hi hz hsize hby rfl (by decide) v cs.length (lv cs) hs (World.ownsRow.alloc hown _) ⟨w.heap.size, 0, none⟩ 1 1 [y] hx rfl (cell_one_new _ _ _) ?_ ?_ ?_ ?_ ?_
  · intro u hu
    rw [List.mem_singleton] at hu
    subst hu
    rw [hy]; rfl
  · unfold maxLen; omega
  · omega
  · simp; omega
  · intro v' w' h1 h2 _
    refine h v' w' ?_ ?_
    · show w'.ownsRow base e 1 v' (cs ++ [d]).length (lv (cs ++ [d]))
      rw [lv_snoc, List.length_append, ← hy]; exact h1
    · exact ((Below.refl base w).alloc hbase _).grown h2 (by simp; omega) (fun j hj => (World.ownsRow.lt hown j hj).1)

/-- The length in a slot that holds a slice: for a loop's measure. -/
def lenOf : Value → Nat | .slice _ n _ => n | _ => 0

/-- What a function of naturals hands back: a new row of limbs; nothing that was there has turned. -/
def Gives (x : List Nat) (w : World) (e : Ending) (w' : World) : Prop :=
  ∃ v', e = .returned v' ∧ Nt w' w.heap.size w'.heap.size v' x ∧ Below w.heap.size w w'

end Go.Proofs.YtchokmhfgikglaaGreatDoor

namespace Go.Proofs.YtchokmhfgikglaaGreatDoor
set_option maxRecDepth 100000
open Go.RowKit

theorem Tryz.info32 : (Tryz.prog.info? 122).map (fun i => (i.zero, i.size, i.bytes)) = some (some (.int .u32 0), 1, 4) := by kernel_rfl

/-- A call that leaves the world alone, inside a region that draws. -/
theorem quiet_of {P : Program} {f : FuncId} {args : Array Value} {w : World} {n : Nat} {v : Value} (h : Calls P f args (w.drewN n) fun e w' => e = .returned v ∧ w.drewN n = w') :
    Calls P f args (w.drewN n) fun e w'' => e = .returned v ∧ ∃ m, w'' = w.drewN m := h.mono fun _ _ ⟨he, hm⟩ => ⟨he, n, hm.symm⟩

/-- Is a row of limbs trimmed? -/
def cb (x : List Nat) : Bool := x.length == 0 || x.getD (x.length - 1) 0 != 0

theorem cb_iff (x : List Nat) : cb x = true ↔ Canon x := by
  unfold cb
  constructor
  · intro h
    refine canon_of_last ?_
    by_cases h0 : x.length = 0
    · exact .inl (List.eq_nil_of_length_eq_zero h0)
    · refine .inr ⟨by omega, ?_⟩
      have hb : (x.length == 0) = false := by simp; simpa using h0
      rw [hb, Bool.false_or, List.getD_eq_getElem?_getD, List.getElem?_eq_getElem (by omega)] at h
      simpa using h
  · intro hc
    by_cases h0 : x.length = 0
    · simp [h0]
    · have := hc x[x.length - 1] (x.take (x.length - 1)) (by
        have := List.take_append_drop (x.length - 1) x
        rw [List.drop_eq_getElem_cons (by omega)] at this
        have e : x.length - 1 + 1 = x.length := by omega
        rw [e, List.drop_length] at this
        exact this.symm)
      rw [List.getD_eq_getElem?_getD, List.getElem?_eq_getElem (by omega)]
      simp [this]

theorem cb_nil : cb [] = true := rfl
theorem cb_last {x : List Nat} (h : x.length - 1 < x.length) : cb x = (x[x.length - 1] != 0) := by
  unfold cb
  have hb : (x.length == 0) = false := by simp; rintro rfl; simp at h
  rw [hb, Bool.false_or, List.getD_eq_getElem?_getD, List.getElem?_eq_getElem h]
  rfl

set_option maxHeartbeats 800000 in
theorem is_any (v : Value) (x : List Nat) (L B : Nat) (w : World) (h : Nt w L B v x) :
    Calls Tryz.prog 163 #[v] w fun e w' => e = .returned (.bool (cb x)) ∧ w = w' := by
  obtain ⟨A, c, rfl, hc, hm, _, hx⟩ := h
  unfold maxLen at hm
  by_cases h0 : x.length = 0
  · have hz : ((x.length : Int) == 0) = true := by simp [h0]
    have e : cb x = true := by rw [List.eq_nil_of_length_eq_zero h0]; exact cb_nil
    have E := Lib.hid e
    clear e hx
    go_enter Tryz.func163, Tryz.ntmps163
    go_wp2
    go_ret
    exact ⟨by rw [E.out]; rfl, rfl⟩
  · have h1' : 1 ≤ x.length := by omega
    have hlt : x.length - 1 < x.length := by omega
    obtain ⟨b, off, rfl, _, _, hcell⟩ := hx h1'
    have hz : ((x.length : Int) == 0) = false := beq_false (by omega)
    have hc1 := hcell (x.length - 1) hlt
    have e : cb x = (x[x.length - 1] != 0) := cb_last hlt
    have E := Lib.hid e
    clear e hcell hx
    generalize x[x.length - 1] = y at *
    go_enter Tryz.func163, Tryz.ntmps163
    go_wp2
    go_ret
    exact ⟨by rw [E.out, ← bne_zero]; rfl, rfl⟩

set_option maxHeartbeats 800000 in
theorem trim_any (v : Value) (x : List Nat) (L B : Nat) (w : World) (hd : Dig x) (h : Nt w L B v x) :
    Calls Tryz.prog 102 #[v] w fun e w' => ∃ v', e = .returned v' ∧ Nt w L B v' (lim (val x)) ∧ w = w' := by
  obtain ⟨A, c, rfl, hc, hm, hA0, hx⟩ := h
  have hm' := hm
  unfold maxLen at hm
  go_enter Tryz.func102, Tryz.ntmps102
  go_wp2_with fail
  go_loop [0] (fun t => ∃ n, n ≤ x.length ∧ t = .slice A n c ∧ val (x.take n) = val x) (fun t => lenOf t)
  case atStart => exact ⟨_, Nat.le_refl _, rfl, by rw [List.take_length]⟩
  case round =>
    obtain ⟨n, hn, rfl, hv⟩ := hrel
    have hlen : (x.take n).length = n := by rw [List.length_take]; omega
    have hN : Nt w L B (.slice A n c) (x.take n) := ⟨A, c, by rw [hlen], by omega, hm', hA0, fun h0 => by
      rw [hlen] at h0
      obtain ⟨b, off, hA, hl, hb, hcell⟩ := hx (by omega)
      exact ⟨b, off, hA, hl, hb, fun j hj => by
        rw [hlen] at hj
        rw [hcell j (by omega)]
        simp⟩⟩
    by_cases hcn : cb (x.take n) = true
    · have HC := Lib.hid hcn
      have e : lim (val x) = x.take n := lim_val_take hd hv.symm ((cb_iff _).1 hcn)
      have E := Lib.hid e
      have V := Lib.hid hv
      clear hcn e hx hv
      go_wp2_with fail
      refine (is_any _ (x.take n) L B _ hN).mono ?_
      rintro e w1 ⟨rfl, rfl⟩
      rw [HC.out]
      clear hlen
      go_wp2
      go_ret
      exact ⟨_, rfl, by rw [E.out]; exact hN, rfl⟩
    · have hcf : cb (x.take n) = false := by simpa using hcn
      have HC := Lib.hid hcf
      have hn0 : 1 ≤ n := by
        rcases Nat.eq_zero_or_pos n with h0 | h0
        · subst h0; exact absurd cb_nil hcn
        · exact h0
      have hz : x[n - 1] = 0 := by
        have := cb_last (x := x.take n) (by omega)
        rw [hcf] at this
        simp [hlen] at this
        exact this
      have hv2 : val (x.take (n - 1)) = val x := by
        have := val_take_succ x (n - 1) (by omega)
        have e : n - 1 + 1 = n := by omega
        rw [e, hz, hv] at this
        omega
      have V := Lib.hid hv2
      clear hcn hcf hx hv hz hv2
      go_wp2_with fail
      refine (is_any _ (x.take n) L B _ hN).mono ?_
      rintro e w1 ⟨rfl, rfl⟩
      rw [HC.out]
      clear hlen hN
      go_wp2
      go_round
      case rel => exact ⟨n - 1, by omega, rfl, V.out⟩
      case measure => simp [lenOf]; omega

theorem limBd {x : List Nat} (hd : Dig x) : (lim (val x)).length ≤ x.length := lim_val_length x hd

set_option maxHeartbeats 800000 in
/-- 'slices.Clone': the same limbs in a new row. -/
theorem clone_any (v : Value) (x : List Nat) (w : World) (h : Nt w 0 w.heap.size v x) (hl : x.length ≤ 1000000) :
    Calls Tryz.prog 161 #[v] w (Gives x w) := by
  obtain ⟨i0, hi, hz0, hz1, hz2⟩ := info_parts Tryz.info32
  have hr := h.rd
  obtain ⟨A, c, rfl, hc, hm, hA0, hx⟩ := h
  have hll : (lv x).length = x.length := lv_length x
  have HL := Lib.hid hll
  have hk : (lv x).length ≤ 1000000 := by rw [hll]; exact hl
  clear hll
  have e1 := fun w => Lib.run_eql_slice_nil (P := Tryz.prog) w 58 122 A x.length c 0 0 Tryz.underlying58
  rcases A with _ | ad
  · have h0 : x = [] := by
      rcases Nat.eq_zero_or_pos x.length with h0 | h0
      · exact List.eq_nil_of_length_eq_zero h0
      · obtain ⟨b, off, hA, _⟩ := hx h0
        cases hA
    subst h0
    have hc0 := hA0 rfl
    subst hc0
    clear hx HL hk e1
    have e1 := fun w => Lib.run_eql_slice_nil (P := Tryz.prog) w 58 122 none 0 0 0 0 Tryz.underlying58
    go_enter Tryz.func161, Tryz.ntmps161
    go_wp2
    go_ret
    exact ⟨_, rfl, Nt.nil _ _ _, Below.refl _ _⟩
  · clear hx
    go_enter Tryz.func161, Tryz.ntmps161
    go_wp2_with (at_builtin; refine wpList_append_rd rfl _ _ 58 rfl w.heap.size 122 i0 (.int .u32 0) 4 Tryz.underlying58 hi hz0 hz1 hz2 rfl _ _ _ rfl (World.ownsRow_lit w #[] 0 (Nat.le_refl _) (by decide) rfl) w.heap.size _ _ rfl (hr.alloc (Nat.le_refl _) _) (lv_one x) ?c1 ?c2 ?c3 ?_)
    case c1 => unfold maxLen; omega
    case c2 => omega
    case c3 => simp
    intro u1 w2 hown1 hg1
    have hr2 : Nt w2 w.heap.size w2.heap.size u1 x := Nt.of_own hown1
    have hb2 : Below w.heap.size w w2 := ((Below.refl _ _).alloc (Nat.le_refl _) _).grown hg1 (by simp) (fun k hk => by simp [Value.ownBlock] at hk; omega)
    clear hown1 hg1 hi hz0 hz1 hz2 hr e1
    go_wp2
    go_ret
    exact ⟨_, rfl, hr2, hb2⟩

/-- 'Trim': a number's limbs, in a new row. -/
theorem Trim_any (v : Value) (x : List Nat) (w : World) (hd : Dig x) (h : Nt w 0 w.heap.size v x) (hl : x.length ≤ 1000000) :
    Calls Tryz.prog 99 #[v] w (Gives (lim (val x)) w) := by
  have hk := limBd hd
  go_enter Tryz.func99, Tryz.ntmps99
  go_wp2_with fail
  refine (trim_any _ x _ _ _ hd h).mono ?_
  rintro e w1 ⟨v1, rfl, h1, rfl⟩
  go_wp2_with fail
  refine (clone_any _ _ _ h1 (by omega)).mono ?_
  rintro e w2 ⟨v2, rfl, h2, hb⟩
  go_wp2_with fail
  go_ret
  exact ⟨_, rfl, h2, hb⟩

/-- Two rows of limbs held against each other. -/
def eqb (x y : List Nat) : Bool := decide (x = y)
/-- The first n limbs of a slice. -/
theorem nt_take {w : World} {L B n c : Nat} {A : Option Addr} {x : List Nat} (h : Nt w L B (.slice A x.length c) x) (hn : n ≤ x.length) (hc : x.length ≤ c) (hm : c ≤ maxLen) : Nt w L B (.slice A n c) (x.take n) := by
  obtain ⟨A', c', he, _, _, hA0, hx⟩ := h
  injection he with e1 e2 e3
  subst e1
  subst e3
  have hlen : (x.take n).length = n := by rw [List.length_take]; omega
  refine ⟨A, c, by rw [hlen], by omega, hm, hA0, fun h0 => ?_⟩
  rw [hlen] at h0
  obtain ⟨b, off, hA, hl, hb, hcell⟩ := hx (by omega)
  exact ⟨b, off, hA, hl, hb, fun j hj => by
    rw [hlen] at hj
    rw [hcell j (by omega)]
    simp⟩

theorem drop_last_zero {x : List Nat} {n : Nat} (hn : 1 ≤ n) (hl : n ≤ x.length) (hz : x[n - 1]'(by omega) = 0) (hv : val (x.take n) = val x) : val (x.take (n - 1)) = val x := by
  have := val_take_succ x (n - 1) (by omega)
  have e : n - 1 + 1 = n := by omega
  rw [e, hz, hv] at this
  omega

theorem canon_take {x : List Nat} {n : Nat} (hn : 1 ≤ n) (hl : n ≤ x.length) (hz : x[n - 1]'(by omega) ≠ 0) : Canon (x.take n) := by
  have hlen : (x.take n).length = n := by rw [List.length_take]; omega
  refine canon_of_last (.inr ⟨by omega, ?_⟩)
  simpa [hlen] using hz

set_option maxHeartbeats 1600000 in
theorem refTrim_any (v : Value) (x : List Nat) (w : World) (hd : Dig x) (h : Nt w 0 w.heap.size v x) (hl : x.length ≤ 1000000) :
    Calls Tryz.prog 94 #[v] w (Gives (lim (val x)) w) := by
  obtain ⟨i0, hi, hz0, hz1, hz2⟩ := info_parts Tryz.info32
  obtain ⟨A, c, rfl, hc, hm, hA0, hx⟩ := h
  have hN : Nt w 0 w.heap.size (.slice A x.length c) x := ⟨A, c, rfl, hc, hm, hA0, hx⟩
  have hm' := hm
  unfold maxLen at hm
  go_enter Tryz.func94, Tryz.ntmps94
  go_wp2_with fail
  go_loop [3] (fun t => ∃ n, n ≤ x.length ∧ t = .int .i64 (n : Nat) ∧ val (x.take n) = val x) (fun t => (intOf t).toNat)
  case atStart => exact ⟨_, Nat.le_refl _, rfl, by rw [List.take_length]⟩
  case round =>
    obtain ⟨n, hn, rfl, hv⟩ := hrel
    -- the end: what is left is a number's limbs
    have fin : Canon (x.take n) → Hid (lim (val x) = x.take n) := fun hcn => lim_val_take hd hv.symm hcn
    by_cases hn0 : n = 0
    · have E := fin (by subst hn0; simp; exact Canon.nil)
      have V := Lib.hid hv
      have hgt : ¬ (0 : Int) < (n : Int) := by omega
      clear hv fin hx hn0
      have hr := (nt_take hN hn hc hm').rd
      have hk : (lv (x.take n)).length ≤ 1000000 := by rw [lv_length, List.length_take]; omega
      generalize hy : x.take n = y at *
      clear hy hN hd
      go_wp2_with (at_builtin; refine wpList_append_rd rfl _ _ 58 rfl w.heap.size 122 i0 (.int .u32 0) 4 Tryz.underlying58 hi hz0 hz1 hz2 rfl _ _ _ rfl (World.ownsRow_lit w #[] 0 (Nat.le_refl _) (by decide) rfl) w.heap.size _ _ rfl (hr.alloc (Nat.le_refl _) _) (lv_one _) (by unfold maxLen; omega) (by omega) (by simp) ?_)
      intro u1 w2 hown1 hg1
      have hr2 : Nt w2 w.heap.size w2.heap.size u1 y := Nt.of_own hown1
      have hb2 : Below w.heap.size w w2 := ((Below.refl _ _).alloc (Nat.le_refl _) _).grown hg1 (by simp) (fun k hk => by simp [Value.ownBlock] at hk; omega)
      clear hown1 hg1 hi hz0 hz1 hz2 hr
      go_wp2
      go_ret
      exact ⟨_, rfl, by rw [E.out]; exact hr2, hb2⟩
    · have hn1 : 1 ≤ n := by omega
      have hlt : n - 1 < x.length := by omega
      obtain ⟨b, off, rfl, _, _, hcell⟩ := hx (by omega)
      have hc1 := hcell (n - 1) hlt
      clear hcell hx
      by_cases hz : x[n - 1] = 0
      · have V := Lib.hid (drop_last_zero hn1 hn hz hv)
        rw [hz] at hc1
        clear hv fin hz hN
        go_wp2_with fail
        go_round
        case rel => exact ⟨n - 1, by omega, by go_num, V.out⟩
        case measure => simp [intOf]; omega
      · have E := fin (canon_take hn1 hn hz)
        have V := Lib.hid hv
        have hzb : (((x[n - 1] : Nat) : Int) == 0) = false := beq_false (by omega)
        clear hv fin hz
        generalize x[n - 1] = p at *
        have hr := (nt_take hN hn hc hm').rd
        have hk : (lv (x.take n)).length ≤ 1000000 := by rw [lv_length, List.length_take]; omega
        generalize hy : x.take n = y at *
        clear hy hN hd
        go_wp2_with (at_builtin; refine wpList_append_rd rfl _ _ 58 rfl w.heap.size 122 i0 (.int .u32 0) 4 Tryz.underlying58 hi hz0 hz1 hz2 rfl _ _ _ rfl (World.ownsRow_lit w #[] 0 (Nat.le_refl _) (by decide) rfl) w.heap.size _ _ rfl (hr.alloc (Nat.le_refl _) _) (lv_one _) (by unfold maxLen; omega) (by omega) (by simp) ?_)
        intro u1 w2 hown1 hg1
        have hr2 : Nt w2 w.heap.size w2.heap.size u1 y := Nt.of_own hown1
        have hb2 : Below w.heap.size w w2 := ((Below.refl _ _).alloc (Nat.le_refl _) _).grown hg1 (by simp) (fun k hk => by simp [Value.ownBlock] at hk; omega)
        clear hown1 hg1 hi hz0 hz1 hz2 hr
        go_wp2
        go_ret
        exact ⟨_, rfl, by rw [E.out]; exact hr2, hb2⟩

theorem at_any (v : Value) (x : List Nat) (i : Nat) (w : World) (L B : Nat) (hd : Dig x) (h : Nt w L B v x) (hl : x.length ≤ 1000000) :
    Calls Tryz.prog 214 #[v, .int .i64 (i : Int)] w fun e w' => e = .returned (.int .u64 ((x.getD i 0 : Nat) : Int)) ∧ w = w' := by
  obtain ⟨A, c, rfl, hc, hm, hA0, hx⟩ := h
  by_cases hlt : i < x.length
  · obtain ⟨b, off, rfl, _, _, hcell⟩ := hx (by omega)
    have hc1 := hcell i hlt
    have hI : (i : Int) < (x.length : Int) := by omega
    have hdi := hd.at hlt
    have e : x.getD i 0 = x[i] := by rw [List.getD_eq_getElem?_getD, List.getElem?_eq_getElem hlt]; rfl
    have E := Lib.hid e
    clear e hcell hx
    generalize x[i] = y at *
    go_enter Tryz.func214, Tryz.ntmps214
    go_wp2
    go_ret
    exact ⟨by rw [E.out]; rfl, rfl⟩
  · have hI : ¬ (i : Int) < (x.length : Int) := by omega
    clear hx
    go_enter Tryz.func214, Tryz.ntmps214
    go_wp2
    go_ret
    exact ⟨rfl, rfl⟩
end Go.Proofs.YtchokmhfgikglaaGreatDoor

namespace Go.Proofs.YtchokmhfgikglaaGreatDoor
set_option maxRecDepth 100000
open Go.RowKit

/-- 'make([]uint32, z)'. -/
theorem make_limbs (n : Nat) (z : Int) (hz : z = (n : Int)) (hn : n ≤ 1000000) (w : World) :
    (Instr.makeSlice 58 (.int .i64 z) (.int .i64 z)).run Tryz.prog w = .ok (.slice (some ⟨w.heap.size, 0, none⟩) n n) (w.alloc (.cells (madeCells #[.int .u32 0] n) 122)) := by
  subst hz
  exact run_make_row' (P := Tryz.prog) 58 122 (.int .u32 0) 4 Tryz.underlying58 Tryz.info32 rfl .i64 .i64 n (by omega) (by omega) w

theorem limBd' {x : List Nat} (hd : Dig x) (n : Nat) (h : x.length ≤ n) : (lim (val x)).length ≤ n := Nat.le_trans (limBd hd) h

theorem getD_at {x : List Nat} {k : Nat} (h : k < x.length) : x.getD k 0 = x[k] := by rw [List.getD_eq_getElem?_getD, List.getElem?_eq_getElem h]; rfl
theorem getD_out {x : List Nat} {k : Nat} (h : ¬ k < x.length) : x.getD k 0 = 0 := by rw [List.getD_eq_getElem?_getD, List.getElem?_eq_none (by omega)]; rfl

/-- The row of the sum behind the last limb. -/
theorem add_final {p q cs : List Nat} {s k : Nat} (h : AddAt p q cs s k) (hp : p.length ≤ k) (hq : q.length ≤ k) (hl : cs.length = k + 1) : val (cs.set k s) = val p + val q := by
  have := addAt_end h hp hq (by omega)
  rw [List.take_of_length_le (by simp; omega)] at this
  exact this

/-! WALKS -/

set_option maxHeartbeats 1600000 in
theorem add_ge (u v : Value) (x y : List Nat) (w : World) (hdx : Dig x) (hdy : Dig y) (h : Nt w 0 w.heap.size u x) (h' : Nt w 0 w.heap.size v y) (hlx : x.length ≤ 100000) (hly : y.length ≤ 100000)
    (hcase : ¬ (lim (val x)).length < (lim (val y)).length) :
    Calls Tryz.prog 208 #[u, v] w (Gives (lim (val x + val y)) w) := by
  have hxl := limBd' hdx _ hlx
  have hyl := limBd' hdy _ hly
  have vx := val_lim (val x)
  have vy := val_lim (val y)
  have d1 := dig_lim (val x)
  have d2 := dig_lim (val y)
  have VS : Hid (lim (val x + val y) = lim (val (lim (val x)) + val (lim (val y)))) := by rw [vx, vy]; exact rfl
  clear vx vy
  go_enter Tryz.func208, Tryz.ntmps208
  go_wp2_with fail
  refine (trim_any _ x _ _ _ hdx h).mono ?_
  rintro e w1 ⟨v1, rfl, h1, rfl⟩
  go_wp2_with fail
  refine (trim_any _ y _ _ _ hdy h').mono ?_
  rintro e w1 ⟨v2, rfl, h2, rfl⟩
  generalize lim (val x) = p at *
  generalize lim (val y) = q at *
  clear h h' hdx hdy hlx hly
  obtain ⟨Ap, cp, rfl, hcp, hmp, _, hxp⟩ := h1
  obtain ⟨Aq, cq, rfl, hcq, hmq, _, hxq⟩ := h2
  have hdp : Dig p := by assumption
  have hdq : Dig q := by assumption
  clear d1 d2
  have hmk := make_limbs (p.length + 1) ((p.length : Int) + 1) (by omega) (by omega)
  go_wp2_with fail
  go_loopw [6, 7, 8, 26] (fun s _ _ i wr => ∃ (k t : Nat) (cs : List Nat), k ≤ p.length ∧ i = .int .i64 (k : Nat) ∧ s = .int .u64 (t : Nat) ∧ t ≤ 1 ∧ Dig cs ∧ Hid (cs.length = p.length + 1) ∧ AddAt p q cs t k ∧ Lb wr w.heap.size 122 cs ∧ Below w.heap.size w wr)
    (fun _ _ _ i _ => p.length - (intOf i).toNat)
  case atStart => exact ⟨0, 0, _, Nat.zero_le _, rfl, rfl, by omega, dig_zeros _, List.length_replicate, addAt_zero _ _ _, Lb.made w _ _, (Below.refl _ _).alloc (Nat.le_refl _) _⟩
  case round =>
    obtain ⟨k, t, cs, hk, rfl, rfl, ht, hdc, HL, hs, hB, hb⟩ := hrel
    have hcl : p.length + 1 ≤ cs.length ∧ cs.length ≤ p.length + 1 := by have := HL.out; omega
    by_cases hlt : k < p.length
    · have b1 := hdp.at hlt
      obtain ⟨ba, oa, rfl, _, hba, hcella⟩ := hxp (by omega)
      have hca := (hb.cell (p := ⟨ba, oa + k, none⟩) hba).trans (hcella k hlt)
      have HS := addAt_step hs (by omega : k < cs.length) (t := t + p.getD k 0 + q.getD k 0) rfl
      rw [getD_at hlt] at HS
      have hcc := hB.cell k (by omega)
      have hfr := hB.free k
      clear hs hcella
      by_cases hlq : k < q.length
      · obtain ⟨bb, ob, rfl, _, hbb, hcellb⟩ := hxq (by omega)
        have hcb := (hb.cell (p := ⟨bb, ob + k, none⟩) hbb).trans (hcellb k hlq)
        have b2 := hdq.at hlq
        rw [getD_at hlq] at HS
        have hd2 := hdc.set k ((t + p[k] + q[k]) % 4294967296) (Nat.mod_lt _ (by omega))
        have hB2 := hB.put k ((t + p[k] + q[k]) % 4294967296)
        have hb2 : Below w.heap.size w (wr.setCell ⟨w.heap.size, k, none⟩ (.int .u32 (((t + p[k] + q[k]) % 4294967296 : Nat) : Int))) := hb.setCell (Nat.le_refl _) _
        have HL2 : Hid ((cs.set k ((t + p[k] + q[k]) % 4294967296)).length = p.length + 1) := by have := HL.out; show _ = _; rw [List.length_set]; exact this
        have hq2 : (t + p[k] + q[k]) / 4294967296 ≤ 1 := by omega
        have ec : (((t + p[k] + q[k]) % 4294967296 : Nat) : Int) = ((t : Int) + p[k] + q[k]) % 4294967296 := by omega
        rw [ec] at hB2 hb2
        generalize cs.set k ((t + p[k] + q[k]) % 4294967296) = cs2 at *
        generalize cs[k] = old at *
        clear hdc hB hb hcellb HL hxp hxq hcl ec hmk
        generalize p[k] = pk at *
        generalize q[k] = qk at *
        go_wp2
        go_roundw
        case rel => exact ⟨k + 1, (t + pk + qk) / 4294967296, cs2, by omega, by go_num, by go_num, hq2, hd2, HL2, HS, hB2, hb2⟩
        case measure => simp [intOf]; omega
      · rw [getD_out hlq, Nat.add_zero] at HS
        have hd2 := hdc.set k ((t + p[k]) % 4294967296) (Nat.mod_lt _ (by omega))
        have hB2 := hB.put k ((t + p[k]) % 4294967296)
        have hb2 : Below w.heap.size w (wr.setCell ⟨w.heap.size, k, none⟩ (.int .u32 (((t + p[k]) % 4294967296 : Nat) : Int))) := hb.setCell (Nat.le_refl _) _
        have HL2 : Hid ((cs.set k ((t + p[k]) % 4294967296)).length = p.length + 1) := by have := HL.out; show _ = _; rw [List.length_set]; exact this
        have hq2 : (t + p[k]) / 4294967296 ≤ 1 := by omega
        have ec : (((t + p[k]) % 4294967296 : Nat) : Int) = ((t : Int) + p[k]) % 4294967296 := by omega
        rw [ec] at hB2 hb2
        generalize cs.set k ((t + p[k]) % 4294967296) = cs2 at *
        generalize cs[k] = old at *
        clear hdc hB hb HL hxp hxq hcl ec hmk
        generalize p[k] = pk at *
        go_wp2
        go_roundw
        case rel => exact ⟨k + 1, (t + pk) / 4294967296, cs2, by omega, by go_num, by go_num, hq2, hd2, HL2, HS, hB2, hb2⟩
        case measure => simp [intOf]; omega
    · obtain rfl : k = p.length := by omega
      have hv := add_final hs (Nat.le_refl _) (by omega) HL.out
      have hd2 := hdc.set p.length t (by omega)
      have hcc := hB.cell p.length (by omega)
      have hfr := hB.free p.length
      have hB2 := hB.put p.length t
      have hb2 : Below w.heap.size w (wr.setCell ⟨w.heap.size, p.length, none⟩ (.int .u32 (t : Int))) := hb.setCell (Nat.le_refl _) _
      have hl2 : (cs.set p.length t).length = p.length + 1 := by have := HL.out; rw [List.length_set]; exact this
      have hr := hB2.reads (n := p.length + 1) (by omega) (by unfold maxLen; omega)
      rw [hl2, List.take_of_length_le (by omega)] at hr
      have V := Lib.hid hv
      generalize cs.set p.length t = cs2 at *
      generalize cs[p.length] = old at *
      clear hs hdc HL hB hb hcl hv hB2 hxp hxq hmk
      go_wp2_with fail
      refine (trim_any _ cs2 _ _ _ hd2 hr).mono ?_
      rintro e w2 ⟨v3, rfl, h3, rfl⟩
      rw [V.out] at h3
      go_wp2
      go_ret
      refine ⟨_, rfl, ?_, hb2⟩
      rw [VS.out]
      exact h3

set_option maxHeartbeats 1600000 in
theorem add_lt (u v : Value) (x y : List Nat) (w : World) (hdx : Dig x) (hdy : Dig y) (h : Nt w 0 w.heap.size u x) (h' : Nt w 0 w.heap.size v y) (hlx : x.length ≤ 100000) (hly : y.length ≤ 100000)
    (hcase : (lim (val x)).length < (lim (val y)).length) :
    Calls Tryz.prog 208 #[u, v] w (Gives (lim (val x + val y)) w) := by
  have hxl := limBd' hdx _ hlx
  have hyl := limBd' hdy _ hly
  have vx := val_lim (val x)
  have vy := val_lim (val y)
  have d1 := dig_lim (val x)
  have d2 := dig_lim (val y)
  have VS : Hid (lim (val x + val y) = lim (val (lim (val x)) + val (lim (val y)))) := by rw [vx, vy]; exact rfl
  clear vx vy
  go_enter Tryz.func208, Tryz.ntmps208
  go_wp2_with fail
  refine (trim_any _ x _ _ _ hdx h).mono ?_
  rintro e w1 ⟨v1, rfl, h1, rfl⟩
  go_wp2_with fail
  refine (trim_any _ y _ _ _ hdy h').mono ?_
  rintro e w1 ⟨v2, rfl, h2, rfl⟩
  generalize lim (val x) = q at *
  generalize lim (val y) = p at *
  clear h h' hdx hdy hlx hly
  obtain ⟨Aq, cq, rfl, hcq, hmq, _, hxq⟩ := h1
  obtain ⟨Ap, cp, rfl, hcp, hmp, _, hxp⟩ := h2
  have hdp : Dig p := by assumption
  have hdq : Dig q := by assumption
  clear d1 d2
  have hmk := make_limbs (p.length + 1) ((p.length : Int) + 1) (by omega) (by omega)
  go_wp2_with fail
  go_loopw [6, 7, 8, 26] (fun s _ _ i wr => ∃ (k t : Nat) (cs : List Nat), k ≤ p.length ∧ i = .int .i64 (k : Nat) ∧ s = .int .u64 (t : Nat) ∧ t ≤ 1 ∧ Dig cs ∧ Hid (cs.length = p.length + 1) ∧ AddAt p q cs t k ∧ Lb wr w.heap.size 122 cs ∧ Below w.heap.size w wr)
    (fun _ _ _ i _ => p.length - (intOf i).toNat)
  case atStart => exact ⟨0, 0, _, Nat.zero_le _, rfl, rfl, by omega, dig_zeros _, List.length_replicate, addAt_zero _ _ _, Lb.made w _ _, (Below.refl _ _).alloc (Nat.le_refl _) _⟩
  case round =>
    obtain ⟨k, t, cs, hk, rfl, rfl, ht, hdc, HL, hs, hB, hb⟩ := hrel
    have hcl : p.length + 1 ≤ cs.length ∧ cs.length ≤ p.length + 1 := by have := HL.out; omega
    by_cases hlt : k < p.length
    · have b1 := hdp.at hlt
      obtain ⟨ba, oa, rfl, _, hba, hcella⟩ := hxp (by omega)
      have hca := (hb.cell (p := ⟨ba, oa + k, none⟩) hba).trans (hcella k hlt)
      have HS := addAt_step hs (by omega : k < cs.length) (t := t + p.getD k 0 + q.getD k 0) rfl
      rw [getD_at hlt] at HS
      have hcc := hB.cell k (by omega)
      have hfr := hB.free k
      clear hs hcella
      by_cases hlq : k < q.length
      · obtain ⟨bb, ob, rfl, _, hbb, hcellb⟩ := hxq (by omega)
        have hcb := (hb.cell (p := ⟨bb, ob + k, none⟩) hbb).trans (hcellb k hlq)
        have b2 := hdq.at hlq
        rw [getD_at hlq] at HS
        have hd2 := hdc.set k ((t + p[k] + q[k]) % 4294967296) (Nat.mod_lt _ (by omega))
        have hB2 := hB.put k ((t + p[k] + q[k]) % 4294967296)
        have hb2 : Below w.heap.size w (wr.setCell ⟨w.heap.size, k, none⟩ (.int .u32 (((t + p[k] + q[k]) % 4294967296 : Nat) : Int))) := hb.setCell (Nat.le_refl _) _
        have HL2 : Hid ((cs.set k ((t + p[k] + q[k]) % 4294967296)).length = p.length + 1) := by have := HL.out; show _ = _; rw [List.length_set]; exact this
        have hq2 : (t + p[k] + q[k]) / 4294967296 ≤ 1 := by omega
        have ec : (((t + p[k] + q[k]) % 4294967296 : Nat) : Int) = ((t : Int) + p[k] + q[k]) % 4294967296 := by omega
        rw [ec] at hB2 hb2
        generalize cs.set k ((t + p[k] + q[k]) % 4294967296) = cs2 at *
        generalize cs[k] = old at *
        clear hdc hB hb hcellb HL hxp hxq hcl ec hmk
        generalize p[k] = pk at *
        generalize q[k] = qk at *
        go_wp2
        go_roundw
        case rel => exact ⟨k + 1, (t + pk + qk) / 4294967296, cs2, by omega, by go_num, by go_num, hq2, hd2, HL2, HS, hB2, hb2⟩
        case measure => simp [intOf]; omega
      · rw [getD_out hlq, Nat.add_zero] at HS
        have hd2 := hdc.set k ((t + p[k]) % 4294967296) (Nat.mod_lt _ (by omega))
        have hB2 := hB.put k ((t + p[k]) % 4294967296)
        have hb2 : Below w.heap.size w (wr.setCell ⟨w.heap.size, k, none⟩ (.int .u32 (((t + p[k]) % 4294967296 : Nat) : Int))) := hb.setCell (Nat.le_refl _) _
        have HL2 : Hid ((cs.set k ((t + p[k]) % 4294967296)).length = p.length + 1) := by have := HL.out; show _ = _; rw [List.length_set]; exact this
        have hq2 : (t + p[k]) / 4294967296 ≤ 1 := by omega
        have ec : (((t + p[k]) % 4294967296 : Nat) : Int) = ((t : Int) + p[k]) % 4294967296 := by omega
        rw [ec] at hB2 hb2
        generalize cs.set k ((t + p[k]) % 4294967296) = cs2 at *
        generalize cs[k] = old at *
        clear hdc hB hb HL hxp hxq hcl ec hmk
        generalize p[k] = pk at *
        go_wp2
        go_roundw
        case rel => exact ⟨k + 1, (t + pk) / 4294967296, cs2, by omega, by go_num, by go_num, hq2, hd2, HL2, HS, hB2, hb2⟩
        case measure => simp [intOf]; omega
    · obtain rfl : k = p.length := by omega
      have hv := add_final hs (Nat.le_refl _) (by omega) HL.out
      have hd2 := hdc.set p.length t (by omega)
      have hcc := hB.cell p.length (by omega)
      have hfr := hB.free p.length
      have hB2 := hB.put p.length t
      have hb2 : Below w.heap.size w (wr.setCell ⟨w.heap.size, p.length, none⟩ (.int .u32 (t : Int))) := hb.setCell (Nat.le_refl _) _
      have hl2 : (cs.set p.length t).length = p.length + 1 := by have := HL.out; rw [List.length_set]; exact this
      have hr := hB2.reads (n := p.length + 1) (by omega) (by unfold maxLen; omega)
      rw [hl2, List.take_of_length_le (by omega)] at hr
      have V := Lib.hid hv
      generalize cs.set p.length t = cs2 at *
      generalize cs[p.length] = old at *
      clear hs hdc HL hB hb hcl hv hB2 hxp hxq hmk
      go_wp2_with fail
      refine (trim_any _ cs2 _ _ _ hd2 hr).mono ?_
      rintro e w2 ⟨v3, rfl, h3, rfl⟩
      rw [V.out] at h3
      go_wp2
      go_ret
      refine ⟨_, rfl, ?_, hb2⟩
      rw [VS.out]
      rw [Nat.add_comm (val q)]; exact h3

/-- 'Add': the sum's limbs, in a new row. -/
theorem add_any (u v : Value) (x y : List Nat) (w : World) (hdx : Dig x) (hdy : Dig y) (h : Nt w 0 w.heap.size u x) (h' : Nt w 0 w.heap.size v y) (hlx : x.length ≤ 100000) (hly : y.length ≤ 100000) :
    Calls Tryz.prog 208 #[u, v] w (Gives (lim (val x + val y)) w) := by
  by_cases hc : (lim (val x)).length < (lim (val y)).length
  · exact add_lt u v x y w hdx hdy h h' hlx hly hc
  · exact add_ge u v x y w hdx hdy h h' hlx hly hc
end Go.Proofs.YtchokmhfgikglaaGreatDoor
