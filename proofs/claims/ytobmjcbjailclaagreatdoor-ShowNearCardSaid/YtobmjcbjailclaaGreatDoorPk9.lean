/- Several texts in one: RefRatAdd. Condition: each says its own. -/
import Derived.Deep.CutRange
import Derived.Test.YtobmjcbjailclaaGreatDoorPk3
import Derived.Test.YtobmjcbjailclaaGreatDoorPk4
import Derived.Test.YtobmjcbjailclaaGreatDoorPk8
/- The reference's 'Add' of numbers with a divisor by its contract. Condition: a bound on lengths. -/
namespace Go.Proofs.YtobmjcbjailclaaGreatDoor
set_option maxRecDepth 100000
open Go.RowKit

theorem keep6 {w0 W W' : World} {g : Nat} {a0 a1 a2 b0 b1 b2 : Value} (hs : Below w0.heap.size w0 W ∧ W.cell? ⟨g, 0, none⟩ = some a0 ∧ W.cell? ⟨g, 1, none⟩ = some a1 ∧ W.cell? ⟨g, 2, none⟩ = some a2 ∧ W.cell? ⟨g + 1, 0, none⟩ = some b0 ∧ W.cell? ⟨g + 1, 1, none⟩ = some b1 ∧ W.cell? ⟨g + 1, 2, none⟩ = some b2)
    (hb : Below W.heap.size W W') (hg : g + 1 < w0.heap.size) :
    Below w0.heap.size w0 W' ∧ W'.cell? ⟨g, 0, none⟩ = some a0 ∧ W'.cell? ⟨g, 1, none⟩ = some a1 ∧ W'.cell? ⟨g, 2, none⟩ = some a2 ∧ W'.cell? ⟨g + 1, 0, none⟩ = some b0 ∧ W'.cell? ⟨g + 1, 1, none⟩ = some b1 ∧ W'.cell? ⟨g + 1, 2, none⟩ = some b2 := by
  obtain ⟨a, c1, c2, c3, c4, c5, c6⟩ := hs
  have hz := a.size
  have k1 : g < W.heap.size := by omega
  have k2 : g + 1 < W.heap.size := by omega
  exact ⟨a.trans (hb.mono hz), (hb.cell (p := ⟨g, 0, none⟩) k1).trans c1, (hb.cell (p := ⟨g, 1, none⟩) k1).trans c2, (hb.cell (p := ⟨g, 2, none⟩) k1).trans c3, (hb.cell (p := ⟨g + 1, 0, none⟩) k2).trans c4, (hb.cell (p := ⟨g + 1, 1, none⟩) k2).trans c5, (hb.cell (p := ⟨g + 1, 2, none⟩) k2).trans c6⟩

theorem keep6d {w0 W : World} {g : Nat} {a0 a1 a2 b0 b1 b2 : Value} (hs : Below w0.heap.size w0 W ∧ W.cell? ⟨g, 0, none⟩ = some a0 ∧ W.cell? ⟨g, 1, none⟩ = some a1 ∧ W.cell? ⟨g, 2, none⟩ = some a2 ∧ W.cell? ⟨g + 1, 0, none⟩ = some b0 ∧ W.cell? ⟨g + 1, 1, none⟩ = some b1 ∧ W.cell? ⟨g + 1, 2, none⟩ = some b2) : Below w0.heap.size w0 W.drew ∧ W.drew.cell? ⟨g, 0, none⟩ = some a0 ∧ W.drew.cell? ⟨g, 1, none⟩ = some a1 ∧ W.drew.cell? ⟨g, 2, none⟩ = some a2 ∧ W.drew.cell? ⟨g + 1, 0, none⟩ = some b0 ∧ W.drew.cell? ⟨g + 1, 1, none⟩ = some b1 ∧ W.drew.cell? ⟨g + 1, 2, none⟩ = some b2 := by
  obtain ⟨a, c1, c2, c3, c4, c5, c6⟩ := hs
  exact ⟨a.drew, c1, c2, c3, c4, c5, c6⟩

theorem below_undrew {w w' : World} (h : Below w.drew.heap.size w.drew w') : Below w.heap.size w w' := ⟨h.os, h.tape, h.output, h.size, h.block⟩

theorem keep6s {w0 W : World} {g b : Nat} {a0 a1 a2 b0 b1 b2 : Value} (hs : Below w0.heap.size w0 W ∧ W.cell? ⟨g, 0, none⟩ = some a0 ∧ W.cell? ⟨g, 1, none⟩ = some a1 ∧ W.cell? ⟨g, 2, none⟩ = some a2 ∧ W.cell? ⟨g + 1, 0, none⟩ = some b0 ∧ W.cell? ⟨g + 1, 1, none⟩ = some b1 ∧ W.cell? ⟨g + 1, 2, none⟩ = some b2)
    (hz : w0.heap.size ≤ b) (hg : g + 1 < w0.heap.size) (i : Nat) (u : Value) :
    Below w0.heap.size w0 (W.setCell ⟨b, i, none⟩ u) ∧ (W.setCell ⟨b, i, none⟩ u).cell? ⟨g, 0, none⟩ = some a0 ∧ (W.setCell ⟨b, i, none⟩ u).cell? ⟨g, 1, none⟩ = some a1 ∧ (W.setCell ⟨b, i, none⟩ u).cell? ⟨g, 2, none⟩ = some a2 ∧
      (W.setCell ⟨b, i, none⟩ u).cell? ⟨g + 1, 0, none⟩ = some b0 ∧ (W.setCell ⟨b, i, none⟩ u).cell? ⟨g + 1, 1, none⟩ = some b1 ∧ (W.setCell ⟨b, i, none⟩ u).cell? ⟨g + 1, 2, none⟩ = some b2 := by
  obtain ⟨a, c1, c2, c3, c4, c5, c6⟩ := hs
  have far : ∀ b' j : Nat, b' ≤ g + 1 → (W.setCell ⟨b, i, none⟩ u).cell? ⟨b', j, none⟩ = W.cell? ⟨b', j, none⟩ := fun b' j hb => World.cell?_setCell_far _ _ _ _ (by show b ≠ b'; omega)
  rw [far _ _ (by omega), far _ _ (by omega), far _ _ (by omega), far _ _ (by omega), far _ _ (by omega), far _ _ (by omega)]
  exact ⟨a.setCell hz _, c1, c2, c3, c4, c5, c6⟩

/-- A new variable of that type. -/
def Zr (w : World) (g : Nat) : Prop := Blk w g 25 #[.bool false, .slice none 0 0, .slice none 0 0]
theorem zr_one {X w' : World} (hb : Below (X.alloc (.cells #[.bool false, .slice none 0 0, .slice none 0 0] 25)).heap.size (X.alloc (.cells #[.bool false, .slice none 0 0, .slice none 0 0] 25)) w') : Zr w' X.heap.size := Blk.below (Blk.new X _ _) hb (by simp)
theorem zr_two {X w' : World} (hb : Below ((X.alloc (.cells #[.bool false, .slice none 0 0, .slice none 0 0] 25)).alloc (.cells #[.bool false, .slice none 0 0, .slice none 0 0] 25)).heap.size ((X.alloc (.cells #[.bool false, .slice none 0 0, .slice none 0 0] 25)).alloc (.cells #[.bool false, .slice none 0 0, .slice none 0 0] 25)) w') : Zr w' X.heap.size ∧ Zr w' (X.heap.size + 1) := by
  have e : (X.alloc (.cells #[.bool false, .slice none 0 0, .slice none 0 0] 25)).heap.size = X.heap.size + 1 := by simp
  have h2 := Blk.new (X.alloc (.cells #[.bool false, .slice none 0 0, .slice none 0 0] 25)) 25 #[.bool false, .slice none 0 0, .slice none 0 0]
  rw [e] at h2
  exact ⟨Blk.below ((Blk.new X _ _).alloc _) hb (by simp; omega), Blk.below h2 hb (by simp)⟩
theorem Zr.ne {w : World} {g : Nat} (h : Zr w g) : g ≠ w.heap.size := Nat.ne_of_lt (Blk.lt h)
theorem Zr.call0 {w w' : World} {g : Nat} (h : Zr w g) (hb : Below w.heap.size w w') : Zr w' g := Blk.below h hb (Blk.lt h)
theorem Zr.call1 {w w' : World} {g : Nat} {o : Obj} (h : Zr w g) (hb : Below (w.alloc o).heap.size (w.alloc o) w') : Zr w' g := Blk.below (Blk.alloc h o) hb (Blk.lt (Blk.alloc h o))
theorem Zr.facts {w : World} {g : Nat} (h : Zr w g) : w.cell? ⟨g, 0, none⟩ = some (.bool false) ∧ w.cell? ⟨g, 1, none⟩ = some (.slice none 0 0) ∧ w.cell? ⟨g, 2, none⟩ = some (.slice none 0 0) ∧ w.frozen? ⟨g, 0, none⟩ = false ∧ w.frozen? ⟨g, 1, none⟩ = false ∧ w.frozen? ⟨g, 2, none⟩ = false :=
  ⟨Blk.cell h 0, Blk.cell h 1, Blk.cell h 2, Blk.free h 0, Blk.free h 1, Blk.free h 2⟩

theorem Zr.more {w : World} {g : Nat} (h : Zr w g) (o : Obj) : (w.alloc o).cell? ⟨g, 0, none⟩ = some (.bool false) ∧ (w.alloc o).cell? ⟨g, 1, none⟩ = some (.slice none 0 0) ∧ (w.alloc o).cell? ⟨g, 2, none⟩ = some (.slice none 0 0) ∧
    (w.alloc o).frozen? ⟨g, 0, none⟩ = false ∧ (w.alloc o).frozen? ⟨g, 1, none⟩ = false ∧ (w.alloc o).frozen? ⟨g, 2, none⟩ = false :=
  Zr.facts (Blk.alloc h o)

/-- Two values that read as rows, in these blocks. -/
def NP (W : World) (L B : Nat) (u v : Value) (x y : List Nat) : Prop := Nt W L B u x ∧ Nt W L B v y
theorem NP.alloc {W : World} {L B : Nat} {u v : Value} {x y : List Nat} (h : NP W L B u v x y) (hB : B ≤ W.heap.size) (o : Obj) : NP (W.alloc o) L B u v x y := ⟨h.1.alloc hB o, h.2.alloc hB o⟩
theorem NP.below {W W' : World} {L B K : Nat} {u v : Value} {x y : List Nat} (h : NP W L B u v x y) (hb : Below K W W') (hB : B ≤ K) : NP W' L B u v x y := ⟨h.1.below hb hB, h.2.below hb hB⟩
theorem NP.set {W : World} {L B p : Nat} {u v : Value} {x y : List Nat} (h : NP W L B u v x y) (hp : p < L ∨ B ≤ p) (i : Nat) (a : Value) : NP (W.setCell ⟨p, i, none⟩ a) L B u v x y :=
  ⟨h.1.stay (Nat.le_refl _) (Nat.le_refl _) fun q h1 h2 => World.cell?_setCell_far _ _ _ _ (by show p ≠ q.block; omega), h.2.stay (Nat.le_refl _) (Nat.le_refl _) fun q h1 h2 => World.cell?_setCell_far _ _ _ _ (by show p ≠ q.block; omega)⟩

/-- What holds behind both calls, whatever variables are made and set. -/
def Q0 (w w2 w3 w4 : World) (k k' : Nat) (xn xd yn yd : Value) (n d m c : List Nat) (W : World) : Prop :=
  NP W (w2.heap.size + k) w3.heap.size xn xd n d ∧ NP W (w3.heap.size + k') w4.heap.size yn yd m c ∧ Blk W (w.heap.size + 1 + 1) 25 #[.bool false, .slice none 0 0, .slice none 0 0] ∧ Below w.heap.size w W ∧ w4.heap.size ≤ W.heap.size ∧ w3.heap.size ≤ w4.heap.size ∧ w.heap.size ≤ w4.heap.size

section
variable {w w2 w3 w4 W : World} {k k' : Nat} {xn xd yn yd : Value} {n d m c : List Nat}
theorem Q0.of (k k' : Nat) {L L' : Nat} (hx : Nt w3 L w3.heap.size xn n) (hd : Nt w3 L w3.heap.size xd d) (hL : w2.heap.size + k ≤ L) (hc : Below w3.heap.size w3 w4) (hy : Nt w4 L' w4.heap.size yn m) (hyd : Nt w4 L' w4.heap.size yd c) (hL' : w3.heap.size + k' ≤ L')
    (b2 : Blk w2 (w.heap.size + 1 + 1) 25 #[.bool false, .slice none 0 0, .slice none 0 0]) (hw : Below w2.heap.size w2 w4) (hB : Below w.heap.size w w2) : Q0 w w2 w3 w4 k k' xn xd yn yd n d m c w4 :=
  ⟨⟨(hx.low hL).below hc (Nat.le_refl _), (hd.low hL).below hc (Nat.le_refl _)⟩, ⟨hy.low hL', hyd.low hL'⟩, b2.below hw b2.lt, hB.trans (hw.mono hB.size), Nat.le_refl _, hc.size, Nat.le_trans hB.size hw.size⟩
theorem Q0.alloc (h : Q0 w w2 w3 w4 k k' xn xd yn yd n d m c W) (o : Obj) : Q0 w w2 w3 w4 k k' xn xd yn yd n d m c (W.alloc o) := by
  obtain ⟨a, b, e, f, g, i, j⟩ := h
  exact ⟨a.alloc (by omega) o, b.alloc g o, e.alloc o, f.alloc (by omega) o, by simp; omega, i, j⟩
theorem Q0.set (h : Q0 w w2 w3 w4 k k' xn xd yn yd n d m c W) {p : Nat} (hp : (p < w2.heap.size + k ∨ w3.heap.size ≤ p) ∧ (p < w3.heap.size + k' ∨ w4.heap.size ≤ p) ∧ w.heap.size + 2 < p) (i : Nat) (a : Value) : Q0 w w2 w3 w4 k k' xn xd yn yd n d m c (W.setCell ⟨p, i, none⟩ a) := by
  obtain ⟨q, b, e, f, g, r, j⟩ := h
  obtain ⟨h1, h2, h3⟩ := hp
  exact ⟨q.set h1 i a, b.set h2 i a, e.far (p := ⟨p, i, none⟩) (by show w.heap.size + 1 + 1 ≠ p; omega) a, f.setCell (p := ⟨p, i, none⟩) (by show w.heap.size ≤ p; omega) a, by simp [World.setCell]; exact g, r, j⟩
theorem Q0.fin (h : Q0 w w2 w3 w4 k k' xn xd yn yd n d m c W) {gx gy : Nat} (hx : w.heap.size + 2 < gx) (hy : w.heap.size + 2 < gy) : Nt W 0 W.heap.size xn n ∧ Nt W 0 W.heap.size xd d ∧ Nt W 0 W.heap.size yn m ∧ Nt W 0 W.heap.size yd c ∧ Blk W (w.heap.size + 1 + 1) 25 #[.bool false, .slice none 0 0, .slice none 0 0] ∧ (Below w.heap.size w W ∧ w.heap.size + 2 < gx ∧ w.heap.size + 2 < gy) := by
  obtain ⟨q, b, e, f, g, r, j⟩ := h
  exact ⟨(q.1.low (Nat.zero_le _)).up (by omega), (q.2.low (Nat.zero_le _)).up (by omega), (b.1.low (Nat.zero_le _)).up g, (b.2.low (Nat.zero_le _)).up g, e, f, hx, hy⟩
end

theorem blk_set3 {W : World} {g : Nat} {a b c : Value} (h : Zr W g) : Blk (((W.setCell ⟨g, 0, none⟩ a).setCell ⟨g, 1, none⟩ b).setCell ⟨g, 2, none⟩ c) g 25 #[a, b, c] := ((Blk.put h 0 a).put 1 b).put 2 c
theorem blk_far3 {W : World} {g p : Nat} {t : TypeId} {cs : Array Value} {a b c : Value} (h : Blk W g t cs) (hne : g ≠ p) : Blk (((W.setCell ⟨p, 0, none⟩ a).setCell ⟨p, 1, none⟩ b).setCell ⟨p, 2, none⟩ c) g t cs :=
  ((Blk.far h (p := ⟨p, 0, none⟩) hne a).far (p := ⟨p, 1, none⟩) hne b).far (p := ⟨p, 2, none⟩) hne c
theorem zr_far3 {W : World} {g p : Nat} {a b c : Value} (h : Zr W g) (hne : g ≠ p) : Zr (((W.setCell ⟨p, 0, none⟩ a).setCell ⟨p, 1, none⟩ b).setCell ⟨p, 2, none⟩ c) g := blk_far3 h hne
theorem zr_alloc {W : World} {g : Nat} {o : Obj} (h : Zr W g) : Zr (W.alloc o) g := Blk.alloc h o
theorem zr_new (W : World) : Zr (W.alloc (.cells #[.bool false, .slice none 0 0, .slice none 0 0] 25)) W.heap.size := Blk.new _ _ _
theorem blk_new1 (W : World) (o : Obj) (t : TypeId) (cs : Array Value) : Blk ((W.alloc o).alloc (.cells cs t)) (W.heap.size + 1) t cs := by
  have h := Blk.new (W.alloc o) t cs
  have e : (W.alloc o).heap.size = W.heap.size + 1 := by simp
  rw [e] at h
  exact h

/-- What the rest of the walk needs: two variables that hold the two numbers in lowest terms. -/
def R2 (w : World) (S T : Bool) (N D M C : Nat) (p q : Value) (wx : World) : Prop :=
  ∃ gx gy xn xd yn yd, p = .pointer (some ⟨gx, 0, none⟩) ∧ q = .pointer (some ⟨gy, 0, none⟩) ∧ Blk wx gx 25 #[.bool S, xn, xd] ∧ Blk wx gy 25 #[.bool T, yn, yd] ∧ Nt wx 0 wx.heap.size xn (lim N) ∧ Nt wx 0 wx.heap.size xd (lim D) ∧ Nt wx 0 wx.heap.size yn (lim M) ∧ Nt wx 0 wx.heap.size yd (lim C) ∧ Blk wx (w.heap.size + 1 + 1) 25 #[.bool false, .slice none 0 0, .slice none 0 0] ∧ (Below w.heap.size w wx ∧ w.heap.size + 2 < gx ∧ w.heap.size + 2 < gy)

section
variable {w w2 w3 w4 : World} {k k' : Nat} {xn xd yn yd : Value} {S T : Bool} {N D M C : Nat}
theorem r2_a (q : Q0 w w2 w3 w4 k k' xn xd yn yd (lim N) (lim D) (lim M) (lim C) w4) (hw : w.heap.size + 2 < w4.heap.size) : R2 w S T N D M C (.pointer (some ⟨w4.heap.size, 0, none⟩)) (.pointer (some ⟨w4.heap.size + 1, 0, none⟩)) ((w4.alloc (.cells #[.bool S, xn, xd] 25)).alloc (.cells #[.bool T, yn, yd] 25)) :=
  ⟨_, _, xn, xd, yn, yd, rfl, rfl, (Blk.new _ _ _).alloc _, blk_new1 _ _ _ _, ((q.alloc _).alloc _).fin hw (Nat.lt_succ_of_lt hw)⟩
theorem r2_b (q : Q0 w w2 w3 w4 k k' xn xd yn yd (lim N) (lim D) (lim M) (lim C) w4) (hw : w.heap.size + 2 < w4.heap.size) : R2 w S T N D M C (.pointer (some ⟨w4.heap.size + 1, 0, none⟩)) (.pointer (some ⟨w4.heap.size, 0, none⟩)) ((w4.alloc (.cells #[.bool T, yn, yd] 25)).alloc (.cells #[.bool S, xn, xd] 25)) :=
  ⟨_, _, xn, xd, yn, yd, rfl, rfl, blk_new1 _ _ _ _, (Blk.new _ _ _).alloc _, ((q.alloc _).alloc _).fin (Nat.lt_succ_of_lt hw) hw⟩
theorem r2_c {g : Nat} (q : Q0 w w2 w3 w4 k k' xn xd yn yd (lim N) (lim D) (lim M) (lim C) w4) (y : Zr w4 g) (hp : ((g < w2.heap.size + k ∨ w3.heap.size ≤ g) ∧ (g < w3.heap.size + k' ∨ w4.heap.size ≤ g) ∧ w.heap.size + 2 < g)) (hq : ((w4.heap.size < w2.heap.size + k ∨ w3.heap.size ≤ w4.heap.size) ∧ (w4.heap.size < w3.heap.size + k' ∨ w4.heap.size ≤ w4.heap.size) ∧ w.heap.size + 2 < w4.heap.size)) : R2 w S T N D M C (.pointer (some ⟨g, 0, none⟩)) (.pointer (some ⟨w4.heap.size, 0, none⟩)) (((((((w4.alloc (.cells #[.bool false, .slice none 0 0, .slice none 0 0] 25)).setCell ⟨g, 0, none⟩ (.bool S)).setCell ⟨g, 1, none⟩ xn).setCell ⟨g, 2, none⟩ xd).setCell ⟨w4.heap.size, 0, none⟩ (.bool T)).setCell ⟨w4.heap.size, 1, none⟩ yn).setCell ⟨w4.heap.size, 2, none⟩ yd) :=
  ⟨_, _, xn, xd, yn, yd, rfl, rfl, blk_far3 (blk_set3 (zr_alloc y)) y.ne, blk_set3 (zr_far3 (zr_new _) y.ne.symm), (((((((q.alloc _).set hp 0 _).set hp 1 _).set hp 2 _).set hq 0 _).set hq 1 _).set hq 2 _).fin hp.2.2 hq.2.2⟩
theorem r2_d {g h : Nat} (q : Q0 w w2 w3 w4 k k' xn xd yn yd (lim N) (lim D) (lim M) (lim C) w4) (y : Zr w4 g) (z : Zr w4 h) (hp : ((g < w2.heap.size + k ∨ w3.heap.size ≤ g) ∧ (g < w3.heap.size + k' ∨ w4.heap.size ≤ g) ∧ w.heap.size + 2 < g)) (hq : ((h < w2.heap.size + k ∨ w3.heap.size ≤ h) ∧ (h < w3.heap.size + k' ∨ w4.heap.size ≤ h) ∧ w.heap.size + 2 < h)) (hne : g ≠ h) : R2 w S T N D M C (.pointer (some ⟨g, 0, none⟩)) (.pointer (some ⟨h, 0, none⟩)) ((((((w4.setCell ⟨g, 0, none⟩ (.bool S)).setCell ⟨g, 1, none⟩ xn).setCell ⟨g, 2, none⟩ xd).setCell ⟨h, 0, none⟩ (.bool T)).setCell ⟨h, 1, none⟩ yn).setCell ⟨h, 2, none⟩ yd) :=
  ⟨_, _, xn, xd, yn, yd, rfl, rfl, blk_far3 (blk_set3 y) hne, blk_set3 (zr_far3 z hne.symm), ((((((q.set hp 0 _).set hp 1 _).set hp 2 _).set hq 0 _).set hq 1 _).set hq 2 _).fin hp.2.2 hq.2.2⟩
theorem r2_e {g : Nat} (q : Q0 w w2 w3 w4 k k' xn xd yn yd (lim N) (lim D) (lim M) (lim C) w4) (y : Zr w4 g) (hw : w.heap.size + 2 < w4.heap.size) (hp : ((g < w2.heap.size + k ∨ w3.heap.size ≤ g) ∧ (g < w3.heap.size + k' ∨ w4.heap.size ≤ g) ∧ w.heap.size + 2 < g)) : R2 w S T N D M C (.pointer (some ⟨w4.heap.size, 0, none⟩)) (.pointer (some ⟨g, 0, none⟩)) ((((w4.alloc (.cells #[.bool S, xn, xd] 25)).setCell ⟨g, 0, none⟩ (.bool T)).setCell ⟨g, 1, none⟩ yn).setCell ⟨g, 2, none⟩ yd) :=
  ⟨_, _, xn, xd, yn, yd, rfl, rfl, blk_far3 (Blk.new _ _ _) y.ne.symm, blk_set3 (zr_alloc y), ((((q.alloc _).set hp 0 _).set hp 1 _).set hp 2 _).fin hw hp.2.2⟩
end

theorem far_set3 {W : World} {p g i : Nat} {a b c v : Value} (h : W.cell? ⟨g, i, none⟩ = some v) (hne : p ≠ g) : (((W.setCell ⟨p, 0, none⟩ a).setCell ⟨p, 1, none⟩ b).setCell ⟨p, 2, none⟩ c).cell? ⟨g, i, none⟩ = some v := by
  rw [World.cell?_setCell_far _ _ _ _ (by exact hne), World.cell?_setCell_far _ _ _ _ (by exact hne), World.cell?_setCell_far _ _ _ _ (by exact hne)]
  exact h

theorem s4_of {w0 W : World} {g h : Nat} {a1 a2 b1 b2 : Value} (hb : Below w0.heap.size w0 W) (c1 : w0.cell? ⟨g, 1, none⟩ = some a1) (c2 : w0.cell? ⟨g, 2, none⟩ = some a2) (c3 : w0.cell? ⟨h, 1, none⟩ = some b1) (c4 : w0.cell? ⟨h, 2, none⟩ = some b2) (hg : g < w0.heap.size) (hh : h < w0.heap.size) :
    Below w0.heap.size w0 W ∧ W.cell? ⟨g, 1, none⟩ = some a1 ∧ W.cell? ⟨g, 2, none⟩ = some a2 ∧ W.cell? ⟨h, 1, none⟩ = some b1 ∧ W.cell? ⟨h, 2, none⟩ = some b2 :=
  ⟨hb, (hb.cell (p := ⟨g, 1, none⟩) hg).trans c1, (hb.cell (p := ⟨g, 2, none⟩) hg).trans c2, (hb.cell (p := ⟨h, 1, none⟩) hh).trans c3, (hb.cell (p := ⟨h, 2, none⟩) hh).trans c4⟩

theorem nrN_len {n : List Nat} {d k : Nat} (hd : Dig n) (hl : n.length ≤ k) : (lim (nrN (val n) d)).length ≤ k :=
  lim_length_le (Nat.lt_of_le_of_lt (nrN_le _ _) (Nat.lt_of_lt_of_le (val_lt hd) (Nat.pow_le_pow_right (by omega) hl)))
theorem nrD_len {d : List Nat} {n k : Nat} (hd : Dig d) (hl : d.length ≤ k) (hk : k ≠ 0) : (lim (nrD n (val d))).length ≤ k := by
  have h1 := Nat.lt_of_lt_of_le (val_lt hd) (Nat.pow_le_pow_right (by omega : 0 < 4294967296) hl)
  have h2 : 1 < 4294967296 ^ k := Nat.one_lt_pow hk (by omega)
  refine lim_length_le ?_
  have h3 : nrD n (val d) ≤ 4294967296 ^ k - 1 := nrD_le (Nat.le_sub_one_of_lt h1) (Nat.le_sub_one_of_lt h2)
  generalize 4294967296 ^ k = P at *
  omega

set_option maxHeartbeats 3200000 in
theorem ratAdd_any (u v : Value) (s t : Bool) (n d m c : List Nat) (w : World) (dn : Dig n) (dd : Dig d) (dm : Dig m) (dc : Dig c) (h : Rt w 0 w.heap.size u s n d) (h' : Rt w 0 w.heap.size v t m c)
    (ln : n.length ≤ 400) (ld : d.length ≤ 400) (lm : m.length ≤ 400) (lc : c.length ≤ 400) (S T : Bool) (N D M C : Nat) (hS : nrS s (val n) (val d) = S) (hN : nrN (val n) (val d) = N) (hD : nrD (val n) (val d) = D)
    (hT : nrS t (val m) (val c) = T) (hM : nrN (val m) (val c) = M) (hC : nrD (val m) (val c) = C) :
    Calls Tryz.prog 23 #[u, v] w (GivesT (nrS (addS S T (N * C) (M * D)) (addN S T (N * C) (M * D)) (D * C)) (nrN (addN S T (N * C) (M * D)) (D * C)) (nrD (addN S T (N * C) (M * D)) (D * C)) w) := by
  obtain ⟨vn, vd, rfl, hn, hd⟩ := h
  obtain ⟨vm, vc, rfl, hm, hc⟩ := h'
  have hS' := Lib.hid hS
  have hN' := Lib.hid hN
  have hD' := Lib.hid hD
  have hT' := Lib.hid hT
  have hM' := Lib.hid hM
  have hC' := Lib.hid hC
  have lN : (lim N).length ≤ 400 := by rw [← hN]; exact nrN_len dn ln
  have lM : (lim M).length ≤ 400 := by rw [← hM]; exact nrN_len dm lm
  have lD : (lim D).length ≤ 400 := by rw [← hD]; exact nrD_len dd ld (by omega)
  have lC : (lim C).length ≤ 400 := by rw [← hC]; exact nrD_len dc lc (by omega)
  clear hS hN hD hT hM hC
  go_enter Tryz.func23, Tryz.ntmps23
  go_wp2_with fail
  have b0 := ((Blk.new w 25 #[.bool s, vn, vd]).alloc (.cells #[.bool t, vm, vc] 25)).alloc (.cells #[.bool false, .slice none 0 0, .slice none 0 0] 25)
  have b1 := (Blk.new (w.alloc (.cells #[.bool s, vn, vd] 25)) 25 #[.bool t, vm, vc]).alloc (.cells #[.bool false, .slice none 0 0, .slice none 0 0] 25)
  have b2 := Blk.new ((w.alloc (.cells #[.bool s, vn, vd] 25)).alloc (.cells #[.bool t, vm, vc] 25)) 25 #[.bool false, .slice none 0 0, .slice none 0 0]
  have hB : Below w.heap.size w (((w.alloc (.cells #[.bool s, vn, vd] 25)).alloc (.cells #[.bool t, vm, vc] 25)).alloc (.cells #[.bool false, .slice none 0 0, .slice none 0 0] 25)) := (((Below.refl _ _).alloc (Nat.le_refl _) _).alloc (by simp) _).alloc (by simp; omega) _
  have es : (w.alloc (.cells #[.bool s, vn, vd] 25)).heap.size = w.heap.size + 1 := by simp
  have es2 : ((w.alloc (.cells #[.bool s, vn, vd] 25)).alloc (.cells #[.bool t, vm, vc] 25)).heap.size = w.heap.size + 1 + 1 := by simp
  rw [es] at b1
  rw [es2] at b2
  clear es es2
  generalize ((w.alloc (.cells #[.bool s, vn, vd] 25)).alloc (.cells #[.bool t, vm, vc] 25)).alloc (.cells #[.bool false, .slice none 0 0, .slice none 0 0] 25) = w2 at *
  have hn2 := hn.after hB
  have hd2 := hd.after hB
  have hm2 := hm.after hB
  have hc2 := hc.after hB
  clear hn hd hm hc
  go_cut [5, 6] from 14 to 17 (fun p q wx => R2 w S T N D M C p q wx)
  case first =>
    have c00 := b0.cell 0
    have c01 := b0.cell 1
    have c02 := b0.cell 2
    have c10 := b1.cell 0
    have c11 := b1.cell 1
    have c12 := b1.cell 2
    have hg := b1.lt
    have SW : Hid (w.heap.size + 2 < w2.heap.size) := b2.lt
    obtain ⟨An, k1, rfl, m1⟩ := nt_len hn2
    obtain ⟨Ad, k2, rfl, m2⟩ := nt_len hd2
    obtain ⟨Am, k3, rfl, m3⟩ := nt_len hm2
    obtain ⟨Ac, k4, rfl, m4⟩ := nt_len hc2
    have HS0 : Hid (Below w2.heap.size w2 w2 ∧ w2.cell? ⟨w.heap.size, 0, none⟩ = some (.bool s) ∧ w2.cell? ⟨w.heap.size, 1, none⟩ = some (.slice An n.length k1) ∧ w2.cell? ⟨w.heap.size, 2, none⟩ = some (.slice Ad d.length k2) ∧ w2.cell? ⟨w.heap.size + 1, 0, none⟩ = some (.bool t) ∧ w2.cell? ⟨w.heap.size + 1, 1, none⟩ = some (.slice Am m.length k3) ∧ w2.cell? ⟨w.heap.size + 1, 2, none⟩ = some (.slice Ac c.length k4)) := ⟨Below.refl _ _, c00, c01, c02, c10, c11, c12⟩
    have HS2 : Hid (Below w2.heap.size w2 w2.drew ∧ w2.drew.cell? ⟨w.heap.size, 0, none⟩ = some (.bool s) ∧ w2.drew.cell? ⟨w.heap.size, 1, none⟩ = some (.slice An n.length k1) ∧ w2.drew.cell? ⟨w.heap.size, 2, none⟩ = some (.slice Ad d.length k2) ∧ w2.drew.cell? ⟨w.heap.size + 1, 0, none⟩ = some (.bool t) ∧ w2.drew.cell? ⟨w.heap.size + 1, 1, none⟩ = some (.slice Am m.length k3) ∧ w2.drew.cell? ⟨w.heap.size + 1, 2, none⟩ = some (.slice Ac c.length k4)) := ⟨(Below.refl _ _).drew, c00, c01, c02, c10, c11, c12⟩
    go_region_held3 (fun W => Below w2.heap.size w2 W ∧ W.cell? ⟨w.heap.size, 0, none⟩ = some (.bool s) ∧ W.cell? ⟨w.heap.size, 1, none⟩ = some (.slice An n.length k1) ∧ W.cell? ⟨w.heap.size, 2, none⟩ = some (.slice Ad d.length k2) ∧ W.cell? ⟨w.heap.size + 1, 0, none⟩ = some (.bool t) ∧ W.cell? ⟨w.heap.size + 1, 1, none⟩ = some (.slice Am m.length k3) ∧ W.cell? ⟨w.heap.size + 1, 2, none⟩ = some (.slice Ac c.length k4))
      (first | ((repeat (with_reducible (first | exact HS4.out | exact HS3.out | exact HS2.out | exact HS0.out | refine keep6d ?_ | refine keep6s ?_ (by have h3 := SZ3.out; have h4 := SZ4.out; omega) hg _ _ | refine keep6 ?_ ((Below.refl _ _).alloc (Nat.le_refl _) _) hg))); done) | fail)
      (first
        | (have hz := z2; have hx := hk3; go_at_call 22; refine (ratNorm_any _ t m c _ dm dc ⟨_, _, rfl, hm2.after (And.left (by assumption)), hc2.after (And.left (by assumption))⟩ (by omega) (by omega)).mono ?_; rw [hT'.out, hM'.out, hC'.out]; rintro e w4 ⟨v4, rfl, ⟨yn, yd, rfl, hyn, hyd⟩, hb4⟩; have HS4 := Lib.hid (keep6 (by assumption) hb4 hg); have SZ4 := Lib.hid (Below.size (And.left HS4.out)); have hyn' := hyn; have hyd' := hyd; obtain ⟨A5, k5, rfl, m5⟩ := nt_len hyn'; obtain ⟨A6, k6, rfl, m6⟩ := nt_len hyd'; clear hyn' hyd'; have y1 := z1.call0 hb4; have y2 := z2.call0 hb4; obtain ⟨f10, f11, f12, f13, f14, f15⟩ := y1.facts; obtain ⟨f20, f21, f22, f23, f24, f25⟩ := y2.facts; have SY := Lib.hid (show w3.heap.size + 0 ≤ w4.heap.size from Nat.le_trans (by simp) hb4.size); have Q4 := Lib.hid (Q0.of 2 0 hxn hxd (by simp) hb4 hyn hyd (by simp) b2 (And.left HS4.out) hB); clear hxn hxd hyn hyd)
        | (have hz := z1; have hx := hk3; go_at_call 22; refine (ratNorm_any _ t m c _ dm dc ⟨_, _, rfl, hm2.after (And.left (by assumption)), hc2.after (And.left (by assumption))⟩ (by omega) (by omega)).mono ?_; rw [hT'.out, hM'.out, hC'.out]; rintro e w4 ⟨v4, rfl, ⟨yn, yd, rfl, hyn, hyd⟩, hb4⟩; have HS4 := Lib.hid (keep6 (by assumption) hb4 hg); have SZ4 := Lib.hid (Below.size (And.left HS4.out)); have hyn' := hyn; have hyd' := hyd; obtain ⟨A5, k5, rfl, m5⟩ := nt_len hyn'; obtain ⟨A6, k6, rfl, m6⟩ := nt_len hyd'; clear hyn' hyd'; refine (fun (hq : Below (World.heap (World.alloc w3 (.cells #[.bool false, .slice none 0 0, .slice none 0 0] 25))).size (World.alloc w3 (.cells #[.bool false, .slice none 0 0, .slice none 0 0] 25)) w4) => ?_) ?_; rotate_left; with_reducible assumption; have y1 := z1.call1 hq; have y2 := zr_one hq; obtain ⟨f10, f11, f12, f13, f14, f15⟩ := y1.facts; obtain ⟨f20, f21, f22, f23, f24, f25⟩ := y2.facts; have ne1 := z1.ne; have ne2 := ne1.symm; have SY := Lib.hid (show w3.heap.size + 1 ≤ w4.heap.size from Nat.le_trans (by simp) hb4.size); have Q4 := Lib.hid (Q0.of 1 1 hxn hxd (by simp) (((Below.refl w3.heap.size w3).alloc (Nat.le_refl _) (.cells #[.bool false, .slice none 0 0, .slice none 0 0] 25)).trans (hq.mono (by simp))) hyn hyd (by simp) b2 (And.left HS4.out) hB); clear hxn hxd hyn hyd)
        | (have hz := z1; have hx := hk3; go_at_call 22; refine (ratNorm_any _ t m c _ dm dc ⟨_, _, rfl, hm2.after (And.left (by assumption)), hc2.after (And.left (by assumption))⟩ (by omega) (by omega)).mono ?_; rw [hT'.out, hM'.out, hC'.out]; rintro e w4 ⟨v4, rfl, ⟨yn, yd, rfl, hyn, hyd⟩, hb4⟩; have HS4 := Lib.hid (keep6 (by assumption) hb4 hg); have SZ4 := Lib.hid (Below.size (And.left HS4.out)); have hyn' := hyn; have hyd' := hyd; obtain ⟨A5, k5, rfl, m5⟩ := nt_len hyn'; obtain ⟨A6, k6, rfl, m6⟩ := nt_len hyd'; clear hyn' hyd'; have y1 := z1.call0 hb4; obtain ⟨f10, f11, f12, f13, f14, f15⟩ := y1.facts; obtain ⟨ga0, ga1, ga2, ga3, ga4, ga5⟩ := y1.more (.cells #[.bool false, .slice none 0 0, .slice none 0 0] 25); obtain ⟨gb0, gb1, gb2, gb3, gb4, gb5⟩ := y1.more (.cells #[.bool S, .slice A7 (lim N).length k7, .slice A8 (lim D).length k8] 25); obtain ⟨gc0, gc1, gc2, gc3, gc4, gc5⟩ := y1.more (.cells #[.bool T, .slice A5 (lim M).length k5, .slice A6 (lim C).length k6] 25); have ne1 := y1.ne; have ne2 := ne1.symm; have SY := Lib.hid (show w3.heap.size + 0 ≤ w4.heap.size from Nat.le_trans (by simp) hb4.size); have Q4 := Lib.hid (Q0.of 1 0 hxn hxd (by simp) hb4 hyn hyd (by simp) b2 (And.left HS4.out) hB); clear hxn hxd hyn hyd)
        | (have hx := hk3; go_at_call 22; refine (ratNorm_any _ t m c _ dm dc ⟨_, _, rfl, hm2.after (And.left (by assumption)), hc2.after (And.left (by assumption))⟩ (by omega) (by omega)).mono ?_; rw [hT'.out, hM'.out, hC'.out]; rintro e w4 ⟨v4, rfl, ⟨yn, yd, rfl, hyn, hyd⟩, hb4⟩; have HS4 := Lib.hid (keep6 (by assumption) hb4 hg); have SZ4 := Lib.hid (Below.size (And.left HS4.out)); have hyn' := hyn; have hyd' := hyd; obtain ⟨A5, k5, rfl, m5⟩ := nt_len hyn'; obtain ⟨A6, k6, rfl, m6⟩ := nt_len hyd'; clear hyn' hyd'; refine (fun (hq : Below (World.heap (World.alloc (World.alloc w3 (.cells #[.bool false, .slice none 0 0, .slice none 0 0] 25)) (.cells #[.bool false, .slice none 0 0, .slice none 0 0] 25))).size (World.alloc (World.alloc w3 (.cells #[.bool false, .slice none 0 0, .slice none 0 0] 25)) (.cells #[.bool false, .slice none 0 0, .slice none 0 0] 25)) w4) => ?_) ?_; rotate_left; with_reducible assumption; obtain ⟨y1, y2⟩ := zr_two hq; obtain ⟨f10, f11, f12, f13, f14, f15⟩ := y1.facts; obtain ⟨f20, f21, f22, f23, f24, f25⟩ := y2.facts; have SY := Lib.hid (show w3.heap.size + 2 ≤ w4.heap.size from Nat.le_trans (by simp) hb4.size); have Q4 := Lib.hid (Q0.of 0 2 hxn hxd (by simp) ((((Below.refl w3.heap.size w3).alloc (Nat.le_refl _) (.cells #[.bool false, .slice none 0 0, .slice none 0 0] 25)).alloc (by simp) (.cells #[.bool false, .slice none 0 0, .slice none 0 0] 25)).trans (hq.mono (by simp; omega))) hyn hyd (by simp) b2 (And.left HS4.out) hB); clear hxn hxd hyn hyd)
        | (have hx := hk3; go_at_call 22; refine (ratNorm_any _ t m c _ dm dc ⟨_, _, rfl, hm2.after (And.left (by assumption)), hc2.after (And.left (by assumption))⟩ (by omega) (by omega)).mono ?_; rw [hT'.out, hM'.out, hC'.out]; rintro e w4 ⟨v4, rfl, ⟨yn, yd, rfl, hyn, hyd⟩, hb4⟩; have HS4 := Lib.hid (keep6 (by assumption) hb4 hg); have SZ4 := Lib.hid (Below.size (And.left HS4.out)); have hyn' := hyn; have hyd' := hyd; obtain ⟨A5, k5, rfl, m5⟩ := nt_len hyn'; obtain ⟨A6, k6, rfl, m6⟩ := nt_len hyd'; clear hyn' hyd'; refine (fun (hq : Below (World.heap (World.alloc w3 (.cells #[.bool false, .slice none 0 0, .slice none 0 0] 25))).size (World.alloc w3 (.cells #[.bool false, .slice none 0 0, .slice none 0 0] 25)) w4) => ?_) ?_; rotate_left; with_reducible assumption; have y1 := zr_one hq; obtain ⟨f10, f11, f12, f13, f14, f15⟩ := y1.facts; obtain ⟨ga0, ga1, ga2, ga3, ga4, ga5⟩ := y1.more (.cells #[.bool false, .slice none 0 0, .slice none 0 0] 25); obtain ⟨gb0, gb1, gb2, gb3, gb4, gb5⟩ := y1.more (.cells #[.bool S, .slice A7 (lim N).length k7, .slice A8 (lim D).length k8] 25); obtain ⟨gc0, gc1, gc2, gc3, gc4, gc5⟩ := y1.more (.cells #[.bool T, .slice A5 (lim M).length k5, .slice A6 (lim C).length k6] 25); have ne1 := y1.ne; have ne2 := ne1.symm; have SY := Lib.hid (show w3.heap.size + 1 ≤ w4.heap.size from Nat.le_trans (by simp) hb4.size); have Q4 := Lib.hid (Q0.of 0 1 hxn hxd (by simp) (((Below.refl w3.heap.size w3).alloc (Nat.le_refl _) (.cells #[.bool false, .slice none 0 0, .slice none 0 0] 25)).trans (hq.mono (by simp))) hyn hyd (by simp) b2 (And.left HS4.out) hB); clear hxn hxd hyn hyd)
        | (have hx := hk3; go_at_call 22; refine (ratNorm_any _ t m c _ dm dc ⟨_, _, rfl, hm2.after (And.left (by assumption)), hc2.after (And.left (by assumption))⟩ (by omega) (by omega)).mono ?_; rw [hT'.out, hM'.out, hC'.out]; rintro e w4 ⟨v4, rfl, ⟨yn, yd, rfl, hyn, hyd⟩, hb4⟩; have HS4 := Lib.hid (keep6 (by assumption) hb4 hg); have SZ4 := Lib.hid (Below.size (And.left HS4.out)); have hyn' := hyn; have hyd' := hyd; obtain ⟨A5, k5, rfl, m5⟩ := nt_len hyn'; obtain ⟨A6, k6, rfl, m6⟩ := nt_len hyd'; clear hyn' hyd'; have SY := Lib.hid (show w3.heap.size + 0 ≤ w4.heap.size from Nat.le_trans (by simp) hb4.size); have Q4 := Lib.hid (Q0.of 0 0 hxn hxd (by simp) hb4 hyn hyd (by simp) b2 (And.left HS4.out) hB); clear hxn hxd hyn hyd)
        | (go_at_call 22; refine (ratNorm_any _ s n d _ dn dd ⟨_, _, rfl, hn2.after (And.left (by assumption)), hd2.after (And.left (by assumption))⟩ (by omega) (by omega)).mono ?_; rw [hS'.out, hN'.out, hD'.out]; rintro e w3 ⟨v3, rfl, ⟨xn, xd, rfl, hxn, hxd⟩, hk3⟩; have HS3 := Lib.hid (keep6 (by assumption) hk3 hg); have SZ3 := Lib.hid (Below.size (And.left HS3.out)); have hxn' := hxn; have hxd' := hxd; obtain ⟨A7, k7, rfl, m7⟩ := nt_len hxn'; obtain ⟨A8, k8, rfl, m8⟩ := nt_len hxd'; clear hxn' hxd'; refine (fun (hq : Below (World.heap (World.drew (World.alloc (World.alloc w2 (.cells #[.bool false, .slice none 0 0, .slice none 0 0] 25)) (.cells #[.bool false, .slice none 0 0, .slice none 0 0] 25)))).size (World.drew (World.alloc (World.alloc w2 (.cells #[.bool false, .slice none 0 0, .slice none 0 0] 25)) (.cells #[.bool false, .slice none 0 0, .slice none 0 0] 25))) w3) => ?_) ?_; rotate_left; with_reducible assumption; obtain ⟨z1, z2⟩ := zr_two (below_undrew hq); have SX := Lib.hid (show w2.heap.size + 2 ≤ w3.heap.size from Nat.le_trans (by simp) hk3.size))
        | (go_at_call 22; refine (ratNorm_any _ s n d _ dn dd ⟨_, _, rfl, hn2.after (And.left (by assumption)), hd2.after (And.left (by assumption))⟩ (by omega) (by omega)).mono ?_; rw [hS'.out, hN'.out, hD'.out]; rintro e w3 ⟨v3, rfl, ⟨xn, xd, rfl, hxn, hxd⟩, hk3⟩; have HS3 := Lib.hid (keep6 (by assumption) hk3 hg); have SZ3 := Lib.hid (Below.size (And.left HS3.out)); have hxn' := hxn; have hxd' := hxd; obtain ⟨A7, k7, rfl, m7⟩ := nt_len hxn'; obtain ⟨A8, k8, rfl, m8⟩ := nt_len hxd'; clear hxn' hxd'; refine (fun (hq : Below (World.heap (World.drew (World.alloc w2 (.cells #[.bool false, .slice none 0 0, .slice none 0 0] 25)))).size (World.drew (World.alloc w2 (.cells #[.bool false, .slice none 0 0, .slice none 0 0] 25))) w3) => ?_) ?_; rotate_left; with_reducible assumption; have z1 := zr_one (below_undrew hq); have SX := Lib.hid (show w2.heap.size + 1 ≤ w3.heap.size from Nat.le_trans (by simp) hk3.size))
        | (go_at_call 22; refine (ratNorm_any _ s n d _ dn dd ⟨_, _, rfl, hn2.after (And.left (by assumption)), hd2.after (And.left (by assumption))⟩ (by omega) (by omega)).mono ?_; rw [hS'.out, hN'.out, hD'.out]; rintro e w3 ⟨v3, rfl, ⟨xn, xd, rfl, hxn, hxd⟩, hk3⟩; have HS3 := Lib.hid (keep6 (by assumption) hk3 hg); have SZ3 := Lib.hid (Below.size (And.left HS3.out)); have hxn' := hxn; have hxd' := hxd; obtain ⟨A7, k7, rfl, m7⟩ := nt_len hxn'; obtain ⟨A8, k8, rfl, m8⟩ := nt_len hxd'; clear hxn' hxd'; have SX := Lib.hid (show w2.heap.size + 0 ≤ w3.heap.size from Nat.le_trans (by simp) hk3.size))
        | fail)
    all_goals (go_wp2_with fail; go_meet)
    all_goals (have hx3 := SX.out; have hy4 := SY.out; have hw2 := SW.out)
    all_goals first
      | with_reducible exact r2_a Q4.out (by omega)
      | with_reducible exact r2_b Q4.out (by omega)
      | with_reducible exact r2_c Q4.out y1 (by omega) (by omega)
      | with_reducible exact r2_e Q4.out y1 (by omega) (by omega)
      | with_reducible exact r2_d Q4.out y1 y2 (by omega) (by omega) (by omega)
      | with_reducible exact r2_d Q4.out y2 y1 (by omega) (by omega) (by omega)
      | trace_state
  case rest =>
    obtain ⟨gx, gy, xn, xd, yn, yd, rfl, rfl, hgx, hgy, hxn, hxd, hyn, hyd, hres, hBc, hgx2, hgy2⟩ := hcut
    clear hB b0 b1 b2 hn2 hd2 hm2 hc2
    obtain ⟨A1, k1, rfl, m1⟩ := nt_len hxn
    obtain ⟨A2, k2, rfl, m2⟩ := nt_len hxd
    obtain ⟨A3, k3, rfl, m3⟩ := nt_len hyn
    obtain ⟨A4, k4, rfl, m4⟩ := nt_len hyd
    have x0 := hgx.cell 0
    have x1 := hgx.cell 1
    have x2 := hgx.cell 2
    have y0 := hgy.cell 0
    have y1 := hgy.cell 1
    have y2 := hgy.cell 2
    have kx := hgx.lt
    have ky := hgy.lt
    have dN := dig_lim N
    have dD := dig_lim D
    have dM := dig_lim M
    have dC := dig_lim C
    have hk0 : Below wc.heap.size wc wc.drew := (Below.refl _ _).drew
    have VP : Hid (val (lim N) * val (lim C) = N * C) := by show _ = _; rw [val_lim, val_lim]
    have VQ : Hid (val (lim M) * val (lim D) = M * D) := by show _ = _; rw [val_lim, val_lim]
    have VD : Hid (val (lim D) * val (lim C) = D * C) := by show _ = _; rw [val_lim, val_lim]
    go_wp2_with fail
    go_region_held3 (fun W => Below wc.heap.size wc W ∧ W.cell? ⟨gx, 1, none⟩ = some (.slice A1 (lim N).length k1) ∧ W.cell? ⟨gx, 2, none⟩ = some (.slice A2 (lim D).length k2) ∧ W.cell? ⟨gy, 1, none⟩ = some (.slice A3 (lim M).length k3) ∧ W.cell? ⟨gy, 2, none⟩ = some (.slice A4 (lim C).length k4))
      (first | exact s4_of hk8 x1 x2 y1 y2 kx ky | exact s4_of hk7 x1 x2 y1 y2 kx ky | exact s4_of hk0 x1 x2 y1 y2 kx ky | fail)
      (first
        | (have hx := hk7; go_at_call 36; refine (refMul_any _ _ (lim M) (lim D) _ dM dD (hyn.after hk7) (hxd.after hk7) (by omega) (by omega)).mono ?_; rw [VQ.out]; rintro e w8 ⟨v8, rfl, h8, hb8⟩; have hk8 : Below wc.heap.size wc w8 := hk7.trans (hb8.mono hk7.size))
        | (go_at_call 36; refine (refMul_any _ _ (lim N) (lim C) _ dN dC hxn.drew hyd.drew (by omega) (by omega)).mono ?_; rw [VP.out]; rintro e w7 ⟨v7, rfl, h7, hb7⟩; have hk7 : Below wc.heap.size wc w7 := Below.trans (Below.drew (Below.refl _ _)) hb7)
        | fail)
    replace h7 := (h7.low (Nat.zero_le _)).after hb8
    replace h8 := h8.low (Nat.zero_le _)
    go_wp2_with fail
    refine (refMul_any _ _ (lim D) (lim C) _ dD dC (hxd.after hk8) (hyd.after hk8) (by omega) (by omega)).mono ?_
    rw [VD.out]
    rintro e w9 ⟨v9, rfl, h9, hb9⟩
    have hk9 : Below wc.heap.size wc w9 := hk8.trans (hb9.mono hk8.size)
    replace h9 := h9.low (Nat.zero_le _)
    replace h7 := h7.after hb9
    replace h8 := h8.after hb9
    have kx9 : gx < w9.heap.size := Nat.lt_of_lt_of_le kx hk9.size
    have ky9 : gy < w9.heap.size := Nat.lt_of_lt_of_le ky hk9.size
    have nex : w.heap.size + 1 + 1 ≠ gx := Nat.ne_of_lt hgx2
    have ney : w.heap.size + 1 + 1 ≠ gy := Nat.ne_of_lt hgy2
    have x0' := (hk9.cell (p := ⟨gx, 0, none⟩) kx).trans x0
    have y0' := (hk9.cell (p := ⟨gy, 0, none⟩) ky).trans y0
    have res := hres.below hk9 hres.lt
    have hB9 := hBc.trans (hk9.mono hBc.size)
    have dP := dig_lim (N * C)
    have dQ := dig_lim (M * D)
    have dR := dig_lim (D * C)
    have lP : (lim (N * C)).length ≤ 800 := lim_mul_len dN dC (val_lim N).symm (val_lim C).symm lN lC
    have lQ : (lim (M * D)).length ≤ 800 := lim_mul_len dM dD (val_lim M).symm (val_lim D).symm lM lD
    have lR : (lim (D * C)).length ≤ 800 := lim_mul_len dD dC (val_lim D).symm (val_lim C).symm lD lC
    have WP := Lib.hid (val_lim (N * C))
    have WQ := Lib.hid (val_lim (M * D))
    have WR := Lib.hid (val_lim (D * C))
    clear hb7 hb8 hb9 hk7 hk8 hk0 x0 x1 x2 y0 y1 y2 hres hgx hgy hxn hxd hyn hyd hx VP VQ VD dN dD dM dC lN lM lD lC hBc hk9 kx ky
    generalize N * C = P at *
    generalize M * D = Q at *
    generalize D * C = R at *
    by_cases hST : S = T
    · subst hST
      have eS : addS S S P Q = S := if_pos rfl
      have eN : addN S S P Q = P + Q := if_pos rfl
      have ES := Lib.hid eS
      have EN := Lib.hid eN
      have hbe : (S == S) = true := beq_self_eq_true S
      have lS : (lim (P + Q)).length ≤ 801 := lim_add_len dP dQ (val_lim P).symm (val_lim Q).symm lP lQ
      clear eS eN
      go_wp2_with fail
      go_region_held3 (fun W => W.cell? ⟨gx, 0, none⟩ = some (.bool S))
        (first | exact far_set3 ((hk11.cell (p := ⟨gx, 0, none⟩) kx9).trans x0') nex | exact (hk11.cell (p := ⟨gx, 0, none⟩) kx9).trans x0' | exact (hk10.cell (p := ⟨gx, 0, none⟩) kx9).trans x0' | exact x0' | fail)
        (first
          | (have hx := hk10; go_at_call 21; refine (ratOf_any S _ _ (lim (P + Q)) (lim R) _ (dig_lim _) dR (h10.low (Nat.zero_le _)) (h9.after hk10) (by omega) (by omega)).mono ?_; rw [val_lim, WR.out]; rintro e w11 ⟨v11, rfl, ⟨an, ad, rfl, han, had⟩, hb11⟩; have han' := han; have had' := had; obtain ⟨A5, k5, rfl, m5⟩ := nt_len han'; obtain ⟨A6, k6, rfl, m6⟩ := nt_len had'; clear han' had'; have hk11 : Below w9.heap.size w9 w11 := hk10.trans (hb11.mono hk10.size); have q11 := res.below hk11 res.lt; have r0 := q11.cell 0; have r1 := q11.cell 1; have r2 := q11.cell 2; have f0 := q11.free 0; have f1 := q11.free 1; have f2 := q11.free 2)
          | (go_at_call 35; refine (refAdd_any _ _ (lim P) (lim Q) _ dP dQ h7.drew h8.drew (by omega) (by omega)).mono ?_; rw [WP.out, WQ.out]; rintro e w10 ⟨v10, rfl, h10, hb10⟩; have hk10 : Below w9.heap.size w9 w10 := Below.trans (Below.drew (Below.refl _ _)) hb10)
          | fail)
      have hB11 := hB9.trans (hk11.mono hB9.size)
      have hx2 := han.low (show w.heap.size + 1 + 1 + 1 ≤ _ from Nat.le_trans res.lt hk10.size)
      have hy2 := had.low (show w.heap.size + 1 + 1 + 1 ≤ _ from Nat.le_trans res.lt hk10.size)
      have p3 := ((q11.put 0 (.bool (nrS S (P + Q) R))).put 1 (.slice A5 (lim (nrN (P + Q) R)).length k5)).put 2 (.slice A6 (lim (nrD (P + Q) R)).length k6)
      have hBB := ((hB11.setCell (p := ⟨w.heap.size + 1 + 1, 0, none⟩) (by simp; omega) (.bool (nrS S (P + Q) R))).setCell (p := ⟨w.heap.size + 1 + 1, 1, none⟩) (by simp; omega) (.slice A5 (lim (nrN (P + Q) R)).length k5)).setCell (p := ⟨w.heap.size + 1 + 1, 2, none⟩) (by simp; omega) (.slice A6 (lim (nrD (P + Q) R)).length k6)
      have t6 := ((hx2.put3 (Nat.lt_succ_self _) 0 (.bool (nrS S (P + Q) R))).put3 (Nat.lt_succ_self _) 1 (.slice A5 (lim (nrN (P + Q) R)).length k5)).put3 (Nat.lt_succ_self _) 2 (.slice A6 (lim (nrD (P + Q) R)).length k6)
      have t7 := ((hy2.put3 (Nat.lt_succ_self _) 0 (.bool (nrS S (P + Q) R))).put3 (Nat.lt_succ_self _) 1 (.slice A5 (lim (nrN (P + Q) R)).length k5)).put3 (Nat.lt_succ_self _) 2 (.slice A6 (lim (nrD (P + Q) R)).length k6)
      go_wp2_with fail
      clear r0 r1 r2 f0 f1 f2 q11 hx2 hy2 han had
      generalize ((World.setCell w11 ⟨w.heap.size + 1 + 1, 0, none⟩ (.bool (nrS S (P + Q) R))).setCell ⟨w.heap.size + 1 + 1, 1, none⟩ (.slice A5 (lim (nrN (P + Q) R)).length k5)).setCell ⟨w.heap.size + 1 + 1, 2, none⟩ (.slice A6 (lim (nrD (P + Q) R)).length k6) = WW at *
      have e0 : WW.cell? ⟨w.heap.size + 1 + 1, 0, none⟩ = some (.bool (nrS S (P + Q) R)) := by rw [p3.cell]; rfl
      have e1 : WW.cell? ⟨w.heap.size + 1 + 1, 1, none⟩ = some (.slice A5 (lim (nrN (P + Q) R)).length k5) := by rw [p3.cell]; rfl
      have e2 : WW.cell? ⟨w.heap.size + 1 + 1, 2, none⟩ = some (.slice A6 (lim (nrD (P + Q) R)).length k6) := by rw [p3.cell]; rfl
      refine bodyPost_ret (v := .agg #[.bool (nrS S (P + Q) R), .slice A5 (lim (nrN (P + Q) R)).length k5, .slice A6 (lim (nrD (P + Q) R)).length k6]) ?_ rfl ⟨_, rfl, (by rw [ES.out, EN.out]; exact ⟨_, _, rfl, t6.low (by omega), t7.low (by omega)⟩), hBB⟩
      simp [results, Tryz.results23, go_sem, e0, e1, e2]
    · have hbe : (S == T) = false := beq_eq_false_iff_ne.2 hST
      by_cases hle : Q ≤ P
      · have eS : addS S T P Q = S := by unfold addS; rw [if_neg hST, if_pos hle]
        have eN : addN S T P Q = P - Q := by unfold addN; rw [if_neg hST, if_pos hle]
        have ES := Lib.hid eS
        have EN := Lib.hid eN
        have lS : (lim (P - Q)).length ≤ 800 := Nat.le_trans (lim_len_mono (Nat.sub_le _ _)) lP
        have hcz : 0 ≤ cmpN P Q := by have := cmpN_neg (m := P) (n := Q); omega
        have HCMP := Lib.hid (refCmp_any _ _ (lim P) (lim Q) _ dP dQ h7 h8 (by omega) (by omega))
        rw [WP.out, WQ.out] at HCMP
        generalize cmpN P Q = cz at *
        clear eS eN
        go_wp2_with fail
        refine HCMP.out.mono ?_
        rintro e w10 ⟨rfl, hb10⟩
        clear HCMP
        go_wp2_with fail
        refine (refSub_any _ _ (lim P) (lim Q) _ dP dQ (h7.after hb10) (h8.after hb10) (by omega) (by omega)).mono ?_
        rw [WP.out, WQ.out]
        rintro e w12 ⟨v12, rfl, h12, hb12⟩
        have hk12 := hb10.trans (hb12.mono hb10.size)
        replace h12 := h12.low (Nat.zero_le _)
        have c12 := (hk12.cell (p := ⟨gx, 0, none⟩) kx9).trans x0'
        have k12 : gx < w12.heap.size := Nat.lt_of_lt_of_le kx9 hk12.size
        have h9' := h9.after hk12
        have res' := res.below hk12 res.lt
        have hB12 := hB9.trans (hk12.mono hB9.size)
        clear h9 res hB9 hb10 hb12
        have h9 := h9'
        have res := res'
        have hB9 := hB12
        clear h9' res' hB12
        go_wp2_with fail
        refine (ratOf_any S _ _ (lim (P - Q)) (lim R) _ (dig_lim _) dR h12 h9 (by omega) (by omega)).mono ?_
        rw [val_lim, WR.out]
        rintro e w11 ⟨v11, rfl, ⟨an, ad, rfl, han, had⟩, hb11⟩
        have han' := han
        have had' := had
        obtain ⟨A5, k5, rfl, m5⟩ := nt_len han'
        obtain ⟨A6, k6, rfl, m6⟩ := nt_len had'
        clear han' had'
        have hk11 : Below w12.heap.size w12 w11 := hb11
        have q11 := res.below hk11 res.lt
        have r0 := q11.cell 0
        have r1 := q11.cell 1
        have r2 := q11.cell 2
        have f0 := q11.free 0
        have f1 := q11.free 1
        have f2 := q11.free 2
        have hB11 := hB9.trans (hk11.mono hB9.size)
        have hx2 := han.low (show w.heap.size + 1 + 1 + 1 ≤ _ from res.lt)
        have hy2 := had.low (show w.heap.size + 1 + 1 + 1 ≤ _ from res.lt)
        have p3 := ((q11.put 0 (.bool (nrS S (P - Q) R))).put 1 (.slice A5 (lim (nrN (P - Q) R)).length k5)).put 2 (.slice A6 (lim (nrD (P - Q) R)).length k6)
        have hBB := ((hB11.setCell (p := ⟨w.heap.size + 1 + 1, 0, none⟩) (by simp; omega) (.bool (nrS S (P - Q) R))).setCell (p := ⟨w.heap.size + 1 + 1, 1, none⟩) (by simp; omega) (.slice A5 (lim (nrN (P - Q) R)).length k5)).setCell (p := ⟨w.heap.size + 1 + 1, 2, none⟩) (by simp; omega) (.slice A6 (lim (nrD (P - Q) R)).length k6)
        have t6 := ((hx2.put3 (Nat.lt_succ_self _) 0 (.bool (nrS S (P - Q) R))).put3 (Nat.lt_succ_self _) 1 (.slice A5 (lim (nrN (P - Q) R)).length k5)).put3 (Nat.lt_succ_self _) 2 (.slice A6 (lim (nrD (P - Q) R)).length k6)
        have t7 := ((hy2.put3 (Nat.lt_succ_self _) 0 (.bool (nrS S (P - Q) R))).put3 (Nat.lt_succ_self _) 1 (.slice A5 (lim (nrN (P - Q) R)).length k5)).put3 (Nat.lt_succ_self _) 2 (.slice A6 (lim (nrD (P - Q) R)).length k6)
        go_wp2_with fail
        clear r0 r1 r2 f0 f1 f2 q11 hx2 hy2 han had
        generalize ((World.setCell w11 ⟨w.heap.size + 1 + 1, 0, none⟩ (.bool (nrS S (P - Q) R))).setCell ⟨w.heap.size + 1 + 1, 1, none⟩ (.slice A5 (lim (nrN (P - Q) R)).length k5)).setCell ⟨w.heap.size + 1 + 1, 2, none⟩ (.slice A6 (lim (nrD (P - Q) R)).length k6) = WW at *
        have e0 : WW.cell? ⟨w.heap.size + 1 + 1, 0, none⟩ = some (.bool (nrS S (P - Q) R)) := by rw [p3.cell]; rfl
        have e1 : WW.cell? ⟨w.heap.size + 1 + 1, 1, none⟩ = some (.slice A5 (lim (nrN (P - Q) R)).length k5) := by rw [p3.cell]; rfl
        have e2 : WW.cell? ⟨w.heap.size + 1 + 1, 2, none⟩ = some (.slice A6 (lim (nrD (P - Q) R)).length k6) := by rw [p3.cell]; rfl
        refine bodyPost_ret (v := .agg #[.bool (nrS S (P - Q) R), .slice A5 (lim (nrN (P - Q) R)).length k5, .slice A6 (lim (nrD (P - Q) R)).length k6]) ?_ rfl ⟨_, rfl, (by rw [ES.out, EN.out]; exact ⟨_, _, rfl, t6.low (by omega), t7.low (by omega)⟩), hBB⟩
        simp [results, Tryz.results23, go_sem, e0, e1, e2]
      · have eS : addS S T P Q = T := by unfold addS; rw [if_neg hST, if_neg hle]
        have eN : addN S T P Q = Q - P := by unfold addN; rw [if_neg hST, if_neg hle]
        have ES := Lib.hid eS
        have EN := Lib.hid eN
        have lS : (lim (Q - P)).length ≤ 800 := Nat.le_trans (lim_len_mono (Nat.sub_le _ _)) lQ
        have hcz : ¬ 0 ≤ cmpN P Q := by have := cmpN_neg (m := P) (n := Q); omega
        have HCMP := Lib.hid (refCmp_any _ _ (lim P) (lim Q) _ dP dQ h7 h8 (by omega) (by omega))
        rw [WP.out, WQ.out] at HCMP
        generalize cmpN P Q = cz at *
        clear eS eN
        go_wp2_with fail
        refine HCMP.out.mono ?_
        rintro e w10 ⟨rfl, hb10⟩
        clear HCMP
        go_wp2_with fail
        refine (refSub_any _ _ (lim Q) (lim P) _ dQ dP (h8.after hb10) (h7.after hb10) (by omega) (by omega)).mono ?_
        rw [WQ.out, WP.out]
        rintro e w12 ⟨v12, rfl, h12, hb12⟩
        have hk12 := hb10.trans (hb12.mono hb10.size)
        replace h12 := h12.low (Nat.zero_le _)
        have c12 := (hk12.cell (p := ⟨gy, 0, none⟩) ky9).trans y0'
        have k12 : gy < w12.heap.size := Nat.lt_of_lt_of_le ky9 hk12.size
        have h9' := h9.after hk12
        have res' := res.below hk12 res.lt
        have hB12 := hB9.trans (hk12.mono hB9.size)
        clear h9 res hB9 hb10 hb12
        have h9 := h9'
        have res := res'
        have hB9 := hB12
        clear h9' res' hB12
        go_wp2_with fail
        refine (ratOf_any T _ _ (lim (Q - P)) (lim R) _ (dig_lim _) dR h12 h9 (by omega) (by omega)).mono ?_
        rw [val_lim, WR.out]
        rintro e w11 ⟨v11, rfl, ⟨an, ad, rfl, han, had⟩, hb11⟩
        have han' := han
        have had' := had
        obtain ⟨A5, k5, rfl, m5⟩ := nt_len han'
        obtain ⟨A6, k6, rfl, m6⟩ := nt_len had'
        clear han' had'
        have hk11 : Below w12.heap.size w12 w11 := hb11
        have q11 := res.below hk11 res.lt
        have r0 := q11.cell 0
        have r1 := q11.cell 1
        have r2 := q11.cell 2
        have f0 := q11.free 0
        have f1 := q11.free 1
        have f2 := q11.free 2
        have hB11 := hB9.trans (hk11.mono hB9.size)
        have hx2 := han.low (show w.heap.size + 1 + 1 + 1 ≤ _ from res.lt)
        have hy2 := had.low (show w.heap.size + 1 + 1 + 1 ≤ _ from res.lt)
        have p3 := ((q11.put 0 (.bool (nrS T (Q - P) R))).put 1 (.slice A5 (lim (nrN (Q - P) R)).length k5)).put 2 (.slice A6 (lim (nrD (Q - P) R)).length k6)
        have hBB := ((hB11.setCell (p := ⟨w.heap.size + 1 + 1, 0, none⟩) (by simp; omega) (.bool (nrS T (Q - P) R))).setCell (p := ⟨w.heap.size + 1 + 1, 1, none⟩) (by simp; omega) (.slice A5 (lim (nrN (Q - P) R)).length k5)).setCell (p := ⟨w.heap.size + 1 + 1, 2, none⟩) (by simp; omega) (.slice A6 (lim (nrD (Q - P) R)).length k6)
        have t6 := ((hx2.put3 (Nat.lt_succ_self _) 0 (.bool (nrS T (Q - P) R))).put3 (Nat.lt_succ_self _) 1 (.slice A5 (lim (nrN (Q - P) R)).length k5)).put3 (Nat.lt_succ_self _) 2 (.slice A6 (lim (nrD (Q - P) R)).length k6)
        have t7 := ((hy2.put3 (Nat.lt_succ_self _) 0 (.bool (nrS T (Q - P) R))).put3 (Nat.lt_succ_self _) 1 (.slice A5 (lim (nrN (Q - P) R)).length k5)).put3 (Nat.lt_succ_self _) 2 (.slice A6 (lim (nrD (Q - P) R)).length k6)
        go_wp2_with fail
        clear r0 r1 r2 f0 f1 f2 q11 hx2 hy2 han had
        generalize ((World.setCell w11 ⟨w.heap.size + 1 + 1, 0, none⟩ (.bool (nrS T (Q - P) R))).setCell ⟨w.heap.size + 1 + 1, 1, none⟩ (.slice A5 (lim (nrN (Q - P) R)).length k5)).setCell ⟨w.heap.size + 1 + 1, 2, none⟩ (.slice A6 (lim (nrD (Q - P) R)).length k6) = WW at *
        have e0 : WW.cell? ⟨w.heap.size + 1 + 1, 0, none⟩ = some (.bool (nrS T (Q - P) R)) := by rw [p3.cell]; rfl
        have e1 : WW.cell? ⟨w.heap.size + 1 + 1, 1, none⟩ = some (.slice A5 (lim (nrN (Q - P) R)).length k5) := by rw [p3.cell]; rfl
        have e2 : WW.cell? ⟨w.heap.size + 1 + 1, 2, none⟩ = some (.slice A6 (lim (nrD (Q - P) R)).length k6) := by rw [p3.cell]; rfl
        refine bodyPost_ret (v := .agg #[.bool (nrS T (Q - P) R), .slice A5 (lim (nrN (Q - P) R)).length k5, .slice A6 (lim (nrD (Q - P) R)).length k6]) ?_ rfl ⟨_, rfl, (by rw [ES.out, EN.out]; exact ⟨_, _, rfl, t6.low (by omega), t7.low (by omega)⟩), hBB⟩
        simp [results, Tryz.results23, go_sem, e0, e1, e2]
end Go.Proofs.YtobmjcbjailclaaGreatDoor
