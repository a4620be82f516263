/- Several texts in one: RefRatAdd, RefRatCmp, RatC, RefInt, TopMem, PrQ. Condition: each says its own. -/
import Derived.Deep.CutRange
import Derived.Maps.AppendAt
import Derived.ArgAppend
import Derived.Deep.DeepAppendRoom
import Derived.Test.YtchokmhfgikglaaGreatDoorPk3
import Derived.Test.YtchokmhfgikglaaGreatDoorPk4
import Derived.Test.YtchokmhfgikglaaGreatDoorPk5
import Derived.Test.YtchokmhfgikglaaGreatDoorPk8
namespace Go.Proofs.YtchokmhfgikglaaGreatDoor
set_option maxRecDepth 100000
open Go.RowKit

theorem keep6 {w0 W W' : World} {g : Nat} {a0 a1 a2 b0 b1 b2 : Value} (hs : Below w0.heap.size w0 W ∧ W.cell? ⟨g, 0, none⟩ = some a0 ∧ W.cell? ⟨g, 1, none⟩ = some a1 ∧ W.cell? ⟨g, 2, none⟩ = some a2 ∧ W.cell? ⟨g + 1, 0, none⟩ = some b0 ∧ W.cell? ⟨g + 1, 1, none⟩ = some b1 ∧ W.cell? ⟨g + 1, 2, none⟩ = some b2)
    (hb : Below W.heap.size W W') (hg : g + 1 < w0.heap.size) :
    Below w0.heap.size w0 W' ∧ W'.cell? ⟨g, 0, none⟩ = some a0 ∧ W'.cell? ⟨g, 1, none⟩ = some a1 ∧ W'.cell? ⟨g, 2, none⟩ = some a2 ∧ W'.cell? ⟨g + 1, 0, none⟩ = some b0 ∧ W'.cell? ⟨g + 1, 1, none⟩ = some b1 ∧ W'.cell? ⟨g + 1, 2, none⟩ = some b2 := by
  obtain ⟨a, c1, c2, c3, c4, c5, c6⟩ := hs
  have hz := a.size
  have k1 : g < W.heap.size := by omega
  have k2 : g + 1 < W.heap.size := by omega
  exact ⟨a.trans (hb.mono hz), (hb.cell (p := ⟨g, 0, none⟩) k1).trans c1, (hb.cell (p := ⟨g, 1, none⟩) k1).trans c2, (hb.cell (p := ⟨g, 2, none⟩) k1).trans c3, (hb.cell (p := ⟨g + 1, 0, none⟩) k2).trans c4, (hb.cell (p := ⟨g + 1, 1, none⟩) k2).trans c5, (hb.cell (p := ⟨g + 1, 2, none⟩) k2).trans c6⟩

theorem keep6d {w0 W : World} {g : Nat} {a0 a1 a2 b0 b1 b2 : Value} (hs : Below w0.heap.size w0 W ∧ W.cell? ⟨g, 0, none⟩ = some a0 ∧ W.cell? ⟨g, 1, none⟩ = some a1 ∧ W.cell? ⟨g, 2, none⟩ = some a2 ∧ W.cell? ⟨g + 1, 0, none⟩ = some b0 ∧ W.cell? ⟨g + 1, 1, none⟩ = some b1 ∧ W.cell? ⟨g + 1, 2, none⟩ = some b2) : Below w0.heap.size w0 W.drew ∧ W.drew.cell? ⟨g, 0, none⟩ = some a0 ∧ W.drew.cell? ⟨g, 1, none⟩ = some a1 ∧ W.drew.cell? ⟨g, 2, none⟩ = some a2 ∧ W.drew.cell? ⟨g + 1, 0, none⟩ = some b0 ∧ W.drew.cell? ⟨g + 1, 1, none⟩ = some b1 ∧ W.drew.cell? ⟨g + 1, 2, none⟩ = some b2 := by
  obtain ⟨a, c1, c2, c3, c4, c5, c6⟩ := hs
  exact ⟨a.drew, c1, c2, c3, c4, c5, c6⟩

theorem below_undrew {w w' : World} (h : Below w.drew.heap.size w.drew w') : Below w.heap.size w w' := ⟨h.os, h.tape, h.output, h.size, h.block⟩

theorem keep6s {w0 W : World} {g b : Nat} {a0 a1 a2 b0 b1 b2 : Value} (hs : Below w0.heap.size w0 W ∧ W.cell? ⟨g, 0, none⟩ = some a0 ∧ W.cell? ⟨g, 1, none⟩ = some a1 ∧ W.cell? ⟨g, 2, none⟩ = some a2 ∧ W.cell? ⟨g + 1, 0, none⟩ = some b0 ∧ W.cell? ⟨g + 1, 1, none⟩ = some b1 ∧ W.cell? ⟨g + 1, 2, none⟩ = some b2)
    (hz : w0.heap.size ≤ b) (hg : g + 1 < w0.heap.size) (i : Nat) (u : Value) :
    Below w0.heap.size w0 (W.setCell ⟨b, i, none⟩ u) ∧ (W.setCell ⟨b, i, none⟩ u).cell? ⟨g, 0, none⟩ = some a0 ∧ (W.setCell ⟨b, i, none⟩ u).cell? ⟨g, 1, none⟩ = some a1 ∧ (W.setCell ⟨b, i, none⟩ u).cell? ⟨g, 2, none⟩ = some a2 ∧
      (W.setCell ⟨b, i, none⟩ u).cell? ⟨g + 1, 0, none⟩ = some b0 ∧ (W.setCell ⟨b, i, none⟩ u).cell? ⟨g + 1, 1, none⟩ = some b1 ∧ (W.setCell ⟨b, i, none⟩ u).cell? ⟨g + 1, 2, none⟩ = some b2 := by
  obtain ⟨a, c1, c2, c3, c4, c5, c6⟩ := hs
  have far : ∀ b' j : Nat, b' ≤ g + 1 → (W.setCell ⟨b, i, none⟩ u).cell? ⟨b', j, none⟩ = W.cell? ⟨b', j, none⟩ := fun b' j hb => World.cell?_setCell_far _ _ _ _ (by show b ≠ b'; omega)
  rw [far _ _ (by omega), far _ _ (by omega), far _ _ (by omega), far _ _ (by omega), far _ _ (by omega), far _ _ (by omega)]
  exact ⟨a.setCell hz _, c1, c2, c3, c4, c5, c6⟩

/-- A new variable of that type. -/
def Zr (w : World) (g : Nat) : Prop := Blk w g 60 #[.bool false, .slice none 0 0, .slice none 0 0]
theorem zr_one {X w' : World} (hb : Below (X.alloc (.cells #[.bool false, .slice none 0 0, .slice none 0 0] 60)).heap.size (X.alloc (.cells #[.bool false, .slice none 0 0, .slice none 0 0] 60)) w') : Zr w' X.heap.size := Blk.below (Blk.new X _ _) hb (by simp)
theorem zr_two {X w' : World} (hb : Below ((X.alloc (.cells #[.bool false, .slice none 0 0, .slice none 0 0] 60)).alloc (.cells #[.bool false, .slice none 0 0, .slice none 0 0] 60)).heap.size ((X.alloc (.cells #[.bool false, .slice none 0 0, .slice none 0 0] 60)).alloc (.cells #[.bool false, .slice none 0 0, .slice none 0 0] 60)) w') : Zr w' X.heap.size ∧ Zr w' (X.heap.size + 1) := by
  have e : (X.alloc (.cells #[.bool false, .slice none 0 0, .slice none 0 0] 60)).heap.size = X.heap.size + 1 := by simp
  have h2 := Blk.new (X.alloc (.cells #[.bool false, .slice none 0 0, .slice none 0 0] 60)) 60 #[.bool false, .slice none 0 0, .slice none 0 0]
  rw [e] at h2
  exact ⟨Blk.below ((Blk.new X _ _).alloc _) hb (by simp; omega), Blk.below h2 hb (by simp)⟩
theorem Zr.ne {w : World} {g : Nat} (h : Zr w g) : g ≠ w.heap.size := Nat.ne_of_lt (Blk.lt h)
theorem Zr.call0 {w w' : World} {g : Nat} (h : Zr w g) (hb : Below w.heap.size w w') : Zr w' g := Blk.below h hb (Blk.lt h)
theorem Zr.call1 {w w' : World} {g : Nat} {o : Obj} (h : Zr w g) (hb : Below (w.alloc o).heap.size (w.alloc o) w') : Zr w' g := Blk.below (Blk.alloc h o) hb (Blk.lt (Blk.alloc h o))
theorem Zr.facts {w : World} {g : Nat} (h : Zr w g) : w.cell? ⟨g, 0, none⟩ = some (.bool false) ∧ w.cell? ⟨g, 1, none⟩ = some (.slice none 0 0) ∧ w.cell? ⟨g, 2, none⟩ = some (.slice none 0 0) ∧ w.frozen? ⟨g, 0, none⟩ = false ∧ w.frozen? ⟨g, 1, none⟩ = false ∧ w.frozen? ⟨g, 2, none⟩ = false :=
  ⟨Blk.cell h 0, Blk.cell h 1, Blk.cell h 2, Blk.free h 0, Blk.free h 1, Blk.free h 2⟩

theorem Zr.more {w : World} {g : Nat} (h : Zr w g) (o : Obj) : (w.alloc o).cell? ⟨g, 0, none⟩ = some (.bool false) ∧ (w.alloc o).cell? ⟨g, 1, none⟩ = some (.slice none 0 0) ∧ (w.alloc o).cell? ⟨g, 2, none⟩ = some (.slice none 0 0) ∧
    (w.alloc o).frozen? ⟨g, 0, none⟩ = false ∧ (w.alloc o).frozen? ⟨g, 1, none⟩ = false ∧ (w.alloc o).frozen? ⟨g, 2, none⟩ = false :=
  Zr.facts (Blk.alloc h o)

/-- Two values that read as rows, in these blocks. -/
def NP (W : World) (L B : Nat) (u v : Value) (x y : List Nat) : Prop := Nt W L B u x ∧ Nt W L B v y
theorem NP.alloc {W : World} {L B : Nat} {u v : Value} {x y : List Nat} (h : NP W L B u v x y) (hB : B ≤ W.heap.size) (o : Obj) : NP (W.alloc o) L B u v x y := ⟨h.1.alloc hB o, h.2.alloc hB o⟩
theorem NP.below {W W' : World} {L B K : Nat} {u v : Value} {x y : List Nat} (h : NP W L B u v x y) (hb : Below K W W') (hB : B ≤ K) : NP W' L B u v x y := ⟨h.1.below hb hB, h.2.below hb hB⟩
theorem NP.set {W : World} {L B p : Nat} {u v : Value} {x y : List Nat} (h : NP W L B u v x y) (hp : p < L ∨ B ≤ p) (i : Nat) (a : Value) : NP (W.setCell ⟨p, i, none⟩ a) L B u v x y :=
  ⟨h.1.stay (Nat.le_refl _) (Nat.le_refl _) fun q h1 h2 => World.cell?_setCell_far _ _ _ _ (by show p ≠ q.block; omega), h.2.stay (Nat.le_refl _) (Nat.le_refl _) fun q h1 h2 => World.cell?_setCell_far _ _ _ _ (by show p ≠ q.block; omega)⟩

/-- What holds behind both calls, whatever variables are made and set. -/
def Q0 (w w2 w3 w4 : World) (k k' : Nat) (xn xd yn yd : Value) (n d m c : List Nat) (W : World) : Prop :=
  NP W (w2.heap.size + k) w3.heap.size xn xd n d ∧ NP W (w3.heap.size + k') w4.heap.size yn yd m c ∧ Blk W (w.heap.size + 1 + 1) 60 #[.bool false, .slice none 0 0, .slice none 0 0] ∧ Below w.heap.size w W ∧ w4.heap.size ≤ W.heap.size ∧ w3.heap.size ≤ w4.heap.size ∧ w.heap.size ≤ w4.heap.size

section
variable {w w2 w3 w4 W : World} {k k' : Nat} {xn xd yn yd : Value} {n d m c : List Nat}
theorem Q0.of (k k' : Nat) {L L' : Nat} (hx : Nt w3 L w3.heap.size xn n) (hd : Nt w3 L w3.heap.size xd d) (hL : w2.heap.size + k ≤ L) (hc : Below w3.heap.size w3 w4) (hy : Nt w4 L' w4.heap.size yn m) (hyd : Nt w4 L' w4.heap.size yd c) (hL' : w3.heap.size + k' ≤ L')
    (b2 : Blk w2 (w.heap.size + 1 + 1) 60 #[.bool false, .slice none 0 0, .slice none 0 0]) (hw : Below w2.heap.size w2 w4) (hB : Below w.heap.size w w2) : Q0 w w2 w3 w4 k k' xn xd yn yd n d m c w4 :=
  ⟨⟨(hx.low hL).below hc (Nat.le_refl _), (hd.low hL).below hc (Nat.le_refl _)⟩, ⟨hy.low hL', hyd.low hL'⟩, b2.below hw b2.lt, hB.trans (hw.mono hB.size), Nat.le_refl _, hc.size, Nat.le_trans hB.size hw.size⟩
theorem Q0.alloc (h : Q0 w w2 w3 w4 k k' xn xd yn yd n d m c W) (o : Obj) : Q0 w w2 w3 w4 k k' xn xd yn yd n d m c (W.alloc o) := by
  obtain ⟨a, b, e, f, g, i, j⟩ := h
  exact ⟨a.alloc (by omega) o, b.alloc g o, e.alloc o, f.alloc (by omega) o, by simp; omega, i, j⟩
theorem Q0.set (h : Q0 w w2 w3 w4 k k' xn xd yn yd n d m c W) {p : Nat} (hp : (p < w2.heap.size + k ∨ w3.heap.size ≤ p) ∧ (p < w3.heap.size + k' ∨ w4.heap.size ≤ p) ∧ w.heap.size + 2 < p) (i : Nat) (a : Value) : Q0 w w2 w3 w4 k k' xn xd yn yd n d m c (W.setCell ⟨p, i, none⟩ a) := by
  obtain ⟨q, b, e, f, g, r, j⟩ := h
  obtain ⟨h1, h2, h3⟩ := hp
  exact ⟨q.set h1 i a, b.set h2 i a, e.far (p := ⟨p, i, none⟩) (by show w.heap.size + 1 + 1 ≠ p; omega) a, f.setCell (p := ⟨p, i, none⟩) (by show w.heap.size ≤ p; omega) a, by simp [World.setCell]; exact g, r, j⟩
theorem Q0.fin (h : Q0 w w2 w3 w4 k k' xn xd yn yd n d m c W) {gx gy : Nat} (hx : w.heap.size + 2 < gx) (hy : w.heap.size + 2 < gy) : Nt W 0 W.heap.size xn n ∧ Nt W 0 W.heap.size xd d ∧ Nt W 0 W.heap.size yn m ∧ Nt W 0 W.heap.size yd c ∧ Blk W (w.heap.size + 1 + 1) 60 #[.bool false, .slice none 0 0, .slice none 0 0] ∧ (Below w.heap.size w W ∧ w.heap.size + 2 < gx ∧ w.heap.size + 2 < gy) := by
  obtain ⟨q, b, e, f, g, r, j⟩ := h
  exact ⟨(q.1.low (Nat.zero_le _)).up (by omega), (q.2.low (Nat.zero_le _)).up (by omega), (b.1.low (Nat.zero_le _)).up g, (b.2.low (Nat.zero_le _)).up g, e, f, hx, hy⟩
end

theorem blk_set3 {W : World} {g : Nat} {a b c : Value} (h : Zr W g) : Blk (((W.setCell ⟨g, 0, none⟩ a).setCell ⟨g, 1, none⟩ b).setCell ⟨g, 2, none⟩ c) g 60 #[a, b, c] := ((Blk.put h 0 a).put 1 b).put 2 c
theorem blk_far3 {W : World} {g p : Nat} {t : TypeId} {cs : Array Value} {a b c : Value} (h : Blk W g t cs) (hne : g ≠ p) : Blk (((W.setCell ⟨p, 0, none⟩ a).setCell ⟨p, 1, none⟩ b).setCell ⟨p, 2, none⟩ c) g t cs :=
  ((Blk.far h (p := ⟨p, 0, none⟩) hne a).far (p := ⟨p, 1, none⟩) hne b).far (p := ⟨p, 2, none⟩) hne c
theorem zr_far3 {W : World} {g p : Nat} {a b c : Value} (h : Zr W g) (hne : g ≠ p) : Zr (((W.setCell ⟨p, 0, none⟩ a).setCell ⟨p, 1, none⟩ b).setCell ⟨p, 2, none⟩ c) g := blk_far3 h hne
theorem zr_alloc {W : World} {g : Nat} {o : Obj} (h : Zr W g) : Zr (W.alloc o) g := Blk.alloc h o
theorem zr_new (W : World) : Zr (W.alloc (.cells #[.bool false, .slice none 0 0, .slice none 0 0] 60)) W.heap.size := Blk.new _ _ _
theorem blk_new1 (W : World) (o : Obj) (t : TypeId) (cs : Array Value) : Blk ((W.alloc o).alloc (.cells cs t)) (W.heap.size + 1) t cs := by
  have h := Blk.new (W.alloc o) t cs
  have e : (W.alloc o).heap.size = W.heap.size + 1 := by simp
  rw [e] at h
  exact h

/-- What the rest of the walk needs: two variables that hold the two numbers in lowest terms. -/
def R2 (w : World) (S T : Bool) (N D M C : Nat) (p q : Value) (wx : World) : Prop :=
  ∃ gx gy xn xd yn yd, p = .pointer (some ⟨gx, 0, none⟩) ∧ q = .pointer (some ⟨gy, 0, none⟩) ∧ Blk wx gx 60 #[.bool S, xn, xd] ∧ Blk wx gy 60 #[.bool T, yn, yd] ∧ Nt wx 0 wx.heap.size xn (lim N) ∧ Nt wx 0 wx.heap.size xd (lim D) ∧ Nt wx 0 wx.heap.size yn (lim M) ∧ Nt wx 0 wx.heap.size yd (lim C) ∧ Blk wx (w.heap.size + 1 + 1) 60 #[.bool false, .slice none 0 0, .slice none 0 0] ∧ (Below w.heap.size w wx ∧ w.heap.size + 2 < gx ∧ w.heap.size + 2 < gy)

section
variable {w w2 w3 w4 : World} {k k' : Nat} {xn xd yn yd : Value} {S T : Bool} {N D M C : Nat}
theorem r2_a (q : Q0 w w2 w3 w4 k k' xn xd yn yd (lim N) (lim D) (lim M) (lim C) w4) (hw : w.heap.size + 2 < w4.heap.size) : R2 w S T N D M C (.pointer (some ⟨w4.heap.size, 0, none⟩)) (.pointer (some ⟨w4.heap.size + 1, 0, none⟩)) ((w4.alloc (.cells #[.bool S, xn, xd] 60)).alloc (.cells #[.bool T, yn, yd] 60)) :=
  ⟨_, _, xn, xd, yn, yd, rfl, rfl, (Blk.new _ _ _).alloc _, blk_new1 _ _ _ _, ((q.alloc _).alloc _).fin hw (Nat.lt_succ_of_lt hw)⟩
theorem r2_b (q : Q0 w w2 w3 w4 k k' xn xd yn yd (lim N) (lim D) (lim M) (lim C) w4) (hw : w.heap.size + 2 < w4.heap.size) : R2 w S T N D M C (.pointer (some ⟨w4.heap.size + 1, 0, none⟩)) (.pointer (some ⟨w4.heap.size, 0, none⟩)) ((w4.alloc (.cells #[.bool T, yn, yd] 60)).alloc (.cells #[.bool S, xn, xd] 60)) :=
  ⟨_, _, xn, xd, yn, yd, rfl, rfl, blk_new1 _ _ _ _, (Blk.new _ _ _).alloc _, ((q.alloc _).alloc _).fin (Nat.lt_succ_of_lt hw) hw⟩
theorem r2_c {g : Nat} (q : Q0 w w2 w3 w4 k k' xn xd yn yd (lim N) (lim D) (lim M) (lim C) w4) (y : Zr w4 g) (hp : ((g < w2.heap.size + k ∨ w3.heap.size ≤ g) ∧ (g < w3.heap.size + k' ∨ w4.heap.size ≤ g) ∧ w.heap.size + 2 < g)) (hq : ((w4.heap.size < w2.heap.size + k ∨ w3.heap.size ≤ w4.heap.size) ∧ (w4.heap.size < w3.heap.size + k' ∨ w4.heap.size ≤ w4.heap.size) ∧ w.heap.size + 2 < w4.heap.size)) : R2 w S T N D M C (.pointer (some ⟨g, 0, none⟩)) (.pointer (some ⟨w4.heap.size, 0, none⟩)) (((((((w4.alloc (.cells #[.bool false, .slice none 0 0, .slice none 0 0] 60)).setCell ⟨g, 0, none⟩ (.bool S)).setCell ⟨g, 1, none⟩ xn).setCell ⟨g, 2, none⟩ xd).setCell ⟨w4.heap.size, 0, none⟩ (.bool T)).setCell ⟨w4.heap.size, 1, none⟩ yn).setCell ⟨w4.heap.size, 2, none⟩ yd) :=
  ⟨_, _, xn, xd, yn, yd, rfl, rfl, blk_far3 (blk_set3 (zr_alloc y)) y.ne, blk_set3 (zr_far3 (zr_new _) y.ne.symm), (((((((q.alloc _).set hp 0 _).set hp 1 _).set hp 2 _).set hq 0 _).set hq 1 _).set hq 2 _).fin hp.2.2 hq.2.2⟩
theorem r2_d {g h : Nat} (q : Q0 w w2 w3 w4 k k' xn xd yn yd (lim N) (lim D) (lim M) (lim C) w4) (y : Zr w4 g) (z : Zr w4 h) (hp : ((g < w2.heap.size + k ∨ w3.heap.size ≤ g) ∧ (g < w3.heap.size + k' ∨ w4.heap.size ≤ g) ∧ w.heap.size + 2 < g)) (hq : ((h < w2.heap.size + k ∨ w3.heap.size ≤ h) ∧ (h < w3.heap.size + k' ∨ w4.heap.size ≤ h) ∧ w.heap.size + 2 < h)) (hne : g ≠ h) : R2 w S T N D M C (.pointer (some ⟨g, 0, none⟩)) (.pointer (some ⟨h, 0, none⟩)) ((((((w4.setCell ⟨g, 0, none⟩ (.bool S)).setCell ⟨g, 1, none⟩ xn).setCell ⟨g, 2, none⟩ xd).setCell ⟨h, 0, none⟩ (.bool T)).setCell ⟨h, 1, none⟩ yn).setCell ⟨h, 2, none⟩ yd) :=
  ⟨_, _, xn, xd, yn, yd, rfl, rfl, blk_far3 (blk_set3 y) hne, blk_set3 (zr_far3 z hne.symm), ((((((q.set hp 0 _).set hp 1 _).set hp 2 _).set hq 0 _).set hq 1 _).set hq 2 _).fin hp.2.2 hq.2.2⟩
theorem r2_e {g : Nat} (q : Q0 w w2 w3 w4 k k' xn xd yn yd (lim N) (lim D) (lim M) (lim C) w4) (y : Zr w4 g) (hw : w.heap.size + 2 < w4.heap.size) (hp : ((g < w2.heap.size + k ∨ w3.heap.size ≤ g) ∧ (g < w3.heap.size + k' ∨ w4.heap.size ≤ g) ∧ w.heap.size + 2 < g)) : R2 w S T N D M C (.pointer (some ⟨w4.heap.size, 0, none⟩)) (.pointer (some ⟨g, 0, none⟩)) ((((w4.alloc (.cells #[.bool S, xn, xd] 60)).setCell ⟨g, 0, none⟩ (.bool T)).setCell ⟨g, 1, none⟩ yn).setCell ⟨g, 2, none⟩ yd) :=
  ⟨_, _, xn, xd, yn, yd, rfl, rfl, blk_far3 (Blk.new _ _ _) y.ne.symm, blk_set3 (zr_alloc y), ((((q.alloc _).set hp 0 _).set hp 1 _).set hp 2 _).fin hw hp.2.2⟩
end

theorem far_set3 {W : World} {p g i : Nat} {a b c v : Value} (h : W.cell? ⟨g, i, none⟩ = some v) (hne : p ≠ g) : (((W.setCell ⟨p, 0, none⟩ a).setCell ⟨p, 1, none⟩ b).setCell ⟨p, 2, none⟩ c).cell? ⟨g, i, none⟩ = some v := by
  rw [World.cell?_setCell_far _ _ _ _ (by exact hne), World.cell?_setCell_far _ _ _ _ (by exact hne), World.cell?_setCell_far _ _ _ _ (by exact hne)]
  exact h

theorem s4_of {w0 W : World} {g h : Nat} {a1 a2 b1 b2 : Value} (hb : Below w0.heap.size w0 W) (c1 : w0.cell? ⟨g, 1, none⟩ = some a1) (c2 : w0.cell? ⟨g, 2, none⟩ = some a2) (c3 : w0.cell? ⟨h, 1, none⟩ = some b1) (c4 : w0.cell? ⟨h, 2, none⟩ = some b2) (hg : g < w0.heap.size) (hh : h < w0.heap.size) :
    Below w0.heap.size w0 W ∧ W.cell? ⟨g, 1, none⟩ = some a1 ∧ W.cell? ⟨g, 2, none⟩ = some a2 ∧ W.cell? ⟨h, 1, none⟩ = some b1 ∧ W.cell? ⟨h, 2, none⟩ = some b2 :=
  ⟨hb, (hb.cell (p := ⟨g, 1, none⟩) hg).trans c1, (hb.cell (p := ⟨g, 2, none⟩) hg).trans c2, (hb.cell (p := ⟨h, 1, none⟩) hh).trans c3, (hb.cell (p := ⟨h, 2, none⟩) hh).trans c4⟩

theorem nrN_len {n : List Nat} {d k : Nat} (hd : Dig n) (hl : n.length ≤ k) : (lim (nrN (val n) d)).length ≤ k :=
  lim_length_le (Nat.lt_of_le_of_lt (nrN_le _ _) (Nat.lt_of_lt_of_le (val_lt hd) (Nat.pow_le_pow_right (by omega) hl)))
theorem nrD_len {d : List Nat} {n k : Nat} (hd : Dig d) (hl : d.length ≤ k) (hk : k ≠ 0) : (lim (nrD n (val d))).length ≤ k := by
  have h1 := Nat.lt_of_lt_of_le (val_lt hd) (Nat.pow_le_pow_right (by omega : 0 < 4294967296) hl)
  have h2 : 1 < 4294967296 ^ k := Nat.one_lt_pow hk (by omega)
  refine lim_length_le ?_
  have h3 : nrD n (val d) ≤ 4294967296 ^ k - 1 := nrD_le (Nat.le_sub_one_of_lt h1) (Nat.le_sub_one_of_lt h2)
  generalize 4294967296 ^ k = P at *
  omega

end Go.Proofs.YtchokmhfgikglaaGreatDoor

namespace Go.Proofs.YtchokmhfgikglaaGreatDoor
set_option maxRecDepth 100000
open Go.RowKit

theorem s6_of {w0 W : World} {g : Nat} {a0 a1 a2 b0 b1 b2 : Value} (hb : Below w0.heap.size w0 W) (c0 : w0.cell? ⟨g, 0, none⟩ = some a0) (c1 : w0.cell? ⟨g, 1, none⟩ = some a1) (c2 : w0.cell? ⟨g, 2, none⟩ = some a2) (d0 : w0.cell? ⟨g + 1, 0, none⟩ = some b0) (d1 : w0.cell? ⟨g + 1, 1, none⟩ = some b1) (d2 : w0.cell? ⟨g + 1, 2, none⟩ = some b2) (hg : g + 1 < w0.heap.size) :
    W.cell? ⟨g, 0, none⟩ = some a0 ∧ W.cell? ⟨g, 1, none⟩ = some a1 ∧ W.cell? ⟨g, 2, none⟩ = some a2 ∧ W.cell? ⟨g + 1, 0, none⟩ = some b0 ∧ W.cell? ⟨g + 1, 1, none⟩ = some b1 ∧ W.cell? ⟨g + 1, 2, none⟩ = some b2 := by
  have k1 : g < w0.heap.size := by omega
  exact ⟨(hb.cell (p := ⟨g, 0, none⟩) k1).trans c0, (hb.cell (p := ⟨g, 1, none⟩) k1).trans c1, (hb.cell (p := ⟨g, 2, none⟩) k1).trans c2, (hb.cell (p := ⟨g + 1, 0, none⟩) hg).trans d0, (hb.cell (p := ⟨g + 1, 1, none⟩) hg).trans d1, (hb.cell (p := ⟨g + 1, 2, none⟩) hg).trans d2⟩
theorem s6_set {W : World} {g : Nat} {a0 a1 a2 b0 b1 b2 u v z : Value} (h : W.cell? ⟨g, 0, none⟩ = some a0 ∧ W.cell? ⟨g, 1, none⟩ = some a1 ∧ W.cell? ⟨g, 2, none⟩ = some a2 ∧ W.cell? ⟨g + 1, 0, none⟩ = some b0 ∧ W.cell? ⟨g + 1, 1, none⟩ = some b1 ∧ W.cell? ⟨g + 1, 2, none⟩ = some b2) :
    (((W.setCell ⟨g + 1 + 1, 0, none⟩ u).setCell ⟨g + 1 + 1, 1, none⟩ v).setCell ⟨g + 1 + 1, 2, none⟩ z).cell? ⟨g, 0, none⟩ = some a0 ∧ (((W.setCell ⟨g + 1 + 1, 0, none⟩ u).setCell ⟨g + 1 + 1, 1, none⟩ v).setCell ⟨g + 1 + 1, 2, none⟩ z).cell? ⟨g, 1, none⟩ = some a1 ∧
      (((W.setCell ⟨g + 1 + 1, 0, none⟩ u).setCell ⟨g + 1 + 1, 1, none⟩ v).setCell ⟨g + 1 + 1, 2, none⟩ z).cell? ⟨g, 2, none⟩ = some a2 ∧ (((W.setCell ⟨g + 1 + 1, 0, none⟩ u).setCell ⟨g + 1 + 1, 1, none⟩ v).setCell ⟨g + 1 + 1, 2, none⟩ z).cell? ⟨g + 1, 0, none⟩ = some b0 ∧
      (((W.setCell ⟨g + 1 + 1, 0, none⟩ u).setCell ⟨g + 1 + 1, 1, none⟩ v).setCell ⟨g + 1 + 1, 2, none⟩ z).cell? ⟨g + 1, 1, none⟩ = some b1 ∧ (((W.setCell ⟨g + 1 + 1, 0, none⟩ u).setCell ⟨g + 1 + 1, 1, none⟩ v).setCell ⟨g + 1 + 1, 2, none⟩ z).cell? ⟨g + 1, 2, none⟩ = some b2 := by
  obtain ⟨a, b, c, d, e, f⟩ := h
  exact ⟨far_set3 a (by omega), far_set3 b (by omega), far_set3 c (by omega), far_set3 d (by omega), far_set3 e (by omega), far_set3 f (by omega)⟩

theorem nr_gcd {n d : Nat} (hn : n ≠ 0) (hd : d ≠ 0) : Nat.gcd (nrN n d) (nrD n d) = 1 := by
  have h := nr_some (s := false) hn hd
  rw [h.2.1, h.2.2]
  exact Nat.gcd_div_gcd_div_gcd_of_pos_left (Nat.pos_of_ne_zero hn)

/-- A number in lowest terms is in lowest terms. -/
theorem nr_idem (n d : Nat) : nrN (nrN n d) (nrD n d) = nrN n d ∧ nrD (nrN n d) (nrD n d) = nrD n d := by
  by_cases h : n = 0 ∨ d = 0
  · have z := nr_zero (s := false) h
    rw [z.2.1, z.2.2]
    exact ⟨rfl, rfl⟩
  · have hn : n ≠ 0 := by omega
    have hd : d ≠ 0 := by omega
    have e1 : nrN n d ≠ 0 := fun e => h (nrN_zero.1 e)
    have e2 : nrD n d ≠ 0 := Nat.ne_of_gt (nrD_pos n d)
    have l := nr_low (s := false) (nr_gcd hn hd) e1 e2
    exact ⟨l.2.1, l.2.2⟩

theorem nrS_neg (s : Bool) (n d : Nat) : nrS (!s && decide (0 < nrN n d)) (nrN n d) (nrD n d) = (!s && decide (0 < nrN n d)) := by
  by_cases h : nrN n d = 0
  · rw [(nr_zero (Or.inl h)).1, h]
    simp
  · unfold nrS
    rw [if_neg (by have := nrD_pos n d; omega)]

end Go.Proofs.YtchokmhfgikglaaGreatDoor

namespace Go.Proofs.YtchokmhfgikglaaGreatDoor
set_option maxRecDepth 100000
open Go.RowKit

/-- A value that tells this rational, of at most so many limbs. -/
def RQ (w : World) (L B : Nat) (v : Value) (q : Rat) (k : Nat) : Prop := ∃ s n d, Rt w L B v s n d ∧ Dig n ∧ Dig d ∧ n.length ≤ k ∧ d.length ≤ k ∧ qv s (val n) (val d) = q

/-- What hands back a new number in lowest terms. -/
def GivesF (q : Rat) (w : World) : Ending → World → Prop := GivesT (qS q) (qN q) q.den w

/-- How many limbs a rational takes. -/
def Sz (q : Rat) (k : Nat) : Prop := (lim (qN q)).length ≤ k ∧ (lim q.den).length ≤ k

theorem RQ.after {w w' : World} {L : Nat} {v : Value} {q : Rat} {k : Nat} (h : RQ w L w.heap.size v q k) (hb : Below w.heap.size w w') : RQ w' L w'.heap.size v q k := by
  obtain ⟨s, n, d, hR, rest⟩ := h
  exact ⟨s, n, d, hR.after hb, rest⟩
theorem RQ.low {w : World} {L L' B : Nat} {v : Value} {q : Rat} {k : Nat} (h : RQ w L B v q k) (hL : L' ≤ L) : RQ w L' B v q k := by
  obtain ⟨s, n, d, hR, rest⟩ := h
  exact ⟨s, n, d, hR.low hL, rest⟩
theorem RQ.drew {w : World} {L B : Nat} {v : Value} {q : Rat} {k : Nat} (h : RQ w L B v q k) : RQ w.drew L B v q k := h
theorem RQ.of {w : World} {L B : Nat} {v : Value} {q : Rat} {k : Nat} (h : Rt w L B v (qS q) (lim (qN q)) (lim q.den)) (hz : Sz q k) : RQ w L B v q k :=
  ⟨_, _, _, h, dig_lim _, dig_lim _, hz.1, hz.2, by rw [val_lim, val_lim]; exact qv_self q⟩
theorem RQ.sz {w : World} {L B : Nat} {v : Value} {q : Rat} {k : Nat} (h : RQ w L B v q k) (hk : 1 ≤ k) : Sz q k := by
  obtain ⟨s, n, d, hR, dn, dd, ln, ld, rfl⟩ := h
  obtain ⟨_, e2, e3⟩ := nr_q s (val n) (val d)
  unfold Sz
  rw [← e2, ← e3]
  exact ⟨nrN_len dn ln, nrD_len dd ld (by omega)⟩

theorem len_mul {a b m n : Nat} (h1 : (lim a).length ≤ m) (h2 : (lim b).length ≤ n) : (lim (a * b)).length ≤ m + n := lim_mul_len (dig_lim a) (dig_lim b) (val_lim _).symm (val_lim _).symm h1 h2
theorem len_add {a b n : Nat} (h1 : (lim a).length ≤ n) (h2 : (lim b).length ≤ n) : (lim (a + b)).length ≤ n + 1 := lim_add_len (dig_lim a) (dig_lim b) (val_lim _).symm (val_lim _).symm h1 h2

theorem Sz.qv {s : Bool} {n d k : Nat} (h1 : (lim n).length ≤ k) (h2 : (lim d).length ≤ k) (hk : 1 ≤ k) : Sz (qv s n d) k := by
  obtain ⟨_, e2, e3⟩ := nr_q s n d
  unfold Sz
  rw [← e2, ← e3]
  refine ⟨Nat.le_trans (lim_len_mono (nrN_le _ _)) h1, ?_⟩
  by_cases hd : d = 0
  · rw [(nr_zero (s := s) (Or.inr hd : n = 0 ∨ d = 0)).2.2, lim_one (by omega) (by omega)]; exact hk
  · exact Nat.le_trans (lim_len_mono (nrD_le (Nat.le_refl _) (by omega))) h2

theorem Sz.mono {q : Rat} {k j : Nat} (h : Sz q k) (hk : k ≤ j) : Sz q j := ⟨Nat.le_trans h.1 hk, Nat.le_trans h.2 hk⟩
theorem Sz.neg {q : Rat} {k : Nat} (h : Sz q k) : Sz (-q) k := by
  unfold Sz
  rw [qN_neg, Rat.neg_den]
  exact h
theorem Sz.add {p q : Rat} {k j : Nat} (hp : Sz p k) (hq : Sz q j) : Sz (p + q) (k + j + 1) := by
  rw [← qv_add p q]
  refine Sz.qv (Nat.le_trans (lim_len_mono (addN_le _ _ _ _)) (len_add (n := k + j) (len_mul hp.1 hq.2) ?_)) (Nat.le_trans (len_mul hp.2 hq.2) (by omega)) (by omega)
  rw [Nat.add_comm k j]
  exact len_mul hq.1 hp.2
theorem Sz.mul {p q : Rat} {k j : Nat} (hp : Sz p k) (hq : Sz q j) (hk : 1 ≤ k) : Sz (p * q) (k + j) := by
  rw [← qv_mul p q]
  exact Sz.qv (len_mul hp.1 hq.1) (len_mul hp.2 hq.2) (by omega)
theorem Sz.div {p q : Rat} {k j : Nat} (hp : Sz p k) (hq : Sz q j) (hk : 1 ≤ k) : Sz (p / q) (k + j) := by
  by_cases h : q = 0
  · rw [h, Rat.div_def, Rat.inv_zero, Rat.mul_zero]
    refine ⟨?_, ?_⟩
    · show (lim 0).length ≤ _
      rw [lim_zero]; simp
    · show (lim 1).length ≤ _
      rw [lim_one (by omega) (by omega)]; simp; omega
  · rw [← qv_div p q h]
    refine Sz.qv (len_mul hp.1 hq.2) ?_ (by omega)
    exact len_mul hp.2 hq.1

theorem ratNorm_q (v : Value) (q : Rat) (k : Nat) (w : World) (h : RQ w 0 w.heap.size v q k) (hk : k ≤ 1000) : Calls Tryz.prog 43 #[v] w (GivesF q w) := by
  obtain ⟨s, n, d, hR, dn, dd, ln, ld, rfl⟩ := h
  have := ratNorm_any v s n d w dn dd hR (by omega) (by omega)
  obtain ⟨e1, e2, e3⟩ := nr_q s (val n) (val d)
  rw [e1, e2, e3] at this
  exact this

theorem ratOf_q (s : Bool) (vn vd : Value) (n d : List Nat) (w : World) (dn : Dig n) (dd : Dig d) (hn : Nt w 0 w.heap.size vn n) (hd : Nt w 0 w.heap.size vd d) (ln : n.length ≤ 1000) (ld : d.length ≤ 1000) :
    Calls Tryz.prog 145 #[.bool s, vn, vd] w (GivesF (qv s (val n) (val d)) w) := by
  have := ratOf_any s vn vd n d w dn dd hn hd ln ld
  obtain ⟨e1, e2, e3⟩ := nr_q s (val n) (val d)
  rw [e1, e2, e3] at this
  exact this

end Go.Proofs.YtchokmhfgikglaaGreatDoor

namespace Go.Proofs.YtchokmhfgikglaaGreatDoor
set_option maxRecDepth 100000
open Go.RowKit

set_option maxHeartbeats 3200000 in
theorem refTen3_any (d : Nat) (w : World) (hd : d ≤ 1000) : Calls Tryz.prog 149 #[.int .i64 (d : Int)] w (Gives (lim (10 ^ d)) w) := by
  obtain ⟨h1, hb1⟩ := nt_laid w 122 [1] (by simp)
  have h1' : Nt (w.alloc (.cells #[.int .u32 1] 122)) w.heap.size (w.alloc (.cells #[.int .u32 1] 122)).heap.size (.slice (some ⟨w.heap.size, 0, none⟩) 1 1) (lim (10 ^ 0)) := by
    have l0 : lim (10 ^ 0) = [1] := lim_one (by omega) (by omega)
    rw [l0]
    have hb : Lb (w.alloc (.cells #[.int .u32 1] 122)) w.heap.size 122 [1] := Blk.new w _ _
    exact hb.reads (n := 1) (by simp) (by unfold maxLen; simp)
  clear h1
  go_enter Tryz.func149, Tryz.ntmps149
  go_wp2_with fail
  go_loopw [3, 4] (fun a i wr => ∃ k : Nat, k ≤ d ∧ i = .int .i64 (k : Nat) ∧ Nt wr w.heap.size wr.heap.size a (lim (10 ^ k)) ∧ Below w.heap.size w wr)
    (fun _ i _ => d - (RowKit.intOf i).toNat)
  case atStart => exact ⟨0, Nat.zero_le _, rfl, h1', hb1⟩
  case round =>
    obtain ⟨k, hk, rfl, ha, hb⟩ := hrel
    clear h1' hb1
    by_cases hlt : k < d
    · have hlI : (k : Int) < (d : Int) := by omega
      have hl : (lim (10 ^ k)).length ≤ 1001 := lim_ten (Nat.pow_lt_pow_right (by omega) (Nat.lt_succ_self k)) (by omega)
      have dk := dig_lim (10 ^ k)
      have D10 : Dig [10] := by intro x hx; simp at hx; omega
      have V : Hid (val (lim (10 ^ k)) * val [10] = 10 ^ (k + 1)) := by
        show _ = _
        rw [val_lim, Nat.pow_succ]
        rfl
      obtain ⟨h2, hb2⟩ := nt_laid wr 122 [10] (by simp)
      have ha2 := ((ha.low (Nat.zero_le _)).alloc (Nat.le_refl _) (.cells #[.int .u32 10] 122)).up (B' := (wr.alloc (.cells #[.int .u32 10] 122)).heap.size) (by simp)
      have hb02 := hb.trans (hb2.mono hb.size)
      clear ha hb hb2
      go_wp2_with fail
      refine (refMul_any _ _ (lim (10 ^ k)) [10] _ dk D10 ha2 h2 (by omega) (by simp)).mono ?_
      rw [V.out]
      rintro e w4 ⟨v4, rfl, h4, hb4⟩
      have h4' := h4.low hb02.size
      have hb04 := hb02.trans (hb4.mono hb02.size)
      clear h4 hb4 ha2 h2 hb02
      go_wp2_with fail
      go_roundw
      case rel => exact ⟨k + 1, by omega, by go_num, h4', hb04⟩
      case measure => simp [RowKit.intOf]; omega
    · obtain rfl : k = d := by omega
      go_wp2_with fail
      go_ret
      exact ⟨_, rfl, ha, hb⟩

set_option maxHeartbeats 3200000 in
theorem refInt_any (n : Nat) (w : World) (hn : n < 1000000000) : Calls Tryz.prog 87 #[.int .i64 (n : Int)] w (GivesF (qv false n 1) w) := by
  have k1 : IntKind.u64.wrap (n : Int) = (n : Int) := IntWalk.u64_in _ (by omega)
  have k2 : ¬ (n : Int) < 0 := by omega
  have ln : (lim n).length ≤ 1 := lim_length_le (by omega)
  have VN : Hid (val (lim n) = n) := val_lim n
  have hcon : Hid (∀ (vn vd : Value) (w : World), Nt w 0 w.heap.size vn (lim n) → Nt w 0 w.heap.size vd [1] → Calls Tryz.prog 145 #[.bool false, vn, vd] w (GivesF (qv false n 1) w)) := fun vn vd w h1 h2 => by
    have := ratOf_q false vn vd (lim n) [1] w (dig_lim n) (by intro x hx; simp at hx; omega) h1 h2 (by omega) (by simp)
    rw [VN.out] at this
    exact this
  have hof := fun w => refOf_any n w (by omega)
  have HOF := Lib.hid hof
  generalize qv false n 1 = q at *
  clear hof
  go_enter Tryz.func87, Tryz.ntmps87
  go_wp2_with fail
  have b1 := Blk.new w 60 #[.bool false, .slice none 0 0, .slice none 0 0]
  have hB : Below w.heap.size w (w.alloc (.cells #[.bool false, .slice none 0 0, .slice none 0 0] 60)) := (Below.refl _ _).alloc (Nat.le_refl _) _
  generalize w.alloc (.cells #[.bool false, .slice none 0 0, .slice none 0 0] 60) = w2 at *
  refine (HOF.out _).mono ?_
  rintro e w3 ⟨v3, rfl, h3, hb⟩
  have q1 := (b1.below hb b1.lt).alloc (.cells #[.int .u32 1] 122)
  replace hB := hB.trans (hb.mono hB.size)
  obtain ⟨h4, hb4⟩ := nt_laid w3 122 [1] (by simp)
  have h3' := ((h3.low (Nat.zero_le _)).alloc (Nat.le_refl _) (.cells #[.int .u32 1] 122)).up (B' := (w3.alloc (.cells #[.int .u32 1] 122)).heap.size) (by simp)
  replace hB := hB.trans (hb4.mono hB.size)
  clear h3 hb hb4 b1 HOF
  go_wp2_with fail
  refine (hcon.out _ _ _ h3' h4).mono ?_
  rintro e w5 ⟨v5, rfl, ⟨an, ad, rfl, han, had⟩, hb⟩
  have q5 := q1.below hb q1.lt
  have han' := han
  have had' := had
  obtain ⟨A8, c8, rfl, m8⟩ := nt_len han'
  obtain ⟨A9, c9, rfl, m9⟩ := nt_len had'
  obtain ⟨e0, e1, e2, hR, hBf⟩ := store3 q5 (hB.trans (hb.mono hB.size)) (Nat.le_refl _) (qS q) (.slice A8 (lim (qN q)).length c8) (.slice A9 (lim q.den).length c9) (han.low q1.lt) (had.low q1.lt)
  have r0 := q5.cell 0
  have r1 := q5.cell 1
  have r2 := q5.cell 2
  have f0 := q5.free 0
  have f1 := q5.free 1
  have f2 := q5.free 2
  have HR := Lib.hid hR
  have HBF := Lib.hid hBf
  clear q1 q5 han had han' had' hR hBf hb h3' h4 hB
  unfold St3 at *
  go_wp2_with fail
  clear r0 r1 r2 f0 f1 f2
  generalize ((World.setCell w5 ⟨w.heap.size, 0, none⟩ (.bool (qS q))).setCell ⟨w.heap.size, 1, none⟩ (.slice A8 (lim (qN q)).length c8)).setCell ⟨w.heap.size, 2, none⟩ (.slice A9 (lim q.den).length c9) = W at *
  refine bodyPost_ret (v := .agg #[.bool (qS q), .slice A8 (lim (qN q)).length c8, .slice A9 (lim q.den).length c9]) ?_ rfl ⟨_, rfl, HR.out, HBF.out⟩
  simp [results, Tryz.results87, go_sem, e0, e1, e2]

end Go.Proofs.YtchokmhfgikglaaGreatDoor

namespace Go.Proofs.YtchokmhfgikglaaGreatDoor
set_option maxRecDepth 100000
open Go.RowKit

/-- The cells of a normal rational, from 'o' on of block b. -/
def RatAt (w : World) (L B b o : Nat) (q : Rat) : Prop :=
  ∃ F1 l1 F2 l2, w.cell? ⟨b, o, none⟩ = some (.bool (qS q)) ∧ w.cell? ⟨b, o + 1, none⟩ = some (.slice F1 (lim (qN q)).length l1) ∧ w.cell? ⟨b, o + 2, none⟩ = some (.slice F2 (lim q.den).length l2) ∧
    Nt w L B (.slice F1 (lim (qN q)).length l1) (lim (qN q)) ∧ Nt w L B (.slice F2 (lim q.den).length l2) (lim q.den)

/-- The slice value v reads as the rationals xs, each normal; all of it lies in blocks from L on, below B. -/
def RowIn (w : World) (L B : Nat) (v : Value) (xs : List Rat) : Prop :=
  ∃ A c, v = .slice A xs.length c ∧ xs.length ≤ c ∧ c ≤ maxLen ∧ (A = none → c = 0) ∧
    (0 < xs.length → ∃ b, A = some ⟨b, 0, none⟩ ∧ L ≤ b ∧ b < B ∧ ∀ j (h : j < xs.length), RatAt w L B b (j * 3) xs[j])

section
variable {w w' : World} {L L' B B' : Nat} {v : Value} {xs : List Rat}
theorem RatAt.stay {b o : Nat} {q : Rat} (h : RatAt w L B b o q) (hb0 : L ≤ b) (hb1 : b < B) (hL : L' ≤ L) (hB : B ≤ B') (hk : ∀ p : Addr, L ≤ p.block → p.block < B → w'.cell? p = w.cell? p) : RatAt w' L' B' b o q := by
  obtain ⟨F1, l1, F2, l2, c0, c1, c2, n1, n2⟩ := h
  exact ⟨F1, l1, F2, l2, (hk ⟨b, o, none⟩ hb0 hb1).trans c0, (hk ⟨b, o + 1, none⟩ hb0 hb1).trans c1, (hk ⟨b, o + 2, none⟩ hb0 hb1).trans c2, n1.stay hL hB hk, n2.stay hL hB hk⟩
theorem RowIn.stay (h : RowIn w L B v xs) (hL : L' ≤ L) (hB : B ≤ B') (hk : ∀ p : Addr, L ≤ p.block → p.block < B → w'.cell? p = w.cell? p) : RowIn w' L' B' v xs := by
  obtain ⟨A, c, rfl, hc, hm, hA0, hx⟩ := h
  refine ⟨A, c, rfl, hc, hm, hA0, fun h0 => ?_⟩
  obtain ⟨b, hA, hl, hb, hcell⟩ := hx h0
  exact ⟨b, hA, by omega, by omega, fun j hj => (hcell j hj).stay hl hb hL hB hk⟩
theorem RowIn.below {C : Nat} (h : RowIn w L B v xs) (hb : Below C w w') (hB : B ≤ C) : RowIn w' L B v xs := h.stay (Nat.le_refl _) (Nat.le_refl _) fun _ _ hp => hb.cell (Nat.lt_of_lt_of_le hp hB)
theorem RowIn.up (h : RowIn w L B v xs) (hB : B ≤ B') : RowIn w L B' v xs := h.stay (Nat.le_refl _) hB fun _ _ _ => rfl
theorem RowIn.low (h : RowIn w L B v xs) (hL : L' ≤ L) : RowIn w L' B v xs := h.stay hL (Nat.le_refl _) fun _ _ _ => rfl
theorem RowIn.after (h : RowIn w L w.heap.size v xs) (hb : Below w.heap.size w w') : RowIn w' L w'.heap.size v xs := (h.below hb (Nat.le_refl _)).up hb.size
theorem RowIn.drew (h : RowIn w L B v xs) : RowIn w.drew L B v xs := h
theorem RowIn.drewN (h : RowIn w L B v xs) (n : Nat) : RowIn (w.drewN n) L B v xs := h
theorem RowIn.alloc (h : RowIn w L B v xs) (hB : B ≤ w.heap.size) (o : Obj) : RowIn (w.alloc o) L B v xs := h.below ((Below.refl B w).alloc hB o) (Nat.le_refl _)
theorem RowIn.nil (w : World) (L B : Nat) : RowIn w L B (.slice none 0 0) [] := ⟨none, 0, rfl, Nat.le_refl _, by decide, fun _ => rfl, fun h => absurd h (by simp)⟩
end

/-- A slice that has cells has them outside of block g. -/
def OutOf (g : Option Nat) (F : Option Addr) (n : Nat) : Prop := 0 < n → ∀ a, F = some a → g ≠ some a.block

theorem OutOf.of_nt {w : World} {L B n l : Nat} {F : Option Addr} {x : List Nat} {g : Option Nat} (h : Nt w L B (.slice F n l) x) (hg : ∀ k, g = some k → k < L ∨ B ≤ k) : OutOf g F n := by
  intro h0 a ha hc
  obtain ⟨A, c, e, _, _, _, hx⟩ := h
  simp only [Value.slice.injEq] at e
  obtain ⟨rfl, rfl, rfl⟩ := e
  obtain ⟨b, off, hA, h1, h2, _⟩ := hx h0
  rw [ha] at hA
  cases hA
  rcases hg _ hc with h | h
  · exact Nat.lt_irrefl _ (Nat.lt_of_lt_of_le h h1)
  · exact Nat.lt_irrefl _ (Nat.lt_of_lt_of_le h2 h)

/-- Kept where the slice's own block is. -/
theorem Nt.one {w w' : World} {L L' B B' n l : Nat} {F : Option Addr} {x : List Nat} (h : Nt w L B (.slice F n l) x) (hL : L' ≤ L) (hB : B ≤ B') (hk : 0 < n → ∀ p : Addr, L ≤ p.block → p.block < B → (∃ a, F = some a ∧ a.block = p.block) → w'.cell? p = w.cell? p) : Nt w' L' B' (.slice F n l) x := by
  obtain ⟨A, c, e, hc, hm, hA0, hx⟩ := h
  simp only [Value.slice.injEq] at e
  obtain ⟨rfl, rfl, rfl⟩ := e
  refine ⟨_, _, rfl, hc, hm, hA0, fun h0 => ?_⟩
  obtain ⟨b, off, hA, hl, hb, hcell⟩ := hx h0
  exact ⟨b, off, hA, by omega, by omega, fun j hj => (hk h0 ⟨b, off + j, none⟩ hl hb ⟨_, hA, rfl⟩).trans (hcell j hj)⟩

/-- Cells that tell these rationals, each normal; no limb of theirs lies in block g. -/
def RC (w : World) (L B : Nat) (g : Option Nat) (cs : List Value) (qs : List Rat) : Prop :=
  cs.length = qs.length * 3 ∧ ∀ j (h : j < qs.length), ∃ F1 l1 F2 l2, cs[j * 3]? = some (.bool (qS qs[j])) ∧ cs[j * 3 + 1]? = some (.slice F1 (lim (qN qs[j])).length l1) ∧ cs[j * 3 + 2]? = some (.slice F2 (lim qs[j].den).length l2) ∧
    Nt w L B (.slice F1 (lim (qN qs[j])).length l1) (lim (qN qs[j])) ∧ Nt w L B (.slice F2 (lim qs[j].den).length l2) (lim qs[j].den) ∧ OutOf g F1 (lim (qN qs[j])).length ∧ OutOf g F2 (lim qs[j].den).length

theorem RC.nil (w : World) (L B : Nat) (g : Option Nat) : RC w L B g [] [] := ⟨rfl, fun j h => absurd h (by simp)⟩
theorem RC.stay {w w' : World} {L L' B B' : Nat} {g g' : Option Nat} {cs : List Value} {qs : List Rat} (h : RC w L B g cs qs) (hL : L' ≤ L) (hB : B ≤ B') (hk : ∀ p : Addr, L ≤ p.block → p.block < B → g ≠ some p.block → w'.cell? p = w.cell? p) (hg : ∀ k, g' = some k → g = some k ∨ B ≤ k) : RC w' L' B' g' cs qs := by
  refine ⟨h.1, fun j hj => ?_⟩
  obtain ⟨F1, l1, F2, l2, c0, c1, c2, n1, n2, a1, a2⟩ := h.2 j hj
  have hap : ∀ F n l (x : List Nat), Nt w L B (.slice F n l) x → OutOf g F n → OutOf g' F n := fun F n l x hn ha h0 a hF hc => by
    rcases hg _ hc with h1 | h1
    · exact ha h0 a hF h1
    · exact OutOf.of_nt (g := g') hn (fun k hk => by rw [hc] at hk; cases hk; exact Or.inr h1) h0 a hF hc
  refine ⟨F1, l1, F2, l2, c0, c1, c2, n1.one hL hB fun h0 p h1 h2 ⟨a, ha, hp⟩ => hk p h1 h2 (hp ▸ a1 h0 a ha), n2.one hL hB fun h0 p h1 h2 ⟨a, ha, hp⟩ => hk p h1 h2 (hp ▸ a2 h0 a ha), hap _ _ _ _ n1 a1, hap _ _ _ _ n2 a2⟩
theorem RC.after {w w' : World} {L : Nat} {g : Option Nat} {cs : List Value} {qs : List Rat} (h : RC w L w.heap.size g cs qs) (hb : Below w.heap.size w w') : RC w' L w'.heap.size g cs qs := h.stay (Nat.le_refl _) hb.size (fun _ _ hp _ => hb.cell hp) (fun _ h => Or.inl h)
theorem RC.snoc {w : World} {L B : Nat} {g : Option Nat} {cs : List Value} {qs : List Rat} {q : Rat} {F1 F2 : Option Addr} {l1 l2 : Nat} (h : RC w L B g cs qs) (n1 : Nt w L B (.slice F1 (lim (qN q)).length l1) (lim (qN q))) (n2 : Nt w L B (.slice F2 (lim q.den).length l2) (lim q.den))
    (a1 : OutOf g F1 (lim (qN q)).length) (a2 : OutOf g F2 (lim q.den).length) :
    RC w L B g (cs ++ [.bool (qS q), .slice F1 (lim (qN q)).length l1, .slice F2 (lim q.den).length l2]) (qs ++ [q]) := by
  obtain ⟨hl, hc⟩ := h
  refine ⟨by simp [hl]; omega, fun j hj => ?_⟩
  by_cases h' : j < qs.length
  · obtain ⟨G1, k1, G2, k2, c0, c1, c2, m1, m2, b1, b2⟩ := hc j h'
    have e : (qs ++ [q])[j]'hj = qs[j] := by rw [List.getElem_append_left h']
    rw [e]
    refine ⟨G1, k1, G2, k2, ?_, ?_, ?_, m1, m2, b1, b2⟩ <;> rw [List.getElem?_append_left (by omega)] <;> assumption
  · have : j = qs.length := by simp at hj; omega
    subst this
    have e : (qs ++ [q])[qs.length]'hj = q := by simp
    rw [e]
    refine ⟨F1, l1, F2, l2, ?_, ?_, ?_, n1, n2, a1, a2⟩
    · rw [List.getElem?_append_right (by omega), show qs.length * 3 - cs.length = 0 by omega]; rfl
    · rw [List.getElem?_append_right (by omega), show qs.length * 3 + 1 - cs.length = 1 by omega]; rfl
    · rw [List.getElem?_append_right (by omega), show qs.length * 3 + 2 - cs.length = 2 by omega]; rfl

/-- The call's own row v holds the rationals qs. -/
def OwnR (w : World) (base : Nat) (e : TypeId) (v : Value) (qs : List Rat) : Prop := ∃ cs, w.ownsRow base e 3 v qs.length cs ∧ RC w base w.heap.size v.ownBlock cs qs

theorem own_lt {w : World} {base size n : Nat} {e : TypeId} {v : Value} {cs : List Value} (h : w.ownsRow base e size v n cs) : ∀ g, v.ownBlock = some g → base ≤ g ∧ g < w.heap.size := fun g hg => h.lt g hg
theorem OwnR.nil (w : World) (base : Nat) (e : TypeId) : OwnR w base e (.slice none 0 0) [] := ⟨[], World.ownsRow_nil _ _ _ _, RC.nil _ _ _ _⟩
theorem OwnR.lt {w : World} {base : Nat} {e : TypeId} {v : Value} {qs : List Rat} (h : OwnR w base e v qs) : ∀ g, v.ownBlock = some g → base ≤ g ∧ g < w.heap.size := by
  obtain ⟨cs, h1, _⟩ := h
  exact own_lt h1
theorem OwnR.after {w w' : World} {base : Nat} {e : TypeId} {v : Value} {qs : List Rat} (h : OwnR w base e v qs) (hb : Below w.heap.size w w') : OwnR w' base e v qs := by
  obtain ⟨cs, ⟨hl, hc⟩, h2⟩ := h
  refine ⟨cs, ⟨hl, ?_⟩, h2.after hb⟩
  rcases hc with hn | ⟨g, cap, cur, hv, hg, hh, r⟩
  · exact Or.inl hn
  · exact Or.inr ⟨g, cap, cur, hv, hg, by rw [hb.block g (Array.getElem?_eq_some_iff.1 hh).1]; exact hh, r⟩
theorem OwnR.alloc {w : World} {base : Nat} {e : TypeId} {v : Value} {qs : List Rat} (h : OwnR w base e v qs) (o : Obj) : OwnR (w.alloc o) base e v qs := h.after ((Below.refl _ w).alloc (Nat.le_refl _) o)
theorem OwnR.drew {w : World} {base : Nat} {e : TypeId} {v : Value} {qs : List Rat} (h : OwnR w base e v qs) : OwnR w.drew base e v qs := h

theorem OwnR.row {w : World} {base : Nat} {e : TypeId} {v : Value} {qs : List Rat} (h : OwnR w base e v qs) : RowIn w base w.heap.size v qs := by
  obtain ⟨cs, ⟨hl, hc⟩, h2⟩ := h
  rcases hc with ⟨rfl, h0⟩ | ⟨g, cap, cur, rfl, hb, hg, hnc, hcm, hcs, htake⟩
  · have := List.eq_nil_of_length_eq_zero h0
    subst this
    exact RowIn.nil w _ _
  · refine ⟨some ⟨g, 0, none⟩, cap, rfl, hnc, hcm, fun h => (by cases h), fun h0 => ⟨g, rfl, hb, (Array.getElem?_eq_some_iff.1 hg).1, fun j hj => ?_⟩⟩
    obtain ⟨F1, l1, F2, l2, c0, c1, c2, m1, m2, _, _⟩ := h2.2 j hj
    have hget : ∀ i u, cs[i]? = some u → w.cell? ⟨g, i, none⟩ = some u := fun i u hu => by
      rw [cell_of_row w g i cur e (0, 0) hg]
      rw [← htake, List.getElem?_take] at hu
      split at hu
      · simpa using hu
      · cases hu
    exact ⟨F1, l1, F2, l2, hget _ _ c0, hget _ _ c1, hget _ _ c2, m1, m2⟩

theorem cell_three_new (w : World) (x y z : Value) (t : TypeId) : ∀ j u, [x, y, z][j]? = some u → (w.alloc (.cells #[x, y, z] t)).cell? ((⟨w.heap.size, 0, none⟩ : Addr).add j) = some u := by
  intro j u hu
  rw [Addr.add_lit, Nat.zero_add, (Blk.new w t #[x, y, z]).cell j, List.getElem?_toArray]
  exact hu

theorem own_mono {w : World} {base base' size n : Nat} {e : TypeId} {v : Value} {cs : List Value} (h : w.ownsRow base e size v n cs) (hb : base' ≤ base) : w.ownsRow base' e size v n cs := by
  obtain ⟨hl, hc⟩ := h
  refine ⟨hl, ?_⟩
  rcases hc with hn | ⟨g, cap, cur, hv, hg, r⟩
  · exact Or.inl hn
  · exact Or.inr ⟨g, cap, cur, hv, Nat.le_trans hb hg, r⟩

/-- 'append' onto a row of the call's own: the row stays where it is, or lies in a new block. -/
theorem wpList_append_far {P : Program} {w : World} {ops : Array Oper} {rest : List Oper} {o : Oper} {a : Act} {Q : Exit → Act → World → Prop} (hgd : o.guard = none) (s x : Operand) (t : TypeId)
    (ho : o.op = .call { callee := .builtin .append, args := #[s, x], argTypes := #[t, t] })
    (base : Nat) (e : TypeId) (i : TypeInfo) (z : Value) (size bytes : Nat) (ht : P.underlying t = some (.slice e)) (hi : P.info? e = some i) (hz : i.zero = some z)
    (hsize : i.size = size) (hby : i.bytes = bytes) (hzs : z.cells.size = size) (hsz : 0 < size)
    (v : Value) (n : Nat) (xs : List Value) (hs : a.eval s = v) (hown : w.ownsRow base e size v n xs)
    (ad : Addr) (m c : Nat) (news : List Value) (hx : a.eval x = .slice (some ad) m c) (hm : 0 < m) (hl : news.length = m * size) (hnews : ∀ j u, news[j]? = some u → w.cell? (ad.add j) = some u) (h1 : ∀ u ∈ news, u.oneCell' = true)
    (h63 : n + m ≤ maxLen) (hbytes : (n + m) * bytes ≤ 140737488355328) (hbase : base ≤ w.heap.size)
    (h : ∀ v' w', w'.ownsRow base e size v' (n + m) (xs ++ news) → w.grownBy w' v.ownBlock → (∀ g, v'.ownBlock = some g → v.ownBlock = some g ∨ w.heap.size ≤ g) → wpList P ops Q rest (a.put o.dst v') w') : wpList P ops Q (o :: rest) a w := by
  have hgrow : ∀ v' w', w'.ownsRow w.heap.size e size v' (n + m) (xs ++ news) → w.grownBy w' none → wpList P ops Q rest (a.put o.dst v') w' := by
    intro v' w' h2 h3
    refine h v' w' (own_mono h2 hbase) ?_ (fun g hg => Or.inr (own_lt h2 g hg).1)
    exact ⟨h3.os, h3.tape, h3.output, h3.size, fun k hk _ => h3.block k hk (by simp)⟩
  rcases hown.2 with ⟨rfl, rfl⟩ | ⟨g, cap, cur, rfl, hg, hh, hnc, hcm, hcs, htk⟩
  · exact wpList_append_grows w hgd s x t ho e i z size bytes ht hi hz hsize hby hzs hsz none 0 0 xs hs (fun _ => ⟨rfl, rfl⟩) hown.1 (fun b hb => (by cases hb)) ad m c news hx hl hnews h1 (by omega) h63 hbytes hgrow
  · by_cases hr : n + m ≤ cap
    · exact wpList_append_own_spare w hgd s x t ho base e i size ht hi hsize g n cap xs hs hown ad m c news hx hl hnews h1 hr (fun w' h2 h3 => h _ w' h2 h3 (fun k hk => Or.inl hk))
    · refine wpList_append_grows w hgd s x t ho e i z size bytes ht hi hz hsize hby hzs hsz (some ⟨g, 0, none⟩) n cap xs hs (fun h => by cases h) hown.1 ?_ ad m c news hx hl hnews h1 (by omega) h63 hbytes hgrow
      intro b hb j u hu
      cases hb
      rw [Addr.add_lit, Nat.zero_add, cell_of_row w g j cur e (0, 0) hh]
      rw [← htk, List.getElem?_take] at hu
      split at hu
      · simpa using hu
      · cases hu

/-- One rational more onto a row of the call's own: 'l = append(l, x)'. -/
theorem wpList_append_rat {P : Program} {w : World} {ops : Array Oper} {rest : List Oper} {o : Oper} {a : Act} {Q : Exit → Act → World → Prop} (hgd : o.guard = none) (s x : Operand) (t : TypeId)
    (ho : o.op = .call { callee := .builtin .append, args := #[s, x], argTypes := #[t, t] })
    (base : Nat) (e : TypeId) (i : TypeInfo) (z : Value) (ht : P.underlying t = some (.slice e)) (hi : P.info? e = some i) (hz : i.zero = some z) (hsize : i.size = 3) (hby : i.bytes = 56) (hzs : z.cells.size = 3)
    (v : Value) (qs : List Rat) (hs : a.eval s = v) (hown : OwnR w base e v qs) (q : Rat) (F1 F2 : Option Addr) (l1 l2 L1 : Nat) (hL1 : base ≤ L1) (hvL : ∀ g, v.ownBlock = some g → g < L1)
    (n1 : Nt w L1 w.heap.size (.slice F1 (lim (qN q)).length l1) (lim (qN q))) (n2 : Nt w L1 w.heap.size (.slice F2 (lim q.den).length l2) (lim q.den))
    (hx : a.eval x = .slice (some ⟨w.heap.size, 0, none⟩) 1 1)
    (hlen : qs.length ≤ 1000000) (hbase : base ≤ w.heap.size)
    (h : ∀ v' w', OwnR w' base e v' (qs ++ [q]) → Below base w w' → w.heap.size ≤ w'.heap.size → wpList P ops Q rest (a.put o.dst v') w') : wpList P ops Q (o :: rest) a (w.alloc (.cells #[.bool (qS q), .slice F1 (lim (qN q)).length l1, .slice F2 (lim q.den).length l2] e)) := by
  obtain ⟨cs, h1, h2⟩ := hown
  have hW : Below w.heap.size w (w.alloc (.cells #[.bool (qS q), .slice F1 (lim (qN q)).length l1, .slice F2 (lim q.den).length l2] e)) := (Below.refl _ w).alloc (Nat.le_refl _) _
  have h3 := h2.snoc (n1.low hL1) (n2.low hL1) (OutOf.of_nt n1 fun k hk => Or.inl (hvL k hk)) (OutOf.of_nt n2 fun k hk => Or.inl (hvL k hk))
  refine wpList_append_far hgd s x t ho base e i z 3 56 ht hi hz hsize hby hzs (by decide) v qs.length cs hs (World.ownsRow.alloc h1 _) ⟨w.heap.size, 0, none⟩ 1 1 [.bool (qS q), .slice F1 (lim (qN q)).length l1, .slice F2 (lim q.den).length l2] hx (by decide) rfl (cell_three_new _ _ _ _ _) ?_ ?_ ?_ ?_ ?_
  · intro u hu
    simp at hu
    rcases hu with rfl | rfl | rfl <;> rfl
  · unfold maxLen; omega
  · omega
  · simp; omega
  · intro v' w' hown' hgrow hfar
    have hbb : Below base w w' := ((Below.refl base w).alloc hbase _).grown hgrow (by simp; omega) (fun k hk => (h1.lt k hk).1)
    refine h v' w' ⟨_, by simpa using hown', ?_⟩ hbb hbb.size
    refine h3.stay (Nat.le_refl _) hbb.size (fun p hp1 hp2 hne => ?_) (fun k hk => ?_)
    · have e1 : w'.cell? p = (w.alloc (.cells #[.bool (qS q), .slice F1 (lim (qN q)).length l1, .slice F2 (lim q.den).length l2] e)).cell? p := World.cell?_of_block (hgrow.block p.block (by simp; omega) (fun e => hne e.symm))
      rw [e1]
      exact hW.cell hp2
    · rcases hfar k hk with h4 | h4
      · exact Or.inl h4
      · exact Or.inr (by simp at h4; omega)
end Go.Proofs.YtchokmhfgikglaaGreatDoor

namespace Go.Proofs.YtchokmhfgikglaaGreatDoor
set_option maxRecDepth 100000
open Go.RowKit

theorem prNorm_q (v : Value) (q : Rat) (k : Nat) (w : World) (h : RQ w 0 w.heap.size v q k) (hk : k ≤ 1000) : Calls Tryz.prog 47 #[v] w (GivesF q w) := by
  obtain ⟨s, n, d, hR, dn, dd, ln, ld, rfl⟩ := h
  have := prNorm_any v s n d w dn dd hR (by omega) (by omega)
  obtain ⟨e1, e2, e3⟩ := nr_q s (val n) (val d)
  rw [e1, e2, e3] at this
  exact this

theorem qS_len (q : Rat) : (!qS q && decide (0 < (lim (qN q)).length)) = qS (-q) := by
  rw [qS_neg]
  congr 1
  refine decide_eq_decide.2 ⟨fun h => Nat.pos_of_ne_zero fun h0 => ?_, fun h => Nat.pos_of_ne_zero fun h0 => ?_⟩
  · rw [h0, lim_zero] at h
    exact absurd h (by simp)
  · have := lim_eq_nil.1 (List.eq_nil_of_length_eq_zero h0)
    omega

set_option maxHeartbeats 3200000 in
theorem prSigned_any (neg : Bool) (v : Value) (s : Bool) (n d : List Nat) (L : Nat) (w : World) (h : Rt w L w.heap.size v s n d) :
    Calls Tryz.prog 310 #[.bool neg, v] w fun e w' => ∃ v', e = .returned v' ∧ Rt w' L w'.heap.size v' (neg && decide (0 < n.length)) n d ∧ Below w.heap.size w w' := by
  obtain ⟨vn, vd, rfl, hn, hd⟩ := h
  have hn' := hn
  have hd' := hd
  obtain ⟨A1, c1, rfl, m1⟩ := nt_len hn'
  obtain ⟨A2, c2, rfl, m2⟩ := nt_len hd'
  clear hn' hd'
  have HN := Lib.hid hn
  have HD := Lib.hid hd
  clear hn hd
  cases neg
  · have b1 := Blk.new (w.alloc (.cells #[.bool false, .slice A1 n.length c1, .slice A2 d.length c2] 60)) 60 #[.bool false, .slice A1 n.length c1, .slice A2 d.length c2]
    have hB : Below w.heap.size w ((w.alloc (.cells #[.bool false, .slice A1 n.length c1, .slice A2 d.length c2] 60)).alloc (.cells #[.bool false, .slice A1 n.length c1, .slice A2 d.length c2] 60)) := ((Below.refl _ _).alloc (Nat.le_refl _) _).alloc (by simp) _
    have es : (w.alloc (.cells #[.bool false, .slice A1 n.length c1, .slice A2 d.length c2] 60)).heap.size = w.heap.size + 1 := by simp
    rw [es] at b1
    have e0 := b1.cell 0
    have e1 := b1.cell 1
    have e2 := b1.cell 2
    have HE0 := Lib.hid e0
    have HE1 := Lib.hid e1
    have HE2 := Lib.hid e2
    have HBB := Lib.hid hB
    clear hB b1 es e0 e1 e2
    go_enter Tryz.func310, Tryz.ntmps310
    go_wp2_with fail
    generalize (w.alloc (.cells #[.bool false, .slice A1 n.length c1, .slice A2 d.length c2] 60)).alloc (.cells #[.bool false, .slice A1 n.length c1, .slice A2 d.length c2] 60) = wz at *
    have e0 := HE0.out
    have e1 := HE1.out
    have e2 := HE2.out
    refine bodyPost_ret (v := .agg #[.bool false, .slice A1 n.length c1, .slice A2 d.length c2]) ?_ rfl ⟨_, rfl, ⟨_, _, rfl, HN.out.after HBB.out, HD.out.after HBB.out⟩, HBB.out⟩
    simp [results, Tryz.results310, go_sem, e0, e1, e2]
  · have b1 := Blk.new (w.alloc (.cells #[.bool (decide (0 < n.length)), .slice A1 n.length c1, .slice A2 d.length c2] 60)) 60 #[.bool (decide (0 < n.length)), .slice A1 n.length c1, .slice A2 d.length c2]
    have hB : Below w.heap.size w ((w.alloc (.cells #[.bool (decide (0 < n.length)), .slice A1 n.length c1, .slice A2 d.length c2] 60)).alloc (.cells #[.bool (decide (0 < n.length)), .slice A1 n.length c1, .slice A2 d.length c2] 60)) := ((Below.refl _ _).alloc (Nat.le_refl _) _).alloc (by simp) _
    have es : (w.alloc (.cells #[.bool (decide (0 < n.length)), .slice A1 n.length c1, .slice A2 d.length c2] 60)).heap.size = w.heap.size + 1 := by simp
    rw [es] at b1
    have e0 := b1.cell 0
    have e1 := b1.cell 1
    have e2 := b1.cell 2
    have HE0 := Lib.hid e0
    have HE1 := Lib.hid e1
    have HE2 := Lib.hid e2
    have HBB := Lib.hid hB
    clear hB b1 es e0 e1 e2
    go_enter Tryz.func310, Tryz.ntmps310
    go_wp2_with fail
    generalize (w.alloc (.cells #[.bool (decide (0 < n.length)), .slice A1 n.length c1, .slice A2 d.length c2] 60)).alloc (.cells #[.bool (decide (0 < n.length)), .slice A1 n.length c1, .slice A2 d.length c2] 60) = wz at *
    have e0 := HE0.out
    have e1 := HE1.out
    have e2 := HE2.out
    refine bodyPost_ret (v := .agg #[.bool (decide (0 < n.length)), .slice A1 n.length c1, .slice A2 d.length c2]) ?_ rfl ⟨_, rfl, ⟨_, _, rfl, HN.out.after HBB.out, HD.out.after HBB.out⟩, HBB.out⟩
    simp [results, Tryz.results310, go_sem, e0, e1, e2]

set_option maxHeartbeats 3200000 in
theorem prNeg_q (v : Value) (q : Rat) (k : Nat) (w : World) (h : RQ w 0 w.heap.size v q k) (hk : k ≤ 1000) : Calls Tryz.prog 247 #[v] w (GivesF (-q) w) := by
  have hcon := fun (w : World) (v : Value) (h : RQ w 0 w.heap.size v q k) => prNorm_q v q k w h hk
  have HC := Lib.hid hcon
  have HR := Lib.hid h
  obtain ⟨s, n, d, ⟨vn, vd, rfl, hn, hd⟩, rest⟩ := h
  have hn' := hn
  have hd' := hd
  obtain ⟨A1, c1, rfl, m1⟩ := nt_len hn'
  obtain ⟨A2, c2, rfl, m2⟩ := nt_len hd'
  have HS := Lib.hid (qS_len q)
  have HN := Lib.hid (qN_neg q)
  have HD := Lib.hid (Rat.neg_den (a := q))
  clear hn' hd' hn hd rest hcon
  go_enter Tryz.func247, Tryz.ntmps247
  go_wp2_with fail
  have b0 := (Blk.new w 60 #[.bool s, .slice A1 n.length c1, .slice A2 d.length c2]).alloc (.cells #[.bool false, .slice none 0 0, .slice none 0 0] 60)
  have b1 := Blk.new (w.alloc (.cells #[.bool s, .slice A1 n.length c1, .slice A2 d.length c2] 60)) 60 #[.bool false, .slice none 0 0, .slice none 0 0]
  have hB : Below w.heap.size w ((w.alloc (.cells #[.bool s, .slice A1 n.length c1, .slice A2 d.length c2] 60)).alloc (.cells #[.bool false, .slice none 0 0, .slice none 0 0] 60)) := ((Below.refl _ _).alloc (Nat.le_refl _) _).alloc (by simp) _
  have es : (w.alloc (.cells #[.bool s, .slice A1 n.length c1, .slice A2 d.length c2] 60)).heap.size = w.heap.size + 1 := by simp
  rw [es] at b1
  clear es
  generalize ((w.alloc (.cells #[.bool s, .slice A1 n.length c1, .slice A2 d.length c2] 60)).alloc (.cells #[.bool false, .slice none 0 0, .slice none 0 0] 60)) = w2 at *
  have hRW := HR.out.after hB
  have c0 := b0.cell 0
  have c1' := b0.cell 1
  have c2' := b0.cell 2
  go_wp2_with fail
  refine (HC.out _ _ hRW).mono ?_
  rintro e w3 ⟨v3, rfl, ⟨an, ad, rfl, han, had⟩, hb⟩
  have han' := han
  have had' := had
  obtain ⟨A8, c8, rfl, m8⟩ := nt_len han'
  obtain ⟨A9, c9, rfl, m9⟩ := nt_len had'
  replace han := han.low (show w.heap.size + 2 ≤ _ from b1.lt)
  replace had := had.low (show w.heap.size + 2 ≤ _ from b1.lt)
  replace b0 := b0.below hb b0.lt
  replace b1 := b1.below hb b1.lt
  replace hB := hB.trans (hb.mono hB.size)
  clear han' had' hRW HR HC hb c0 c1' c2'
  have r0 := b0.cell 0
  have r1 := b0.cell 1
  have r2 := b0.cell 2
  have f0 := b0.free 0
  have f1 := b0.free 1
  have f2 := b0.free 2
  have p0 := ((b0.put 0 (.bool (qS q))).put 1 (.slice A8 (lim (qN q)).length c8)).put 2 (.slice A9 (lim q.den).length c9)
  have q1 := ((b1.far (p := ⟨w.heap.size, 0, none⟩) (by simp) (.bool (qS q))).far (p := ⟨w.heap.size, 1, none⟩) (by simp) (.slice A8 (lim (qN q)).length c8)).far (p := ⟨w.heap.size, 2, none⟩) (by simp) (.slice A9 (lim q.den).length c9)
  have hB2 := ((hB.setCell (p := ⟨w.heap.size, 0, none⟩) (Nat.le_refl _) (.bool (qS q))).setCell (p := ⟨w.heap.size, 1, none⟩) (Nat.le_refl _) (.slice A8 (lim (qN q)).length c8)).setCell (p := ⟨w.heap.size, 2, none⟩) (Nat.le_refl _) (.slice A9 (lim q.den).length c9)
  have x6 := ((han.put3 (g := w.heap.size) (by omega) 0 (.bool (qS q))).put3 (g := w.heap.size) (by omega) 1 (.slice A8 (lim (qN q)).length c8)).put3 (g := w.heap.size) (by omega) 2 (.slice A9 (lim q.den).length c9)
  have y6 := ((had.put3 (g := w.heap.size) (by omega) 0 (.bool (qS q))).put3 (g := w.heap.size) (by omega) 1 (.slice A8 (lim (qN q)).length c8)).put3 (g := w.heap.size) (by omega) 2 (.slice A9 (lim q.den).length c9)
  clear b0 b1 hB han had
  go_wp2_with fail
  clear r0 r1 r2 f0 f1 f2
  generalize ((World.setCell w3 ⟨w.heap.size, 0, none⟩ (.bool (qS q))).setCell ⟨w.heap.size, 1, none⟩ (.slice A8 (lim (qN q)).length c8)).setCell ⟨w.heap.size, 2, none⟩ (.slice A9 (lim q.den).length c9) = w4 at *
  have hsg := prSigned_any (!qS q) _ (qS q) (lim (qN q)) (lim q.den) (w.heap.size + 2) w4 ⟨_, _, rfl, x6, y6⟩
  rw [HS.out] at hsg
  refine hsg.mono ?_
  rintro e w5 ⟨v5, rfl, ⟨an, ad, rfl, han, had⟩, hb⟩
  have han2 := han
  have had2 := had
  obtain ⟨A5, c5, rfl, m5⟩ := nt_len han2
  obtain ⟨A6, c6, rfl, m6⟩ := nt_len had2
  replace q1 := q1.below hb q1.lt
  replace hB2 := hB2.trans (hb.mono hB2.size)
  obtain ⟨e0, e1, e2, hR, hBf⟩ := store3 q1 hB2 (by omega) (qS (-q)) (.slice A5 (lim (qN q)).length c5) (.slice A6 (lim q.den).length c6) han had
  have r0 := q1.cell 0
  have r1 := q1.cell 1
  have r2 := q1.cell 2
  have f0 := q1.free 0
  have f1 := q1.free 1
  have f2 := q1.free 2
  have HRR := Lib.hid hR
  have HBF := Lib.hid hBf
  clear han had han2 had2 x6 y6 hsg hb hR hBf q1 hB2 p0 HS
  unfold St3 at *
  go_wp2_with fail
  clear r0 r1 r2 f0 f1 f2
  generalize ((World.setCell w5 ⟨w.heap.size + 1, 0, none⟩ (.bool (qS (-q)))).setCell ⟨w.heap.size + 1, 1, none⟩ (.slice A5 (lim (qN q)).length c5)).setCell ⟨w.heap.size + 1, 2, none⟩ (.slice A6 (lim q.den).length c6) = wz at *
  refine bodyPost_ret (v := .agg #[.bool (qS (-q)), .slice A5 (lim (qN q)).length c5, .slice A6 (lim q.den).length c6]) ?_ rfl (by
    show GivesT _ _ _ _ _ _
    rw [HN.out, HD.out]
    exact ⟨_, rfl, HRR.out, HBF.out⟩)
  simp [results, Tryz.results247, go_sem, e0, e1, e2]
end Go.Proofs.YtchokmhfgikglaaGreatDoor
