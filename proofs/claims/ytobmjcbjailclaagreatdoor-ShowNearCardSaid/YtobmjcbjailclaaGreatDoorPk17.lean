/- Several texts in one: NearReg, Parse, RefParse, RefParseNo, TextC, CutC, RefRun. Condition: each says its own. -/
import Derived.Laws.BitsAllLaws
import Derived.IntWalk
import Derived.Deep.DeepFit
import Derived.Shelf.Strings.Search2
import Derived.Shelf.Small.Wraps
import Derived.Test.YtobmjcbjailclaaGreatDoorPk2
import Derived.Test.YtobmjcbjailclaaGreatDoorPk3
import Derived.Test.YtobmjcbjailclaaGreatDoorPk4
import Derived.Test.YtobmjcbjailclaaGreatDoorPk7
import Derived.Test.YtobmjcbjailclaaGreatDoorPk12
import Derived.Test.YtobmjcbjailclaaGreatDoorPk13
import Derived.Test.YtobmjcbjailclaaGreatDoorPk14
import Derived.Test.YtobmjcbjailclaaGreatDoorPk15
import Derived.Test.YtobmjcbjailclaaGreatDoorPk16
/- Regions of the twentieth law on what is near: what holds behind them. Condition: none. -/
namespace Go.Proofs.YtobmjcbjailclaaGreatDoor
set_option maxRecDepth 100000
open Go.RowKit

theorem and7 (i : Int) : ∃ r : Nat, r ≤ 7 ∧ bits .and .i64 i 7 = (r : Int) := by
  refine ⟨(BitVec.ofInt 64 i).toNat &&& 7, Nat.and_le_right, ?_⟩
  have h : (BitVec.ofInt 64 i).toNat &&& 7 ≤ 7 := Nat.and_le_right
  show IntKind.i64.wrap ((BitVec.ofInt 64 i &&& BitVec.ofInt 64 7).toNat : Int) = _
  rw [BitVec.toNat_and]
  have e : (BitVec.ofInt 64 7).toNat = 7 := by decide
  rw [e]
  generalize (BitVec.ofInt 64 i).toNat &&& 7 = r at *
  exact IntWalk.i64_in _ (by omega)

/-- A literal of one limb. -/
theorem lit_at {w : World} {g x : Nat} (h : w.cell? ⟨g, 0, none⟩ = some (.int .u32 (x : Int))) (hg : g < w.heap.size) : Nt w 0 w.heap.size (.slice (some ⟨g, 0, none⟩) 1 1) [x] :=
  ⟨some ⟨g, 0, none⟩, 1, rfl, Nat.le_refl _, by decide, fun h => (by cases h), fun _ => ⟨g, 0, rfl, Nat.zero_le _, hg, fun j hj => by
    have hj0 : j = 0 := by simpa using hj
    subst hj0
    exact h⟩⟩

theorem lit_b {w : World} {g x : Nat} {t : TypeId} (h : Blk w g t #[.int .u32 (x : Int)]) : Nt w 0 w.heap.size (.slice (some ⟨g, 0, none⟩) 1 1) [x] := lit_at (h.cell 0) h.lt

section
variable {w0 W W' : World} {g h : Nat} {a0 a1 a2 b0 b1 b2 : Value}
theorem sj_call (hS : Below w0.heap.size w0 W ∧ W.cell? ⟨g, 0, none⟩ = some a0 ∧ W.cell? ⟨g, 1, none⟩ = some a1 ∧ W.cell? ⟨g, 2, none⟩ = some a2 ∧ W.cell? ⟨h, 0, none⟩ = some b0 ∧ W.cell? ⟨h, 1, none⟩ = some b1 ∧ W.cell? ⟨h, 2, none⟩ = some b2) (hb : Below W.heap.size W W') (hg : g < w0.heap.size) (hh : h < w0.heap.size) :
    Below w0.heap.size w0 W' ∧ W'.cell? ⟨g, 0, none⟩ = some a0 ∧ W'.cell? ⟨g, 1, none⟩ = some a1 ∧ W'.cell? ⟨g, 2, none⟩ = some a2 ∧ W'.cell? ⟨h, 0, none⟩ = some b0 ∧ W'.cell? ⟨h, 1, none⟩ = some b1 ∧ W'.cell? ⟨h, 2, none⟩ = some b2 := by
  obtain ⟨i, x, y, z, x', y', z'⟩ := hS
  have hz := i.size
  exact ⟨i.trans (hb.mono hz), (hb.cell (p := ⟨g, 0, none⟩) (by show g < _; omega)).trans x, (hb.cell (p := ⟨g, 1, none⟩) (by show g < _; omega)).trans y, (hb.cell (p := ⟨g, 2, none⟩) (by show g < _; omega)).trans z, (hb.cell (p := ⟨h, 0, none⟩) (by show h < _; omega)).trans x', (hb.cell (p := ⟨h, 1, none⟩) (by show h < _; omega)).trans y', (hb.cell (p := ⟨h, 2, none⟩) (by show h < _; omega)).trans z'⟩
theorem sj_alloc {o : Obj} (hS : Below w0.heap.size w0 W ∧ W.cell? ⟨g, 0, none⟩ = some a0 ∧ W.cell? ⟨g, 1, none⟩ = some a1 ∧ W.cell? ⟨g, 2, none⟩ = some a2 ∧ W.cell? ⟨h, 0, none⟩ = some b0 ∧ W.cell? ⟨h, 1, none⟩ = some b1 ∧ W.cell? ⟨h, 2, none⟩ = some b2) (hg : g < w0.heap.size) (hh : h < w0.heap.size) :
    Below w0.heap.size w0 (W.alloc o) ∧ (W.alloc o).cell? ⟨g, 0, none⟩ = some a0 ∧ (W.alloc o).cell? ⟨g, 1, none⟩ = some a1 ∧ (W.alloc o).cell? ⟨g, 2, none⟩ = some a2 ∧ (W.alloc o).cell? ⟨h, 0, none⟩ = some b0 ∧ (W.alloc o).cell? ⟨h, 1, none⟩ = some b1 ∧ (W.alloc o).cell? ⟨h, 2, none⟩ = some b2 := sj_call hS ((Below.refl _ _).alloc (Nat.le_refl _) _) hg hh
theorem sj_allocd {o : Obj} (hS : Below w0.heap.size w0 W ∧ W.cell? ⟨g, 0, none⟩ = some a0 ∧ W.cell? ⟨g, 1, none⟩ = some a1 ∧ W.cell? ⟨g, 2, none⟩ = some a2 ∧ W.cell? ⟨h, 0, none⟩ = some b0 ∧ W.cell? ⟨h, 1, none⟩ = some b1 ∧ W.cell? ⟨h, 2, none⟩ = some b2) (hg : g < w0.heap.size) (hh : h < w0.heap.size) :
    Below w0.heap.size w0 (W.alloc o).drew ∧ (W.alloc o).drew.cell? ⟨g, 0, none⟩ = some a0 ∧ (W.alloc o).drew.cell? ⟨g, 1, none⟩ = some a1 ∧ (W.alloc o).drew.cell? ⟨g, 2, none⟩ = some a2 ∧ (W.alloc o).drew.cell? ⟨h, 0, none⟩ = some b0 ∧ (W.alloc o).drew.cell? ⟨h, 1, none⟩ = some b1 ∧ (W.alloc o).drew.cell? ⟨h, 2, none⟩ = some b2 := sj_call hS (((Below.refl _ _).alloc (Nat.le_refl _) _).drew) hg hh
theorem sj_undrew (hS : Below w0.heap.size w0 W.drew ∧ W.drew.cell? ⟨g, 0, none⟩ = some a0 ∧ W.drew.cell? ⟨g, 1, none⟩ = some a1 ∧ W.drew.cell? ⟨g, 2, none⟩ = some a2 ∧ W.drew.cell? ⟨h, 0, none⟩ = some b0 ∧ W.drew.cell? ⟨h, 1, none⟩ = some b1 ∧ W.drew.cell? ⟨h, 2, none⟩ = some b2) :
    Below w0.heap.size w0 W ∧ W.cell? ⟨g, 0, none⟩ = some a0 ∧ W.cell? ⟨g, 1, none⟩ = some a1 ∧ W.cell? ⟨g, 2, none⟩ = some a2 ∧ W.cell? ⟨h, 0, none⟩ = some b0 ∧ W.cell? ⟨h, 1, none⟩ = some b1 ∧ W.cell? ⟨h, 2, none⟩ = some b2 := by
  obtain ⟨i, r⟩ := hS
  exact ⟨⟨i.os, i.tape, i.output, i.size, i.block⟩, r⟩
theorem sj_set6 {p : Nat} {s : Bool} {a b : Value} {r : Bool} {c d : Value} (hS : Below w0.heap.size w0 W ∧ W.cell? ⟨g, 0, none⟩ = some a0 ∧ W.cell? ⟨g, 1, none⟩ = some a1 ∧ W.cell? ⟨g, 2, none⟩ = some a2 ∧ W.cell? ⟨h, 0, none⟩ = some b0 ∧ W.cell? ⟨h, 1, none⟩ = some b1 ∧ W.cell? ⟨h, 2, none⟩ = some b2) (hg : g < w0.heap.size) (hh : h < w0.heap.size) (hp : w0.heap.size ≤ p) :
    Below w0.heap.size w0 ((((((W.setCell ⟨p, 0, none⟩ (.bool s)).setCell ⟨p, 1, none⟩ a).setCell ⟨p, 2, none⟩ b).setCell ⟨p, 3, none⟩ (.bool r)).setCell ⟨p, 4, none⟩ c).setCell ⟨p, 5, none⟩ d) ∧
      ((((((W.setCell ⟨p, 0, none⟩ (.bool s)).setCell ⟨p, 1, none⟩ a).setCell ⟨p, 2, none⟩ b).setCell ⟨p, 3, none⟩ (.bool r)).setCell ⟨p, 4, none⟩ c).setCell ⟨p, 5, none⟩ d).cell? ⟨g, 0, none⟩ = some a0 ∧
      ((((((W.setCell ⟨p, 0, none⟩ (.bool s)).setCell ⟨p, 1, none⟩ a).setCell ⟨p, 2, none⟩ b).setCell ⟨p, 3, none⟩ (.bool r)).setCell ⟨p, 4, none⟩ c).setCell ⟨p, 5, none⟩ d).cell? ⟨g, 1, none⟩ = some a1 ∧
      ((((((W.setCell ⟨p, 0, none⟩ (.bool s)).setCell ⟨p, 1, none⟩ a).setCell ⟨p, 2, none⟩ b).setCell ⟨p, 3, none⟩ (.bool r)).setCell ⟨p, 4, none⟩ c).setCell ⟨p, 5, none⟩ d).cell? ⟨g, 2, none⟩ = some a2 ∧
      ((((((W.setCell ⟨p, 0, none⟩ (.bool s)).setCell ⟨p, 1, none⟩ a).setCell ⟨p, 2, none⟩ b).setCell ⟨p, 3, none⟩ (.bool r)).setCell ⟨p, 4, none⟩ c).setCell ⟨p, 5, none⟩ d).cell? ⟨h, 0, none⟩ = some b0 ∧
      ((((((W.setCell ⟨p, 0, none⟩ (.bool s)).setCell ⟨p, 1, none⟩ a).setCell ⟨p, 2, none⟩ b).setCell ⟨p, 3, none⟩ (.bool r)).setCell ⟨p, 4, none⟩ c).setCell ⟨p, 5, none⟩ d).cell? ⟨h, 1, none⟩ = some b1 ∧
      ((((((W.setCell ⟨p, 0, none⟩ (.bool s)).setCell ⟨p, 1, none⟩ a).setCell ⟨p, 2, none⟩ b).setCell ⟨p, 3, none⟩ (.bool r)).setCell ⟨p, 4, none⟩ c).setCell ⟨p, 5, none⟩ d).cell? ⟨h, 2, none⟩ = some b2 := by
  obtain ⟨i, x, y, z, x', y', z'⟩ := hS
  have e1 := s3_out6 (p := p) (s := s) (a := a) (b := b) (r := r) (c := c) (d := d) ⟨x, y, z⟩ (by omega)
  have e2 := s3_out6 (p := p) (s := s) (a := a) (b := b) (r := r) (c := c) (d := d) ⟨x', y', z'⟩ (by omega)
  exact ⟨(((((i.setCell (p := ⟨p, 0, none⟩) hp _).setCell (p := ⟨p, 1, none⟩) hp _).setCell (p := ⟨p, 2, none⟩) hp _).setCell (p := ⟨p, 3, none⟩) hp _).setCell (p := ⟨p, 4, none⟩) hp _).setCell (p := ⟨p, 5, none⟩) hp _, e1.1, e1.2.1, e1.2.2, e2.1, e2.2.1, e2.2.2⟩
end

/-- The number in the ball, in its variable. -/
def R6 (w8 : World) (y : Rat) (r : Value) (wx : World) : Prop :=
  ∃ g F1 l1 F2 l2, r = .pointer (some ⟨g, 0, none⟩) ∧ Blk wx g 25 #[.bool (qS y), .slice F1 (lim (qN y)).length l1, .slice F2 (lim y.den).length l2] ∧
    Nt wx 0 wx.heap.size (.slice F1 (lim (qN y)).length l1) (lim (qN y)) ∧ Nt wx 0 wx.heap.size (.slice F2 (lim y.den).length l2) (lim y.den) ∧ Below w8.heap.size w8 wx

theorem r6_new {w8 W : World} {y : Rat} {L : Nat} {F1 F2 : Option Addr} {l1 l2 : Nat} (n1 : Nt W L W.heap.size (.slice F1 (lim (qN y)).length l1) (lim (qN y))) (n2 : Nt W L W.heap.size (.slice F2 (lim y.den).length l2) (lim y.den)) (hB : Below w8.heap.size w8 W) :
    R6 w8 y (.pointer (some ⟨W.heap.size, 0, none⟩)) (W.alloc (.cells #[.bool (qS y), .slice F1 (lim (qN y)).length l1, .slice F2 (lim y.den).length l2] 25)) := by
  have hal := (Below.refl W.heap.size W).alloc (Nat.le_refl _) (.cells #[.bool (qS y), .slice F1 (lim (qN y)).length l1, .slice F2 (lim y.den).length l2] 25)
  exact ⟨_, F1, l1, F2, l2, rfl, Blk.new _ _ _, (n1.low (Nat.zero_le _)).after hal, (n2.low (Nat.zero_le _)).after hal, hB.trans (hal.mono hB.size)⟩

theorem r6_set {w8 W : World} {y : Rat} {g L : Nat} {F1 F2 : Option Addr} {l1 l2 : Nat} {z0 z1 z2 : Value} (n1 : Nt W L W.heap.size (.slice F1 (lim (qN y)).length l1) (lim (qN y))) (n2 : Nt W L W.heap.size (.slice F2 (lim y.den).length l2) (lim y.den)) (hB : Below w8.heap.size w8 W)
    (z : Blk W g 25 #[z0, z1, z2]) (hg : g < L) (hgw : w8.heap.size ≤ g) :
    R6 w8 y (.pointer (some ⟨g, 0, none⟩)) (((W.setCell ⟨g, 0, none⟩ (.bool (qS y))).setCell ⟨g, 1, none⟩ (.slice F1 (lim (qN y)).length l1)).setCell ⟨g, 2, none⟩ (.slice F2 (lim y.den).length l2)) :=
  ⟨_, F1, l1, F2, l2, rfl, blk_put3 z, (nt_set3 n1 hg _ _ _).low (Nat.zero_le _), (nt_set3 n2 hg _ _ _).low (Nat.zero_le _), below_set3 hB hgw _ _ _⟩

theorem blk_new2 (W : World) (o o' : Obj) (t : TypeId) (cs : Array Value) : Blk (((W.alloc o).alloc o').alloc (.cells cs t)) (W.heap.size + 1 + 1) t cs := by
  have h := blk_new1 (W.alloc o) o' t cs
  have e : (W.alloc o).heap.size = W.heap.size + 1 := by simp
  rw [e] at h
  exact h

theorem frac_range {x y : Nat} (h : x ≤ y) (hy : 0 < y) : 0 ≤ qv false x y ∧ qv false x y ≤ 1 := by
  have e : qv false x y = (x : Rat) * ((y : Rat))⁻¹ := by
    unfold qv
    rw [Rat.mkRat_eq_div, Rat.div_def]
    rfl
  have py : 0 < ((y : Rat))⁻¹ := Rat.inv_pos.2 (Rat.natCast_pos.2 hy)
  have h1 : (x : Rat) ≤ (y : Rat) := Rat.natCast_le_natCast.2 h
  have h0 : (0 : Rat) ≤ (x : Rat) := Rat.natCast_nonneg
  have ey : (y : Rat) * ((y : Rat))⁻¹ = 1 := Rat.mul_inv_cancel _ (by intro hc; have := Rat.natCast_eq_zero_iff.1 hc; omega)
  have k1 := Rat.mul_le_mul_of_nonneg_right h1 (Rat.le_of_lt py)
  rw [ey] at k1
  rw [e]
  exact ⟨Rat.mul_nonneg h0 (Rat.le_of_lt py), k1⟩

theorem part_range {t f : Rat} (ht : 0 ≤ t) (h0 : 0 ≤ f) (h1 : f ≤ 1) : 0 ≤ t * f ∧ t * f ≤ t := by
  refine ⟨Rat.mul_nonneg ht h0, ?_⟩
  have := Rat.mul_le_mul_of_nonneg_left h1 ht
  rw [Rat.mul_one] at this
  exact this

section
variable {w0 W : World} {g h : Nat} {a0 a1 a2 b0 b1 b2 : Value}
theorem sj_set3 {p : Nat} {a b c : Value} (hS : Below w0.heap.size w0 W ∧ W.cell? ⟨g, 0, none⟩ = some a0 ∧ W.cell? ⟨g, 1, none⟩ = some a1 ∧ W.cell? ⟨g, 2, none⟩ = some a2 ∧ W.cell? ⟨h, 0, none⟩ = some b0 ∧ W.cell? ⟨h, 1, none⟩ = some b1 ∧ W.cell? ⟨h, 2, none⟩ = some b2) (hg : g < w0.heap.size) (hh : h < w0.heap.size) (hp : w0.heap.size ≤ p) :
    Below w0.heap.size w0 (((W.setCell ⟨p, 0, none⟩ a).setCell ⟨p, 1, none⟩ b).setCell ⟨p, 2, none⟩ c) ∧
      (((W.setCell ⟨p, 0, none⟩ a).setCell ⟨p, 1, none⟩ b).setCell ⟨p, 2, none⟩ c).cell? ⟨g, 0, none⟩ = some a0 ∧
      (((W.setCell ⟨p, 0, none⟩ a).setCell ⟨p, 1, none⟩ b).setCell ⟨p, 2, none⟩ c).cell? ⟨g, 1, none⟩ = some a1 ∧
      (((W.setCell ⟨p, 0, none⟩ a).setCell ⟨p, 1, none⟩ b).setCell ⟨p, 2, none⟩ c).cell? ⟨g, 2, none⟩ = some a2 ∧
      (((W.setCell ⟨p, 0, none⟩ a).setCell ⟨p, 1, none⟩ b).setCell ⟨p, 2, none⟩ c).cell? ⟨h, 0, none⟩ = some b0 ∧
      (((W.setCell ⟨p, 0, none⟩ a).setCell ⟨p, 1, none⟩ b).setCell ⟨p, 2, none⟩ c).cell? ⟨h, 1, none⟩ = some b1 ∧
      (((W.setCell ⟨p, 0, none⟩ a).setCell ⟨p, 1, none⟩ b).setCell ⟨p, 2, none⟩ c).cell? ⟨h, 2, none⟩ = some b2 := by
  obtain ⟨i, x, y, z, x', y', z'⟩ := hS
  exact ⟨below_set3 i hp _ _ _, far_set3 x (by omega), far_set3 y (by omega), far_set3 z (by omega), far_set3 x' (by omega), far_set3 y' (by omega), far_set3 z' (by omega)⟩
end
theorem s9_of {w W : World} {g h : Nat} {t t' : TypeId} {a0 a1 a2 a3 a4 a5 b0 b1 b2 : Value} (hk : Below w.heap.size w W) (B : Blk w g t #[a0, a1, a2, a3, a4, a5]) (B' : Blk w h t' #[b0, b1, b2]) :
    W.cell? ⟨g, 0, none⟩ = some a0 ∧ W.cell? ⟨g, 1, none⟩ = some a1 ∧ W.cell? ⟨g, 2, none⟩ = some a2 ∧ W.cell? ⟨g, 3, none⟩ = some a3 ∧ W.cell? ⟨g, 4, none⟩ = some a4 ∧ W.cell? ⟨g, 5, none⟩ = some a5 ∧ W.cell? ⟨h, 0, none⟩ = some b0 ∧ W.cell? ⟨h, 1, none⟩ = some b1 ∧ W.cell? ⟨h, 2, none⟩ = some b2 :=
  have C := B.below hk B.lt
  have C' := B'.below hk B'.lt
  ⟨C.cell 0, C.cell 1, C.cell 2, C.cell 3, C.cell 4, C.cell 5, C'.cell 0, C'.cell 1, C'.cell 2⟩
end Go.Proofs.YtobmjcbjailclaaGreatDoor

/- The program's 'Parse' of digits by its contract. Condition: none. -/
namespace Go.Proofs.YtobmjcbjailclaaGreatDoor
set_option maxRecDepth 100000
open Go.RowKit Go.Shelf Go.Lib

/-- A text's bytes as numbers. -/
def byts (s : ByteArray) : List Nat := s.data.toList.map (·.toNat)
/-- A text of digits that may be read. -/
def okS (s : ByteArray) : Prop := 1 ≤ s.size ∧ s.size ≤ 400 ∧ ∀ x ∈ byts s, 48 ≤ x ∧ x ≤ 57
/-- The number that digits tell. -/
def numS (s : ByteArray) : Nat := undec ((byts s).map (· - 48))

theorem byts_length (s : ByteArray) : (byts s).length = s.size := by unfold byts; rw [List.length_map]; rfl
theorem byts_get (s : ByteArray) (i : Nat) (h : i < s.size) : (byts s)[i]'(by rw [byts_length]; exact h) = (s[i]'h).toNat := by
  unfold byts
  rw [List.getElem_map]
  rfl

theorem dropWhile_nil {α : Type} (p : α → Bool) : ∀ l : List α, l.dropWhile p = [] ↔ ∀ x ∈ l, p x = true
  | [] => by simp
  | a :: r => by
    rw [List.dropWhile_cons]
    by_cases h : p a = true
    · rw [if_pos h, dropWhile_nil p r]
      simp [h]
    · rw [if_neg h]
      simp [h]

theorem digit_in (b : UInt8) : ([48, 49, 50, 51, 52, 53, 54, 55, 56, 57] : List UInt8).contains b = decide (48 ≤ b.toNat ∧ b.toNat ≤ 57) := by
  have h : ∀ n : Fin 256, ([48, 49, 50, 51, 52, 53, 54, 55, 56, 57] : List UInt8).contains (UInt8.ofNat n.val) = decide (48 ≤ n.val ∧ n.val ≤ 57) := by decide +kernel
  have := h ⟨b.toNat, b.toNat_lt⟩
  simpa using this

theorem trim_digits (l : List UInt8) : Lib.trimS l [48, 49, 50, 51, 52, 53, 54, 55, 56, 57] = [] ↔ ∀ x ∈ l.map (·.toNat), 48 ≤ x ∧ x ≤ 57 := by
  have hp : ∀ x : UInt8, ([48, 49, 50, 51, 52, 53, 54, 55, 56, 57] : List UInt8).contains x = true ↔ (48 ≤ x.toNat ∧ x.toNat ≤ 57) := fun x => by rw [digit_in, decide_eq_true_iff]
  unfold Lib.trimS Lib.trimLeftS
  rw [dropWhile_nil]
  constructor
  · intro h
    have h2 : Lib.trimRightS l [48, 49, 50, 51, 52, 53, 54, 55, 56, 57] = [] := by
      unfold Lib.trimRightS at h ⊢
      rw [List.reverse_eq_nil_iff]
      cases hd : List.dropWhile (fun x => ([48, 49, 50, 51, 52, 53, 54, 55, 56, 57] : List UInt8).contains x) l.reverse with
      | nil => rfl
      | cons x r =>
        have h3 := h x (by rw [hd]; simp)
        have h4 := List.head_dropWhile_not (p := fun x => ([48, 49, 50, 51, 52, 53, 54, 55, 56, 57] : List UInt8).contains x) (l := l.reverse) (by rw [hd]; simp)
        simp only [hd, List.head_cons] at h4
        rw [h3] at h4
        cases h4
    unfold Lib.trimRightS at h2
    rw [List.reverse_eq_nil_iff, dropWhile_nil] at h2
    intro x hx
    obtain ⟨y, hy, rfl⟩ := List.mem_map.1 hx
    exact (hp y).1 (h2 y (List.mem_reverse.2 hy))
  · intro h
    have h2 : Lib.trimRightS l [48, 49, 50, 51, 52, 53, 54, 55, 56, 57] = [] := by
      unfold Lib.trimRightS
      rw [List.reverse_eq_nil_iff, dropWhile_nil]
      intro x hx
      exact (hp x).2 (h _ (List.mem_map.2 ⟨x, List.mem_reverse.1 hx, rfl⟩))
    rw [h2]
    simp

set_option maxHeartbeats 3200000 in
theorem trimAll (s : ByteArray) (w : World) (hs : s.size ≤ 400) :
    Calls Tryz.prog 70 #[.string s, .string ⟨#[48, 49, 50, 51, 52, 53, 54, 55, 56, 57]⟩] w fun e w' => e = .returned (.string ⟨(Lib.trimS s.data.toList [48, 49, 50, 51, 52, 53, 54, 55, 56, 57]).toArray⟩) ∧ Below w.heap.size w w' :=
  Any.strings_Trim_laid Tryz.lays160 (by kernel_rfl) s ⟨#[48, 49, 50, 51, 52, 53, 54, 55, 56, 57]⟩ w (by omega) (by decide) (ascii_of_all (by decide))

theorem undec_take (s : ByteArray) (k : Nat) (h : k < s.size) : undec (((byts s).take (k + 1)).map (· - 48)) = undec (((byts s).take k).map (· - 48)) * 10 + ((s[k]'h).toNat - 48) := by
  have h1 : k < (byts s).length := by rw [byts_length]; exact h
  rw [List.take_add_one, List.getElem?_eq_getElem h1, Option.toList_some, List.map_append, List.map_singleton, undec_snoc, byts_get s k h]

theorem undec_len (s : ByteArray) (k : Nat) (hk : okS s) : (lim (undec (((byts s).take k).map (· - 48)))).length ≤ 400 := by
  have hl : (((byts s).take k).map (· - 48)).length ≤ 400 := by rw [List.length_map, List.length_take, byts_length]; have := hk.2.1; omega
  have h1 : undec (((byts s).take k).map (· - 48)) < 10 ^ (((byts s).take k).map (· - 48)).length := undec_lt fun x hx => by
    obtain ⟨y, hy, rfl⟩ := List.mem_map.1 hx
    have := hk.2.2 y (List.mem_of_mem_take hy)
    omega
  exact lim_ten h1 hl

set_option maxHeartbeats 3200000 in
theorem parse_any (s : ByteArray) (w : World) (hk : okS s) :
    Calls Tryz.prog 27 #[.string s] w (GivesB (lim (numS s)) true w) := by
  have hemp : s.toList.isEmpty = false := by
    rw [ByteArray.toList_eq]
    have := hk.1
    cases h : s.data.toList with
    | nil =>
      have h2 : s.size = s.data.toList.length := rfl
      rw [h, List.length_nil] at h2
      omega
    | cons => rfl
  have hbig : decide ((400 : Int) < (s.size : Int)) = false := decide_eq_false (by have := hk.2.1; omega)
  have htr := trimAll s w hk.2.1
  rw [(trim_digits s.data.toList).2 hk.2.2] at htr
  have hs4 := hk.2.1
  have HK := Lib.hid hk
  clear hk
  go_enter Tryz.func27, Tryz.ntmps27
  go_wp2_with fail
  refine htr.mono ?_
  rintro e w1 ⟨rfl, hb⟩
  go_wp2_with fail
  go_loopw [4, 20] (fun a i wr => ∃ k : Nat, k ≤ s.size ∧ i = .int .i64 (k : Int) ∧ Nt wr w.heap.size wr.heap.size a (lim (undec (((byts s).take k).map (· - 48)))) ∧ Below w.heap.size w wr) (fun _ i _ => s.size - (RowKit.intOf i).toNat)
  case atStart => exact ⟨0, Nat.zero_le _, rfl, by rw [List.take_zero, List.map_nil, show undec [] = 0 from rfl, lim_zero]; exact Nt.nil _ _ _, hb⟩
  case round =>
    obtain ⟨k, hk, rfl, ha, hB⟩ := hrel
    have hll := undec_len s k HK.out
    by_cases hlt : k < s.size
    · have HU := Lib.hid (undec_take s k hlt)
      have hkI : (k : Int) < (s.size : Int) := by omega
      have hdg := HK.out.2.2 _ (List.getElem_mem (by rw [byts_length]; exact hlt : k < (byts s).length))
      rw [byts_get s k hlt] at hdg
      generalize undec (((byts s).take k).map (· - 48)) = m at *
      have ten : Hid (∀ W : World, Nt (W.alloc (.cells #[.int .u32 10] 43)) 0 (W.alloc (.cells #[.int .u32 10] 43)).heap.size (.slice (some ⟨W.heap.size, 0, none⟩) 1 1) [10]) := fun W => (nt_laid W 43 [10] (by simp)).1
      obtain ⟨d, hd⟩ : ∃ d, s[k].toNat = 48 + d := ⟨s[k].toNat - 48, by omega⟩
      have hd9 : d < 10 := by omega
      have hdI : ((s[k].toNat : Nat) : Int) = 48 + (d : Int) := by omega
      have hu : IntKind.u8.wrap (d : Int) = (d : Int) := by unfold IntKind.wrap; simp [IntKind.bits, IntKind.signed]; omega
      have hsb : (48 : Int) + (d : Int) - 48 = (d : Int) := by omega
      have hu64 : IntKind.u64.wrap (d : Int) = (d : Int) := IntWalk.u64_in _ (by omega)
      rw [hd, Nat.add_sub_cancel_left] at HU
      have HA : Hid (∀ o, Nt (wr.alloc o) 0 (wr.alloc o).heap.size u4 (lim m)) := fun o => ((ha.low (Nat.zero_le _)).alloc (Nat.le_refl _) o).up (by simp)
      have DL := Lib.hid (dig_lim m)
      have D10 : Dig [10] := by intro x hx; simp at hx; omega
      have VM : Hid (val (lim m) = m) := val_lim m
      have HOF : Hid (∀ W, Calls Tryz.prog 54 #[.int .u64 (d : Int)] W (Gives (lim d) W)) := fun W => of_any d W (by omega)
      have hnx : Hid ((lim (undec (((byts s).take (k + 1)).map (· - 48)))).length ≤ 400) := undec_len s (k + 1) HK.out
      have HL3 : Hid ((lim (val (lim m) * val [10])).length ≤ 100000) := by
        show _ ≤ _
        exact Nat.le_trans (lim_mul_len DL.out D10 rfl rfl hll (by simp : [10].length ≤ 1)) (by omega)
      have HL4 : Hid ((lim d).length ≤ 100000) := by
        show _ ≤ _
        have : (lim d).length ≤ 1 := lim_length_le (by omega)
        omega
      have HV5 : Hid (val (lim (val (lim m) * val [10])) + val (lim d) = undec (((byts s).take (k + 1)).map (· - 48))) := by
        show _ = _
        rw [val_lim, val_lim, val_lim, HU.out]
        rfl
      clear hd hdg ha
      go_wp2_with fail
      go_region_held3 (fun W => Below wr.heap.size wr W)
        (first | assumption | exact Below.drew (Below.refl _ _) | exact Below.drew (by assumption) | exact Below.alloc (Below.drew (Below.refl _ _)) (Nat.le_refl _) _)
        (first
          | (go_at_call 72; refine (mul_any _ _ (lim m) [10] _ DL.out D10 (HA.out _).drew (ten.out _).drew (by omega) (by simp)).mono ?_; rintro e3 w3 ⟨v3, rfl, h3, hb3⟩; have hbk : Below wr.heap.size wr w3 := Below.trans (Below.drew (Below.alloc (Below.refl _ _) (Nat.le_refl _) _)) (hb3.mono (by simp)))
          | (go_at_call 54; refine (HOF.out _).mono ?_; rintro e4 w4 ⟨v4, rfl, h4, hb4⟩; have hbk4 : Below wr.heap.size wr w4 := hbk.trans (hb4.mono hbk.size); replace h3 := (h3.low (Nat.zero_le _)).after hb4; replace h4 := h4.low (Nat.zero_le _))
          | (go_at_call 71; refine (add_any _ _ _ _ _ (dig_lim _) (dig_lim _) h3 h4 HL3.out HL4.out).mono ?_; rintro e5 w5 ⟨v5, rfl, h5, hb5⟩; have hbk5 : Below wr.heap.size wr w5 := hbk4.trans (hb5.mono hbk4.size))
          | fail)
      all_goals
        rw [HV5.out] at h5
        replace h5 := h5.low (Nat.le_trans hB.size hbk4.size)
        have hBB := hB.trans (hbk5.mono hB.size)
        clear hb3 hbk hb4 hbk4 h3 h4 hb5 hbk5 HU HA HV5
        go_wp2_with fail
        refine ⟨⟨k + 1, by omega, by go_num, h5, hBB⟩, ?_⟩
        simp [RowKit.intOf]
        omega
    · obtain rfl : k = s.size := by omega
      have hall : Hid (undec (((byts s).take s.size).map (· - 48)) = numS s) := by
        show _ = _
        rw [List.take_of_length_le (by rw [byts_length]; omega)]
        rfl
      rw [hall.out] at ha
      go_wp2_with fail
      go_ret2
      exact ⟨_, rfl, ha, hB⟩

theorem isEmpty_size (s : ByteArray) : s.toList.isEmpty = decide (s.size = 0) := by
  rw [ByteArray.toList_eq]
  have h2 : s.size = s.data.toList.length := rfl
  rw [h2]
  cases s.data.toList <;> simp

set_option maxHeartbeats 3200000 in
theorem parse_no (s : ByteArray) (w : World) (hk : ¬ okS s) :
    Calls Tryz.prog 27 #[.string s] w (GivesB [] false w) := by
  have hem := isEmpty_size s
  by_cases h1 : s.size = 0
  · rw [h1] at hem
    replace hem : s.toList.isEmpty = true := hem
    clear hk h1
    go_enter Tryz.func27, Tryz.ntmps27
    go_wp2_with fail
    go_ret2
    exact ⟨_, rfl, Nt.nil _ _ _, Below.refl _ _⟩
  · replace hem : s.toList.isEmpty = false := hem.trans (decide_eq_false h1)
    by_cases h2 : s.size ≤ 400
    · have hbig : decide ((400 : Int) < (s.size : Int)) = false := decide_eq_false (by omega)
      have htr := trimAll s w h2
      have hne : Lib.trimS s.data.toList [48, 49, 50, 51, 52, 53, 54, 55, 56, 57] ≠ [] := fun h => hk ⟨by omega, h2, (trim_digits _).1 h⟩
      have hte : (⟨(Lib.trimS s.data.toList [48, 49, 50, 51, 52, 53, 54, 55, 56, 57]).toArray⟩ : ByteArray).toList.isEmpty = false := by
        rw [ByteArray.toList_mk]
        cases h : Lib.trimS s.data.toList [48, 49, 50, 51, 52, 53, 54, 55, 56, 57] with
        | nil => exact absurd h hne
        | cons => rfl
      generalize (⟨(Lib.trimS s.data.toList [48, 49, 50, 51, 52, 53, 54, 55, 56, 57]).toArray⟩ : ByteArray) = t at htr hte
      clear hk h1 hne h2
      go_enter Tryz.func27, Tryz.ntmps27
      go_wp2_with fail
      refine htr.mono ?_
      rintro e w1 ⟨rfl, hb⟩
      clear htr
      go_wp2_with fail
      go_ret2
      exact ⟨_, rfl, Nt.nil _ _ _, hb⟩
    · have hbig : decide ((400 : Int) < (s.size : Int)) = true := decide_eq_true (by omega)
      clear hk h1 h2
      go_enter Tryz.func27, Tryz.ntmps27
      go_wp2_with fail
      go_ret2
      exact ⟨_, rfl, Nt.nil _ _ _, Below.refl _ _⟩
end Go.Proofs.YtobmjcbjailclaaGreatDoor

/- The reference's 'Parse' of digits by its contract. Condition: none. -/
namespace Go.Proofs.YtobmjcbjailclaaGreatDoor
set_option maxRecDepth 100000
open Go.RowKit Go.Shelf Go.Lib

set_option maxHeartbeats 3200000 in
theorem refParse_any (s : ByteArray) (w : World) (hk : okS s) :
    Calls Tryz.prog 33 #[.string s] w (GivesB (lim (numS s)) true w) := by
  have hsm : decide ((s.size : Int) < 1) = false := decide_eq_false (by have := hk.1; omega)
  have hbig : decide ((400 : Int) < (s.size : Int)) = false := decide_eq_false (by have := hk.2.1; omega)
  have hs4 := hk.2.1
  have HK := Lib.hid hk
  clear hk
  go_enter Tryz.func33, Tryz.ntmps33
  have hb : Below w.heap.size w w := Below.refl _ _
  go_wp2_with fail
  go_loopw [4, 5] (fun a i wr => ∃ k : Nat, k ≤ s.size ∧ i = .int .i64 (k : Int) ∧ Nt wr w.heap.size wr.heap.size a (lim (undec (((byts s).take k).map (· - 48)))) ∧ Below w.heap.size w wr) (fun _ i _ => s.size - (RowKit.intOf i).toNat)
  case atStart => exact ⟨0, Nat.zero_le _, rfl, by rw [List.take_zero, List.map_nil, show undec [] = 0 from rfl, lim_zero]; exact Nt.nil _ _ _, hb⟩
  case round =>
    obtain ⟨k, hk, rfl, ha, hB⟩ := hrel
    have hll := undec_len s k HK.out
    by_cases hlt : k < s.size
    · have HU := Lib.hid (undec_take s k hlt)
      have hkI : (k : Int) < (s.size : Int) := by omega
      have hdg := HK.out.2.2 _ (List.getElem_mem (by rw [byts_length]; exact hlt : k < (byts s).length))
      rw [byts_get s k hlt] at hdg
      generalize undec (((byts s).take k).map (· - 48)) = m at *
      have ten : Hid (∀ W : World, Nt (W.alloc (.cells #[.int .u32 10] 43)) 0 (W.alloc (.cells #[.int .u32 10] 43)).heap.size (.slice (some ⟨W.heap.size, 0, none⟩) 1 1) [10]) := fun W => (nt_laid W 43 [10] (by simp)).1
      obtain ⟨d, hd⟩ : ∃ d, s[k].toNat = 48 + d := ⟨s[k].toNat - 48, by omega⟩
      have hd9 : d < 10 := by omega
      have hdI : ((s[k].toNat : Nat) : Int) = 48 + (d : Int) := by omega
      have hu : IntKind.u8.wrap (d : Int) = (d : Int) := by unfold IntKind.wrap; simp [IntKind.bits, IntKind.signed]; omega
      have hsb : (48 : Int) + (d : Int) - 48 = (d : Int) := by omega
      have hu32 : IntKind.u32.wrap (d : Int) = (d : Int) := by unfold IntKind.wrap; simp [IntKind.bits, IntKind.signed]; omega
      rw [hd, Nat.add_sub_cancel_left] at HU
      have HA : Hid (∀ o, Nt (wr.alloc o) 0 (wr.alloc o).heap.size u4 (lim m)) := fun o => ((ha.low (Nat.zero_le _)).alloc (Nat.le_refl _) o).up (by simp)
      have DL := Lib.hid (dig_lim m)
      have D10 : Dig [10] := by intro x hx; simp at hx; omega
      have VM : Hid (val (lim m) = m) := val_lim m
      have dl : Hid (∀ W : World, Nt (W.alloc (.cells #[.int .u32 (d : Int)] 43)) 0 (W.alloc (.cells #[.int .u32 (d : Int)] 43)).heap.size (.slice (some ⟨W.heap.size, 0, none⟩) 1 1) [d]) := fun W => (nt_laid W 43 [d] (by simp)).1
      have DD : Dig [d] := by intro x hx; simp at hx; omega
      have hnx : Hid ((lim (undec (((byts s).take (k + 1)).map (· - 48)))).length ≤ 400) := undec_len s (k + 1) HK.out
      have HL3 : Hid ((lim (val (lim m) * val [10])).length ≤ 100000) := by
        show _ ≤ _
        exact Nat.le_trans (lim_mul_len DL.out D10 rfl rfl hll (by simp : [10].length ≤ 1)) (by omega)
      have HV5 : Hid (val (lim (val (lim m) * val [10])) + val [d] = undec (((byts s).take (k + 1)).map (· - 48))) := by
        show _ = _
        rw [val_lim, val_lim, HU.out]
        simp [val]
      have HZ : ∀ o : Obj, (wr.alloc o).heap.size = wr.heap.size + 1 := fun o => by simp
      have HA1 : Hid (∀ o, Nt (wr.alloc o).drew 0 (wr.alloc o).drew.heap.size u4 (lim m)) := fun o => HA.out o
      have HA2 : Hid (∀ o o', Nt ((wr.alloc o).alloc o').drew 0 ((wr.alloc o).alloc o').drew.heap.size u4 (lim m)) := fun o o' => ((HA.out o).alloc (Nat.le_refl _) o').up (by simp)
      have T1 : Hid (∀ W : World, Nt (W.alloc (.cells #[.int .u32 10] 43)).drew 0 (W.alloc (.cells #[.int .u32 10] 43)).drew.heap.size (.slice (some ⟨W.heap.size, 0, none⟩) 1 1) [10]) := fun W => ten.out W
      have T2 : Hid (∀ o, Nt ((wr.alloc (.cells #[.int .u32 10] 43)).alloc o).drew 0 ((wr.alloc (.cells #[.int .u32 10] 43)).alloc o).drew.heap.size (.slice (some ⟨wr.heap.size, 0, none⟩) 1 1) [10]) := fun o => ((ten.out wr).alloc (Nat.le_refl _) o).up (by simp)
      have D3 : Hid (∀ o, Nt ((wr.alloc (.cells #[.int .u32 (d : Int)] 43)).alloc o).drew 0 ((wr.alloc (.cells #[.int .u32 (d : Int)] 43)).alloc o).drew.heap.size (.slice (some ⟨wr.heap.size, 0, none⟩) 1 1) [d]) := fun o => ((dl.out wr).alloc (Nat.le_refl _) o).up (by simp)
      have T3 : Hid (∀ o, Nt ((wr.alloc o).alloc (.cells #[.int .u32 10] 43)).drew 0 ((wr.alloc o).alloc (.cells #[.int .u32 10] 43)).drew.heap.size (.slice (some ⟨wr.heap.size + 1, 0, none⟩) 1 1) [10]) := fun o => by have h := ten.out (wr.alloc o); rw [HZ o] at h; exact h
      have D2 : Hid (∀ o, Nt ((wr.alloc o).alloc (.cells #[.int .u32 (d : Int)] 43)).drew 0 ((wr.alloc o).alloc (.cells #[.int .u32 (d : Int)] 43)).drew.heap.size (.slice (some ⟨wr.heap.size + 1, 0, none⟩) 1 1) [d]) := fun o => by have h := dl.out (wr.alloc o); rw [HZ o] at h; exact h
      have HBB : Hid (∀ o o', Below wr.heap.size wr ((wr.alloc o).alloc o').drew) := fun o o' => Below.drew (Below.alloc (Below.alloc (Below.refl _ _) (Nat.le_refl _) _) (by simp) _)
      have HB1 : Hid (∀ o, Below wr.heap.size wr (wr.alloc o).drew) := fun o => Below.drew (Below.alloc (Below.refl _ _) (Nat.le_refl _) _)
      clear HZ
      have HLM : Hid ((lim m).length ≤ 100000) := Nat.le_trans hll (by omega)
      have H1 : Hid ([10].length ≤ 100000) := by show 1 ≤ _; omega
      have HD1 : Hid ([d].length ≤ 100000) := by show 1 ≤ _; omega
      clear hd hdg ha
      go_wp2_with fail
      go_region_held3 (fun W => Below wr.heap.size wr W)
        (with_reducible (first | assumption | exact Below.drew (Below.refl _ _) | exact HB1.out _ | exact HBB.out _ _ | exact Below.alloc hbk hbk.size _))
        (first
          | (go_at_call 36; go_fit (refMul_any _ _ (lim m) [10] _ DL.out D10 (HA2.out _ _) (T2.out _) HLM.out H1.out); rintro e3 w3 ⟨v3, rfl, h3, hb3⟩; have h4 := (D2.out _).after hb3; have hbk : Below wr.heap.size wr w3 := Below.trans (HBB.out _ _) (hb3.mono (HBB.out _ _).size))
          | (go_at_call 36; go_fit (refMul_any _ _ (lim m) [10] _ DL.out D10 (HA2.out _ _) (T3.out _) HLM.out H1.out); rintro e3 w3 ⟨v3, rfl, h3, hb3⟩; have h4 := (D3.out _).after hb3; have hbk : Below wr.heap.size wr w3 := Below.trans (HBB.out _ _) (hb3.mono (HBB.out _ _).size))
          | (go_at_call 36; go_fit (refMul_any _ _ (lim m) [10] _ DL.out D10 (HA1.out _) (T1.out _) HLM.out H1.out); rintro e3 w3 ⟨v3, rfl, h3, hb3⟩; have hbk : Below wr.heap.size wr w3 := Below.trans (HB1.out _) (hb3.mono (HB1.out _).size))
          | (go_at_call 35; go_fit (refAdd_any _ _ _ _ _ (dig_lim _) DD (h3.low (Nat.zero_le _)) h4 HL3.out HD1.out); rintro e5 w5 ⟨v5, rfl, h5, hb5⟩; have hbk4 : Below wr.heap.size wr w3 := hbk; have hbk5 : Below wr.heap.size wr w5 := hbk4.trans (hb5.mono hbk4.size))
          | (go_at_call 35; have hh := Nt.up (B' := (w3.alloc (.cells #[.int .u32 (d : Int)] 43)).heap.size) ((h3.low (Nat.zero_le _)).alloc (Nat.le_refl _) (.cells #[.int .u32 (d : Int)] 43)) (by simp); go_fit (refAdd_any _ _ _ _ _ (dig_lim _) DD hh (dl.out _) HL3.out HD1.out); rintro e5 w5 ⟨v5, rfl, h5, hb5⟩; have hbk4 : Below wr.heap.size wr (w3.alloc (.cells #[.int .u32 (d : Int)] 43)) := Below.alloc hbk hbk.size _; have hbk5 : Below wr.heap.size wr w5 := hbk4.trans (hb5.mono hbk4.size))
          | fail)
      all_goals
        rw [HV5.out] at h5
        replace h5 := h5.low (Nat.le_trans hB.size hbk4.size)
        have hBB := hB.trans (hbk5.mono hB.size)
        clear hb3 hbk hbk4 h3 hb5 hbk5 HU HA HV5
        go_wp2_with fail
        refine ⟨⟨k + 1, by omega, by go_num, h5, hBB⟩, ?_⟩
        simp [RowKit.intOf]
        omega
    · obtain rfl : k = s.size := by omega
      have hall : Hid (undec (((byts s).take s.size).map (· - 48)) = numS s) := by
        show _ = _
        rw [List.take_of_length_le (by rw [byts_length]; omega)]
        rfl
      rw [hall.out] at ha
      go_wp2_with fail
      go_ret2
      exact ⟨_, rfl, ha, hB⟩

end Go.Proofs.YtobmjcbjailclaaGreatDoor

/- The reference's 'Parse' of texts that are no digits, or too many. Condition: none. -/
namespace Go.Proofs.YtobmjcbjailclaaGreatDoor
set_option maxRecDepth 100000
open Go.RowKit Go.Shelf Go.Lib

theorem undec_len2 (s : ByteArray) (k : Nat) (h4 : s.size ≤ 400) (hg : ∀ x ∈ (byts s).take k, 48 ≤ x ∧ x ≤ 57) : (lim (undec (((byts s).take k).map (· - 48)))).length ≤ 400 := by
  have hl : (((byts s).take k).map (· - 48)).length ≤ 400 := by rw [List.length_map, List.length_take, byts_length]; omega
  have h1 : undec (((byts s).take k).map (· - 48)) < 10 ^ (((byts s).take k).map (· - 48)).length := undec_lt fun x hx => by
    obtain ⟨y, hy, rfl⟩ := List.mem_map.1 hx
    have := hg y hy
    omega
  exact lim_ten h1 hl

set_option maxHeartbeats 3200000 in
theorem refParse_bad (s : ByteArray) (w : World) (h1 : 1 ≤ s.size) (h4 : s.size ≤ 400) (hbad : ∃ x ∈ byts s, ¬ (48 ≤ x ∧ x ≤ 57)) :
    Calls Tryz.prog 33 #[.string s] w (GivesB [] false w) := by
  have hsm : decide ((s.size : Int) < 1) = false := decide_eq_false (by omega)
  have hbig : decide ((400 : Int) < (s.size : Int)) = false := decide_eq_false (by omega)
  have HBAD := Lib.hid hbad
  clear hbad
  go_enter Tryz.func33, Tryz.ntmps33
  have hb : Below w.heap.size w w := Below.refl _ _
  go_wp2_with fail
  go_loopw [4, 5] (fun a i wr => ∃ k : Nat, k ≤ s.size ∧ i = .int .i64 (k : Int) ∧ Nt wr w.heap.size wr.heap.size a (lim (undec (((byts s).take k).map (· - 48)))) ∧ Hid (∀ x ∈ (byts s).take k, 48 ≤ x ∧ x ≤ 57) ∧ Below w.heap.size w wr) (fun _ i _ => s.size - (RowKit.intOf i).toNat)
  case atStart => exact ⟨0, Nat.zero_le _, rfl, by rw [List.take_zero, List.map_nil, show undec [] = 0 from rfl, lim_zero]; exact Nt.nil _ _ _, Lib.hid (fun x hx => by rw [List.take_zero] at hx; cases hx), hb⟩
  case round =>
    obtain ⟨k, hk, rfl, ha, HG, hB⟩ := hrel
    have hll := undec_len2 s k h4 HG.out
    by_cases hlt : k < s.size
    · have HU := Lib.hid (undec_take s k hlt)
      have hkI : (k : Int) < (s.size : Int) := by omega
      by_cases hdg : ¬ (48 ≤ (s[k]'hlt).toNat ∧ (s[k]'hlt).toNat ≤ 57)
      · have hor : ((s[k].toNat : Nat) : Int) < 48 ∨ (57 : Int) < ((s[k].toNat : Nat) : Int) := by omega
        clear hdg HU ha
        rcases hor with h | h
        · go_wp2_with fail
          go_ret2
          exact ⟨_, rfl, Nt.nil _ _ _, hB⟩
        · have h2 : ¬ ((s[k].toNat : Nat) : Int) < 48 := by omega
          go_wp2_with fail
          go_ret2
          exact ⟨_, rfl, Nt.nil _ _ _, hB⟩
      replace hdg := Decidable.not_not.1 hdg
      have HG2 : Hid (∀ x ∈ (byts s).take (k + 1), 48 ≤ x ∧ x ≤ 57) := fun x hx => by
        have h1 : k < (byts s).length := by rw [byts_length]; exact hlt
        rw [List.take_add_one, List.getElem?_eq_getElem h1, Option.toList_some, List.mem_append, List.mem_singleton] at hx
        rcases hx with hx | rfl
        · exact HG.out x hx
        · rw [byts_get s k hlt]; exact hdg
      generalize undec (((byts s).take k).map (· - 48)) = m at *
      have ten : Hid (∀ W : World, Nt (W.alloc (.cells #[.int .u32 10] 43)) 0 (W.alloc (.cells #[.int .u32 10] 43)).heap.size (.slice (some ⟨W.heap.size, 0, none⟩) 1 1) [10]) := fun W => (nt_laid W 43 [10] (by simp)).1
      obtain ⟨d, hd⟩ : ∃ d, s[k].toNat = 48 + d := ⟨s[k].toNat - 48, by omega⟩
      have hd9 : d < 10 := by omega
      have hdI : ((s[k].toNat : Nat) : Int) = 48 + (d : Int) := by omega
      have hu : IntKind.u8.wrap (d : Int) = (d : Int) := by unfold IntKind.wrap; simp [IntKind.bits, IntKind.signed]; omega
      have hsb : (48 : Int) + (d : Int) - 48 = (d : Int) := by omega
      have hu32 : IntKind.u32.wrap (d : Int) = (d : Int) := by unfold IntKind.wrap; simp [IntKind.bits, IntKind.signed]; omega
      rw [hd, Nat.add_sub_cancel_left] at HU
      have HA : Hid (∀ o, Nt (wr.alloc o) 0 (wr.alloc o).heap.size u4 (lim m)) := fun o => ((ha.low (Nat.zero_le _)).alloc (Nat.le_refl _) o).up (by simp)
      have DL := Lib.hid (dig_lim m)
      have D10 : Dig [10] := by intro x hx; simp at hx; omega
      have VM : Hid (val (lim m) = m) := val_lim m
      have dl : Hid (∀ W : World, Nt (W.alloc (.cells #[.int .u32 (d : Int)] 43)) 0 (W.alloc (.cells #[.int .u32 (d : Int)] 43)).heap.size (.slice (some ⟨W.heap.size, 0, none⟩) 1 1) [d]) := fun W => (nt_laid W 43 [d] (by simp)).1
      have DD : Dig [d] := by intro x hx; simp at hx; omega
      have hnx : Hid ((lim (undec (((byts s).take (k + 1)).map (· - 48)))).length ≤ 400) := undec_len2 s (k + 1) h4 HG2.out
      have HL3 : Hid ((lim (val (lim m) * val [10])).length ≤ 100000) := by
        show _ ≤ _
        exact Nat.le_trans (lim_mul_len DL.out D10 rfl rfl hll (by simp : [10].length ≤ 1)) (by omega)
      have HV5 : Hid (val (lim (val (lim m) * val [10])) + val [d] = undec (((byts s).take (k + 1)).map (· - 48))) := by
        show _ = _
        rw [val_lim, val_lim, HU.out]
        simp [val]
      have HZ : ∀ o : Obj, (wr.alloc o).heap.size = wr.heap.size + 1 := fun o => by simp
      have HA1 : Hid (∀ o, Nt (wr.alloc o).drew 0 (wr.alloc o).drew.heap.size u4 (lim m)) := fun o => HA.out o
      have HA2 : Hid (∀ o o', Nt ((wr.alloc o).alloc o').drew 0 ((wr.alloc o).alloc o').drew.heap.size u4 (lim m)) := fun o o' => ((HA.out o).alloc (Nat.le_refl _) o').up (by simp)
      have T1 : Hid (∀ W : World, Nt (W.alloc (.cells #[.int .u32 10] 43)).drew 0 (W.alloc (.cells #[.int .u32 10] 43)).drew.heap.size (.slice (some ⟨W.heap.size, 0, none⟩) 1 1) [10]) := fun W => ten.out W
      have T2 : Hid (∀ o, Nt ((wr.alloc (.cells #[.int .u32 10] 43)).alloc o).drew 0 ((wr.alloc (.cells #[.int .u32 10] 43)).alloc o).drew.heap.size (.slice (some ⟨wr.heap.size, 0, none⟩) 1 1) [10]) := fun o => ((ten.out wr).alloc (Nat.le_refl _) o).up (by simp)
      have D3 : Hid (∀ o, Nt ((wr.alloc (.cells #[.int .u32 (d : Int)] 43)).alloc o).drew 0 ((wr.alloc (.cells #[.int .u32 (d : Int)] 43)).alloc o).drew.heap.size (.slice (some ⟨wr.heap.size, 0, none⟩) 1 1) [d]) := fun o => ((dl.out wr).alloc (Nat.le_refl _) o).up (by simp)
      have T3 : Hid (∀ o, Nt ((wr.alloc o).alloc (.cells #[.int .u32 10] 43)).drew 0 ((wr.alloc o).alloc (.cells #[.int .u32 10] 43)).drew.heap.size (.slice (some ⟨wr.heap.size + 1, 0, none⟩) 1 1) [10]) := fun o => by have h := ten.out (wr.alloc o); rw [HZ o] at h; exact h
      have D2 : Hid (∀ o, Nt ((wr.alloc o).alloc (.cells #[.int .u32 (d : Int)] 43)).drew 0 ((wr.alloc o).alloc (.cells #[.int .u32 (d : Int)] 43)).drew.heap.size (.slice (some ⟨wr.heap.size + 1, 0, none⟩) 1 1) [d]) := fun o => by have h := dl.out (wr.alloc o); rw [HZ o] at h; exact h
      have HBB : Hid (∀ o o', Below wr.heap.size wr ((wr.alloc o).alloc o').drew) := fun o o' => Below.drew (Below.alloc (Below.alloc (Below.refl _ _) (Nat.le_refl _) _) (by simp) _)
      have HB1 : Hid (∀ o, Below wr.heap.size wr (wr.alloc o).drew) := fun o => Below.drew (Below.alloc (Below.refl _ _) (Nat.le_refl _) _)
      clear HZ
      have HLM : Hid ((lim m).length ≤ 100000) := Nat.le_trans hll (by omega)
      have H1 : Hid ([10].length ≤ 100000) := by show 1 ≤ _; omega
      have HD1 : Hid ([d].length ≤ 100000) := by show 1 ≤ _; omega
      clear hd hdg ha
      go_wp2_with fail
      go_region_held3 (fun W => Below wr.heap.size wr W)
        (with_reducible (first | assumption | exact Below.drew (Below.refl _ _) | exact HB1.out _ | exact HBB.out _ _ | exact Below.alloc hbk hbk.size _))
        (first
          | (go_at_call 36; go_fit (refMul_any _ _ (lim m) [10] _ DL.out D10 (HA2.out _ _) (T2.out _) HLM.out H1.out); rintro e3 w3 ⟨v3, rfl, h3, hb3⟩; have h4 := (D2.out _).after hb3; have hbk : Below wr.heap.size wr w3 := Below.trans (HBB.out _ _) (hb3.mono (HBB.out _ _).size))
          | (go_at_call 36; go_fit (refMul_any _ _ (lim m) [10] _ DL.out D10 (HA2.out _ _) (T3.out _) HLM.out H1.out); rintro e3 w3 ⟨v3, rfl, h3, hb3⟩; have h4 := (D3.out _).after hb3; have hbk : Below wr.heap.size wr w3 := Below.trans (HBB.out _ _) (hb3.mono (HBB.out _ _).size))
          | (go_at_call 36; go_fit (refMul_any _ _ (lim m) [10] _ DL.out D10 (HA1.out _) (T1.out _) HLM.out H1.out); rintro e3 w3 ⟨v3, rfl, h3, hb3⟩; have hbk : Below wr.heap.size wr w3 := Below.trans (HB1.out _) (hb3.mono (HB1.out _).size))
          | (go_at_call 35; go_fit (refAdd_any _ _ _ _ _ (dig_lim _) DD (h3.low (Nat.zero_le _)) h4 HL3.out HD1.out); rintro e5 w5 ⟨v5, rfl, h5, hb5⟩; have hbk4 : Below wr.heap.size wr w3 := hbk; have hbk5 : Below wr.heap.size wr w5 := hbk4.trans (hb5.mono hbk4.size))
          | (go_at_call 35; have hh := Nt.up (B' := (w3.alloc (.cells #[.int .u32 (d : Int)] 43)).heap.size) ((h3.low (Nat.zero_le _)).alloc (Nat.le_refl _) (.cells #[.int .u32 (d : Int)] 43)) (by simp); go_fit (refAdd_any _ _ _ _ _ (dig_lim _) DD hh (dl.out _) HL3.out HD1.out); rintro e5 w5 ⟨v5, rfl, h5, hb5⟩; have hbk4 : Below wr.heap.size wr (w3.alloc (.cells #[.int .u32 (d : Int)] 43)) := Below.alloc hbk hbk.size _; have hbk5 : Below wr.heap.size wr w5 := hbk4.trans (hb5.mono hbk4.size))
          | fail)
      all_goals
        rw [HV5.out] at h5
        replace h5 := h5.low (Nat.le_trans hB.size hbk4.size)
        have hBB := hB.trans (hbk5.mono hB.size)
        clear hb3 hbk hbk4 h3 hb5 hbk5 HU HA HV5
        go_wp2_with fail
        refine ⟨⟨k + 1, by omega, by go_num, h5, HG2.out, hBB⟩, ?_⟩
        simp [RowKit.intOf]
        omega
    · obtain rfl : k = s.size := by omega
      obtain ⟨x, hx, hn⟩ := HBAD.out
      have := HG.out x (by rw [List.take_of_length_le (by rw [byts_length]; omega)]; exact hx)
      exact absurd this hn

set_option maxHeartbeats 3200000 in
theorem refParse_no (s : ByteArray) (w : World) (hk : ¬ okS s) :
    Calls Tryz.prog 33 #[.string s] w (GivesB [] false w) := by
  by_cases h1 : 1 ≤ s.size
  · by_cases h2 : s.size ≤ 400
    · refine refParse_bad s w h1 h2 ?_
      apply Classical.byContradiction
      intro hc
      refine hk ⟨h1, h2, fun x hx => ?_⟩
      apply Classical.byContradiction
      intro hn
      exact hc ⟨x, hx, hn⟩
    · have hsm : decide ((s.size : Int) < 1) = false := decide_eq_false (by omega)
      have hbig : decide ((400 : Int) < (s.size : Int)) = true := decide_eq_true (by omega)
      clear hk h1 h2
      go_enter Tryz.func33, Tryz.ntmps33
      go_wp2_with fail
      go_ret2
      exact ⟨_, rfl, Nt.nil _ _ _, Below.refl _ _⟩
  · have hsm : decide ((s.size : Int) < 1) = true := decide_eq_true (by omega)
    clear hk h1
    go_enter Tryz.func33, Tryz.ntmps33
    go_wp2_with fail
    go_ret2
    exact ⟨_, rfl, Nt.nil _ _ _, Below.refl _ _⟩
end Go.Proofs.YtobmjcbjailclaaGreatDoor

/- The program's and the reference's 'Parse' of digits on lists of bytes. Condition: none. -/
namespace Go.Proofs.YtobmjcbjailclaaGreatDoor
set_option maxRecDepth 100000
open Go.RowKit Go.Shelf Go.Lib

/-- Bytes. -/
def Byt (l : List Nat) : Prop := ∀ x ∈ l, x < 256

theorem byts_of (l : List Nat) (h : Byt l) : byts (strN l) = l := by
  unfold byts strN
  simp only [List.map_map]
  conv => rhs; rw [← List.map_id l]
  apply List.map_congr_left
  intro x hx
  have := h x hx
  simp [UInt8.toNat_ofNat']
  omega

theorem strN_byts (s : ByteArray) : strN (byts s) = s := by
  unfold strN byts
  rw [List.map_map]
  have : (UInt8.ofNat ∘ fun x : UInt8 => x.toNat) = id := by funext x; simp
  rw [this, List.map_id]

theorem byt_byts (s : ByteArray) : Byt (byts s) := fun x hx => by
  unfold byts at hx
  obtain ⟨y, _, rfl⟩ := List.mem_map.1 hx
  exact y.toNat_lt

theorem okS_okD (l : List Nat) (h : Byt l) : okS (strN l) ↔ okD l = true := by
  unfold okS okD isD
  rw [strN_size, byts_of l h]
  simp only [Bool.and_eq_true, decide_eq_true_eq, List.all_eq_true]

theorem parse_l (l : List Nat) (h : Byt l) (w : World) : Calls Tryz.prog 27 #[.string (strN l)] w (GivesB (if okD l = true then lim (numD l) else []) (okD l) w) := by
  by_cases hk : okD l = true
  · rw [if_pos hk, hk]
    have := parse_any (strN l) w ((okS_okD l h).2 hk)
    unfold numS at this
    rw [byts_of l h] at this
    exact this
  · have hf : okD l = false := by simpa using hk
    rw [if_neg hk, hf]
    exact parse_no (strN l) w (fun h' => hk ((okS_okD l h).1 h'))

theorem refParse_l (l : List Nat) (h : Byt l) (w : World) : Calls Tryz.prog 33 #[.string (strN l)] w (GivesB (if okD l = true then lim (numD l) else []) (okD l) w) := by
  by_cases hk : okD l = true
  · rw [if_pos hk, hk]
    have := refParse_any (strN l) w ((okS_okD l h).2 hk)
    unfold numS at this
    rw [byts_of l h] at this
    exact this
  · have hf : okD l = false := by simpa using hk
    rw [if_neg hk, hf]
    exact refParse_no (strN l) w (fun h' => hk ((okS_okD l h).1 h'))
end Go.Proofs.YtobmjcbjailclaaGreatDoor

/- The library's Cut at one byte and CutPrefix, on lists of bytes. Condition: none. -/
namespace Go.Proofs.YtobmjcbjailclaaGreatDoor
set_option maxRecDepth 100000
open Go.RowKit Go.Shelf Go.Lib

theorem ofNat_eq {a b : Nat} (ha : a < 256) (hb : b < 256) : (UInt8.ofNat a == UInt8.ofNat b) = (a == b) := by
  by_cases h : a = b
  · subst h; simp
  · have h1 : UInt8.ofNat a ≠ UInt8.ofNat b := fun hc => h (by
      have := congrArg UInt8.toNat hc
      simp only [UInt8.toNat_ofNat'] at this
      omega)
    rw [beq_eq_false_iff_ne.2 h1, beq_eq_false_iff_ne.2 h]

theorem index_of (c : Nat) (hc : c < 256) : ∀ l : List Nat, Byt l → Lib.indexByte (l.map UInt8.ofNat) (UInt8.ofNat c) = if l.contains c = true then ((l.takeWhile (· != c)).length : Int) else -1
  | [], _ => rfl
  | b :: l, h => by
    have hb : b < 256 := h b (by simp)
    have ih := index_of c hc l fun x hx => h x (by simp [hx])
    rw [List.map_cons, Lib.indexByte, ih, ofNat_eq hb hc]
    by_cases hbc : b = c
    · subst hbc
      simp
    · have e1 : (b == c) = false := beq_eq_false_iff_ne.2 hbc
      have e2 : (b != c) = true := bne_iff_ne.2 hbc
      rw [e1]
      simp only [Bool.false_eq_true, if_false]
      by_cases hm : c ∈ l
      · have e3 : l.contains c = true := by simpa using hm
        have e4 : (b :: l).contains c = true := by simp [hm]
        rw [if_pos e3, if_pos e4, if_neg (by simp), List.takeWhile_cons, if_pos e2, List.length_cons]
        omega
      · have e3 : ¬ l.contains c = true := by simpa using hm
        have e4 : ¬ (b :: l).contains c = true := by simp [hm]; exact fun h => hbc h.symm
        rw [if_neg e3, if_neg e4]
        rfl

theorem take_tw (p : Nat → Bool) : ∀ l : List Nat, l.take (l.takeWhile p).length = l.takeWhile p
  | [] => rfl
  | a :: l => by
    by_cases h : p a = true
    · rw [List.takeWhile_cons, if_pos h, List.length_cons, List.take_succ_cons, take_tw p l]
    · rw [List.takeWhile_cons, if_neg h]; rfl
theorem drop_tw (p : Nat → Bool) : ∀ l : List Nat, l.drop (l.takeWhile p).length = l.dropWhile p
  | [] => rfl
  | a :: l => by
    by_cases h : p a = true
    · rw [List.takeWhile_cons, if_pos h, List.length_cons, List.drop_succ_cons, drop_tw p l, List.dropWhile_cons, if_pos h]
    · rw [List.takeWhile_cons, if_neg h, List.dropWhile_cons, if_neg h]; rfl

theorem tw_lt {c : Nat} : ∀ l : List Nat, c ∈ l → (l.takeWhile (· != c)).length < l.length
  | a :: l, h => by
    by_cases ha : a = c
    · subst ha
      simp
    · have h1 : (a != c) = true := bne_iff_ne.2 ha
      rw [List.takeWhile_cons, if_pos h1, List.length_cons, List.length_cons]
      have := tw_lt l ((List.mem_cons.1 h).resolve_left fun h => ha h.symm)
      omega
theorem tw_none {c : Nat} : ∀ l : List Nat, c ∉ l → l.takeWhile (· != c) = l ∧ l.dropWhile (· != c) = []
  | [], _ => ⟨rfl, rfl⟩
  | a :: l, h => by
    have ha : a ≠ c := fun hc => h (by simp [hc])
    have h1 : (a != c) = true := bne_iff_ne.2 ha
    obtain ⟨e1, e2⟩ := tw_none l fun hc => h (List.mem_cons_of_mem _ hc)
    rw [List.takeWhile_cons, if_pos h1, List.dropWhile_cons, if_pos h1, e1, e2]
    exact ⟨rfl, rfl⟩

set_option maxHeartbeats 1600000 in
theorem slCut_any (l : List Nat) (hl : Byt l) (c : Nat) (hc : c < 256) (h9 : l.length ≤ 1000000) (w : World) :
    Calls Tryz.prog 69 #[.string (strN l), .string ⟨#[UInt8.ofNat c]⟩] w fun e w' => e = .returned (.tuple #[.string (strN (l.takeWhile (· != c))), .string (strN ((l.dropWhile (· != c)).drop 1)), .bool (l.contains c)]) ∧ Below w.heap.size w w' := by
  have hix : ∀ w, Calls Tryz.prog 104 #[.string (strN l), .string ⟨#[UInt8.ofNat c]⟩] w fun e w' => e = .returned (.int .i64 (if l.contains c = true then ((l.takeWhile (· != c)).length : Int) else -1)) ∧ w' = w := fun w => by
    have := Any.stringslite_Index_one Tryz.lays219 (strN l) (UInt8.ofNat c) w
    have e : (strN l).data.toList = l.map UInt8.ofNat := by unfold strN; simp
    rw [e, index_of c hc l hl] at this
    exact this
  have HIX := Lib.hid hix
  clear hix
  by_cases hm : c ∈ l
  · have e3 : l.contains c = true := by simpa using hm
    have hlt := tw_lt l hm
    obtain ⟨M, hM⟩ : ∃ M, (l.takeWhile (· != c)).length = M := ⟨_, rfl⟩
    have x1 : (strN l).extract 0 M = strN (l.takeWhile (· != c)) := by rw [strN_take, ← hM, take_tw]
    have x2 : (strN l).extract (M + 1) l.length = strN ((l.dropWhile (· != c)).drop 1) := by rw [strN_drop _ _ _ (Nat.le_refl _), ← hM, ← drop_tw, List.drop_drop, Nat.add_comm]
    rw [e3]
    have HI2 : Hid (∀ w, Calls Tryz.prog 104 #[.string (strN l), .string ⟨#[UInt8.ofNat c]⟩] w fun e w' => e = .returned (.int .i64 (M : Int)) ∧ w' = w) := fun w => by
      have := HIX.out w
      rw [if_pos e3, hM] at this
      exact this
    have s1 := strN_size l
    rw [hM] at hlt
    generalize strN (l.takeWhile (· != c)) = t1 at *
    generalize strN ((l.dropWhile (· != c)).drop 1) = t2 at *
    generalize strN l = t at *
    clear HIX hm e3 hM hl
    rw [← s1] at x2 hlt h9
    clear s1
    go_enter Tryz.func69, Tryz.ntmps69
    go_wp2_with fail
    refine (HI2.out _).mono ?_
    rintro e w1 ⟨rfl, rfl⟩
    clear HI2
    have p1 : (0 : Int) ≤ (M : Int) := by omega
    have p2 : (M : Int) ≤ (t.size : Int) := by omega
    have p3 : (M : Int) + 1 ≤ (t.size : Int) := by omega
    go_wp2_with fail
    go_quiet (fail)
    go_wp2_with fail
    go_ret3
    exact ⟨rfl, ⟨rfl, rfl, rfl, Nat.le_refl _, fun _ _ => rfl⟩⟩
  · have e3 : l.contains c = false := by simpa using hm
    obtain ⟨y1, y2⟩ := tw_none l hm
    rw [e3, y1, y2]
    have HI2 : Hid (∀ w, Calls Tryz.prog 104 #[.string (strN l), .string ⟨#[UInt8.ofNat c]⟩] w fun e w' => e = .returned (.int .i64 (-1)) ∧ w' = w) := fun w => by
      have := HIX.out w
      rw [if_neg (by rw [e3]; simp)] at this
      exact this
    generalize strN l = t at *
    clear HIX hm e3 y1 y2 hl
    go_enter Tryz.func69, Tryz.ntmps69
    go_wp2_with fail
    refine (HI2.out _).mono ?_
    rintro e w1 ⟨rfl, rfl⟩
    clear HI2
    go_wp2_with fail
    go_ret3
    exact ⟨rfl, Below.refl _ _⟩

theorem cut_any (l : List Nat) (hl : Byt l) (c : Nat) (hc : c < 256) (h9 : l.length ≤ 1000000) (w : World) :
    Calls Tryz.prog 26 #[.string (strN l), .string ⟨#[UInt8.ofNat c]⟩] w fun e w' => e = .returned (.tuple #[.string (strN (l.takeWhile (· != c))), .string (strN ((l.dropWhile (· != c)).drop 1)), .bool (l.contains c)]) ∧ Below w.heap.size w w' := by
  have hcon := fun w => slCut_any l hl c hc h9 w
  generalize strN (l.takeWhile (· != c)) = t1 at *
  generalize strN ((l.dropWhile (· != c)).drop 1) = t2 at *
  generalize strN l = t at *
  generalize l.contains c = b at *
  have HC := Lib.hid hcon
  clear hcon hl
  go_enter Tryz.func26, Tryz.ntmps26
  go_wp2_with fail
  refine (HC.out _).mono ?_
  rintro e w1 ⟨rfl, hb⟩
  clear HC
  go_wp2_with fail
  go_ret3
  exact ⟨rfl, hb⟩

/-- What stands behind a minus, and whether it stands there. -/
def strp (l : List Nat) : Bool × List Nat := match l with
  | [] => (false, [])
  | x :: r => if x = 45 then (true, r) else (false, x :: r)

theorem cutPrefix_any (l : List Nat) (hl : Byt l) (w : World) :
    Calls Tryz.prog 25 #[.string (strN l), .string ⟨#[45]⟩] w fun e w' => e = .returned (.tuple #[.string (strN (strp l).2), .bool (strp l).1]) ∧ w' = w := by
  have := Any.strings_CutPrefix Tryz.lays103 (strN l) ⟨#[45]⟩ w
  have e : (strN l).data.toList = l.map UInt8.ofNat := by unfold strN; simp
  rw [e] at this
  have e1 : Lib.hasPrefix (l.map UInt8.ofNat) [45] = (strp l).1 ∧ Lib.trimPrefix (l.map UInt8.ofNat) [45] = (strp l).2.map UInt8.ofNat := by
    cases l with
    | nil => exact ⟨rfl, rfl⟩
    | cons x r =>
      have hx : x < 256 := hl x (by simp)
      have hp : Lib.hasPrefix ((x :: r).map UInt8.ofNat) [45] = ((45 : Nat) == x) := by
        unfold Lib.hasPrefix
        rw [List.map_cons, List.isPrefixOf, ← ofNat_eq (by omega : 45 < 256) hx]
        show ((UInt8.ofNat 45 == UInt8.ofNat x) && _) = _
        simp
      by_cases h : x = 45
      · subst h
        unfold Lib.trimPrefix
        rw [hp]
        exact ⟨rfl, rfl⟩
      · have h2 : ((45 : Nat) == x) = false := beq_eq_false_iff_ne.2 fun hc => h hc.symm
        have e : strp (x :: r) = (false, x :: r) := if_neg h
        rw [e]
        unfold Lib.trimPrefix
        rw [hp, h2]
        exact ⟨rfl, rfl⟩
  show Calls Tryz.prog 25 _ _ _
  have e2 : (⟨((strp l).2.map UInt8.ofNat).toArray⟩ : ByteArray) = strN (strp l).2 := rfl
  rw [show (⟨#[45]⟩ : ByteArray).data.toList = [45] from rfl, e1.1, e1.2, e2] at this
  exact this
end Go.Proofs.YtobmjcbjailclaaGreatDoor

/- The reference's count of leading digits, its powers of ten, its whole numbers, whether a number is 0. Condition: bounds. -/
namespace Go.Proofs.YtobmjcbjailclaaGreatDoor
set_option maxRecDepth 100000
open Go.RowKit Go.Shelf

theorem tw_get {p : Nat → Bool} : ∀ (l : List Nat) (k : Nat) (_ : k < (l.takeWhile p).length) (h' : k < l.length), p l[k] = true
  | a :: l, 0, h, _ => by
    by_cases ha : p a = true
    · exact ha
    · rw [List.takeWhile_cons, if_neg ha] at h; simp at h
  | a :: l, k + 1, h, h' => by
    by_cases ha : p a = true
    · rw [List.takeWhile_cons, if_pos ha, List.length_cons] at h
      exact tw_get l k (by omega) (by simpa using h')
    · rw [List.takeWhile_cons, if_neg ha] at h; simp at h
theorem tw_end {p : Nat → Bool} : ∀ (l : List Nat) (h' : (l.takeWhile p).length < l.length), p (l[(l.takeWhile p).length]'h') = false
  | a :: l, h' => by
    by_cases ha : p a = true
    · simp only [List.takeWhile_cons, if_pos ha, List.length_cons] at h' ⊢
      exact tw_end l (by omega)
    · simp only [List.takeWhile_cons, if_neg ha] at h' ⊢
      simpa using ha
theorem tw_le (p : Nat → Bool) (l : List Nat) : (l.takeWhile p).length ≤ l.length := by
  have := (List.takeWhile_sublist p (l := l)).length_le
  exact this

theorem strN_get (l : List Nat) (hl : Byt l) (k : Nat) (h : k < (strN l).size) (h' : k < l.length) : ((strN l)[k]'h).toNat = l[k] := by
  rw [← byts_get _ k h]
  have e := byts_of l hl
  have : (byts (strN l))[k]? = l[k]? := by rw [e]
  rw [List.getElem?_eq_getElem (by rw [byts_length]; exact h), List.getElem?_eq_getElem h'] at this
  exact Option.some.inj this

set_option maxHeartbeats 3200000 in
theorem run_any (l : List Nat) (hl : Byt l) (h9 : l.length ≤ 1000000) (w : World) :
    Calls Tryz.prog 32 #[.string (strN l)] w fun e w' => e = .returned (.int .i64 ((l.takeWhile isD).length : Int)) ∧ w = w' := by
  obtain ⟨K, hK⟩ : ∃ K, (l.takeWhile isD).length = K := ⟨_, rfl⟩
  have hKl : K ≤ l.length := by rw [← hK]; exact tw_le _ _
  have hs := strN_size l
  have hget : ∀ k (h : k < (strN l).size), ((strN l)[k]'h).toNat = l[k]'(by rw [hs] at h; exact h) := fun k h => strN_get l hl k h _
  have hin : ∀ k (h : k < K) (h' : k < (strN l).size), 48 ≤ ((strN l)[k]'h').toNat ∧ ((strN l)[k]'h').toNat ≤ 57 := fun k h h' => by
    rw [hget k h']
    have := tw_get (p := isD) l k (by omega) (by omega)
    unfold isD at this
    exact of_decide_eq_true this
  have hout : ∀ (h' : K < (strN l).size), ¬ (48 ≤ ((strN l)[K]'h').toNat ∧ ((strN l)[K]'h').toNat ≤ 57) := fun h' => by
    rw [hget K h']
    have h2 : (l.takeWhile isD).length < l.length := by omega
    have := tw_end (p := isD) l h2
    simp only [hK] at this
    unfold isD at this
    exact of_decide_eq_false this
  rw [hK]
  clear hget hK
  rw [← hs] at hKl h9
  generalize strN l = t at *
  have HIN := Lib.hid hin
  have HOUT := Lib.hid hout
  clear hin hout hl hs
  go_enter Tryz.func32, Tryz.ntmps32
  go_wp2_with fail
  go_loop [3] (fun n => ∃ k : Nat, k ≤ K ∧ n = .int .i64 (k : Int)) (fun n => K - (RowKit.intOf n).toNat)
  case atStart => exact ⟨0, Nat.zero_le _, rfl⟩
  case round =>
    obtain ⟨k, hk, rfl⟩ := hrel
    by_cases hlt : k < K
    · have hkt : k < t.size := by omega
      obtain ⟨x1, x2⟩ := HIN.out k hlt hkt
      have y0 : (k : Int) < (t.size : Int) := by omega
      have y1 : (48 : Int) ≤ ((t[k]'hkt).toNat : Int) := by omega
      have y2 : ((t[k]'hkt).toNat : Int) ≤ 57 := by omega
      go_wp2_with fail
      go_round
      case rel => exact ⟨k + 1, by omega, by go_num⟩
      case measure => simp [RowKit.intOf]; omega
    · obtain rfl : k = K := by omega
      by_cases hkt : k < t.size
      · have hn := HOUT.out hkt
        have y0 : (k : Int) < (t.size : Int) := by omega
        by_cases z1 : 48 ≤ (t[k]'hkt).toNat
        · have y1 : (48 : Int) ≤ ((t[k]'hkt).toNat : Int) := by omega
          have y2 : ¬ ((t[k]'hkt).toNat : Int) ≤ 57 := by omega
          clear hn
          go_wp2_with fail
          go_ret
          exact ⟨rfl, rfl⟩
        · have y1 : ¬ (48 : Int) ≤ ((t[k]'hkt).toNat : Int) := by omega
          clear hn
          go_wp2_with fail
          go_ret
          exact ⟨rfl, rfl⟩
      · have y0 : ¬ (k : Int) < (t.size : Int) := by omega
        go_wp2_with fail
        go_ret
        exact ⟨rfl, rfl⟩

end Go.Proofs.YtobmjcbjailclaaGreatDoor
