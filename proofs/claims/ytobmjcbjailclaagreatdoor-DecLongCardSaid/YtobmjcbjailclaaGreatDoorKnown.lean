/- 'known' returns true. No condition. -/
import Derived.Test.YtobmjcbjailclaaGreatDoorRefMul
namespace Go.Proofs.YtobmjcbjailclaaGreatDoor
set_option maxRecDepth 100000
open Go.RowKit

theorem nt_new (w : World) (e : TypeId) (x : List Nat) (hx : x.length ≤ 1000) : Nt (w.alloc (.cells (lv x).toArray e)) w.heap.size (w.heap.size + 1) (.slice (some ⟨w.heap.size, 0, none⟩) x.length x.length) x := by
  have hb : Lb (w.alloc (.cells (lv x).toArray e)) w.heap.size e x := Blk.new w e _
  have := hb.reads (n := x.length) (Nat.le_refl _) (by unfold maxLen; omega)
  rw [List.take_length] at this
  have hs : (w.alloc (.cells (lv x).toArray e)).heap.size = w.heap.size + 1 := by simp
  rw [hs] at this
  exact this

theorem dig_one {n : Nat} (h : n < 4294967296) : Dig [n] := Dig.cons h Dig.nil

theorem lim_two {a b : Nat} (ha : a < 4294967296) (hb : b < 4294967296) (h0 : b ≠ 0) : lim (a + 4294967296 * b) = [a, b] := by
  have : val [a, b] = a + 4294967296 * b := by simp [val]
  rw [← this]
  exact lim_val (Dig.cons ha (dig_one hb)) (canon_of_last (.inr ⟨by simp, h0⟩))

theorem lim_one {a : Nat} (ha : a < 4294967296) (h0 : a ≠ 0) : lim a = [a] := by
  have e : val [a] = a := by simp [val]
  have := lim_val (dig_one ha) (canon_of_last (.inr ⟨by simp, h0⟩))
  rw [e] at this
  exact this

theorem known_eq : eqb (lim (val [4294967295] * val [2])) [4294967294, 1] = true := by
  have : val [4294967295] * val [2] = 4294967294 + 4294967296 * 1 := by simp [val]
  rw [this, lim_two (by omega) (by omega) (by omega)]
  exact eqb_rfl _

end Go.Proofs.YtobmjcbjailclaaGreatDoor
