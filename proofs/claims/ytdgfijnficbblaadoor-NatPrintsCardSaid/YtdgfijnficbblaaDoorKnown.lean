/- 'known' returns true. No condition. -/
import Derived.Test.YtdgfijnficbblaaDoorRefMul
namespace Go.Proofs.YtdgfijnficbblaaDoor
open Go.RowKit

theorem nt_new (w : World) (e : TypeId) (x : List Nat) (hx : x.length ≤ 1000) : Nt (w.alloc (.cells (lv x).toArray e)) w.heap.size (w.heap.size + 1) (.slice (some ⟨w.heap.size, 0, none⟩) x.length x.length) x := by
  have hb : Lb (w.alloc (.cells (lv x).toArray e)) w.heap.size e x := Blk.new w e _
  have := hb.reads (n := x.length) (Nat.le_refl _) (by unfold maxLen; omega)
  rw [List.take_length] at this
  have hs : (w.alloc (.cells (lv x).toArray e)).heap.size = w.heap.size + 1 := by simp
  rw [hs] at this
  exact this

theorem dig_one {n : Nat} (h : n < 4294967296) : Dig [n] := Dig.cons h Dig.nil

theorem lim_two {a b : Nat} (ha : a < 4294967296) (hb : b < 4294967296) (h0 : b ≠ 0) : lim (a + 4294967296 * b) = [a, b] := by
  have : val [a, b] = a + 4294967296 * b := by simp [val]
  rw [← this]
  exact lim_val (Dig.cons ha (dig_one hb)) (canon_of_last (.inr ⟨by simp, h0⟩))

theorem lim_one {a : Nat} (ha : a < 4294967296) (h0 : a ≠ 0) : lim a = [a] := by
  have e : val [a] = a := by simp [val]
  have := lim_val (dig_one ha) (canon_of_last (.inr ⟨by simp, h0⟩))
  rw [e] at this
  exact this

theorem known_eq : eqb (lim (val [4294967295] * val [2])) [4294967294, 1] = true := by
  have : val [4294967295] * val [2] = 4294967294 + 4294967296 * 1 := by simp [val]
  rw [this, lim_two (by omega) (by omega) (by omega)]
  exact eqb_rfl _

set_option maxHeartbeats 800000 in
theorem known_any (w : World) : Calls Tryd.prog 10 #[] w fun e w' => e = .returned (.bool true) ∧ Below w.heap.size w w' := by
  go_enter Tryd.func10, Tryd.ntmps10
  go_wp2_with fail
  have h1 := nt_new w 33 [4294967295] (by simp)
  have h2 := nt_new (w.alloc (.cells (lv [4294967295]).toArray 33)) 33 [2] (by simp)
  have s1 : (w.alloc (.cells (lv [4294967295]).toArray 33)).heap.size = w.heap.size + 1 := by simp
  rw [s1] at h2
  have h1' := h1.alloc (by simp) (.cells (lv [2]).toArray 33)
  have hb0 : Below w.heap.size w ((w.alloc (.cells (lv [4294967295]).toArray 33)).alloc (.cells (lv [2]).toArray 33)) := ((Below.refl _ _).alloc (Nat.le_refl _) _).alloc (by simp) _
  have s2 : ((w.alloc (.cells (lv [4294967295]).toArray 33)).alloc (.cells (lv [2]).toArray 33)).heap.size = w.heap.size + 2 := by simp
  have g1 : Nt ((w.alloc (.cells (lv [4294967295]).toArray 33)).alloc (.cells (lv [2]).toArray 33)) 0 ((w.alloc (.cells (lv [4294967295]).toArray 33)).alloc (.cells (lv [2]).toArray 33)).heap.size (.slice (some ⟨w.heap.size, 0, none⟩) 1 1) [4294967295] := (h1'.low (Nat.zero_le _)).up (by rw [s2]; omega)
  have g2 : Nt ((w.alloc (.cells (lv [4294967295]).toArray 33)).alloc (.cells (lv [2]).toArray 33)) 0 ((w.alloc (.cells (lv [4294967295]).toArray 33)).alloc (.cells (lv [2]).toArray 33)).heap.size (.slice (some ⟨w.heap.size + 1, 0, none⟩) 1 1) [2] := (h2.low (Nat.zero_le _)).up (by rw [s2]; omega)
  refine (mul_any _ _ _ _ _ (dig_one (by omega)) (dig_one (by omega)) g1 g2 (by simp) (by simp)).mono ?_
  rintro e w1 ⟨v1, rfl, h3, hb1⟩
  have hb : Below w.heap.size w w1 := hb0.trans (hb1.mono hb0.size)
  clear h1 h2 s1 s2 h1' hb0 g1 g2 hb1
  go_wp2_with fail
  have h4 := nt_new w1 33 [4294967294, 1] (by simp)
  have h3' := (h3.low (Nat.zero_le _)).alloc (Nat.le_refl _) (.cells (lv [4294967294, 1]).toArray 33)
  have s3 : (w1.alloc (.cells (lv [4294967294, 1]).toArray 33)).heap.size = w1.heap.size + 1 := by simp
  refine (limbs_any _ _ _ [4294967294, 1] _ (h3'.up (by rw [s3]; omega)) ((h4.low (Nat.zero_le _)).up (by rw [s3]; omega))).mono ?_
  rintro e w2 ⟨rfl, hb2⟩
  rw [known_eq]
  go_wp2_with fail
  go_ret
  exact ⟨rfl, (hb.alloc hb.size _).trans (hb2.mono (by have := hb.size; rw [s3]; omega))⟩
end Go.Proofs.YtdgfijnficbblaaDoor
