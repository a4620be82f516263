/- Several texts in one: Bytes, ShowA, RefInt, ShowB, RefUnits. Condition: each says its own. -/
import Derived.Deep.AppendLies
import Derived.Outline
import Derived.Test.YtobmjcbjailclaaPk2
import Derived.Test.YtobmjcbjailclaaPk3
import Derived.Test.YtobmjcbjailclaaPk4
import Derived.Test.YtobmjcbjailclaaPk5
import Derived.Test.YtobmjcbjailclaaPk6
import Derived.Test.YtobmjcbjailclaaPk7
import Derived.Test.YtobmjcbjailclaaPk9
import Derived.Test.YtobmjcbjailclaaPk10
/- Rows of bytes of a call's own. Condition: a bound on lengths. -/
namespace Go.Proofs.Ytobmjcbjailclaa
set_option maxRecDepth 100000
open Go.RowKit

theorem Try.info8 : (Try.prog.info? 5).map (fun i => (i.zero, i.size, i.bytes)) = some (some (.int .u8 0), 1, 1) := by kernel_rfl

/-- Numbers as bytes. -/
def bv (l : List Nat) : List Value := l.map fun n : Nat => Value.int .u8 (n : Int)
theorem bv_snoc (cs : List Nat) (d : Nat) : bv (cs ++ [d]) = bv cs ++ [.int .u8 (d : Int)] := by unfold bv; rw [List.map_append]; rfl

/-- The call's own row v holds these bytes. -/
def OwnB (w : World) (base : Nat) (e : TypeId) (v : Value) (cs : List Nat) : Prop := w.ownsRow base e 1 v cs.length (bv cs)
theorem OwnB.nil (w : World) (base : Nat) (e : TypeId) : OwnB w base e (.slice none 0 0) [] := World.ownsRow_nil _ _ _ _

theorem OwnB.after {w w' : World} {base : Nat} {e : TypeId} {v : Value} {cs : List Nat} (h : OwnB w base e v cs) (hb : Below w.heap.size w w') : OwnB w' base e v cs := by
  obtain ⟨hl, h | ⟨g, cap, cur, hv, hg, hc, rest⟩⟩ := h
  · exact ⟨hl, Or.inl h⟩
  · exact ⟨hl, Or.inr ⟨g, cap, cur, hv, hg, (hb.block g (Array.getElem?_eq_some_iff.1 hc).1).trans hc, rest⟩⟩

theorem OwnB.own_lt {w : World} {base : Nat} {e : TypeId} {v : Value} {cs : List Nat} (h : OwnB w base e v cs) {g : Nat} (hg : v.ownBlock = some g) : g < w.heap.size := (World.ownsRow.lt h g hg).2

/-- One byte more onto a row of the call's own. -/
theorem wpList_append_byte {P : Program} {w : World} {ops : Array Oper} {rest : List Oper} {o : Oper} {a : Act} {Q : Exit → Act → World → Prop} (hgd : o.guard = none) (s x : Operand) (t : TypeId)
    (ho : o.op = .call { callee := .builtin .append, args := #[s, x], argTypes := #[t, t] })
    (base : Nat) (e : TypeId) (i : TypeInfo) (ht : P.underlying t = some (.slice e)) (hi : P.info? e = some i) (hz : i.zero = some (.int .u8 0)) (hsize : i.size = 1) (hby : i.bytes = 1)
    (v : Value) (cs : List Nat) (hs : a.eval s = v) (hown : OwnB w base e v cs) (y : Value) (d : Nat) (hy : y = .int .u8 (d : Int)) (hx : a.eval x = .slice (some ⟨w.heap.size, 0, none⟩) 1 1)
    (hlen : cs.length ≤ 1000000) (hbase : base ≤ w.heap.size)
    (h : ∀ v' w', OwnB w' base e v' (cs ++ [d]) → Below base w w' → wpList P ops Q rest (a.put o.dst v') w') : wpList P ops Q (o :: rest) a (w.alloc (.cells #[y] e)) := by
  refine wpList_append_own _ hgd s x t ho base e i (.int .u8 0) 1 1 ht hi hz hsize hby rfl (by decide) v cs.length (bv cs) hs (World.ownsRow.alloc hown _) ⟨w.heap.size, 0, none⟩ 1 1 [y] hx rfl (cell_one_new _ _ _) ?_ ?_ ?_ ?_ ?_
  · intro u hu
    rw [List.mem_singleton] at hu
    subst hu
    rw [hy]; rfl
  · unfold maxLen; omega
  · omega
  · simp; omega
  · intro v' w' h1 h2 _
    refine h v' w' ?_ ?_
    · show w'.ownsRow base e 1 v' (cs ++ [d]).length (bv (cs ++ [d]))
      rw [bv_snoc, List.length_append, ← hy]; exact h1
    · exact ((Below.refl base w).alloc hbase _).grown h2 (by simp; omega) (fun j hj => (World.ownsRow.lt hown j hj).1)

/-- The same, and all other blocks are as they were. -/
theorem wpList_append_byte2 {P : Program} {w : World} {ops : Array Oper} {rest : List Oper} {o : Oper} {a : Act} {Q : Exit → Act → World → Prop} (hgd : o.guard = none) (s x : Operand) (t : TypeId)
    (ho : o.op = .call { callee := .builtin .append, args := #[s, x], argTypes := #[t, t] })
    (base : Nat) (e : TypeId) (i : TypeInfo) (ht : P.underlying t = some (.slice e)) (hi : P.info? e = some i) (hz : i.zero = some (.int .u8 0)) (hsize : i.size = 1) (hby : i.bytes = 1)
    (v : Value) (cs : List Nat) (hs : a.eval s = v) (hown : OwnB w base e v cs) (y : Value) (d : Nat) (hy : y = .int .u8 (d : Int)) (hx : a.eval x = .slice (some ⟨w.heap.size, 0, none⟩) 1 1)
    (hlen : cs.length ≤ 1000000) (hbase : base ≤ w.heap.size)
    (h : ∀ v' w', OwnB w' base e v' (cs ++ [d]) → Below base w w' → (∀ k, v.ownBlock ≠ some k → k < w.heap.size → w'.heap[k]? = w.heap[k]?) → wpList P ops Q rest (a.put o.dst v') w') : wpList P ops Q (o :: rest) a (w.alloc (.cells #[y] e)) := by
  refine wpList_append_own _ hgd s x t ho base e i (.int .u8 0) 1 1 ht hi hz hsize hby rfl (by decide) v cs.length (bv cs) hs (World.ownsRow.alloc hown _) ⟨w.heap.size, 0, none⟩ 1 1 [y] hx rfl (cell_one_new _ _ _) ?_ ?_ ?_ ?_ ?_
  · intro u hu
    rw [List.mem_singleton] at hu
    subst hu
    rw [hy]; rfl
  · unfold maxLen; omega
  · omega
  · simp; omega
  · intro v' w' h1 h2 _
    refine h v' w' ?_ ?_ (fun k hk hl => (h2.block k (by simp; omega) (fun e => hk e.symm)).trans (Below.heap_alloc _ _ _ hl))
    · show w'.ownsRow base e 1 v' (cs ++ [d]).length (bv (cs ++ [d]))
      rw [bv_snoc, List.length_append, ← hy]; exact h1
    · exact ((Below.refl base w).alloc hbase _).grown h2 (by simp; omega) (fun j hj => (World.ownsRow.lt hown j hj).1)

/-- The same, and where the row lies then: where it lay, or in a new block. -/
theorem wpList_append_byte3 {P : Program} {w : World} {ops : Array Oper} {rest : List Oper} {o : Oper} {a : Act} {Q : Exit → Act → World → Prop} (hgd : o.guard = none) (s x : Operand) (t : TypeId)
    (ho : o.op = .call { callee := .builtin .append, args := #[s, x], argTypes := #[t, t] })
    (base : Nat) (e : TypeId) (i : TypeInfo) (ht : P.underlying t = some (.slice e)) (hi : P.info? e = some i) (hz : i.zero = some (.int .u8 0)) (hsize : i.size = 1) (hby : i.bytes = 1)
    (v : Value) (cs : List Nat) (hs : a.eval s = v) (hown : OwnB w base e v cs) (y : Value) (d : Nat) (hy : y = .int .u8 (d : Int)) (hx : a.eval x = .slice (some ⟨w.heap.size, 0, none⟩) 1 1)
    (hlen : cs.length ≤ 1000000) (hbase : base ≤ w.heap.size)
    (h : ∀ g cap w', OwnB w' base e (.slice (some ⟨g, 0, none⟩) (cs.length + 1) cap) (cs ++ [d]) → Below base w w' → (∀ k, v.ownBlock ≠ some k → k < w.heap.size → w'.heap[k]? = w.heap[k]?) → (v.ownBlock = some g ∨ w.heap.size ≤ g) → g < w'.heap.size →
      wpList P ops Q rest (a.put o.dst (.slice (some ⟨g, 0, none⟩) (cs.length + 1) cap)) w') : wpList P ops Q (o :: rest) a (w.alloc (.cells #[y] e)) := by
  refine wpList_append_lies _ hgd s x t ho base e i (.int .u8 0) 1 1 ht hi hz hsize hby rfl (by decide) v cs.length (bv cs) hs (World.ownsRow.alloc hown _) ⟨w.heap.size, 0, none⟩ 1 1 [y] hx rfl (cell_one_new _ _ _) ?_ (by decide) ?_ ?_ ?_ _ rfl ?_
  · intro u hu
    rw [List.mem_singleton] at hu
    subst hu
    rw [hy]; rfl
  · unfold maxLen; omega
  · omega
  · simp; omega
  · intro g cap w' h1 h2 h3 h4
    refine h g cap w' ?_ ?_ (fun k hk hl => (h2.block k (by simp; omega) (fun e => hk e.symm)).trans (Below.heap_alloc _ _ _ hl)) ?_ h4
    · show w'.ownsRow base e 1 _ (cs ++ [d]).length (bv (cs ++ [d]))
      rw [bv_snoc, List.length_append, ← hy]; exact h1
    · exact ((Below.refl base w).alloc hbase _).grown h2 (by simp; omega) (fun j hj => (World.ownsRow.lt hown j hj).1)
    · rcases h3 with h3 | h3
      · exact Or.inl h3
      · right; rw [h3]; simp
end Go.Proofs.Ytobmjcbjailclaa

/- The program's 'tens', 'held', 'Bits' of package show by their contracts. No condition but small sizes. -/
namespace Go.Proofs.Ytobmjcbjailclaa
set_option maxRecDepth 100000
open Go.RowKit

/-- A number held between 0 and 30. -/
def hold30 (d : Int) : Int := min (max d 0) 30
theorem hold30_range (d : Int) : 0 ≤ hold30 d ∧ hold30 d ≤ 30 := by unfold hold30; omega

theorem held_any (d : Int) (w : World) : Calls Try.prog 14 #[.int .i64 d] w fun e w' => e = .returned (.int .i64 (hold30 d)) ∧ w = w' := by
  by_cases h1 : d < 0
  · have e : hold30 d = 0 := by unfold hold30; omega
    rw [e]
    have h2 : ¬ 0 ≤ d := by omega
    have h3 : d ≤ 0 := by omega
    go_enter Try.func14, Try.ntmps14
    go_wp2
    go_ret
    exact ⟨rfl, rfl⟩
  · have h2 : 0 ≤ d := by omega
    by_cases h3 : d ≤ 30
    · have e : hold30 d = d := by unfold hold30; omega
      rw [e]
      have h4 : ¬ 30 < d := by omega
      go_enter Try.func14, Try.ntmps14
      go_wp2
      go_ret
      exact ⟨rfl, rfl⟩
    · have e : hold30 d = 30 := by unfold hold30; omega
      rw [e]
      have h4 : 30 < d := by omega
      go_enter Try.func14, Try.ntmps14
      go_wp2
      go_ret
      exact ⟨rfl, rfl⟩

theorem ten_len {k : Nat} (h : k ≤ 30) : (lim (10 ^ k)).length ≤ 30 := by
  refine lim_length_le (Nat.lt_of_le_of_lt (Nat.pow_le_pow_right (by omega) h) ?_)
  exact Nat.pow_lt_pow_left (by omega) (by omega)

set_option maxHeartbeats 3200000 in
theorem tens_any (d : Nat) (w : World) (hd : d ≤ 30) : Calls Try.prog 39 #[.int .i64 (d : Int)] w (Gives (lim (10 ^ d)) w) := by
  go_enter Try.func39, Try.ntmps39
  go_wp2_with fail
  refine (of_any 1 _ (by omega)).mono ?_
  rintro e w1 ⟨v1, rfl, h1, hb1⟩
  go_wp2_with fail
  have l0 : lim 1 = lim (10 ^ 0) := rfl
  rw [l0] at h1
  clear l0
  go_loopw [3, 6] (fun a i wr => ∃ k : Nat, k ≤ d ∧ i = .int .i64 (k : Nat) ∧ Nt wr w.heap.size wr.heap.size a (lim (10 ^ k)) ∧ Below w.heap.size w wr)
    (fun _ i _ => d - (intOf i).toNat)
  case atStart => exact ⟨0, Nat.zero_le _, rfl, h1, hb1⟩
  case round =>
    obtain ⟨k, hk, rfl, ha, hb⟩ := hrel
    clear h1 hb1
    by_cases hlt : k < d
    · have hlI : (k : Int) < (d : Int) := by omega
      have hl := ten_len (Nat.le_of_lt (Nat.lt_of_lt_of_le hlt hd))
      have dk := dig_lim (10 ^ k)
      have dt := dig_lim 10
      have lt : (lim 10).length ≤ 1 := lim_length_le (by omega)
      have V := Lib.hid (val_lim (10 ^ k))
      have V2 := Lib.hid (val_lim 10)
      have P : Hid (10 ^ k * 10 = 10 ^ (k + 1)) := (Nat.pow_succ ..).symm
      go_wp2_with fail
      refine (of_any 10 _ (by omega)).mono ?_
      rintro e w2 ⟨v2, rfl, h2, hb2⟩
      have ha2 := (ha.low (Nat.zero_le _)).after hb2
      have h2' := h2.low (Nat.zero_le _)
      have hb02 := hb.trans (hb2.mono hb.size)
      clear ha h2 hb hb2
      go_wp2_with fail
      refine (mul_any _ _ (lim (10 ^ k)) (lim 10) _ dk dt ha2 h2' (by omega) (by omega)).mono ?_
      rw [V.out, V2.out, P.out]
      rintro e w4 ⟨v4, rfl, h4, hb4⟩
      have h4' := h4.low hb02.size
      have hb04 := hb02.trans (hb4.mono hb02.size)
      clear h4 hb4 ha2 h2' hb02
      go_wp2_with fail
      go_roundw
      case rel => exact ⟨k + 1, by omega, by go_num, h4', hb04⟩
      case measure => simp [intOf]; omega
    · obtain rfl : k = d := by omega
      go_wp2_with fail
      go_ret
      exact ⟨_, rfl, ha, hb⟩

theorem bits_ten {h : Nat} : bl (val (lim (10 ^ h - 1))) = bl (10 ^ h - 1) := by rw [val_lim]

set_option maxHeartbeats 3200000 in
theorem showBits_any (d : Int) (w : World) : Calls Try.prog 34 #[.int .i64 d] w fun e w' => e = .returned (.int .i64 ((bl (10 ^ (hold30 d).toNat - 1) : Nat) : Int)) ∧ Below w.heap.size w w' := by
  obtain ⟨h, hh⟩ : ∃ h : Nat, (hold30 d).toNat = h := ⟨_, rfl⟩
  have hr := hold30_range d
  have hI : hold30 d = (h : Int) := by omega
  have h30 : h ≤ 30 := by omega
  rw [hh]
  have HI := Lib.hid hI
  have l := ten_len h30
  have dk := dig_lim (10 ^ h)
  have dt := dig_lim 1
  have lt : (lim 1).length ≤ 1 := lim_length_le (by omega)
  have V : Hid (val (lim (10 ^ h)) - val (lim 1) = 10 ^ h - 1) := by show _ = _; rw [val_lim, val_lim]
  have V2 := Lib.hid (bits_ten (h := h))
  have d1 := dig_lim (10 ^ h - 1)
  have l1 : (lim (10 ^ h - 1)).length ≤ 30 := Nat.le_trans (by
    refine lim_length_le ?_
    have := val_lt dk
    rw [val_lim] at this
    have := pow_pos' (lim (10 ^ h)).length
    omega) l
  clear hh hr hI
  go_enter Try.func34, Try.ntmps34
  go_wp2_with fail
  refine (held_any d w).mono ?_
  rintro e w1 ⟨rfl, rfl⟩
  rw [HI.out]
  go_wp2_with fail
  refine (tens_any h _ h30).mono ?_
  rintro e w2 ⟨v2, rfl, h2, hb2⟩
  have h2' := h2.low (Nat.zero_le _)
  clear h2
  go_wp2_with fail
  refine (of_any 1 _ (by omega)).mono ?_
  rintro e w3 ⟨v3, rfl, h3, hb3⟩
  have h2'' := h2'.after hb3
  have h3' := h3.low (Nat.zero_le _)
  have hB3 := hb2.trans (hb3.mono hb2.size)
  clear h2' h3 hb3
  go_wp2_with fail
  refine (sub_any _ _ (lim (10 ^ h)) (lim 1) _ dk dt h2'' h3' (by omega) (by omega)).mono ?_
  rw [V.out]
  rintro e w4 ⟨v4, rfl, h4, hb4⟩
  have h4' := h4.low (Nat.zero_le _)
  have hB4 := hB3.trans (hb4.mono hB3.size)
  clear h2'' h3' h4 hb4
  go_wp2_with fail
  refine (bits_any _ (lim (10 ^ h - 1)) _ d1 h4' (by omega)).mono ?_
  rw [V2.out]
  rintro e w5 ⟨rfl, rfl⟩
  go_wp2
  go_ret
  exact ⟨rfl, hB4⟩

theorem known20_any (w : World) : Calls Try.prog 13 #[] w fun e w' => e = .returned (.bool true) ∧ Below w.heap.size w w' := by
  have hk : (bl (10 ^ (hold30 1).toNat - 1)) = 4 := by
    have e : (hold30 1).toNat = 1 := by decide
    rw [e, show 10 ^ 1 - 1 = 9 by rfl, bl_pos (by omega), bl_pos (by omega), bl_pos (by omega), bl_pos (by omega), bl_zero]
  have HK := Lib.hid hk
  clear hk
  go_enter Try.func13, Try.ntmps13
  go_wp2_with fail
  refine (showBits_any 1 w).mono ?_
  rintro e w1 ⟨rfl, hb⟩
  rw [HK.out]
  go_wp2
  go_ret
  exact ⟨rfl, hb⟩
end Go.Proofs.Ytobmjcbjailclaa

/- The reference's powers of ten, its whole numbers, whether a number is 0. Condition: bounds. -/
namespace Go.Proofs.Ytobmjcbjailclaa
set_option maxRecDepth 100000
open Go.RowKit

set_option maxHeartbeats 3200000 in
theorem refTen3_any (d : Nat) (w : World) (hd : d ≤ 1000) : Calls Try.prog 57 #[.int .i64 (d : Int)] w (Gives (lim (10 ^ d)) w) := by
  obtain ⟨h1, hb1⟩ := nt_laid w 45 [1] (by simp)
  have h1' : Nt (w.alloc (.cells #[.int .u32 1] 45)) w.heap.size (w.alloc (.cells #[.int .u32 1] 45)).heap.size (.slice (some ⟨w.heap.size, 0, none⟩) 1 1) (lim (10 ^ 0)) := by
    have l0 : lim (10 ^ 0) = [1] := lim_one (by omega) (by omega)
    rw [l0]
    have hb : Lb (w.alloc (.cells #[.int .u32 1] 45)) w.heap.size 45 [1] := Blk.new w _ _
    exact hb.reads (n := 1) (by simp) (by unfold maxLen; simp)
  clear h1
  go_enter Try.func57, Try.ntmps57
  go_wp2_with fail
  go_loopw [3, 4] (fun a i wr => ∃ k : Nat, k ≤ d ∧ i = .int .i64 (k : Nat) ∧ Nt wr w.heap.size wr.heap.size a (lim (10 ^ k)) ∧ Below w.heap.size w wr)
    (fun _ i _ => d - (RowKit.intOf i).toNat)
  case atStart => exact ⟨0, Nat.zero_le _, rfl, h1', hb1⟩
  case round =>
    obtain ⟨k, hk, rfl, ha, hb⟩ := hrel
    clear h1' hb1
    by_cases hlt : k < d
    · have hlI : (k : Int) < (d : Int) := by omega
      have hl : (lim (10 ^ k)).length ≤ 1001 := lim_ten (Nat.pow_lt_pow_right (by omega) (Nat.lt_succ_self k)) (by omega)
      have dk := dig_lim (10 ^ k)
      have D10 : Dig [10] := by intro x hx; simp at hx; omega
      have V : Hid (val (lim (10 ^ k)) * val [10] = 10 ^ (k + 1)) := by
        show _ = _
        rw [val_lim, Nat.pow_succ]
        rfl
      obtain ⟨h2, hb2⟩ := nt_laid wr 45 [10] (by simp)
      have ha2 := ((ha.low (Nat.zero_le _)).alloc (Nat.le_refl _) (.cells #[.int .u32 10] 45)).up (B' := (wr.alloc (.cells #[.int .u32 10] 45)).heap.size) (by simp)
      have hb02 := hb.trans (hb2.mono hb.size)
      clear ha hb hb2
      go_wp2_with fail
      refine (refMul_any _ _ (lim (10 ^ k)) [10] _ dk D10 ha2 h2 (by omega) (by simp)).mono ?_
      rw [V.out]
      rintro e w4 ⟨v4, rfl, h4, hb4⟩
      have h4' := h4.low hb02.size
      have hb04 := hb02.trans (hb4.mono hb02.size)
      clear h4 hb4 ha2 h2 hb02
      go_wp2_with fail
      go_roundw
      case rel => exact ⟨k + 1, by omega, by go_num, h4', hb04⟩
      case measure => simp [RowKit.intOf]; omega
    · obtain rfl : k = d := by omega
      go_wp2_with fail
      go_ret
      exact ⟨_, rfl, ha, hb⟩

set_option maxHeartbeats 3200000 in
theorem refInt_any (n : Nat) (w : World) (hn : n < 1000000000) : Calls Try.prog 11 #[.int .i64 (n : Int)] w (GivesF (qv false n 1) w) := by
  have k1 : IntKind.u64.wrap (n : Int) = (n : Int) := IntWalk.u64_in _ (by omega)
  have k2 : ¬ (n : Int) < 0 := by omega
  have ln : (lim n).length ≤ 1 := lim_length_le (by omega)
  have VN : Hid (val (lim n) = n) := val_lim n
  have hcon : Hid (∀ (vn vd : Value) (w : World), Nt w 0 w.heap.size vn (lim n) → Nt w 0 w.heap.size vd [1] → Calls Try.prog 27 #[.bool false, vn, vd] w (GivesF (qv false n 1) w)) := fun vn vd w h1 h2 => by
    have := ratOf_q false vn vd (lim n) [1] w (dig_lim n) (by intro x hx; simp at hx; omega) h1 h2 (by omega) (by simp)
    rw [VN.out] at this
    exact this
  have hof := fun w => refOf_any n w (by omega)
  have HOF := Lib.hid hof
  generalize qv false n 1 = q at *
  clear hof
  go_enter Try.func11, Try.ntmps11
  go_wp2_with fail
  have b1 := Blk.new w 24 #[.bool false, .slice none 0 0, .slice none 0 0]
  have hB : Below w.heap.size w (w.alloc (.cells #[.bool false, .slice none 0 0, .slice none 0 0] 24)) := (Below.refl _ _).alloc (Nat.le_refl _) _
  generalize w.alloc (.cells #[.bool false, .slice none 0 0, .slice none 0 0] 24) = w2 at *
  refine (HOF.out _).mono ?_
  rintro e w3 ⟨v3, rfl, h3, hb⟩
  have q1 := (b1.below hb b1.lt).alloc (.cells #[.int .u32 1] 45)
  replace hB := hB.trans (hb.mono hB.size)
  obtain ⟨h4, hb4⟩ := nt_laid w3 45 [1] (by simp)
  have h3' := ((h3.low (Nat.zero_le _)).alloc (Nat.le_refl _) (.cells #[.int .u32 1] 45)).up (B' := (w3.alloc (.cells #[.int .u32 1] 45)).heap.size) (by simp)
  replace hB := hB.trans (hb4.mono hB.size)
  clear h3 hb hb4 b1 HOF
  go_wp2_with fail
  refine (hcon.out _ _ _ h3' h4).mono ?_
  rintro e w5 ⟨v5, rfl, ⟨an, ad, rfl, han, had⟩, hb⟩
  have q5 := q1.below hb q1.lt
  have han' := han
  have had' := had
  obtain ⟨A8, c8, rfl, m8⟩ := nt_len han'
  obtain ⟨A9, c9, rfl, m9⟩ := nt_len had'
  obtain ⟨e0, e1, e2, hR, hBf⟩ := store3 q5 (hB.trans (hb.mono hB.size)) (Nat.le_refl _) (qS q) (.slice A8 (lim (qN q)).length c8) (.slice A9 (lim q.den).length c9) (han.low q1.lt) (had.low q1.lt)
  have r0 := q5.cell 0
  have r1 := q5.cell 1
  have r2 := q5.cell 2
  have f0 := q5.free 0
  have f1 := q5.free 1
  have f2 := q5.free 2
  have HR := Lib.hid hR
  have HBF := Lib.hid hBf
  clear q1 q5 han had han' had' hR hBf hb h3' h4 hB
  unfold St3 at *
  go_wp2_with fail
  clear r0 r1 r2 f0 f1 f2
  generalize ((World.setCell w5 ⟨w.heap.size, 0, none⟩ (.bool (qS q))).setCell ⟨w.heap.size, 1, none⟩ (.slice A8 (lim (qN q)).length c8)).setCell ⟨w.heap.size, 2, none⟩ (.slice A9 (lim q.den).length c9) = W at *
  refine bodyPost_ret (v := .agg #[.bool (qS q), .slice A8 (lim (qN q)).length c8, .slice A9 (lim q.den).length c9]) ?_ rfl ⟨_, rfl, HR.out, HBF.out⟩
  simp [results, Try.results11, go_sem, e0, e1, e2]

end Go.Proofs.Ytobmjcbjailclaa

/- The reference's 'Ten', 'Bit' and 'Bits' by their contracts. No condition but small sizes. -/
namespace Go.Proofs.Ytobmjcbjailclaa
set_option maxRecDepth 100000
open Go.RowKit

theorem shiftN_on {v p : Nat} (hp : p ≤ 4096) : shiftN v (p : Int) = v * 2 ^ p := by
  have e : held12 (p : Int) = (p : Int) := by unfold held12; omega
  unfold shiftN
  rw [e, if_neg (by omega)]
  rfl

theorem two_len {p : Nat} (h : p ≤ 1000) : (lim (2 ^ p)).length ≤ 32 := by
  refine Nat.le_trans (lim_length_le (k := p / 32 + 1) ?_) (by omega)
  rw [base_pow]
  exact Nat.pow_lt_pow_right (by omega) (by omega)

/-- A literal row of one limb. -/
theorem lit_one (w : World) (t : TypeId) (x : Nat) : Nt (w.alloc (.cells #[.int .u32 (x : Int)] t)) w.heap.size (w.alloc (.cells #[.int .u32 (x : Int)] t)).heap.size (.slice (some ⟨w.heap.size, 0, none⟩) 1 1) [x] := by
  have h : Lb (w.alloc (.cells #[.int .u32 (x : Int)] t)) w.heap.size t [x] := Blk.new w t _
  exact h.reads (n := 1) (by simp) (by unfold maxLen; simp)

set_option maxHeartbeats 3200000 in
theorem refTen_any (d : Nat) (w : World) (hd : d ≤ 30) : Calls Try.prog 10 #[.int .i64 (d : Int)] w (GivesT false 1 (10 ^ d) w) := by
  go_enter Try.func10, Try.ntmps10
  go_wp2_with fail
  have b0 := (Blk.new w 24 #[.bool false, .slice none 0 0, .slice none 0 0]).alloc (.cells #[.int .u32 1] 45)
  have h1 := lit_one (w.alloc (.cells #[.bool false, .slice none 0 0, .slice none 0 0] 24)) 45 1
  have es : (w.alloc (.cells #[.bool false, .slice none 0 0, .slice none 0 0] 24)).heap.size = w.heap.size + 1 := by simp
  have hb1 : Below w.heap.size w ((w.alloc (.cells #[.bool false, .slice none 0 0, .slice none 0 0] 24)).alloc (.cells #[.int .u32 1] 45)) := ((Below.refl _ _).alloc (Nat.le_refl _) _).alloc (by simp) _
  rw [es] at h1
  clear es
  have l0 : ([1] : List Nat) = lim (10 ^ 0) := (lim_one (by omega) (by omega)).symm
  rw [l0] at h1
  clear l0
  go_loopw [3, 4] (fun a i wr => ∃ k : Nat, k ≤ d ∧ i = .int .i64 (k : Nat) ∧ Nt wr (w.heap.size + 1) wr.heap.size a (lim (10 ^ k)) ∧ Blk wr w.heap.size 24 #[.bool false, .slice none 0 0, .slice none 0 0] ∧ Below w.heap.size w wr)
    (fun _ i _ => d - (intOf i).toNat)
  case atStart => exact ⟨0, Nat.zero_le _, rfl, h1, b0, hb1⟩
  case round =>
    obtain ⟨k, hk, rfl, ha, hq, hb⟩ := hrel
    clear h1 b0 hb1
    have hl := ten_len (Nat.le_trans hk hd)
    have dk := dig_lim (10 ^ k)
    by_cases hlt : k < d
    · have hlI : (k : Int) < (d : Int) := by omega
      have P : Hid (val (lim (10 ^ k)) * val [10] = 10 ^ (k + 1)) := by
        show _ = _
        rw [val_lim, val_one, Nat.pow_succ]
      have dt : Dig [10] := dig_one (by omega)
      have h10 := lit_one wr 45 10
      have hbb : Below wr.heap.size wr (wr.alloc (.cells #[.int .u32 10] 45)) := (Below.refl _ _).alloc (Nat.le_refl _) _
      have ha2 := (ha.low (Nat.zero_le _)).after hbb
      have hq2 := hq.alloc (.cells #[.int .u32 10] 45)
      have hg := hq.lt
      have hs : Hid (w.heap.size + 1 ≤ (wr.alloc (.cells #[.int .u32 10] 45)).heap.size) := hq2.lt
      have hb2 := hb.trans (hbb.mono hb.size)
      have h10' := h10.low (Nat.zero_le _)
      clear ha hq hb hbb h10 hg
      go_wp2_with fail
      refine (refMul_any _ _ (lim (10 ^ k)) [10] _ dk dt ha2 h10' (by omega) (by simp)).mono ?_
      rw [P.out]
      rintro e w4 ⟨v4, rfl, h4, hb4⟩
      have h4' := h4.low hs.out
      have hq4 := hq2.below hb4 hq2.lt
      have hb04 := hb2.trans (hb4.mono hb2.size)
      clear h4 hb4 ha2 h10' hb2 hq2
      go_wp2_with fail
      go_roundw
      case rel => exact ⟨k + 1, by omega, by go_num, h4', hq4, hb04⟩
      case measure => simp [intOf]; omega
    · obtain rfl : k = d := by omega
      have h1 := lit_one wr 45 1
      have hbb : Below wr.heap.size wr (wr.alloc (.cells #[.int .u32 1] 45)) := (Below.refl _ _).alloc (Nat.le_refl _) _
      have ha2 := (ha.low (Nat.zero_le _)).after hbb
      have hq2 := hq.alloc (.cells #[.int .u32 1] 45)
      have hb2 := hb.trans (hbb.mono hb.size)
      have h1' := h1.low (Nat.zero_le _)
      have d1 : Dig [1] := dig_one (by omega)
      have N1 := Lib.hid (nr_one (s := false) (d := 10 ^ k) (Nat.ne_of_gt (Nat.pow_pos (by omega))))
      clear ha hq hb hbb h1
      go_wp2_with fail
      refine (ratOf_any false _ _ [1] (lim (10 ^ k)) _ d1 dk h1' ha2 (by simp) (by omega)).mono ?_
      rw [val_lim, val_one, N1.out.1, N1.out.2.1, N1.out.2.2]
      rintro e w2 ⟨v2, rfl, ⟨x, y, rfl, hx, hy⟩, hb3⟩
      have hx' := hx
      have hy' := hy
      obtain ⟨A3, c3, rfl, m3⟩ := nt_len hx'
      obtain ⟨A4, c4, rfl, m4⟩ := nt_len hy'
      have q0 := hq2.below hb3 hq2.lt
      have hx2 := hx.low (show w.heap.size + 1 ≤ _ from hq2.lt)
      have hy2 := hy.low (show w.heap.size + 1 ≤ _ from hq2.lt)
      have hB2 := hb2.trans (hb3.mono hb2.size)
      clear hx hy hb3 hb2 hq2 ha2 h1' hx' hy'
      have r0 := q0.cell 0
      have r1 := q0.cell 1
      have r2 := q0.cell 2
      have f0 := q0.free 0
      have f1 := q0.free 1
      have f2 := q0.free 2
      have p3 := ((q0.put 0 (.bool false)).put 1 (.slice A3 (lim 1).length c3)).put 2 (.slice A4 (lim (10 ^ k)).length c4)
      have hBB := ((hB2.setCell (p := ⟨w.heap.size, 0, none⟩) (by simp) (.bool false)).setCell (p := ⟨w.heap.size, 1, none⟩) (by simp) (.slice A3 (lim 1).length c3)).setCell (p := ⟨w.heap.size, 2, none⟩) (by simp) (.slice A4 (lim (10 ^ k)).length c4)
      have t6 := ((hx2.put3 (Nat.lt_succ_self _) 0 (.bool false)).put3 (Nat.lt_succ_self _) 1 (.slice A3 (lim 1).length c3)).put3 (Nat.lt_succ_self _) 2 (.slice A4 (lim (10 ^ k)).length c4)
      have t7 := ((hy2.put3 (Nat.lt_succ_self _) 0 (.bool false)).put3 (Nat.lt_succ_self _) 1 (.slice A3 (lim 1).length c3)).put3 (Nat.lt_succ_self _) 2 (.slice A4 (lim (10 ^ k)).length c4)
      clear hx2 hy2 
      go_wp2_with fail
      clear r0 r1 r2 f0 f1 f2 q0
      generalize ((World.setCell w2 ⟨w.heap.size, 0, none⟩ (.bool false)).setCell ⟨w.heap.size, 1, none⟩ (.slice A3 (lim 1).length c3)).setCell ⟨w.heap.size, 2, none⟩ (.slice A4 (lim (10 ^ k)).length c4) = WW at *
      have e0 : WW.cell? ⟨w.heap.size, 0, none⟩ = some (.bool false) := by rw [p3.cell]; rfl
      have e1 : WW.cell? ⟨w.heap.size, 1, none⟩ = some (.slice A3 (lim 1).length c3) := by rw [p3.cell]; rfl
      have e2 : WW.cell? ⟨w.heap.size, 2, none⟩ = some (.slice A4 (lim (10 ^ k)).length c4) := by rw [p3.cell]; rfl
      refine bodyPost_ret (v := .agg #[.bool false, .slice A3 (lim 1).length c3, .slice A4 (lim (10 ^ k)).length c4]) ?_ rfl ⟨_, rfl, ⟨_, _, rfl, t6.low (by omega), t7.low (by omega)⟩, hBB⟩
      simp [results, Try.results10, go_sem, e0, e1, e2]

theorem cmp_ten (p d : Nat) : cmpI (sg false 1 * ((10 ^ d : Nat) : Int)) (sg false 1 * ((2 ^ p : Nat) : Int)) = cmpI ((10 ^ d : Nat) : Int) ((2 ^ p : Nat) : Int) := by
  unfold sg
  simp

end Go.Proofs.Ytobmjcbjailclaa

/- The reference's 'units' of decimals by its contract. Condition: bounds on lengths. -/
namespace Go.Proofs.Ytobmjcbjailclaa
set_option maxRecDepth 100000
open Go.RowKit

set_option maxHeartbeats 3200000 in
theorem refUnits_q (v : Value) (q : Rat) (kk k : Nat) (w : World) (h : RQ w 0 w.heap.size v q kk) (hkk : kk ≤ 70) (hkk1 : 1 ≤ kk) (hk : k ≤ 60) :
    Calls Try.prog 33 #[v, .int .i64 (k : Int)] w (Gives (lim (rhe (qN q * 10 ^ k) q.den)) w) := by
  have hz := h.sz hkk1
  have HNO : Hid (∀ W, Below w.heap.size w W → Calls Try.prog 7 #[v] W (GivesF q W)) := fun W hb => ratNorm_q v q kk W (h.after hb) (by omega)
  obtain ⟨n, hnn⟩ : ∃ n, lim (qN q) = n := ⟨_, rfl⟩
  obtain ⟨d, hdd⟩ : ∃ d, lim q.den = d := ⟨_, rfl⟩
  have dn : Dig n := by rw [← hnn]; exact dig_lim _
  have dd : Dig d := by rw [← hdd]; exact dig_lim _
  have vnq : qN q = val n := by rw [← hnn, val_lim]
  have vdq : q.den = val d := by rw [← hdd, val_lim]
  have hd0 : val d ≠ 0 := by rw [← vdq]; exact q.den_nz
  have ln : n.length ≤ 70 := by have := hz.1; rw [hnn] at this; omega
  have ld : d.length ≤ 70 := by have := hz.2; rw [hdd] at this; omega
  rw [vnq, vdq]
  unfold GivesF GivesT at HNO
  rw [hnn, hdd] at HNO
  clear vnq vdq hnn hdd hz
  obtain ⟨s0, n0, d0, ⟨un, ud, rfl, hn0, hd0'⟩, rest0⟩ := h
  obtain ⟨A1, k1, rfl, m1⟩ := nt_len hn0
  obtain ⟨A2, k2, rfl, m2⟩ := nt_len hd0'
  clear hn0 hd0' rest0
  have dt := dig_lim (10 ^ k)
  have lt := ten_len60 hk
  have dx := dig_lim (val n * val (lim (10 ^ k)))
  have lx : (lim (val n * val (lim (10 ^ k)))).length ≤ 131 := lim_mul_len dn dt rfl rfl ln lt
  obtain ⟨X, hX⟩ : ∃ X, val n * 10 ^ k = X := ⟨_, rfl⟩
  have VX : Hid (val (lim (val n * val (lim (10 ^ k)))) = X) := by show _ = _; rw [val_lim, val_lim, hX]
  obtain ⟨Q, hQ⟩ : ∃ Q, X / val d = Q := ⟨_, rfl⟩
  obtain ⟨R, hR⟩ : ∃ R, X % val d = R := ⟨_, rfl⟩
  have GR : Hid (remN X (val d) = R) := by show _ = _; unfold remN; rw [if_neg hd0, hR]
  have HQ := Lib.hid hQ
  rw [hX]
  have hrl : R < val d := by rw [← hR]; exact Nat.mod_lt _ (by omega)
  have HU : Hid (rhe X (val d) = if val d < 2 * R ∨ (2 * R = val d ∧ Q % 2 = 1) then Q + 1 else Q) := by show _ = _; unfold rhe; rw [hQ, hR]
  obtain ⟨U, hU⟩ : ∃ U, rhe X (val d) = U := ⟨_, rfl⟩
  rw [hU] at HU ⊢
  have lQ : (lim Q).length ≤ 2000 := by rw [← hQ]; exact Nat.le_trans (lim_len_mono (Nat.div_le_self _ _)) (by have := VX.out; rw [val_lim] at this; rw [← this]; omega)
  have lR : (lim R).length ≤ 1000 := Nat.le_trans (lim_len_mono (Nat.le_of_lt hrl)) (Nat.le_trans (lim_val_length d dd) (by omega))
  have dR := dig_lim R
  have VR := Lib.hid (val_lim R)
  have dS := dig_lim (R + R)
  have lS : (lim (R + R)).length ≤ 2000 := Nat.le_trans (lim_add_len dR dR (val_lim _).symm (val_lim _).symm lR lR) (by omega)
  have HSH : Hid (val (lim (R + R)) = 2 * R) := by show _ = _; rw [val_lim]; omega
  have HTEN : Hid (∀ W, Calls Try.prog 57 #[.int .i64 (k : Int)] W (Gives (lim (10 ^ k)) W)) := fun W => refTen3_any k W (by omega)
  have hB : Below w.heap.size w (w.alloc (.cells #[.bool s0, .slice A1 n0.length k1, .slice A2 d0.length k2] 24)) := (Below.refl _ _).alloc (Nat.le_refl _) _
  clear hQ hR hX hU
  go_enter Try.func33, Try.ntmps33
  go_wp2_with fail
  go_fit (HNO.out _ hB)
  rintro e w1 ⟨v1, rfl, ⟨vn, vd, rfl, hn, hd⟩, hb1⟩
  have hn' := hn
  have hd' := hd
  obtain ⟨A3, k3, rfl, m3⟩ := nt_len hn'
  obtain ⟨A4, k4, rfl, m4⟩ := nt_len hd'
  replace hB := hB.trans (hb1.mono hB.size)
  clear hn' hd' hb1 HNO
  replace hn := hn.low (Nat.zero_le _)
  replace hd := hd.low (Nat.zero_le _)
  have b0 := Blk.new w1 24 #[.bool (qS q), .slice A3 n.length k3, .slice A4 d.length k4]
  have hal : Below w1.heap.size w1 (w1.alloc (.cells #[.bool (qS q), .slice A3 n.length k3, .slice A4 d.length k4] 24)) := (Below.refl _ _).alloc (Nat.le_refl _) _
  have hsz0 : w.heap.size ≤ w1.heap.size := hB.size
  replace hn := hn.after hal
  replace hd := hd.after hal
  replace hB := hB.trans (hal.mono hB.size)
  have hg := b0.lt
  have cc1 := b0.cell 1
  have cc2 := b0.cell 2
  clear hal
  go_wp2_with fail
  generalize w1.alloc (.cells #[.bool (qS q), .slice A3 n.length k3, .slice A4 d.length k4] 24) = w2 at *
  go_region_held3 (fun W => Below w2.heap.size w2 W ∧ W.cell? ⟨w1.heap.size, 1, none⟩ = some (.slice A3 n.length k3) ∧ W.cell? ⟨w1.heap.size, 2, none⟩ = some (.slice A4 d.length k4))
    (first | assumption | exact keep2 (by assumption) (by assumption) hg | exact ⟨(Below.refl _ _).drew, cc1, cc2⟩)
    (first
      | (go_at_call 57; refine (HTEN.out _).mono ?_; rintro e w3 ⟨v3, rfl, h3, hb3⟩; have hbb3 := hb3; have hk3 : Below w2.heap.size w2 w3 := Below.trans (Below.drew (Below.refl _ _)) hb3)
      | (go_at_call 26; refine (refMul_any _ v3 n (lim (10 ^ k)) _ dn dt (hn.after hk3) (h3.low (Nat.zero_le _)) (by omega) (by omega)).mono ?_; rintro e w4 ⟨v4, rfl, h4, hb4⟩; have hbb4 := hb4; have hk4 : Below w2.heap.size w2 w4 := hk3.trans (hb4.mono hk3.size))
      | (go_at_call 25; refine (refDiv_any v4 _ (lim (val n * val (lim (10 ^ k)))) d _ dx dd (h4.low (Nat.zero_le _)) (hd.after hk4) (by omega) (by omega)).mono ?_; rintro e w5 ⟨v5, z5, rfl, h5, h5', hb5⟩; have hbb5 := hb5; have hk5 : Below w2.heap.size w2 w5 := hk4.trans (hb5.mono hk4.size))
      | fail)
  rw [VX.out, HQ.out] at h5
  rw [VX.out, GR.out] at h5'
  replace h5 := h5.low (show w2.heap.size ≤ _ from hk4.size)
  replace h5' := h5'.low (show w2.heap.size ≤ _ from hk4.size)
  have q0 := b0.below hk5 hg
  replace hd := hd.after hk5
  replace hB := hB.trans (hk5.mono hB.size)
  have hg5 : w1.heap.size < w5.heap.size := q0.lt
  have cd1 := q0.cell 1
  have cd2 := q0.cell 2
  have hsz : w.heap.size ≤ w2.heap.size := Nat.le_trans hsz0 (Nat.le_of_lt hg)
  clear hn h3 hb3 hbb3 hk3 h4 hb4 hbb4 hk4 hb5 hbb5 hk5 cc1 cc2 b0 dx lx dt lt
  go_wp2_with fail
  go_region_held3 (fun W => Below w5.heap.size w5 W ∧ W.cell? ⟨w1.heap.size, 1, none⟩ = some (.slice A3 n.length k3) ∧ W.cell? ⟨w1.heap.size, 2, none⟩ = some (.slice A4 d.length k4))
    (first | assumption | exact keep2 (by assumption) (by assumption) hg5 | exact ⟨(Below.refl _ _).drew, cd1, cd2⟩)
    (first
      | (go_at_call 28; refine (refAdd_any z5 z5 (lim R) (lim R) _ dR dR (h5'.drew.low (Nat.zero_le _)) (h5'.drew.low (Nat.zero_le _)) (by omega) (by omega)).mono ?_; rw [VR.out]; rintro e w6 ⟨v6, rfl, h6, hb6⟩; have hbb6 := hb6; have hk6 : Below w5.heap.size w5 w6 := Below.trans (Below.drew (Below.refl _ _)) hb6)
      | (go_at_call 29; refine (refCmp_any v6 _ (lim (R + R)) d _ (dig_lim _) dd (h6.low (Nat.zero_le _)) (hd.after hk6) (by omega) (by omega)).mono ?_; rintro e w7 ⟨rfl, hb7⟩; have hbb7 := hb7; have hk7 : Below w5.heap.size w5 w7 := hk6.trans (hb7.mono hk6.size))
      | fail)
  have HCM : Hid (cmpN (val (lim (R + R))) (val d) = cmpN (2 * R) (val d)) := by
    show _ = _
    rw [HSH.out]
  rw [HCM.out]
  replace h5 := h5.after hk7
  replace hB := hB.trans (hk7.mono hB.size)
  have hw7 : w.heap.size ≤ w7.heap.size := hB.size
  clear h6 hb6 hbb6 hk6 hb7 hbb7 hk7 q0 hd cd1 cd2 hg5 h5' dR lR VR HSH dS lS GR HCM hrl
  by_cases c1 : val d < 2 * R
  · rw [cmpN_gt c1]
    have hU : U = Q + 1 := by rw [HU.out, if_pos (Or.inl c1)]
    have HUU := Lib.hid hU
    clear c1 HU hU
    go_wp2_with fail
    have h8 := (lit_one w7 45 1).low (Nat.zero_le _)
    have hb : Below w7.heap.size w7 (w7.alloc (.cells #[.int .u32 1] 45)) := (Below.refl _ _).alloc (Nat.le_refl _) _
    replace h5 := (h5.low (Nat.zero_le _)).after hb
    replace hB := hB.trans (hb.mono hB.size)
    clear hb
    go_fit (refAdd_any _ _ (lim Q) [1] _ (dig_lim _) (dig_one (by omega)) h5 h8 (by omega) (by simp))
    rw [val_lim, val_one]
    rintro e w9 ⟨v9, rfl, h9, hb⟩
    replace h9 := h9.low hB.size
    replace hB := hB.trans (hb.mono hB.size)
    clear hb h5 h8
    go_wp2_with fail
    go_ret
    exact ⟨_, rfl, by rw [HUU.out]; exact h9, hB⟩
  · by_cases c2 : 2 * R = val d
    · rw [cmpN_eq c2]
      by_cases c3 : Q = 0
      · have hU : U = 0 := by rw [HU.out, if_neg (by omega), c3]
        have HUU := Lib.hid hU
        rw [c3, lim_zero] at h5
        have h50 := h5
        obtain ⟨A5, c5, rfl, m5⟩ := nt_len h50
        have L0 := Lib.hid lim_zero
        clear c1 c2 HU hU c3 h50
        go_wp2_with fail
        go_ret
        exact ⟨_, rfl, by rw [HUU.out, L0.out]; exact h5.low hsz, hB⟩
      · obtain ⟨y, r, hy, hym, hyl⟩ := lim_head c3
        have h50 := h5
        rw [hy] at h50
        obtain ⟨A5, c5, hv5, hc5, m5, _, hx5⟩ := h50
        obtain ⟨b5, o5, rfl, _, _, hcell⟩ := hx5 (by simp)
        have hce := hcell 0 (by simp)
        rw [Nat.add_zero, List.getElem_cons_zero] at hce
        have hln : (lim Q).length = r.length + 1 := by rw [hy]; rfl
        subst hv5
        have hle : (y :: r).length = r.length + 1 := rfl
        obtain ⟨L, hL⟩ : ∃ L, r.length + 1 = L := ⟨_, rfl⟩
        rw [hle, hL] at h5 hc5 ⊢
        have hLp : (0 : Int) < (L : Int) := by omega
        have hand : bits .and .u32 (y : Int) 1 = ((Q % 2 : Nat) : Int) := by
          rw [← hym, ← Nat.and_one_is_mod]
          exact u32_and_nat y 1 hyl (by omega)
        by_cases c4 : Q % 2 = 1
        · have hU : U = Q + 1 := by rw [HU.out, if_pos (Or.inr ⟨c2, c4⟩)]
          have HUU := Lib.hid hU
          rw [c4] at hand
          replace hand : bits .and .u32 (y : Int) 1 = 1 := hand
          clear c1 c2 HU hU c3 c4 hx5 hcell hy hym hyl hln hle hL
          go_wp2_with fail
          have h8 := (lit_one w7 45 1).low (Nat.zero_le _)
          have hb : Below w7.heap.size w7 (w7.alloc (.cells #[.int .u32 1] 45)) := (Below.refl _ _).alloc (Nat.le_refl _) _
          replace h5 := (h5.low (Nat.zero_le _)).after hb
          replace hB := hB.trans (hb.mono hB.size)
          clear hb
          go_fit (refAdd_any _ _ (lim Q) [1] _ (dig_lim _) (dig_one (by omega)) h5 h8 (by omega) (by simp))
          rw [val_lim, val_one]
          rintro e w9 ⟨v9, rfl, h9, hb⟩
          replace h9 := h9.low hB.size
          replace hB := hB.trans (hb.mono hB.size)
          clear hb h5 h8
          go_wp2_with fail
          go_ret
          exact ⟨_, rfl, by rw [HUU.out]; exact h9, hB⟩
        · have hU : U = Q := by rw [HU.out, if_neg (by omega)]
          have HUU := Lib.hid hU
          have c5' : Q % 2 = 0 := by omega
          rw [c5'] at hand
          replace hand : bits .and .u32 (y : Int) 1 = 0 := hand
          clear c1 c2 HU hU c3 c4 hx5 hcell hy hym hyl hln hle hL c5'
          go_wp2_with fail
          go_ret
          exact ⟨_, rfl, by rw [HUU.out]; exact h5.low hsz, hB⟩
    · have c6 : 2 * R < val d := by omega
      rw [cmpN_lt c6]
      have hU : U = Q := by rw [HU.out, if_neg (by omega)]
      have HUU := Lib.hid hU
      clear c1 c2 HU hU c6
      go_wp2_with fail
      go_ret
      exact ⟨_, rfl, by rw [HUU.out]; exact h5.low hsz, hB⟩
end Go.Proofs.Ytobmjcbjailclaa
