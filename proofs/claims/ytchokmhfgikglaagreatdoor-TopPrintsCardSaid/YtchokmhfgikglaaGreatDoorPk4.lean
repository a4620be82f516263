/- Several texts in one: Fns, Small, Bytes, LawLaws, LimTen, Subs, RefSub, Left, Shift, ShiftL, ShiftAny. Condition: each says its own. -/
import Derived.Deep.AppendLies
import Derived.Laws.CopyOwn
import Derived.Deep.RegionHeld3
import Derived.Deep.DrawnRows
import Derived.Outline
import Derived.Test.YtchokmhfgikglaaGreatDoorPk1
import Derived.Test.YtchokmhfgikglaaGreatDoorPk2
import Derived.Test.YtchokmhfgikglaaGreatDoorPk3
namespace Go.Proofs.YtchokmhfgikglaaGreatDoor
set_option maxRecDepth 100000
open Go.RowKit

set_option maxHeartbeats 800000 in
theorem div32_any (hi lo y : Nat) (w : World) (h1 : hi < y) (h2 : y < 4294967296) (h3 : lo < 4294967296) :
    Calls Tryz.prog 162 #[.int .u32 (hi : Int), .int .u32 (lo : Int), .int .u32 (y : Int)] w fun e w' => e = .returned (.tuple #[.int .u32 (((hi * 4294967296 + lo) / y : Nat) : Int), .int .u32 (((hi * 4294967296 + lo) % y : Nat) : Int)]) ∧ w.drew = w' := by
  have hdl : (hi * 4294967296 + lo) / y < 4294967296 := by
    rw [Nat.div_lt_iff_lt_mul (by omega)]
    calc hi * 4294967296 + lo < hi * 4294967296 + 4294967296 := by omega
      _ = (hi + 1) * 4294967296 := by omega
      _ ≤ y * 4294967296 := Nat.mul_le_mul_right _ h1
      _ = 4294967296 * y := Nat.mul_comm _ _
  have hml : (hi * 4294967296 + lo) % y < y := Nat.mod_lt _ (by omega)
  obtain ⟨m, hm0⟩ : ∃ m, hi * 4294967296 = m := ⟨_, rfl⟩
  have hW2 : (hi : Int) * 4294967296 = (m : Int) := by omega
  rw [hm0] at hdl hml ⊢
  obtain ⟨t, ht0⟩ : ∃ t, m + lo = t := ⟨_, rfl⟩
  have hm1 : m < 18446744073709551616 := by omega
  have hor : bits BinOp.or IntKind.u64 (m : Int) (lo : Int) = (t : Int) := by
    rw [u64_or_nat m lo (by omega) (by omega), Nat.or_comm, or_add (m := m) (h := lo) (s := 32) (by omega) ⟨hi, by omega⟩]
    omega
  rw [ht0] at hdl hml ⊢
  have ht1 : t < 18446744073709551616 := by omega
  clear hm0 ht0
  obtain ⟨d, hd0⟩ : ∃ d, t / y = d := ⟨_, rfl⟩
  obtain ⟨q, hq0⟩ : ∃ q, t % y = q := ⟨_, rfl⟩
  have hdv : (t : Int) / (y : Int) = (d : Int) := by rw [← hd0]; exact (Int.natCast_ediv t y).symm
  have hmd : (t : Int) % (y : Int) = (q : Int) := by rw [← hq0]; exact (Int.natCast_emod t y).symm
  rw [hd0] at hdl
  rw [hq0] at hml
  rw [hd0, hq0]
  clear hd0 hq0
  have hy0 : ¬ (y : Int) = 0 := by omega
  have hyh : ¬ (y : Int) ≤ (hi : Int) := by omega
  have ed : (d : Int) % 4294967296 = (d : Int) := by omega
  go_enter Tryz.func162, Tryz.ntmps162
  go_wp2
  have eq : (q : Int) % 4294967296 = (q : Int) := by omega
  have eqt : (t : Int).tmod (y : Int) = (q : Int) := by rw [Int.tmod_eq_emod_of_nonneg (by omega)]; exact hmd
  go_region
  go_wp2
  go_ret2
  exact ⟨rfl, rfl⟩

set_option maxHeartbeats 800000 in
theorem add32_any (x y c : Nat) (w : World) (h1 : x < 4294967296) (h2 : y < 4294967296) (h3 : c ≤ 1) :
    Calls Tryz.prog 338 #[.int .u32 (x : Int), .int .u32 (y : Int), .int .u32 (c : Int)] w fun e w' => e = .returned (.tuple #[.int .u32 (((x + y + c) % 4294967296 : Nat) : Int), .int .u32 (((x + y + c) / 4294967296 : Nat) : Int)]) ∧ w = w' := by
  go_enter Tryz.func338, Tryz.ntmps338
  go_wp2
  go_ret2
  refine ⟨?_, rfl⟩
  have e1 : ((x : Int) + y + c) % 4294967296 = (((x + y + c) % 4294967296 : Nat) : Int) := by omega
  have e2 : ((x : Int) + y + c) / 4294967296 = (((x + y + c) / 4294967296 : Nat) : Int) := by omega
  show Ending.returned (.tuple #[.int .u32 (((x : Int) + y + c) % 4294967296), .int .u32 (((x : Int) + y + c) / 4294967296)]) = _
  rw [e1, e2]

set_option maxHeartbeats 800000 in
theorem lead32_any (x : Int) (w : World) (h0 : 0 ≤ x) (h1 : x ≤ 4294967295) :
    Calls Tryz.prog 281 #[.int .u32 x] w fun e w' => e = .returned (.int .i64 (32 - Lib.bitLen x.toNat)) ∧ w = w' := by
  go_enter Tryz.func281, Tryz.ntmps281
  go_wp2_with fail
  refine (len32_any x w h0 h1).mono ?_
  rintro e w1 ⟨rfl, rfl⟩
  go_wp2
  go_ret
  refine ⟨?_, rfl⟩
  have l := Lib.bitLen_le x.toNat 32 (by omega) (by omega)
  have e := wrap_small (32 - (Lib.bitLen x.toNat : Int)) (by omega) (by omega)
  show Ending.returned (.int .i64 (wrap64 (32 - (Lib.bitLen x.toNat : Int)))) = _
  rw [e]
end Go.Proofs.YtchokmhfgikglaaGreatDoor

namespace Go.Proofs.YtchokmhfgikglaaGreatDoor
set_option maxRecDepth 100000
open Go.RowKit

/-- What the program's division by a limb hands back. -/
def GivesS (x : List Nat) (r : Nat) (w : World) (e : Ending) (w' : World) : Prop :=
  ∃ v', e = .returned (.tuple #[v', .int .u32 (r : Int)]) ∧ Nt w' w.heap.size w'.heap.size v' x ∧ Below w.heap.size w w'

set_option maxHeartbeats 3200000 in
theorem small_any (v : Value) (x : List Nat) (b : Nat) (w : World) (hd : Dig x) (h : Nt w 0 w.heap.size v x) (hl : x.length ≤ 90000) (hb0 : 0 < b) (hb1 : b < 4294967296) :
    Calls Tryz.prog 100 #[v, .int .u32 (b : Int)] w (GivesS (lim (val x / b)) (val x % b) w) := by
  have hmk := make_limbs x.length (x.length : Int) rfl (by omega)
  obtain ⟨A, c, rfl, hc, hm, _, hx⟩ := h
  go_enter Tryz.func100, Tryz.ntmps100
  go_wp2_with fail
  go_loopw [7, 8] (fun u i wr => ∃ (k r : Nat) (cs : List Nat), k ≤ x.length ∧ i = .int .i64 ((k : Int) - 1) ∧ u = .int .u32 (r : Nat) ∧ Dig cs ∧ Hid (cs.length = x.length) ∧ SmallAt x cs b r k ∧ Lb wr w.heap.size 122 cs ∧ Below w.heap.size w wr)
    (fun _ i _ => (intOf i + 1).toNat)
  case atStart => exact ⟨x.length, 0, _, Nat.le_refl _, rfl, rfl, dig_zeros _, List.length_replicate, smallAt_zero _ _ hb0, Lb.made w _ _, (Below.refl _ _).alloc (Nat.le_refl _) _⟩
  case round =>
    obtain ⟨k, r, cs, hk, rfl, rfl, hdc, HL, hs0, hB, hb⟩ := hrel
    by_cases hlt : 0 < k
    · obtain ⟨j, rfl⟩ : ∃ j, k = j + 1 := ⟨k - 1, by omega⟩
      obtain ⟨ba, oa, rfl, _, hba, hcella⟩ := hx (by omega)
      have hjl : j < x.length := by omega
      have b1 := hd.at hjl
      have hca := (hb.cell (p := ⟨ba, oa + j, none⟩) hba).trans (hcella j hjl)
      have hcl : j < cs.length := by have := HL.out; omega
      have hcc := hB.cell j hcl
      have hfr := hB.free j
      have HS := smallAt_step (by omega) hd HL.out hjl hs0
      rw [getD_at hjl] at HS
      have hr := hs0.1
      have hdiv := fun w => div32_any r x[j] b w hr hb1 b1
      generalize cs[j] = z0 at *
      generalize x[j] = v1 at *
      obtain ⟨d, hd0⟩ : ∃ d, (r * 4294967296 + v1) / b = d := ⟨_, rfl⟩
      obtain ⟨q, hq0⟩ : ∃ q, (r * 4294967296 + v1) % b = q := ⟨_, rfl⟩
      rw [hd0, hq0] at HS
      simp only [hd0, hq0] at hdiv
      have HDIV := Lib.hid hdiv
      clear hd0 hq0 hdiv
      have hi1 : ((j + 1 : Nat) : Int) - 1 = (j : Int) := by omega
      rw [hi1]
      have hj0 : (0 : Int) ≤ (j : Int) := by omega
      have hj1 : (j : Int) < (x.length : Int) := by omega
      have hdl := HS.2
      have hS1 := HS.1
      have hq1 := hS1.1
      have hB1 := hB.drew.put j d
      have hd1 := hdc.set j d hdl
      have hbb : Below w.heap.size w (wr.drew.setCell ⟨w.heap.size, j, none⟩ (.int .u32 (d : Int))) := hb.drew.setCell (Nat.le_refl _) _
      have HL1 : Hid ((cs.set j d).length = x.length) := by have := HL.out; show _ = _; rw [List.length_set]; exact this
      clear hdc HL hs0 hB hb hcl HS hi1 hx hcella hmk
      generalize cs.set j d = c1 at *
      go_wp2_with fail
      refine (HDIV.out _).mono ?_
      rintro e w' ⟨rfl, rfl⟩
      clear HDIV
      go_wp2_with fail
      go_roundw
      case rel => exact ⟨j, q, c1, by omega, rfl, rfl, hd1, HL1, hS1, hB1, hbb⟩
      case measure => simp [intOf]
    · obtain rfl : k = 0 := by omega
      have hv := smallAt_end hs0
      have hl2 := HL.out
      have hr := hB.reads (n := x.length) (by omega) (by unfold maxLen; omega)
      rw [hl2, List.take_of_length_le (by omega)] at hr
      have V := Lib.hid hv.1
      have R := Lib.hid hv.2
      have hcl : cs.length ≤ 1000000 := by omega
      clear hv HL hs0 hB hl2 hmk hx
      go_wp2_with fail
      refine (trim_any _ cs _ _ _ hdc hr).mono ?_
      rintro e w2 ⟨v3, rfl, h3, rfl⟩
      rw [V.out] at h3
      go_wp2
      go_ret2
      exact ⟨_, by rw [R.out]; rfl, h3, hb⟩
end Go.Proofs.YtchokmhfgikglaaGreatDoor

namespace Go.Proofs.YtchokmhfgikglaaGreatDoor
set_option maxRecDepth 100000
open Go.RowKit

theorem Tryz.info8 : (Tryz.prog.info? 5).map (fun i => (i.zero, i.size, i.bytes)) = some (some (.int .u8 0), 1, 1) := by kernel_rfl

/-- Numbers as bytes. -/
def bv (l : List Nat) : List Value := l.map fun n : Nat => Value.int .u8 (n : Int)
theorem bv_snoc (cs : List Nat) (d : Nat) : bv (cs ++ [d]) = bv cs ++ [.int .u8 (d : Int)] := by unfold bv; rw [List.map_append]; rfl

/-- The call's own row v holds these bytes. -/
def OwnB (w : World) (base : Nat) (e : TypeId) (v : Value) (cs : List Nat) : Prop := w.ownsRow base e 1 v cs.length (bv cs)
theorem OwnB.nil (w : World) (base : Nat) (e : TypeId) : OwnB w base e (.slice none 0 0) [] := World.ownsRow_nil _ _ _ _

theorem OwnB.after {w w' : World} {base : Nat} {e : TypeId} {v : Value} {cs : List Nat} (h : OwnB w base e v cs) (hb : Below w.heap.size w w') : OwnB w' base e v cs := by
  obtain ⟨hl, h | ⟨g, cap, cur, hv, hg, hc, rest⟩⟩ := h
  · exact ⟨hl, Or.inl h⟩
  · exact ⟨hl, Or.inr ⟨g, cap, cur, hv, hg, (hb.block g (Array.getElem?_eq_some_iff.1 hc).1).trans hc, rest⟩⟩

theorem OwnB.own_lt {w : World} {base : Nat} {e : TypeId} {v : Value} {cs : List Nat} (h : OwnB w base e v cs) {g : Nat} (hg : v.ownBlock = some g) : g < w.heap.size := (World.ownsRow.lt h g hg).2

/-- One byte more onto a row of the call's own. -/
theorem wpList_append_byte {P : Program} {w : World} {ops : Array Oper} {rest : List Oper} {o : Oper} {a : Act} {Q : Exit → Act → World → Prop} (hgd : o.guard = none) (s x : Operand) (t : TypeId)
    (ho : o.op = .call { callee := .builtin .append, args := #[s, x], argTypes := #[t, t] })
    (base : Nat) (e : TypeId) (i : TypeInfo) (ht : P.underlying t = some (.slice e)) (hi : P.info? e = some i) (hz : i.zero = some (.int .u8 0)) (hsize : i.size = 1) (hby : i.bytes = 1)
    (v : Value) (cs : List Nat) (hs : a.eval s = v) (hown : OwnB w base e v cs) (y : Value) (d : Nat) (hy : y = .int .u8 (d : Int)) (hx : a.eval x = .slice (some ⟨w.heap.size, 0, none⟩) 1 1)
    (hlen : cs.length ≤ 1000000) (hbase : base ≤ w.heap.size)
    (h : ∀ v' w', OwnB w' base e v' (cs ++ [d]) → Below base w w' → wpList P ops Q rest (a.put o.dst v') w') : wpList P ops Q (o :: rest) a (w.alloc (.cells #[y] e)) := by
  refine wpList_append_own _ hgd s x t ho base e i (.int .u8 0) 1 1 ht hi hz hsize hby rfl (by decide) v cs.length (bv cs) hs (World.ownsRow.alloc hown _) ⟨w.heap.size, 0, none⟩ 1 1 [y] hx rfl (cell_one_new _ _ _) ?_ ?_ ?_ ?_ ?_
  · intro u hu
    rw [List.mem_singleton] at hu
    subst hu
    rw [hy]; rfl
  · unfold maxLen; omega
  · omega
  · simp; omega
  · intro v' w' h1 h2 _
    refine h v' w' ?_ ?_
    · show w'.ownsRow base e 1 v' (cs ++ [d]).length (bv (cs ++ [d]))
      rw [bv_snoc, List.length_append, ← hy]; exact h1
    · exact ((Below.refl base w).alloc hbase _).grown h2 (by simp; omega) (fun j hj => (World.ownsRow.lt hown j hj).1)

/-- The same, and where the row lies then: where it lay, or in a new block. -/
theorem wpList_append_byte3 {P : Program} {w : World} {ops : Array Oper} {rest : List Oper} {o : Oper} {a : Act} {Q : Exit → Act → World → Prop} (hgd : o.guard = none) (s x : Operand) (t : TypeId)
    (ho : o.op = .call { callee := .builtin .append, args := #[s, x], argTypes := #[t, t] })
    (base : Nat) (e : TypeId) (i : TypeInfo) (ht : P.underlying t = some (.slice e)) (hi : P.info? e = some i) (hz : i.zero = some (.int .u8 0)) (hsize : i.size = 1) (hby : i.bytes = 1)
    (v : Value) (cs : List Nat) (hs : a.eval s = v) (hown : OwnB w base e v cs) (y : Value) (d : Nat) (hy : y = .int .u8 (d : Int)) (hx : a.eval x = .slice (some ⟨w.heap.size, 0, none⟩) 1 1)
    (hlen : cs.length ≤ 1000000) (hbase : base ≤ w.heap.size)
    (h : ∀ g cap w', OwnB w' base e (.slice (some ⟨g, 0, none⟩) (cs.length + 1) cap) (cs ++ [d]) → Below base w w' → (∀ k, v.ownBlock ≠ some k → k < w.heap.size → w'.heap[k]? = w.heap[k]?) → (v.ownBlock = some g ∨ w.heap.size ≤ g) → g < w'.heap.size →
      wpList P ops Q rest (a.put o.dst (.slice (some ⟨g, 0, none⟩) (cs.length + 1) cap)) w') : wpList P ops Q (o :: rest) a (w.alloc (.cells #[y] e)) := by
  refine wpList_append_lies _ hgd s x t ho base e i (.int .u8 0) 1 1 ht hi hz hsize hby rfl (by decide) v cs.length (bv cs) hs (World.ownsRow.alloc hown _) ⟨w.heap.size, 0, none⟩ 1 1 [y] hx rfl (cell_one_new _ _ _) ?_ (by decide) ?_ ?_ ?_ _ rfl ?_
  · intro u hu
    rw [List.mem_singleton] at hu
    subst hu
    rw [hy]; rfl
  · unfold maxLen; omega
  · omega
  · simp; omega
  · intro g cap w' h1 h2 h3 h4
    refine h g cap w' ?_ ?_ (fun k hk hl => (h2.block k (by simp; omega) (fun e => hk e.symm)).trans (Below.heap_alloc _ _ _ hl)) ?_ h4
    · show w'.ownsRow base e 1 _ (cs ++ [d]).length (bv (cs ++ [d]))
      rw [bv_snoc, List.length_append, ← hy]; exact h1
    · exact ((Below.refl base w).alloc hbase _).grown h2 (by simp; omega) (fun j hj => (World.ownsRow.lt hown j hj).1)
    · rcases h3 with h3 | h3
      · exact Or.inl h3
      · right; rw [h3]; simp
end Go.Proofs.YtchokmhfgikglaaGreatDoor

namespace Go.Proofs.YtchokmhfgikglaaGreatDoor
set_option maxRecDepth 100000
open Go.RowKit

theorem nt_len {w : World} {L B : Nat} {v : Value} {x : List Nat} (h : Nt w L B v x) : ∃ A c, v = .slice A x.length c ∧ x.length ≤ 9223372036854775807 := by
  obtain ⟨A, c, rfl, hc, hm, _⟩ := h
  exact ⟨A, c, rfl, by unfold maxLen at hm; omega⟩

theorem lim_add_len {a b n : Nat} {x y : List Nat} (hx : Dig x) (hy : Dig y) (ha : a = val x) (hb : b = val y) (h1 : x.length ≤ n) (h2 : y.length ≤ n) : (lim (a + b)).length ≤ n + 1 := by
  subst ha; subst hb
  refine lim_length_le ?_
  have e1 := val_lt hx
  have e2 := val_lt hy
  have e3 : 4294967296 ^ x.length ≤ 4294967296 ^ n := Nat.pow_le_pow_right (by omega) h1
  have e4 : 4294967296 ^ y.length ≤ 4294967296 ^ n := Nat.pow_le_pow_right (by omega) h2
  rw [Nat.pow_succ]
  generalize 4294967296 ^ n = N at *
  omega

theorem lim_mul_len {a b m n : Nat} {x y : List Nat} (hx : Dig x) (hy : Dig y) (ha : a = val x) (hb : b = val y) (h1 : x.length ≤ m) (h2 : y.length ≤ n) : (lim (a * b)).length ≤ m + n := by
  subst ha; subst hb
  refine lim_length_le ?_
  rw [Nat.pow_add]
  have e1 := val_lt hx
  have e2 := val_lt hy
  have e3 : 4294967296 ^ x.length ≤ 4294967296 ^ m := Nat.pow_le_pow_right (by omega) h1
  have e4 : 4294967296 ^ y.length ≤ 4294967296 ^ n := Nat.pow_le_pow_right (by omega) h2
  exact Nat.mul_lt_mul_of_lt_of_le (Nat.lt_of_lt_of_le e1 e3) (Nat.le_of_lt (Nat.lt_of_lt_of_le e2 e4)) (pow_pos' _)

end Go.Proofs.YtchokmhfgikglaaGreatDoor

namespace Go.Proofs.YtchokmhfgikglaaGreatDoor
set_option maxRecDepth 100000
theorem lim_ten {n l m : Nat} (h : n < 10 ^ l) (hl : l ≤ m) : (lim n).length ≤ m :=
  lim_length_le (Nat.lt_of_lt_of_le h (Nat.le_trans (Nat.pow_le_pow_left (by omega : 10 ≤ 4294967296) _) (Nat.pow_le_pow_right (by decide) hl)))
end Go.Proofs.YtchokmhfgikglaaGreatDoor

namespace Go.Proofs.YtchokmhfgikglaaGreatDoor
set_option maxRecDepth 100000
open Go.RowKit

/-- A row and whether there is one. -/
def GivesB (x : List Nat) (b : Bool) (w : World) (e : Ending) (w' : World) : Prop :=
  ∃ v', e = .returned (.tuple #[v', .bool b]) ∧ Nt w' w.heap.size w'.heap.size v' x ∧ Below w.heap.size w w'

set_option maxHeartbeats 3200000 in
theorem sub_any (u v : Value) (x y : List Nat) (w : World) (hdx : Dig x) (hdy : Dig y) (h : Nt w 0 w.heap.size u x) (h' : Nt w 0 w.heap.size v y) (hlx : x.length ≤ 100000) (hly : y.length ≤ 100000) :
    Calls Tryz.prog 171 #[u, v] w (GivesB (lim (val x - val y)) (decide (val y ≤ val x)) w) := by
  by_cases hlt : val x < val y
  · have e1 : lim (val x - val y) = [] := by rw [Nat.sub_eq_zero_of_le (Nat.le_of_lt hlt)]; exact lim_zero
    have e2 : decide (val y ≤ val x) = false := decide_eq_false (by omega)
    rw [e1, e2]
    have C := Lib.hid (cmpN_lt hlt)
    clear e1 e2 hlt
    go_enter Tryz.func171, Tryz.ntmps171
    go_wp2_with fail
    refine (cmp_any _ _ x y _ hdx hdy h h' hlx hly).mono ?_
    rintro e w1 ⟨rfl, hb⟩
    rw [C.out]
    go_wp2
    go_ret2
    exact ⟨_, rfl, Nt.nil _ _ _, hb⟩
  · have e2 : decide (val y ≤ val x) = true := decide_eq_true (by omega)
    rw [e2]
    have hle : val y ≤ val x := by omega
    have C : Hid (¬ cmpN (val x) (val y) < 0) := by
      show ¬ _
      rw [cmpN_neg]; exact hlt
    have hxl := limBd' hdx _ hlx
    have hyl := limBd' hdy _ hly
    have vx := val_lim (val x)
    have vy := val_lim (val y)
    have hdp := dig_lim (val x)
    have hdq := dig_lim (val y)
    have VS : Hid (lim (val x - val y) = lim (val (lim (val x)) - val (lim (val y)))) := by rw [vx, vy]; exact rfl
    have HLE : Hid (val (lim (val y)) ≤ val (lim (val x))) := by rw [vx, vy]; exact hle
    clear vx vy e2 hlt hle
    generalize hcz : cmpN (val x) (val y) = cz at *
    have CZ := Lib.hid hcz
    clear hcz
    have hcn : ¬ cz < 0 := C.out
    clear C
    go_enter Tryz.func171, Tryz.ntmps171
    go_wp2_with fail
    refine (cmp_any _ _ x y _ hdx hdy h h' hlx hly).mono ?_
    rintro e w1 ⟨rfl, hb0⟩
    rw [CZ.out]
    replace h := h.after hb0
    replace h' := h'.after hb0
    go_wp2_with fail
    refine (trim_any _ x _ _ _ hdx h).mono ?_
    rintro e w2 ⟨v1, rfl, h1, rfl⟩
    go_wp2_with fail
    refine (trim_any _ y _ _ _ hdy h').mono ?_
    rintro e w2 ⟨v2, rfl, h2, rfl⟩
    generalize lim (val x) = p at *
    generalize lim (val y) = q at *
    clear h h' hdx hdy hlx hly CZ hcn
    obtain ⟨Ap, cp, rfl, hcp, hmp, _, hxp⟩ := h1
    obtain ⟨Aq, cq, rfl, hcq, hmq, _, hxq⟩ := h2
    have hmk := make_limbs p.length (p.length : Int) rfl (by omega)
    go_wp2_with fail
    go_loopw [7, 8, 9, 10, 24, 37] (fun s _ _ _ i _ wr => ∃ (k b : Nat) (cs : List Nat), k ≤ p.length ∧ i = .int .i64 (k : Nat) ∧ s = .int .u32 (b : Nat) ∧ b ≤ 1 ∧ Dig cs ∧ Hid (cs.length = p.length) ∧ SubAt p q cs b k ∧ Lb wr w1.heap.size 122 cs ∧ Below w1.heap.size w1 wr)
      (fun _ _ _ _ i _ _ => p.length - (intOf i).toNat)
    case atStart => exact ⟨0, 0, _, Nat.zero_le _, rfl, rfl, by omega, dig_zeros _, List.length_replicate, subAt_zero _ _ _, Lb.made w1 _ _, (Below.refl _ _).alloc (Nat.le_refl _) _⟩
    case round =>
      obtain ⟨k, b, cs, hk, rfl, rfl, hbb, hdc, HL, hs, hB, hb⟩ := hrel
      have hcl : p.length ≤ cs.length ∧ cs.length ≤ p.length := by have := HL.out; omega
      by_cases hlt : k < p.length
      · have b1 := hdp.at hlt
        have b2 := dig_getD hdq k
        obtain ⟨ba, oa, rfl, _, hba, hcella⟩ := hxp (by omega)
        have hca := (hb.cell (p := ⟨ba, oa + k, none⟩) hba).trans (hcella k hlt)
        have HS := subAt_step hdp hdq hs (by omega : k < cs.length) hbb
        rw [getD_at hlt] at HS
        have hcc := hB.cell k (by omega)
        have hfr := hB.free k
        clear hs hcella hmk
        by_cases hlq : k < q.length
        · obtain ⟨bb, ob, rfl, _, hbq, hcellb⟩ := hxq (by omega)
          have hcb := (hb.cell (p := ⟨bb, ob + k, none⟩) hbq).trans (hcellb k hlq)
          rw [getD_at hlq] at HS b2
          clear hcellb
          generalize q[k] = qk at *
          have hd2 := hdc.set k ((p[k] + 8589934592 - qk - b) % 4294967296) (Nat.mod_lt _ (by omega))
          have hB2 := hB.put k ((p[k] + 8589934592 - qk - b) % 4294967296)
          have hb2 : Below w1.heap.size w1 (wr.setCell ⟨w1.heap.size, k, none⟩ (.int .u32 (((p[k] + 8589934592 - qk - b) % 4294967296 : Nat) : Int))) := hb.setCell (Nat.le_refl _) _
          have HL2 : Hid ((cs.set k ((p[k] + 8589934592 - qk - b) % 4294967296)).length = p.length) := by have := HL.out; show _ = _; rw [List.length_set]; exact this
          have hq2 : (if p[k] < qk + b then 1 else 0) ≤ 1 := by split <;> omega
          generalize cs.set k ((p[k] + 8589934592 - qk - b) % 4294967296) = cs2 at *
          generalize cs[k] = old at *
          clear hdc hB hb HL hxp hxq hcl
          generalize p[k] = pk at *
          have S := Lib.hid (fun w : World => sub32_any pk qk b w b1 b2 hbb)
          generalize (pk + 8589934592 - qk - b) % 4294967296 = d at *
          generalize (if pk < qk + b then 1 else 0) = r at *
          go_wp2_with fail
          refine (S.out _).mono ?_
          rintro e w3 ⟨rfl, rfl⟩
          clear S
          go_wp2
          go_roundw
          case rel => exact ⟨k + 1, r, cs2, by omega, by go_num, rfl, hq2, hd2, HL2, HS, hB2, hb2⟩
          case measure => simp [intOf]; omega
        · have hqk := getD_out hlq
          generalize q.getD k 0 = qk at *
          have Z : Hid (∀ w : World, Calls Tryz.prog 224 #[.int .u32 ((p[k] : Nat) : Int), .int .u32 0, .int .u32 (b : Int)] w fun e w' => e = .returned (.tuple #[.int .u32 (((p[k] + 8589934592 - qk - b) % 4294967296 : Nat) : Int), .int .u32 ((if p[k] < qk + b then 1 else 0 : Nat) : Int)]) ∧ w = w') := by
            intro w
            have := sub32_any p[k] qk b w b1 b2 hbb
            rw [hqk] at this ⊢
            exact this
          clear hqk
          have hd2 := hdc.set k ((p[k] + 8589934592 - qk - b) % 4294967296) (Nat.mod_lt _ (by omega))
          have hB2 := hB.put k ((p[k] + 8589934592 - qk - b) % 4294967296)
          have hb2 : Below w1.heap.size w1 (wr.setCell ⟨w1.heap.size, k, none⟩ (.int .u32 (((p[k] + 8589934592 - qk - b) % 4294967296 : Nat) : Int))) := hb.setCell (Nat.le_refl _) _
          have HL2 : Hid ((cs.set k ((p[k] + 8589934592 - qk - b) % 4294967296)).length = p.length) := by have := HL.out; show _ = _; rw [List.length_set]; exact this
          have hq2 : (if p[k] < qk + b then 1 else 0) ≤ 1 := by split <;> omega
          generalize cs.set k ((p[k] + 8589934592 - qk - b) % 4294967296) = cs2 at *
          generalize cs[k] = old at *
          clear hdc hB hb HL hxp hxq hcl
          generalize p[k] = pk at *
          generalize (pk + 8589934592 - qk - b) % 4294967296 = d at *
          generalize (if pk < qk + b then 1 else 0) = r at *
          go_wp2_with fail
          refine (Z.out _).mono ?_
          rintro e w3 ⟨rfl, rfl⟩
          clear Z
          go_wp2
          go_roundw
          case rel => exact ⟨k + 1, r, cs2, by omega, by go_num, rfl, hq2, hd2, HL2, HS, hB2, hb2⟩
          case measure => simp [intOf]; omega
      · obtain rfl : k = p.length := by omega
        have hv := subAt_end hdp hdc hs HL.out HLE.out
        have hr := hB.reads (n := p.length) (by omega) (by unfold maxLen; omega)
        have hl2 := HL.out
        rw [hl2, List.take_of_length_le (by omega)] at hr
        have V := Lib.hid hv
        clear hs HL hB hcl hv hxp hxq hmk hl2
        go_wp2_with fail
        refine (trim_any _ cs _ _ _ hdc hr).mono ?_
        rintro e w2 ⟨v3, rfl, h3, rfl⟩
        rw [V.out] at h3
        go_wp2
        go_ret2
        exact ⟨_, rfl, by rw [VS.out]; exact h3.low hb0.size, hb0.trans (hb.mono hb0.size)⟩
end Go.Proofs.YtchokmhfgikglaaGreatDoor

namespace Go.Proofs.YtchokmhfgikglaaGreatDoor
set_option maxRecDepth 100000
open Go.RowKit

set_option maxHeartbeats 3200000 in
theorem refSub_any (u v : Value) (x y : List Nat) (w : World) (hdx : Dig x) (hdy : Dig y) (h : Nt w 0 w.heap.size u x) (h' : Nt w 0 w.heap.size v y) (hlx : x.length ≤ 100000) (hly : y.length ≤ 100000) :
    Calls Tryz.prog 157 #[u, v] w (GivesB (lim (val x - val y)) (decide (val y ≤ val x)) w) := by
  by_cases hlt : val x < val y
  · have e1 : lim (val x - val y) = [] := by rw [Nat.sub_eq_zero_of_le (Nat.le_of_lt hlt)]; exact lim_zero
    have e2 : decide (val y ≤ val x) = false := decide_eq_false (by omega)
    rw [e1, e2]
    have C := Lib.hid (cmpN_lt hlt)
    clear e1 e2 hlt
    go_enter Tryz.func157, Tryz.ntmps157
    go_wp2_with fail
    refine (refCmp_any _ _ x y _ hdx hdy h h' hlx hly).mono ?_
    rintro e w1 ⟨rfl, hb⟩
    rw [C.out]
    go_wp2
    go_ret2
    exact ⟨_, rfl, Nt.nil _ _ _, hb⟩
  · have e2 : decide (val y ≤ val x) = true := decide_eq_true (by omega)
    rw [e2]
    have HLE : Hid (val y ≤ val x) := by show val y ≤ val x; omega
    have C : Hid (¬ cmpN (val x) (val y) < 0) := by
      show ¬ _
      rw [cmpN_neg]; exact hlt
    clear e2 hlt
    generalize hcz : cmpN (val x) (val y) = cz at *
    have CZ := Lib.hid hcz
    clear hcz
    have hcn : ¬ cz < 0 := C.out
    clear C
    obtain ⟨i0, hi, hz0, hz1, hz2⟩ := info_parts Tryz.info32
    go_enter Tryz.func157, Tryz.ntmps157
    go_wp2_with fail
    refine (refCmp_any _ _ x y _ hdx hdy h h' hlx hly).mono ?_
    rintro e w1 ⟨rfl, hb0⟩
    rw [CZ.out]
    replace h := h.after hb0
    replace h' := h'.after hb0
    clear CZ
    have hn := h
    have hn' := h'
    obtain ⟨A, c, rfl, hc, hm, _, _⟩ := h
    obtain ⟨A', c', rfl, hc', hm', _, _⟩ := h'
    go_wp2_with fail
    go_loopw [6, 7, 8, 9, 10] (fun o s i _ _ wr => ∃ (k b : Nat) (cs : List Nat), k ≤ x.length ∧ i = .int .i64 (k : Nat) ∧ s = .int .u64 (b : Nat) ∧ b ≤ 1 ∧ Dig cs ∧ SubIn x y cs b k ∧ Own wr w1.heap.size 122 o cs ∧ Below w1.heap.size w1 wr)
      (fun _ _ i _ _ _ => x.length - (intOf i).toNat)
    case atStart => exact ⟨0, 0, [], Nat.zero_le _, rfl, rfl, by omega, Dig.nil, ⟨rfl, by simp [val]⟩, Own.nil _ _ _, Below.refl _ _⟩
    case round =>
      obtain ⟨k, b, cs, hk, rfl, rfl, hbb, hdc, hs, hown, hb⟩ := hrel
      by_cases hlt : k < x.length
      · have b1 := dig_getD hdx k
        have b2 := dig_getD hdy k
        have hcl : cs.length ≤ 1000000 := by have := hs.1; omega
        have HS := subIn_step hdx hdy hs hbb
        clear hs
        have hdc2 := hdc.append (Dig.cons (Nat.mod_lt (x.getD k 0 + 8589934592 - y.getD k 0 - b) (by omega)) Dig.nil)
        generalize hp1 : x.getD k 0 = p1 at *
        generalize hp2 : y.getD k 0 = p2 at *
        have P1 := Lib.hid hp1
        have P2 := Lib.hid hp2
        clear hp1 hp2
        have hat1 := at_any _ x k wr 0 w1.heap.size hdx (hn.below hb (Nat.le_refl _)) (by omega)
        rw [P1.out] at hat1
        have hat2 := at_any _ y k wr 0 w1.heap.size hdy (hn'.below hb (Nat.le_refl _)) (by omega)
        rw [P2.out] at hat2
        have T1 := Lib.hid hat1
        have T2 := Lib.hid hat2
        clear hat1 hat2
        by_cases hxy : p1 < p2 + b
        · rw [if_pos hxy] at HS
          have hI : (p1 : Int) < (p2 : Int) + (b : Int) := by omega
          go_wp2_with fail
          refine T1.out.mono ?_
          rintro e w2 ⟨rfl, rfl⟩
          go_wp2_with fail
          refine T2.out.mono ?_
          rintro e w2 ⟨rfl, rfl⟩
          go_wp2_with (at_builtin; refine wpList_append_limb rfl _ _ 58 rfl w1.heap.size 122 i0 Tryz.underlying58 hi hz0 hz1 hz2 _ cs rfl hown _ ((p1 + 8589934592 - p2 - b) % 4294967296) (congrArg (Value.int .u32) (by omega)) rfl hcl hb.size ?_)
          intro v' w3 hown1 hg1
          have hb1 := hb.trans hg1
          clear hown hg1 hb hcl T1 T2
          go_wp2
          go_roundw
          case rel => exact ⟨k + 1, 1, _, by omega, by go_num, rfl, by omega, hdc2, HS, hown1, hb1⟩
          case measure => simp [intOf]; omega
        · rw [if_neg hxy] at HS
          have hI : ¬ (p1 : Int) < (p2 : Int) + (b : Int) := by omega
          go_wp2_with fail
          refine T1.out.mono ?_
          rintro e w2 ⟨rfl, rfl⟩
          go_wp2_with fail
          refine T2.out.mono ?_
          rintro e w2 ⟨rfl, rfl⟩
          go_wp2_with (at_builtin; refine wpList_append_limb rfl _ _ 58 rfl w1.heap.size 122 i0 Tryz.underlying58 hi hz0 hz1 hz2 _ cs rfl hown _ ((p1 + 8589934592 - p2 - b) % 4294967296) (congrArg (Value.int .u32) (by omega)) rfl hcl hb.size ?_)
          intro v' w3 hown1 hg1
          have hb1 := hb.trans hg1
          clear hown hg1 hb hcl T1 T2
          go_wp2
          go_roundw
          case rel => exact ⟨k + 1, 0, _, by omega, by go_num, rfl, by omega, hdc2, HS, hown1, hb1⟩
          case measure => simp [intOf]; omega
      · obtain rfl : k = x.length := by omega
        have hv := subIn_end hdx hdc hs HLE.out
        have hcl : cs.length ≤ 1000000 := by have := hs.1; omega
        have V := Lib.hid hv
        have hr := hown.nt
        clear hs hv hown hi hz0 hz1 hz2
        go_wp2_with fail
        refine (refTrim_any _ cs _ hdc (hr.low (Nat.zero_le _)) hcl).mono ?_
        rintro e w2 ⟨v3, rfl, h3, hb3⟩
        rw [V.out] at h3
        go_wp2
        go_ret2
        exact ⟨_, rfl, h3.low (Nat.le_trans hb0.size hb.size), hb0.trans ((hb.trans (hb3.mono hb.size)).mono hb0.size)⟩
end Go.Proofs.YtchokmhfgikglaaGreatDoor

namespace Go.Proofs.YtchokmhfgikglaaGreatDoor
set_option maxRecDepth 100000
open Go.RowKit

def LeftPost (a : List Nat) (s n : Nat) (w : World) (e : Ending) (w' : World) : Prop :=
  ∃ c, e = .returned (.slice (some ⟨w.heap.size, 0, none⟩) n n) ∧ Lb w' w.heap.size 122 c ∧ c.length = n ∧ Dig c ∧ val c = val a * 2 ^ s ∧ Below w.heap.size w w'

theorem leftAt_set {a c : List Nat} {s h k d : Nat} (hl : LeftAt a c s h k) : LeftAt a (c.set k d) s h k := by
  unfold LeftAt at hl ⊢
  rw [List.take_set_of_le (Nat.le_refl _)]
  exact hl

set_option maxHeartbeats 3200000 in
theorem left_any (v : Value) (a : List Nat) (s n : Nat) (w : World) (hd : Dig a) (h : Nt w 0 w.heap.size v a) (hl : a.length ≤ 100000) (hs : s ≤ 31) (hn1 : a.length ≤ n) (hn2 : n ≤ a.length + 1) (hf : n = a.length → val a * 2 ^ s < 4294967296 ^ a.length) :
    Calls Tryz.prog 282 #[v, .int .u64 (s : Int), .int .i64 (n : Int)] w (LeftPost a s n w) := by
  obtain ⟨A, c, rfl, hc, hm, _, hx⟩ := h
  have hmk := make_limbs n (n : Int) rfl (by omega)
  have HF := Lib.hid hf
  clear hf
  go_enter Tryz.func282, Tryz.ntmps282
  go_wp2_with fail
  go_loopw [8, 9, 10, 15] (fun _ _ _ i wr => ∃ (k h : Nat) (cs : List Nat), k ≤ a.length ∧ i = .int .i64 (k : Nat) ∧ Dig cs ∧ Hid (cs.length = n) ∧ LeftAt a cs s h k ∧ Hid (k < n → cs.getD k 0 = h) ∧ Bare cs (k + 1) ∧ Lb wr w.heap.size 122 cs ∧ Below w.heap.size w wr)
    (fun _ _ _ i _ => a.length - (intOf i).toNat)
  case atStart => exact ⟨0, 0, _, Nat.zero_le _, rfl, dig_zeros _, List.length_replicate, leftAt_zero _ _ _, fun _ => bare_zeros n 0 0 (Nat.le_refl _), bare_zeros _ _, Lb.made w _ _, (Below.refl _ _).alloc (Nat.le_refl _) _⟩
  case round =>
    obtain ⟨k, h, cs, hk, rfl, hdc, HL, hs0, HC, hbare, hB, hb⟩ := hrel
    have hcl : n ≤ cs.length ∧ cs.length ≤ n := by have := HL.out; omega
    by_cases hlt : k < a.length
    · have b1 := hd.at hlt
      obtain ⟨ba, oa, rfl, _, hba, hcella⟩ := hx (by omega)
      have hca := (hb.cell (p := ⟨ba, oa + k, none⟩) hba).trans (hcella k hlt)
      have hkn : k < cs.length := by omega
      have HS := leftAt_step hd hs hs0 hkn
      rw [getD_at hlt] at HS
      have hp := shl_parts b1 hs
      have hcc := hB.cell k hkn
      have hck : cs[k] = h := by have := HC.out (by omega); rw [getD_at hkn] at this; exact this
      rw [hck] at hcc
      have hfr := hB.free k
      clear hcella hmk
      have hhs := hs0.2
      have hTW := two_pow_le hs
      generalize a[k] = v at *
      have W : IntKind.u64.wrap ((v : Int) * 2 ^ s) = ((v * 2 ^ s : Nat) : Int) := by
        have e : ((v * 2 ^ s : Nat) : Int) = (v : Int) * 2 ^ s := by rw [Int.natCast_mul, Int.natCast_pow]; rfl
        rw [← e]
        have := hp.1
        exact IntWalk.u64_in _ (by omega)
      obtain ⟨m, hm0⟩ : ∃ m, v * 2 ^ s = m := ⟨_, rfl⟩
      rw [hm0] at W HS hp
      clear hm0
      have hmb := hp.2.1
      have hor : bits BinOp.or IntKind.u32 (h : Int) ((m : Int) % 4294967296) = ((h ||| m % 4294967296 : Nat) : Int) := by
        have e : (m : Int) % 4294967296 = ((m % 4294967296 : Nat) : Int) := by omega
        rw [e]
        exact u32_or_nat _ _ (by omega) (Nat.mod_lt _ (by omega))
      have hhi : (m : Int) / 4294967296 % 4294967296 = ((m / 4294967296 : Nat) : Int) := by omega
      have hd1 := hdc.set k (h ||| m % 4294967296) HS.2
      have hB1 := hB.put k (h ||| m % 4294967296)
      have hb1 : Below w.heap.size w (wr.setCell ⟨w.heap.size, k, none⟩ (.int .u32 ((h ||| m % 4294967296 : Nat) : Int))) := hb.setCell (Nat.le_refl _) _
      have HL1 : Hid ((cs.set k (h ||| m % 4294967296)).length = n) := by have := HL.out; show _ = _; rw [List.length_set]; exact this
      have hba1 : Bare (cs.set k (h ||| m % 4294967296)) (k + 1) := hbare.set (Nat.lt_succ_self k)
      have hS1 := HS.1
      have hdor := HS.2
      clear hdc HL hbare hB hb HC hck hs0 HS hp hx
      generalize cs.set k (h ||| m % 4294967296) = c1 at *
      clear hcl hkn
      have hcl : n ≤ c1.length ∧ c1.length ≤ n := by have := HL1.out; omega
      generalize (h ||| m % 4294967296) = d at *
      by_cases hnn : k + 1 < n
      · have hI : (k : Int) + 1 < (n : Int) := by omega
        have hc2 := hB1.cell (k + 1) (by omega)
        have hf2 := hB1.free (k + 1)
        have hd2 := hd1.set (k + 1) (m / 4294967296) (by omega)
        have hB2 := hB1.put (k + 1) (m / 4294967296)
        have hb2 := hb1.setCell (p := ⟨w.heap.size, k + 1, none⟩) (Nat.le_refl _) (.int .u32 ((m / 4294967296 : Nat) : Int))
        have HL2 : Hid ((c1.set (k + 1) (m / 4294967296)).length = n) := by have := HL1.out; show _ = _; rw [List.length_set]; exact this
        have HC2 : Hid (k + 1 < n → (c1.set (k + 1) (m / 4294967296)).getD (k + 1) 0 = m / 4294967296) := fun _ => getD_set_same (by omega)
        have hba2 : Bare (c1.set (k + 1) (m / 4294967296)) (k + 1 + 1) := (hba1.more (Nat.le_succ _)).set (Nat.lt_succ_self _)
        have hS2 := leftAt_set (d := m / 4294967296) hS1
        clear hd1 hB1 hb1 HL1 hba1 hS1
        generalize c1.set (k + 1) (m / 4294967296) = c2 at *
        generalize c1[k + 1] = old at *
        go_wp2
        go_roundw
        case rel => exact ⟨k + 1, m / 4294967296, c2, by omega, by go_num, hd2, HL2, hS2, HC2, hba2, hB2, hb2⟩
        case measure => simp [intOf]; omega
      · have hI : ¬ (k : Int) + 1 < (n : Int) := by omega
        have HC2 : Hid (k + 1 < n → c1.getD (k + 1) 0 = m / 4294967296) := fun hx => absurd hx hnn
        have hba2 : Bare c1 (k + 1 + 1) := hba1.more (Nat.le_succ _)
        clear hba1
        go_wp2
        go_roundw
        case rel => exact ⟨k + 1, m / 4294967296, c1, by omega, by go_num, hd1, HL1, hS1, HC2, hba2, hB1, hb1⟩
        case measure => simp [intOf]; omega
    · obtain rfl : k = a.length := by omega
      have hv : val cs = val a * 2 ^ s := by
        by_cases hn : n = a.length
        · exact leftAt_fit hs0 (by have := HL.out; omega) (HF.out hn)
        · exact leftAt_end hs0 (by have := HL.out; omega) hbare (HC.out (by omega))
      have HV := Lib.hid hv
      clear hv hs0 HC hbare hx hmk hcl
      go_wp2
      go_ret
      exact ⟨cs, rfl, hB, HL.out, hdc, HV.out, hb⟩
end Go.Proofs.YtchokmhfgikglaaGreatDoor

namespace Go.Proofs.YtchokmhfgikglaaGreatDoor
set_option maxRecDepth 100000
open Go.RowKit

set_option maxHeartbeats 3200000 in
theorem shiftRight_any (v : Value) (x : List Nat) (n : Int) (j : Nat) (w : World) (hd : Dig x) (h : Nt w 0 w.heap.size v x) (hl : x.length ≤ 100000) (hj : held12 n = -(j : Int)) (hj0 : 1 ≤ j) (hj1 : j ≤ 4096) :
    Calls Tryz.prog 285 #[v, .int .i64 n] w (Gives (lim (val x / 2 ^ j)) w) := by
  have f1 : (if n < -4096 then (-4096 : Int) else n) = -(j : Int) := by
    unfold held12 at hj
    by_cases h1 : n < -4096
    · rw [if_pos h1]; omega
    · rw [if_neg h1]; omega
  have hxl := limBd' hd _ hl
  have vx := val_lim (val x)
  have hdp := dig_lim (val x)
  have VS : Hid (lim (val x / 2 ^ j) = lim (val (lim (val x)) / 2 ^ j)) := by rw [vx]; exact rfl
  clear vx
  obtain ⟨L, hL⟩ : ∃ L, j / 32 = L := ⟨_, rfl⟩
  obtain ⟨s, hs⟩ : ∃ s, j % 32 = s := ⟨_, rfl⟩
  have l1 : (j : Int) / 32 = (L : Int) := by omega
  have l2 : (j : Int) % 32 = (s : Int) := by omega
  have hs31 : s ≤ 31 := by omega
  have l3 : (-(j : Int)) < 0 := by omega
  have HLJ : Hid (L = j / 32 ∧ s = j % 32) := ⟨hL.symm, hs.symm⟩
  have l4 : L ≤ 128 := by omega
  clear hL hs
  go_enter Tryz.func285, Tryz.ntmps285
  go_wp2_with fail
  refine (trim_any _ x _ _ _ hd h).mono ?_
  rintro e w1 ⟨v1, rfl, h1, rfl⟩
  generalize lim (val x) = p at *
  clear h hd hl
  have h1' := h1
  obtain ⟨A, c, rfl, hc, hm, _, hx⟩ := h1
  by_cases hLp : p.length ≤ L
  · have e0 : lim (val p / 2 ^ j) = [] := by
      have q1 := val_lt hdp
      have q2 : 4294967296 ^ p.length ≤ 2 ^ j := by
        rw [base_pow]
        exact Nat.pow_le_pow_right (by omega) (by have := HLJ.out; omega)
      rw [Nat.div_eq_of_lt (by omega)]
      exact lim_zero
    have E := Lib.hid e0
    have hge : ¬ (L : Int) < (p.length : Int) := by omega
    clear e0 hx
    go_wp2
    go_ret
    exact ⟨_, rfl, by rw [VS.out, E.out]; exact Nt.nil _ _ _, Below.refl _ _⟩
  · obtain ⟨b, off, rfl, _, hbl, hcell⟩ := hx (by omega)
    have hlt : (L : Int) < (p.length : Int) := by omega
    have hmk := make_limbs (p.length - L) ((p.length : Int) - (L : Int)) (by omega) (by omega)
    have hcL : ¬ c = L := by omega
    unfold maxLen at hm
    have hql : (p.drop L).length = p.length - L := List.length_drop
    have hdq := hdp.drop L
    have hcq : ∀ k (h : k < p.length - L), w.cell? ⟨b, off + L + k, none⟩ = some (.int .u32 (((p.drop L).getD k 0 : Nat) : Int)) := fun k hk => by
      rw [Nat.add_assoc, hcell (L + k) (by omega), List.getD_eq_getElem?_getD, List.getElem?_drop, List.getElem?_eq_getElem (by omega)]
      rfl
    have hfin : val (p.drop L) / 2 ^ s = val p / 2 ^ j := by
      have := shift_right_eq hdp j
      rw [← HLJ.out.1, ← HLJ.out.2] at this
      exact this
    have HFIN := Lib.hid hfin
    have HQL := Lib.hid hql
    have HCQ := Lib.hid hcq
    clear hfin hql hcq hcell hx h1'
    go_wp2_with fail
    generalize p.drop L = q at *
    go_loopw [8, 9, 10, 40] (fun _ _ _ i wr => ∃ (k : Nat) (cs : List Nat), k ≤ p.length - L ∧ i = .int .i64 (k : Nat) ∧ Dig cs ∧ Hid (cs.length = p.length - L) ∧ RightAt q cs s k ∧ Lb wr w.heap.size 122 cs ∧ Below w.heap.size w wr)
      (fun _ _ _ i _ => p.length - L - (intOf i).toNat)
    case atStart => exact ⟨0, _, Nat.zero_le _, rfl, dig_zeros _, List.length_replicate, rightAt_zero _ _ _, Lb.made w _ _, (Below.refl _ _).alloc (Nat.le_refl _) _⟩
    case round =>
      obtain ⟨k, cs, hk, rfl, hdc, HL, hs0, hB, hb⟩ := hrel
      have hcl : p.length - L ≤ cs.length ∧ cs.length ≤ p.length - L := by have := HL.out; omega
      by_cases hlk : k < p.length - L
      · have hca := (hb.cell (p := ⟨b, off + L + k, none⟩) hbl).trans (HCQ.out k hlk)
        have b1 := dig_getD hdq k
        have hp := shr_parts b1 hs31
        have hkn : k < cs.length := by omega
        have hcc := hB.cell k hkn
        have hck : cs[k] = 0 := by rw [← getD_at hkn]; exact hs0.2.1 k (Nat.le_refl _)
        rw [hck] at hcc
        have hfr := hB.free k
        have hi1 : (k : Int) < ((p.length - L : Nat) : Int) := by omega
        clear hmk
        rcases Nat.eq_zero_or_pos k with hk0 | hk0
        · subst hk0
          rw [Nat.add_zero] at hca
          have HS := rightAt_first hs0 hkn
          generalize q.getD 0 0 = v at *
          have W : (v : Int) * 4294967296 / 2 ^ s = ((v * 2 ^ (32 - s) : Nat) : Int) := by
            have e := congrArg (fun z : Nat => (z : Int)) hp.1
            simp only [Int.natCast_ediv, Int.natCast_mul, Int.natCast_pow] at e ⊢
            exact e
          obtain ⟨m, hm0⟩ : ∃ m, v * 2 ^ (32 - s) = m := ⟨_, rfl⟩
          rw [hm0] at W hp
          have hhi : (m : Int) / 4294967296 = ((v / 2 ^ s : Nat) : Int) := by
            rw [← hp.2.2.1]
            have := hp.2.1
            omega
          have hgl : v / 2 ^ s < 4294967296 := by rw [← hp.2.2.1]; have := hp.2.1; omega
          have hor : bits BinOp.or IntKind.u32 0 ((v / 2 ^ s : Nat) : Int) = ((v / 2 ^ s : Nat) : Int) := by
            have e := u32_or_nat 0 (v / 2 ^ s) (by omega) hgl
            rw [Nat.zero_or] at e
            exact e
          have hm1 := hp.2.1
          have hB1 := hB.put 0 (v / 2 ^ s)
          have hd1 := hdc.set 0 (v / 2 ^ s) hgl
          have hb1 : Below w.heap.size w (wr.setCell ⟨w.heap.size, 0, none⟩ (.int .u32 ((v / 2 ^ s : Nat) : Int))) := hb.setCell (Nat.le_refl _) _
          have HL1 : Hid ((cs.set 0 (v / 2 ^ s)).length = p.length - L) := by have := HL.out; show _ = _; rw [List.length_set]; exact this
          clear hdc HL hB hb hcl hck hs0 hp hm0
          generalize cs.set 0 (v / 2 ^ s) = c1 at *
          generalize v / 2 ^ s = g at *
          go_wp2
          go_roundw
          case rel => exact ⟨1, c1, by omega, by go_num, hd1, HL1, HS, hB1, hb1⟩
          case measure => simp [intOf]; omega
        · have HS := rightAt_step' hdq hs31 hk0 hs0 hkn
          have b0 := shr_parts (dig_getD hdq (k - 1)) hs31
          have hlt0 : q.getD (k - 1) 0 / 2 ^ s < 4294967296 := Nat.lt_of_le_of_lt (Nat.div_le_self _ _) (dig_getD hdq (k - 1))
          generalize q.getD (k - 1) 0 / 2 ^ s = z at *
          generalize q.getD k 0 = v at *
          have W : (v : Int) * 4294967296 / 2 ^ s = ((v * 2 ^ (32 - s) : Nat) : Int) := by
            have e := congrArg (fun z : Nat => (z : Int)) hp.1
            simp only [Int.natCast_ediv, Int.natCast_mul, Int.natCast_pow] at e ⊢
            exact e
          obtain ⟨m, hm0⟩ : ∃ m, v * 2 ^ (32 - s) = m := ⟨_, rfl⟩
          rw [hm0] at W hp
          have hhi : (m : Int) / 4294967296 = ((v / 2 ^ s : Nat) : Int) := by
            rw [← hp.2.2.1]
            have := hp.2.1
            omega
          have hgl : v / 2 ^ s < 4294967296 := by rw [← hp.2.2.1]; have := hp.2.1; omega
          have hor : bits BinOp.or IntKind.u32 0 ((v / 2 ^ s : Nat) : Int) = ((v / 2 ^ s : Nat) : Int) := by
            have e := u32_or_nat 0 (v / 2 ^ s) (by omega) hgl
            rw [Nat.zero_or] at e
            exact e
          have hm1 := hp.2.1
          have hB1 := hB.put k (v / 2 ^ s)
          have hd1 := hdc.set k (v / 2 ^ s) hgl
          have hb1 : Below w.heap.size w (wr.setCell ⟨w.heap.size, k, none⟩ (.int .u32 ((v / 2 ^ s : Nat) : Int))) := hb.setCell (Nat.le_refl _) _
          have HL1 : Hid ((cs.set k (v / 2 ^ s)).length = p.length - L) := by have := HL.out; show _ = _; rw [List.length_set]; exact this
          have hlo : (m : Int) % 4294967296 = ((m % 4294967296 : Nat) : Int) := by omega
          rw [hm0] at HS
          have hor2 : bits BinOp.or IntKind.u32 (z : Int) ((m : Int) % 4294967296) = ((z ||| m % 4294967296 : Nat) : Int) := by rw [hlo]; exact u32_or_nat _ _ hlt0 (Nat.mod_lt _ (by omega))
          clear hlo
          have hkl : k - 1 < (cs.set k (v / 2 ^ s)).length := by rw [List.length_set]; omega
          have hc1 := hB1.cell (k - 1) hkl
          have hcz : (cs.set k (v / 2 ^ s))[k - 1] = z := by rw [← getD_at hkl]; exact HS.2
          rw [hcz] at hc1
          have hf1 := hB1.free (k - 1)
          have hdl : (z ||| m % 4294967296) < 4294967296 := Nat.or_lt_two_pow (n := 32) (by omega) (by omega)
          have hd2 := hd1.set (k - 1) (z ||| m % 4294967296) hdl
          have hB2 := hB1.put (k - 1) (z ||| m % 4294967296)
          have hb2 := hb1.setCell (p := ⟨w.heap.size, k - 1, none⟩) (Nat.le_refl _) (.int .u32 ((z ||| m % 4294967296 : Nat) : Int))
          have HL2 : Hid (((cs.set k (v / 2 ^ s)).set (k - 1) (z ||| m % 4294967296)).length = p.length - L) := by have := HL1.out; show _ = _; rw [List.length_set]; exact this
          have hS2 := HS.1
          clear hdc HL hB hb hcl hck hs0 hp hm0 HS hd1 hB1 hb1 HL1 hcz hkl b0
          generalize (cs.set k (v / 2 ^ s)).set (k - 1) (z ||| m % 4294967296) = c2 at *
          generalize (z ||| m % 4294967296) = d at *
          generalize v / 2 ^ s = g at *
          go_wp2
          go_roundw
          case rel => exact ⟨k + 1, c2, by omega, by go_num, hd2, HL2, hS2, hB2, hb2⟩
          case measure => simp [intOf]; omega
      · obtain rfl : k = p.length - L := by omega
        have hv : val cs = val p / 2 ^ j := by
          have := HQL.out
          rw [← this] at hs0
          rw [rightAt_end hs0 (by omega), HFIN.out]
        have hl2 := HL.out
        have hr := hB.reads (n := p.length - L) (by omega) (by unfold maxLen; omega)
        rw [hl2, List.take_of_length_le (by omega)] at hr
        have V := Lib.hid hv
        clear hv HL hs0 hB hcl hl2 hmk
        go_wp2_with fail
        refine (trim_any _ cs _ _ _ hdc hr).mono ?_
        rintro e w2 ⟨v3, rfl, h3, rfl⟩
        rw [V.out] at h3
        go_wp2
        go_ret
        exact ⟨_, rfl, by rw [VS.out]; exact h3, hb⟩
end Go.Proofs.YtchokmhfgikglaaGreatDoor

namespace Go.Proofs.YtchokmhfgikglaaGreatDoor
set_option maxRecDepth 100000
open Go.RowKit
attribute [local go_sem ↓] Go.wp_at_zero Go.wp_at_succ

theorem left_any' (v : Value) (a : List Nat) (s n : Nat) (z t : Int) (hz : z = (n : Int)) (ht : t = (s : Int)) (w : World) (hd : Dig a) (h : Nt w 0 w.heap.size v a) (hl : a.length ≤ 100000) (hs : s ≤ 31) (hn1 : a.length ≤ n) (hn2 : n ≤ a.length + 1) (hf : n = a.length → val a * 2 ^ s < 4294967296 ^ a.length) :
    Calls Tryz.prog 282 #[v, .int .u64 t, .int .i64 z] w (LeftPost a s n w) := by
  subst hz; subst ht
  exact left_any v a s n w hd h hl hs hn1 hn2 hf

theorem Tryz.size32 : (Tryz.prog.info? 122).map (·.size) = some 1 := by kernel_rfl

theorem splice_val (N L : Nat) (c : List Nat) (h : N = L + c.length) : splice (lv (List.replicate N 0)) L (lv c) = lv (List.replicate L 0 ++ c) := by
  subst h
  unfold splice lv
  rw [List.map_replicate, List.length_map, List.take_replicate, List.drop_replicate, List.map_append, List.map_replicate, Nat.min_eq_left (by omega), Nat.sub_self]
  simp

theorem step_copy_limbs {P : Program} {ops : Array Oper} {o : Oper} {a : Act} {w : World} {K : Act → World → Prop} {Q : Exit → Act → World → Prop} {E : Prop} (hgd : o.guard = none) (d s : Operand) (dT sT : TypeId)
    (ho : o.op = .call { callee := .builtin .copy, args := #[d, s], argTypes := #[dT, sT] }) (elem : TypeId) (hu : P.underlying dT = some (.slice elem)) (hsz : (P.info? elem).map (·.size) = some 1)
    (g L dLen n g2 N : Nat) (hd : a.eval d = .slice (some ⟨g, L, none⟩) dLen dLen) (hs : a.eval s = .slice (some ⟨g2, 0, none⟩) n n) (t t2 : TypeId) (c : List Nat)
    (hB : Lb w g t (List.replicate N 0)) (hC : Lb w g2 t2 c) (hcn : c.length = n) (hdn : dLen = n) (hN : N = L + n) (B : Nat) (w0 : World) (hb : Below B w0 w) (hBg : B ≤ g)
    (h : ∀ w', Lb w' g t (List.replicate L 0 ++ c) → Below B w0 w' → K (a.put o.dst (goInt (lv c).length)) w') :
    if Region.wanted o (yielded ops a.tmps) = true then Oper.wp P o a w K Q else E := by
  subst hdn hN
  refine step_copy_splice hgd d s dT sT ho elem hu hsz _ _ _ _ _ _ hd hs g L (lv (List.replicate (L + dLen) 0)) t hB (lv c) ?_ ?_ ?_ (lv_one _) B w0 hb hBg ?_
  · rw [lv_length, hcn]; exact (Nat.min_self _).symm
  · intro _
    refine ⟨rfl, _, rfl, fun j v hv => ?_⟩
    have hj : j < c.length := by
      rw [← lv_length]
      exact (List.getElem?_eq_some_iff.1 hv).1
    rw [lv_at, List.getElem?_eq_getElem hj] at hv
    have := hC.cell j hj
    rw [show (Addr.mk g2 0 none).add j = ⟨g2, j, none⟩ by simp [Addr.add]; exact fun h => h.symm]
    rw [this]
    exact hv
  · rw [lv_length, lv_length, List.length_replicate, hcn]; exact Nat.le_refl _
  · intro w' hg hb'
    have e := hg.out
    rw [splice_val _ _ _ (by rw [hcn])] at e
    exact h w' e hb'

set_option maxHeartbeats 3200000 in
theorem shiftLeft_in (v : Value) (x : List Nat) (n : Int) (j : Nat) (w : World) (hd : Dig x) (h : Nt w 0 w.heap.size v x) (hl : x.length ≤ 90000) (hj1 : j ≤ 4096) (hn : n = (j : Int)) :
    Calls Tryz.prog 285 #[v, .int .i64 n] w (Gives (lim (val x * 2 ^ j)) w) := by
  subst hn
  have g1 : ¬ (j : Int) < -4096 := by omega
  have g2 : ¬ (4096 : Int) < (j : Int) := by omega
  have hxl := limBd' hd _ hl
  have vx := val_lim (val x)
  have hdp := dig_lim (val x)
  have VS : Hid (lim (val x * 2 ^ j) = lim (val (lim (val x)) * 2 ^ j)) := by rw [vx]; exact rfl
  clear vx
  obtain ⟨L, hL⟩ : ∃ L, j / 32 = L := ⟨_, rfl⟩
  obtain ⟨s, hs⟩ : ∃ s, j % 32 = s := ⟨_, rfl⟩
  have l1 : (j : Int) / 32 = (L : Int) := by omega
  have l2 : (j : Int) % 32 = (s : Int) := by omega
  have hs31 : s ≤ 31 := by omega
  have l3 : ¬ (j : Int) < 0 := by omega
  have HLJ : Hid (L = j / 32 ∧ s = j % 32) := ⟨hL.symm, hs.symm⟩
  have l4 : L ≤ 128 := by omega
  clear hL hs
  go_enter Tryz.func285, Tryz.ntmps285
  go_wp2_with fail
  refine (trim_any _ x _ _ _ hd h).mono ?_
  rintro e w1 ⟨v1, rfl, h1, rfl⟩
  generalize lim (val x) = p at *
  clear h hd hl
  have h1' := h1
  obtain ⟨A, c, rfl, hc, hm, _, hx⟩ := h1
  have hmk := make_limbs (L + p.length + 1) ((L : Int) + (p.length : Int) + 1) (by omega) (by omega)
  go_wp2_with fail
  have hB0 := Lb.made w 122 (L + p.length + 1)
  have hb0 : Below w.heap.size w (w.alloc (.cells (madeCells #[.int .u32 0] (L + p.length + 1)) 122)) := (Below.refl _ _).alloc (Nat.le_refl _) _
  generalize w.alloc (.cells (madeCells #[.int .u32 0] (L + p.length + 1)) 122) = w0 at *
  have hn0 : Nt w0 0 w0.heap.size (.slice A p.length c) p := h1'.after hb0
  have z1 : IntKind.i64.wrap ((p.length : Int) + 1) = ((p.length + 1 : Nat) : Int) := by rw [IntWalk.i64_in _ (by omega)]; rfl
  have z2 : IntKind.u64.wrap ((j : Int).tmod 32) = (s : Int) := by rw [Int.tmod_eq_emod_of_nonneg (by omega), l2, IntWalk.u64_in _ (by omega)]
  have hlf := left_any' (.slice A p.length c) p s (p.length + 1) (IntKind.i64.wrap ((p.length : Int) + 1)) (IntKind.u64.wrap ((j : Int).tmod 32)) z1 z2 w0.drew hdp hn0.drew (by omega) hs31 (by omega) (by omega) (by omega)
  have HLF := Lib.hid hlf
  have hlg := hB0.lt
  clear hlf hx hmk h1' z1 z2
  unfold maxLen at hm
  have i1 : (0 : Int) ≤ (L : Int) := by omega
  have i2 : (L : Int) ≤ (L : Int) + (p.length : Int) + 1 := by omega
  go_region_held3 (fun W => Below w.heap.size w W)
    (first | assumption | exact hb0.drew | exact hb0.trans (Below.mono (by assumption) hb0.size))
    (first
      | (go_at_call 282; refine HLF.out.mono ?_; rintro e w2 ⟨cl, rfl, hcB, hcl, hdc, hcv, hb2⟩; have hbk : Below w0.heap.size w0 w2 := Below.trans (Below.drew (Below.refl _ _)) hb2; have hB2 := hB0.drew.below hb2 hlg; have HCL := Lib.hid hcl; have HCV := Lib.hid hcv; clear hcl hcv)
      | (refine step_copy_limbs (by rfl) (.tmp 83) (.tmp 91) 58 58 (by rfl) 122 Tryz.underlying58 Tryz.size32 w.heap.size L _ (p.length + 1) w0.heap.size (L + p.length + 1) (by rfl) (by rfl) 122 122 cl hB2 hcB HCL.out (by omega) (by omega) w.heap.size w (hb0.trans (hbk.mono hb0.size)) (Nat.le_refl _) ?_; intro w3 hB3 hb3)
      | fail)
  have hdz : Dig (List.replicate L 0 ++ cl) := by
    intro y hy
    rcases List.mem_append.1 hy with hy | hy
    · exact dig_zeros L y hy
    · exact hdc y hy
  have hl2 : (List.replicate L 0 ++ cl).length = L + p.length + 1 := by rw [List.length_append, List.length_replicate, HCL.out]; rfl
  have hr := hB3.reads (n := L + p.length + 1) (by omega) (by unfold maxLen; omega)
  rw [hl2, List.take_of_length_le (by omega)] at hr
  have hv : val (List.replicate L 0 ++ cl) = val p * 2 ^ j := by
    rw [val_append, val_zeros, Nat.zero_add, List.length_replicate, HCV.out, HLJ.out.1, HLJ.out.2, shift_left_eq]
  have V := Lib.hid hv
  clear hv hl2 hB3 hB2 hcB hbk hdc HCL HCV hB0 hn0 HLF hlg hb0 hb2
  go_wp2_with fail
  refine (trim_any _ _ _ _ _ hdz hr).mono ?_
  rintro e w4 ⟨v3, rfl, h3, rfl⟩
  rw [V.out] at h3
  go_wp2
  go_ret
  exact ⟨_, rfl, by rw [VS.out]; exact h3, hb3⟩

set_option maxHeartbeats 3200000 in
theorem shiftLeft_out (v : Value) (x : List Nat) (n : Int) (j : Nat) (w : World) (hd : Dig x) (h : Nt w 0 w.heap.size v x) (hl : x.length ≤ 90000) (hn : (4096 : Int) < n) (he : (4096 : Int) = (j : Int)) :
    Calls Tryz.prog 285 #[v, .int .i64 n] w (Gives (lim (val x * 2 ^ j)) w) := by
  have hj1 : j ≤ 4096 := by omega
  have g1 : ¬ n < -4096 := by omega
  have g3 : ¬ n < -(j : Int) := by omega
  have g2 : (j : Int) < n := by omega
  clear hn
  have hxl := limBd' hd _ hl
  have vx := val_lim (val x)
  have hdp := dig_lim (val x)
  have VS : Hid (lim (val x * 2 ^ j) = lim (val (lim (val x)) * 2 ^ j)) := by rw [vx]; exact rfl
  clear vx
  obtain ⟨L, hL⟩ : ∃ L, j / 32 = L := ⟨_, rfl⟩
  obtain ⟨s, hs⟩ : ∃ s, j % 32 = s := ⟨_, rfl⟩
  have l1 : (j : Int) / 32 = (L : Int) := by omega
  have l2 : (j : Int) % 32 = (s : Int) := by omega
  have hs31 : s ≤ 31 := by omega
  have l3 : ¬ (j : Int) < 0 := by omega
  have HLJ : Hid (L = j / 32 ∧ s = j % 32) := ⟨hL.symm, hs.symm⟩
  have l4 : L ≤ 128 := by omega
  clear hL hs
  go_enter Tryz.func285, Tryz.ntmps285
  go_wp2_with fail
  refine (trim_any _ x _ _ _ hd h).mono ?_
  rintro e w1 ⟨v1, rfl, h1, rfl⟩
  generalize lim (val x) = p at *
  clear h hd hl
  have h1' := h1
  obtain ⟨A, c, rfl, hc, hm, _, hx⟩ := h1
  have hmk := make_limbs (L + p.length + 1) ((L : Int) + (p.length : Int) + 1) (by omega) (by omega)
  go_wp2_with fail
  have hB0 := Lb.made w 122 (L + p.length + 1)
  have hb0 : Below w.heap.size w (w.alloc (.cells (madeCells #[.int .u32 0] (L + p.length + 1)) 122)) := (Below.refl _ _).alloc (Nat.le_refl _) _
  generalize w.alloc (.cells (madeCells #[.int .u32 0] (L + p.length + 1)) 122) = w0 at *
  have hn0 : Nt w0 0 w0.heap.size (.slice A p.length c) p := h1'.after hb0
  have z1 : IntKind.i64.wrap ((p.length : Int) + 1) = ((p.length + 1 : Nat) : Int) := by rw [IntWalk.i64_in _ (by omega)]; rfl
  have z2 : IntKind.u64.wrap ((j : Int).tmod 32) = (s : Int) := by rw [Int.tmod_eq_emod_of_nonneg (by omega), l2, IntWalk.u64_in _ (by omega)]
  have hlf := left_any' (.slice A p.length c) p s (p.length + 1) (IntKind.i64.wrap ((p.length : Int) + 1)) (IntKind.u64.wrap ((j : Int).tmod 32)) z1 z2 w0.drew hdp hn0.drew (by omega) hs31 (by omega) (by omega) (by omega)
  have HLF := Lib.hid hlf
  have hlg := hB0.lt
  clear hlf hx hmk h1' z1 z2
  unfold maxLen at hm
  have i1 : (0 : Int) ≤ (L : Int) := by omega
  have i2 : (L : Int) ≤ (L : Int) + (p.length : Int) + 1 := by omega
  go_region_held3 (fun W => Below w.heap.size w W)
    (first | assumption | exact hb0.drew | exact hb0.trans (Below.mono (by assumption) hb0.size))
    (first
      | (go_at_call 282; refine HLF.out.mono ?_; rintro e w2 ⟨cl, rfl, hcB, hcl, hdc, hcv, hb2⟩; have hbk : Below w0.heap.size w0 w2 := Below.trans (Below.drew (Below.refl _ _)) hb2; have hB2 := hB0.drew.below hb2 hlg; have HCL := Lib.hid hcl; have HCV := Lib.hid hcv; clear hcl hcv)
      | (refine step_copy_limbs (by rfl) (.tmp 83) (.tmp 91) 58 58 (by rfl) 122 Tryz.underlying58 Tryz.size32 w.heap.size L _ (p.length + 1) w0.heap.size (L + p.length + 1) (by rfl) (by rfl) 122 122 cl hB2 hcB HCL.out (by omega) (by omega) w.heap.size w (hb0.trans (hbk.mono hb0.size)) (Nat.le_refl _) ?_; intro w3 hB3 hb3)
      | fail)
  have hdz : Dig (List.replicate L 0 ++ cl) := by
    intro y hy
    rcases List.mem_append.1 hy with hy | hy
    · exact dig_zeros L y hy
    · exact hdc y hy
  have hl2 : (List.replicate L 0 ++ cl).length = L + p.length + 1 := by rw [List.length_append, List.length_replicate, HCL.out]; rfl
  have hr := hB3.reads (n := L + p.length + 1) (by omega) (by unfold maxLen; omega)
  rw [hl2, List.take_of_length_le (by omega)] at hr
  have hv : val (List.replicate L 0 ++ cl) = val p * 2 ^ j := by
    rw [val_append, val_zeros, Nat.zero_add, List.length_replicate, HCV.out, HLJ.out.1, HLJ.out.2, shift_left_eq]
  have V := Lib.hid hv
  clear hv hl2 hB3 hB2 hcB hbk hdc HCL HCV hB0 hn0 HLF hlg hb0 hb2
  go_wp2_with fail
  refine (trim_any _ _ _ _ _ hdz hr).mono ?_
  rintro e w4 ⟨v3, rfl, h3, rfl⟩
  rw [V.out] at h3
  go_wp2
  go_ret
  exact ⟨_, rfl, by rw [VS.out]; exact h3, hb3⟩
end Go.Proofs.YtchokmhfgikglaaGreatDoor

namespace Go.Proofs.YtchokmhfgikglaaGreatDoor
set_option maxRecDepth 100000
open Go.RowKit

theorem shift_any (v : Value) (x : List Nat) (n : Int) (w : World) (hd : Dig x) (h : Nt w 0 w.heap.size v x) (hl : x.length ≤ 90000) :
    Calls Tryz.prog 285 #[v, .int .i64 n] w (Gives (lim (shiftN (val x) n)) w) := by
  by_cases hn : held12 n < 0
  · have e : shiftN (val x) n = val x / 2 ^ (-(held12 n)).toNat := by unfold shiftN; rw [if_pos hn]
    rw [e]
    refine shiftRight_any v x n (-(held12 n)).toNat w hd h (by omega) (by omega) (by omega) ?_
    unfold held12 at hn ⊢
    omega
  · have e : shiftN (val x) n = val x * 2 ^ (held12 n).toNat := by unfold shiftN; rw [if_neg hn]
    rw [e]
    by_cases h1 : (4096 : Int) < n
    · have e2 : (held12 n).toNat = 4096 := by unfold held12; omega
      rw [e2]
      exact shiftLeft_out v x n 4096 w hd h hl h1 rfl
    · have e2 : (held12 n).toNat = n.toNat := by unfold held12; omega
      rw [e2]
      unfold held12 at hn
      exact shiftLeft_in v x n n.toNat w hd h hl (by omega) (by omega)

/-- A row of limbs, laid anew. -/
theorem nt_laid (w : World) (e : TypeId) (x : List Nat) (hx : x.length ≤ 1000) : Nt (w.alloc (.cells (lv x).toArray e)) 0 (w.alloc (.cells (lv x).toArray e)).heap.size (.slice (some ⟨w.heap.size, 0, none⟩) x.length x.length) x ∧ Below w.heap.size w (w.alloc (.cells (lv x).toArray e)) := by
  have hs : (w.alloc (.cells (lv x).toArray e)).heap.size = w.heap.size + 1 := by simp
  refine ⟨?_, (Below.refl _ _).alloc (Nat.le_refl _) _⟩
  rw [hs]
  exact (nt_new w e x hx).low (Nat.zero_le _)
end Go.Proofs.YtchokmhfgikglaaGreatDoor
