/- Both functions 'Fourths' by their contract: the sums by places modulo 4. Condition: at most 300 numbers below 2 ^ 20. -/
import Derived.Test.YtkbmlipdpahblaaRows
import Derived.Test.YtkbmlipdpahblaaBase
import Derived.Test.YtkbmlipdpahblaaQuart
import Derived.RegionTactic
import Derived.BigRegion
namespace Go.Proofs.Ytkbmlipdpahblaa
open Go.RowKit

def fourCells (l : List Int) : Array Value := #[.int .i64 (quarter 0 l), .int .i64 (quarter 1 l), .int .i64 (quarter 2 l), .int .i64 (quarter 3 l)]

theorem fourCells_at (l : List Int) (i : Nat) (h : i < 4) : (fourCells l)[i]? = some (.int .i64 (quarter i l)) := by
  match i, h with
  | 0, _ => rfl
  | 1, _ => rfl
  | 2, _ => rfl
  | 3, _ => rfl

theorem fourCells_put (l : List Int) (k : Nat) (h : k < l.length) (x : Int) (hx : x = quarter (k % 4) (l.take k) + l[k]) :
    (fourCells (l.take k)).setIfInBounds (k % 4) (.int .i64 x) = fourCells (l.take (k + 1)) := by
  subst hx
  have e : l.take (k + 1) = l.take k ++ [l[k]] := by rw [List.take_add_one, List.getElem?_eq_getElem h]; rfl
  have hlen : (l.take k).length = k := by rw [List.length_take]; omega
  have q : ∀ j, j < 4 → quarter j (l.take (k + 1)) = quarter j (l.take k) + (if k % 4 = j then l[k] else 0) := fun j hj => by
    rw [e, quarter_snoc _ _ j hj, hlen]
  unfold fourCells
  rw [q 0 (by omega), q 1 (by omega), q 2 (by omega), q 3 (by omega)]
  have hk : k % 4 < 4 := Nat.mod_lt _ (by omega)
  generalize k % 4 = i at *
  match i, hk with
  | 0, _ => simp
  | 1, _ => simp
  | 2, _ => simp
  | 3, _ => simp

theorem elem_bd {b : Int} {l : List Int} (h : Small b l) (k : Nat) (hk : k < l.length) : -b ≤ l[k] ∧ l[k] ≤ b := h _ (List.getElem_mem hk)

set_option maxHeartbeats 800000 in
theorem fourths_any (v : Value) (l : List Int) (w : World) (h : Rd w w.heap.size v (l.map (Value.int .i64))) (hl : l.length ≤ 300) (hs : Small 1048575 l) :
    Calls Try.prog 12 #[v] w fun e w' => e = .returned (.agg (fourCells l)) ∧ Below w.heap.size w w' := by
  obtain ⟨A, c, rfl, hc, hm, _, hx⟩ := h
  have hll : (l.map (Value.int .i64)).length = l.length := List.length_map _
  rw [hll] at hc hx ⊢
  clear hll
  go_enter Try.func12, Try.ntmps12
  go_wp2
  go_loopw [4, 5, 8] (fun _ _ i wr => ∃ k : Nat, k ≤ l.length ∧ i = .int .i64 k ∧ Blk wr w.heap.size 24 (fourCells []) ∧ Blk wr (w.heap.size + 1) 24 (fourCells (l.take k)) ∧ Below w.heap.size w wr)
    (fun _ _ i _ => l.length - (intOf i).toNat)
  case atStart =>
    refine ⟨0, Nat.zero_le _, rfl, (Blk.new _ _ _).alloc _, ?_, ((Below.refl _ _).alloc (Nat.le_refl _) _).alloc (by simp) _⟩
    have := Blk.new (w.alloc (.cells (fourCells []) 24)) 24 (fourCells [])
    have e : (w.alloc (.cells (fourCells []) 24)).heap.size = w.heap.size + 1 := by simp
    rw [e] at this
    exact this
  case round =>
    obtain ⟨k, hk, rfl, hB0, hB1, hnx⟩ := hrel
    by_cases hlt : k < l.length
    · obtain ⟨b, off, rfl, hb, hcell⟩ := hx (by omega)
      have hcx : wr.cell? ⟨b, off + k, none⟩ = some (.int .i64 l[k]) := (hnx.cell hb).trans (hcell k _ (by rw [List.getElem?_map, List.getElem?_eq_getElem hlt]; rfl))
      have hce : wr.cell? ⟨w.heap.size + 1, k % 4, none⟩ = some (.int .i64 (quarter (k % 4) (l.take k))) := (hB1.cell _).trans (fourCells_at _ _ (Nat.mod_lt _ (by omega)))
      have hfr : wr.frozen? ⟨w.heap.size + 1, k % 4, none⟩ = false := hB1.free _
      have hq := quarter_bd (l.take k) (hs.take k) (by rw [List.length_take]; omega) (k % 4)
      have he := elem_bd hs k hlt
      have hR1 := (hB1.put (k % 4) (.int .i64 (quarter (k % 4) (l.take k) + l[k])))
      rw [fourCells_put l k hlt _ rfl] at hR1
      have hR0 : Blk (wr.setCell ⟨w.heap.size + 1, k % 4, none⟩ (.int .i64 (quarter (k % 4) (l.take k) + l[k]))) w.heap.size 24 (fourCells []) := hB0.far (by show w.heap.size ≠ w.heap.size + 1; omega) _
      have hRb : Below w.heap.size w (wr.setCell ⟨w.heap.size + 1, k % 4, none⟩ (.int .i64 (quarter (k % 4) (l.take k) + l[k]))) := hnx.setCell (by show w.heap.size ≤ w.heap.size + 1; omega) _
      clear hcell hx hB0 hB1 hnx hs hc hm
      go_wp2
      go_roundw
      case rel => exact ⟨k + 1, by omega, by go_num, hR0, hR1, hRb⟩
      case measure => simp [intOf]; omega
    · obtain rfl : k = l.length := by omega
      rw [List.take_length] at hB1
      have c0 : wr.cell? ⟨w.heap.size + 1, 0, none⟩ = some (.int .i64 (quarter 0 l)) := hB1.cell 0
      have c1 : wr.cell? ⟨w.heap.size + 1, 1, none⟩ = some (.int .i64 (quarter 1 l)) := hB1.cell 1
      have c2 : wr.cell? ⟨w.heap.size + 1, 2, none⟩ = some (.int .i64 (quarter 2 l)) := hB1.cell 2
      have c3 : wr.cell? ⟨w.heap.size + 1, 3, none⟩ = some (.int .i64 (quarter 3 l)) := hB1.cell 3
      have d0 : wr.cell? ⟨w.heap.size, 0, none⟩ = some (.int .i64 0) := hB0.cell 0
      have d1 : wr.cell? ⟨w.heap.size, 1, none⟩ = some (.int .i64 0) := hB0.cell 1
      have d2 : wr.cell? ⟨w.heap.size, 2, none⟩ = some (.int .i64 0) := hB0.cell 2
      have d3 : wr.cell? ⟨w.heap.size, 3, none⟩ = some (.int .i64 0) := hB0.cell 3
      have f0 : wr.frozen? ⟨w.heap.size, 0, none⟩ = false := hB0.free 0
      have f1 : wr.frozen? ⟨w.heap.size, 1, none⟩ = false := hB0.free 1
      have f2 : wr.frozen? ⟨w.heap.size, 2, none⟩ = false := hB0.free 2
      have f3 : wr.frozen? ⟨w.heap.size, 3, none⟩ = false := hB0.free 3
      have e0 := hB0.same (i := 0) (by simp [fourCells]) (.int .i64 (quarter 0 l))
      have e1 := (hB0.put 0 (.int .i64 (quarter 0 l))).same (i := 1) (by simp [fourCells]) (.int .i64 (quarter 1 l))
      have e2 := ((hB0.put 0 (.int .i64 (quarter 0 l))).put 1 (.int .i64 (quarter 1 l))).same (i := 2) (by simp [fourCells]) (.int .i64 (quarter 2 l))
      have e3 := (((hB0.put 0 (.int .i64 (quarter 0 l))).put 1 (.int .i64 (quarter 1 l))).put 2 (.int .i64 (quarter 2 l))).same (i := 3) (by simp [fourCells]) (.int .i64 (quarter 3 l))
      clear hx hB0 hB1 hs hc hm
      go_wp2
      refine bodyPost_ret (v := .agg (fourCells l)) ?_ rfl ⟨rfl, ?_⟩
      · simp [results, Try.results12, go_sem, e0, e1, e2, e3, fourCells]
      · exact (((hnx.setCell (Nat.le_refl _) _).setCell (Nat.le_refl _) _).setCell (Nat.le_refl _) _).setCell (Nat.le_refl _) _
set_option maxHeartbeats 800000 in
theorem refFourths_any (v : Value) (l : List Int) (w : World) (h : Rd w w.heap.size v (l.map (Value.int .i64))) (hl : l.length ≤ 300) (hs : Small 1048575 l) :
    Calls Try.prog 10 #[v] w fun e w' => e = .returned (.agg (fourCells l)) ∧ Below w.heap.size w w' := by
  obtain ⟨A, c, rfl, hc, hm, _, hx⟩ := h
  have hll : (l.map (Value.int .i64)).length = l.length := List.length_map _
  rw [hll] at hc hx ⊢
  clear hll
  go_enter Try.func10, Try.ntmps10
  go_wp2
  go_loopw [4] (fun i wr => ∃ k : Nat, k ≤ l.length ∧ i = .int .i64 k ∧ Blk wr w.heap.size 24 (fourCells []) ∧ Blk wr (w.heap.size + 1) 24 (fourCells (l.take k)) ∧ Below w.heap.size w wr)
    (fun i _ => l.length - (intOf i).toNat)
  case atStart =>
    refine ⟨0, Nat.zero_le _, rfl, (Blk.new _ _ _).alloc _, ?_, ((Below.refl _ _).alloc (Nat.le_refl _) _).alloc (by simp) _⟩
    have := Blk.new (w.alloc (.cells (fourCells []) 24)) 24 (fourCells [])
    have e : (w.alloc (.cells (fourCells []) 24)).heap.size = w.heap.size + 1 := by simp
    rw [e] at this
    exact this
  case round =>
    obtain ⟨k, hk, rfl, hB0, hB1, hnx⟩ := hrel
    by_cases hlt : k < l.length
    · obtain ⟨b, off, rfl, hb, hcell⟩ := hx (by omega)
      have hcx : wr.cell? ⟨b, off + k, none⟩ = some (.int .i64 l[k]) := (hnx.cell hb).trans (hcell k _ (by rw [List.getElem?_map, List.getElem?_eq_getElem hlt]; rfl))
      have hce : wr.cell? ⟨w.heap.size + 1, k % 4, none⟩ = some (.int .i64 (quarter (k % 4) (l.take k))) := (hB1.cell _).trans (fourCells_at _ _ (Nat.mod_lt _ (by omega)))
      have hfr : wr.frozen? ⟨w.heap.size + 1, k % 4, none⟩ = false := hB1.free _
      have hq := quarter_bd (l.take k) (hs.take k) (by rw [List.length_take]; omega) (k % 4)
      have he := elem_bd hs k hlt
      have hR1 := (hB1.put (k % 4) (.int .i64 (quarter (k % 4) (l.take k) + l[k])))
      rw [fourCells_put l k hlt _ rfl] at hR1
      have hR0 : Blk (wr.setCell ⟨w.heap.size + 1, k % 4, none⟩ (.int .i64 (quarter (k % 4) (l.take k) + l[k]))) w.heap.size 24 (fourCells []) := hB0.far (by show w.heap.size ≠ w.heap.size + 1; omega) _
      have hRb : Below w.heap.size w (wr.setCell ⟨w.heap.size + 1, k % 4, none⟩ (.int .i64 (quarter (k % 4) (l.take k) + l[k]))) := hnx.setCell (by show w.heap.size ≤ w.heap.size + 1; omega) _
      clear hcell hx hB0 hB1 hnx hs hc hm
      go_wp2
      go_region
      go_wp2
      go_roundw
      case rel => exact ⟨k + 1, by omega, by go_num, hR0.drew, hR1.drew, hRb.drew⟩
      case measure => simp [intOf]; omega
    · obtain rfl : k = l.length := by omega
      rw [List.take_length] at hB1
      have c0 : wr.cell? ⟨w.heap.size + 1, 0, none⟩ = some (.int .i64 (quarter 0 l)) := hB1.cell 0
      have c1 : wr.cell? ⟨w.heap.size + 1, 1, none⟩ = some (.int .i64 (quarter 1 l)) := hB1.cell 1
      have c2 : wr.cell? ⟨w.heap.size + 1, 2, none⟩ = some (.int .i64 (quarter 2 l)) := hB1.cell 2
      have c3 : wr.cell? ⟨w.heap.size + 1, 3, none⟩ = some (.int .i64 (quarter 3 l)) := hB1.cell 3
      have d0 : wr.cell? ⟨w.heap.size, 0, none⟩ = some (.int .i64 0) := hB0.cell 0
      have d1 : wr.cell? ⟨w.heap.size, 1, none⟩ = some (.int .i64 0) := hB0.cell 1
      have d2 : wr.cell? ⟨w.heap.size, 2, none⟩ = some (.int .i64 0) := hB0.cell 2
      have d3 : wr.cell? ⟨w.heap.size, 3, none⟩ = some (.int .i64 0) := hB0.cell 3
      have f0 : wr.frozen? ⟨w.heap.size, 0, none⟩ = false := hB0.free 0
      have f1 : wr.frozen? ⟨w.heap.size, 1, none⟩ = false := hB0.free 1
      have f2 : wr.frozen? ⟨w.heap.size, 2, none⟩ = false := hB0.free 2
      have f3 : wr.frozen? ⟨w.heap.size, 3, none⟩ = false := hB0.free 3
      have e0 := hB0.same (i := 0) (by simp [fourCells]) (.int .i64 (quarter 0 l))
      have e1 := (hB0.put 0 (.int .i64 (quarter 0 l))).same (i := 1) (by simp [fourCells]) (.int .i64 (quarter 1 l))
      have e2 := ((hB0.put 0 (.int .i64 (quarter 0 l))).put 1 (.int .i64 (quarter 1 l))).same (i := 2) (by simp [fourCells]) (.int .i64 (quarter 2 l))
      have e3 := (((hB0.put 0 (.int .i64 (quarter 0 l))).put 1 (.int .i64 (quarter 1 l))).put 2 (.int .i64 (quarter 2 l))).same (i := 3) (by simp [fourCells]) (.int .i64 (quarter 3 l))
      clear hx hB0 hB1 hs hc hm
      go_wp2
      refine bodyPost_ret (v := .agg (fourCells l)) ?_ rfl ⟨rfl, ?_⟩
      · simp [results, Try.results10, go_sem, e0, e1, e2, e3, fourCells]
      · exact (((hnx.setCell (Nat.le_refl _) _).setCell (Nat.le_refl _) _).setCell (Nat.le_refl _) _).setCell (Nat.le_refl _) _
end Go.Proofs.Ytkbmlipdpahblaa
