/- 'held': each number by its remainder of 2 ^ 20; by its contract. Condition: at most 200 numbers. -/
import Derived.Test.YtkbmlipdpahblaaRows
import Derived.Test.YtkbmlipdpahblaaBase
import Derived.Maps.AppendAt
namespace Go.Proofs.Ytkbmlipdpahblaa
open Go.RowKit

theorem Try.infoInt : (Try.prog.info? 3).map (fun i => (i.zero, i.size, i.bytes)) = some (some (.int .i64 0), 1, 8) := by kernel_rfl

def hold (l : List Int) : List Int := l.map (fun z => z.tmod 1048576)

theorem hold_take (l : List Int) (k : Nat) (h : k < l.length) : hold (l.take (k + 1)) = hold (l.take k) ++ [l[k].tmod 1048576] := by
  unfold hold
  rw [List.take_add_one, List.getElem?_eq_getElem h, List.map_append]
  rfl

theorem hold_len (l : List Int) (k : Nat) : (hold (l.take k)).length ≤ k := by
  unfold hold
  rw [List.length_map]
  exact List.length_take_le _ _

set_option maxHeartbeats 800000 in
theorem held_any (v : Value) (l : List Int) (w : World) (h : Rd w w.heap.size v (l.map (Value.int .i64))) (hl : l.length ≤ 200) :
    Calls Try.prog 9 #[v] w fun e w' => ∃ v', e = .returned v' ∧ Rd w' w'.heap.size v' ((hold l).map (Value.int .i64)) ∧ Below w.heap.size w w' := by
  obtain ⟨i0, hi, hz0, hz1, hz2⟩ := info_parts Try.infoInt
  obtain ⟨A, c, rfl, hc, hm, _, hx⟩ := h
  have hll : (l.map (Value.int .i64)).length = l.length := List.length_map _
  rw [hll] at hc hx ⊢
  clear hll
  go_enter Try.func9, Try.ntmps9
  go_wp2
  go_loopw [3, 4] (fun u i wr => ∃ k : Nat, k ≤ l.length ∧ i = .int .i64 k ∧ wr.ownsRow w.heap.size 3 1 u (hold (l.take k)).length ((hold (l.take k)).map (Value.int .i64)) ∧ Below w.heap.size w wr)
    (fun _ i _ => l.length - (intOf i).toNat)
  case atStart => exact ⟨0, Nat.zero_le _, rfl, World.ownsRow_nil _ _ _ _, Below.refl _ _⟩
  case round =>
    obtain ⟨k, hk, rfl, hown, hnx⟩ := hrel
    by_cases hlt : k < l.length
    · obtain ⟨b, off, rfl, hb, hcell⟩ := hx (by omega)
      have hcx : wr.cell? ⟨b, off + k, none⟩ = some (.int .i64 l[k]) := (hnx.cell hb).trans (hcell k _ (by rw [List.getElem?_map, List.getElem?_eq_getElem hlt]; rfl))
      have hkl := hold_len l k
      clear hcell hx
      go_wp2_with (at_builtin; refine wpList_append_own _ rfl _ _ 22 rfl w.heap.size 3 i0 (.int .i64 0) 1 8 Try.underlying22 hi hz0 hz1 hz2 rfl (by decide) _ _ _ rfl (hown.alloc _) ⟨wr.heap.size, 0, none⟩ 1 1 [.int .i64 (l[k].tmod 1048576)] rfl rfl ?c1 ?c2 ?c3 ?c4 ?c5 ?_)
      case c1 => exact cell_one_new _ _ _
      case c2 => intro u hu; simp at hu; subst hu; rfl
      case c3 => unfold maxLen; omega
      case c4 => omega
      case c5 => have := hnx.size; simp; omega
      intro v' w1 hown1 hgrow _
      have hB : Below w.heap.size w w1 := (hnx.alloc hnx.size _).grown hgrow (by have := hnx.size; simp; omega) (fun j hj => (hown.lt j hj).1)
      have hs := hold_take l k hlt
      have hown2 : w1.ownsRow w.heap.size 3 1 v' (hold (l.take (k + 1))).length ((hold (l.take (k + 1))).map (Value.int .i64)) := by
        rw [hs, List.length_append, List.map_append]; exact hown1
      clear hs hown1 hgrow hown hnx hcx hkl
      go_wp2
      go_roundw
      case rel => exact ⟨k + 1, by omega, by go_num, hown2, hB⟩
      case measure => simp [intOf]; omega
    · obtain rfl : k = l.length := by omega
      rw [List.take_length] at hown
      clear hx
      go_wp2
      go_ret
      exact ⟨_, rfl, Rd.of_own hown, hnx⟩
end Go.Proofs.Ytkbmlipdpahblaa
