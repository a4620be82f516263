/- 'Add' of the program and of the reference by their contracts. Condition: a bound on lengths. -/
import Derived.Test.YtobmjcbjailclaaGreatDoorTrims
import Derived.Test.YtobmjcbjailclaaGreatDoorNums
namespace Go.Proofs.YtobmjcbjailclaaGreatDoor
set_option maxRecDepth 100000
open Go.RowKit

theorem sumAt_len {a b c : List Nat} {q k : Nat} (h : SumAt a b c q k) : c.length = k := h.1

set_option maxHeartbeats 1600000 in
theorem refAdd_any (u v : Value) (x y : List Nat) (w : World) (hdx : Dig x) (hdy : Dig y) (h : Nt w 0 w.heap.size u x) (h' : Nt w 0 w.heap.size v y) (hlx : x.length ≤ 100000) (hly : y.length ≤ 100000) :
    Calls Tryz.prog 35 #[u, v] w (Gives (lim (val x + val y)) w) := by
  obtain ⟨i0, hi, hz0, hz1, hz2⟩ := info_parts Tryz.info32
  have hn := h
  have hn' := h'
  obtain ⟨A, c, rfl, hc, hm, _, _⟩ := h
  obtain ⟨A', c', rfl, hc', hm', _, _⟩ := h'
  obtain ⟨M, hif, hM1, hM2, hM3⟩ : ∃ M : Nat, (if x.length < y.length then (y.length : Int) else (x.length : Int)) = (M : Int) ∧ x.length ≤ M ∧ y.length ≤ M ∧ M ≤ 100000 := by
    by_cases hxy : x.length < y.length
    · exact ⟨y.length, if_pos hxy, by omega, Nat.le_refl _, hly⟩
    · exact ⟨x.length, if_neg hxy, Nat.le_refl _, by omega, hlx⟩
  go_enter Tryz.func35, Tryz.ntmps35
  go_wp2_with fail
  go_loopw [5, 6, 7] (fun o s i wr => ∃ (k q : Nat) (cs : List Nat), k ≤ M + 1 ∧ i = .int .i64 (k : Nat) ∧ s = .int .u64 (q : Nat) ∧ q ≤ 1 ∧ Dig cs ∧ SumAt x y cs q k ∧ Own wr w.heap.size 43 o cs ∧ Below w.heap.size w wr)
    (fun _ _ i _ => M + 1 - (intOf i).toNat)
  case atStart => exact ⟨0, 0, [], Nat.zero_le _, rfl, rfl, by omega, Dig.nil, ⟨rfl, by simp [val]⟩, Own.nil _ _ _, Below.refl _ _⟩
  case round =>
    obtain ⟨k, q, cs, hk, rfl, rfl, hq, hdc, hs, hown, hb⟩ := hrel
    by_cases hlt : k < M + 1
    · have b1 := dig_getD hdx k
      have b2 := dig_getD hdy k
      have hcl := sumAt_len hs
      have HS := Lib.hid (sumAt_step hs rfl)
      have HC := Lib.hid hcl
      clear hcl hs
      generalize hp1 : x.getD k 0 = p1 at *
      generalize hp2 : y.getD k 0 = p2 at *
      have P1 := Lib.hid hp1
      have P2 := Lib.hid hp2
      clear hp1 hp2
      go_wp2_with fail
      refine (at_any _ x k _ 0 w.heap.size hdx (hn.below hb (Nat.le_refl _)) (by omega)).mono ?_
      rintro e w1 ⟨rfl, rfl⟩
      rw [P1.out]
      go_wp2_with fail
      refine (at_any _ y k _ 0 w.heap.size hdy (hn'.below hb (Nat.le_refl _)) (by omega)).mono ?_
      rintro e w1 ⟨rfl, rfl⟩
      rw [P2.out]
      have hkl : cs.length ≤ 1000000 := by rw [HC.out]; omega
      go_wp2_with (at_builtin; refine wpList_append_limb rfl _ _ 23 rfl w.heap.size 43 i0 Tryz.underlying23 hi hz0 hz1 hz2 _ cs rfl hown _ ((q + p1 + p2) % 4294967296) (congrArg (Value.int .u32) (by omega)) rfl hkl hb.size ?_)
      intro v' w1 hown1 hg1
      have hb1 := hb.trans hg1
      have hdc1 := hdc.append (Dig.cons (Nat.mod_lt (q + p1 + p2) (by omega)) Dig.nil)
      have hq1 : (q + p1 + p2) / 4294967296 ≤ 1 := by omega
      clear hown hg1 hb hkl
      go_wp2
      go_roundw
      case rel => exact ⟨k + 1, (q + p1 + p2) / 4294967296, cs ++ [(q + p1 + p2) % 4294967296], by omega, by go_num, by go_num, hq1, hdc1, HS.out, hown1, hb1⟩
      case measure => simp [intOf]; omega
    · obtain rfl : k = M + 1 := by omega
      have hv := sumAt_end hdx hdy hs hM1 hM2
      have hr := hown.nt
      have hcl := sumAt_len hs
      have hkl : cs.length ≤ 1000000 := by omega
      have V := Lib.hid hv
      clear hv hs hcl hown
      go_wp2_with fail
      refine (refTrim_any _ cs _ hdc (hr.low (Nat.zero_le _)) hkl).mono ?_
      rintro e w1 ⟨v1, rfl, h1, hb1⟩
      rw [V.out] at h1
      go_wp2
      go_ret
      exact ⟨_, rfl, h1.low hb.size, hb.trans (hb1.mono hb.size)⟩
end Go.Proofs.YtobmjcbjailclaaGreatDoor
