/- The reference's 'Sub' by its contract. Condition: a bound on lengths. -/
import Derived.Test.YtobmjcbjailclaaGreatDoorSubs
namespace Go.Proofs.YtobmjcbjailclaaGreatDoor
set_option maxRecDepth 100000
open Go.RowKit

set_option maxHeartbeats 3200000 in
theorem refSub_any (u v : Value) (x y : List Nat) (w : World) (hdx : Dig x) (hdy : Dig y) (h : Nt w 0 w.heap.size u x) (h' : Nt w 0 w.heap.size v y) (hlx : x.length ≤ 100000) (hly : y.length ≤ 100000) :
    Calls Tryz.prog 67 #[u, v] w (GivesB (lim (val x - val y)) (decide (val y ≤ val x)) w) := by
  by_cases hlt : val x < val y
  · have e1 : lim (val x - val y) = [] := by rw [Nat.sub_eq_zero_of_le (Nat.le_of_lt hlt)]; exact lim_zero
    have e2 : decide (val y ≤ val x) = false := decide_eq_false (by omega)
    rw [e1, e2]
    have C := Lib.hid (cmpN_lt hlt)
    clear e1 e2 hlt
    go_enter Tryz.func67, Tryz.ntmps67
    go_wp2_with fail
    refine (refCmp_any _ _ x y _ hdx hdy h h' hlx hly).mono ?_
    rintro e w1 ⟨rfl, hb⟩
    rw [C.out]
    go_wp2
    go_ret2
    exact ⟨_, rfl, Nt.nil _ _ _, hb⟩
  · have e2 : decide (val y ≤ val x) = true := decide_eq_true (by omega)
    rw [e2]
    have HLE : Hid (val y ≤ val x) := by show val y ≤ val x; omega
    have C : Hid (¬ cmpN (val x) (val y) < 0) := by
      show ¬ _
      rw [cmpN_neg]; exact hlt
    clear e2 hlt
    generalize hcz : cmpN (val x) (val y) = cz at *
    have CZ := Lib.hid hcz
    clear hcz
    have hcn : ¬ cz < 0 := C.out
    clear C
    obtain ⟨i0, hi, hz0, hz1, hz2⟩ := info_parts Tryz.info32
    go_enter Tryz.func67, Tryz.ntmps67
    go_wp2_with fail
    refine (refCmp_any _ _ x y _ hdx hdy h h' hlx hly).mono ?_
    rintro e w1 ⟨rfl, hb0⟩
    rw [CZ.out]
    replace h := h.after hb0
    replace h' := h'.after hb0
    clear CZ
    have hn := h
    have hn' := h'
    obtain ⟨A, c, rfl, hc, hm, _, _⟩ := h
    obtain ⟨A', c', rfl, hc', hm', _, _⟩ := h'
    go_wp2_with fail
    go_loopw [6, 7, 8, 9, 10] (fun o s i _ _ wr => ∃ (k b : Nat) (cs : List Nat), k ≤ x.length ∧ i = .int .i64 (k : Nat) ∧ s = .int .u64 (b : Nat) ∧ b ≤ 1 ∧ Dig cs ∧ SubIn x y cs b k ∧ Own wr w1.heap.size 43 o cs ∧ Below w1.heap.size w1 wr)
      (fun _ _ i _ _ _ => x.length - (intOf i).toNat)
    case atStart => exact ⟨0, 0, [], Nat.zero_le _, rfl, rfl, by omega, Dig.nil, ⟨rfl, by simp [val]⟩, Own.nil _ _ _, Below.refl _ _⟩
    case round =>
      obtain ⟨k, b, cs, hk, rfl, rfl, hbb, hdc, hs, hown, hb⟩ := hrel
      by_cases hlt : k < x.length
      · have b1 := dig_getD hdx k
        have b2 := dig_getD hdy k
        have hcl : cs.length ≤ 1000000 := by have := hs.1; omega
        have HS := subIn_step hdx hdy hs hbb
        clear hs
        have hdc2 := hdc.append (Dig.cons (Nat.mod_lt (x.getD k 0 + 8589934592 - y.getD k 0 - b) (by omega)) Dig.nil)
        generalize hp1 : x.getD k 0 = p1 at *
        generalize hp2 : y.getD k 0 = p2 at *
        have P1 := Lib.hid hp1
        have P2 := Lib.hid hp2
        clear hp1 hp2
        have hat1 := at_any _ x k wr 0 w1.heap.size hdx (hn.below hb (Nat.le_refl _)) (by omega)
        rw [P1.out] at hat1
        have hat2 := at_any _ y k wr 0 w1.heap.size hdy (hn'.below hb (Nat.le_refl _)) (by omega)
        rw [P2.out] at hat2
        have T1 := Lib.hid hat1
        have T2 := Lib.hid hat2
        clear hat1 hat2
        by_cases hxy : p1 < p2 + b
        · rw [if_pos hxy] at HS
          have hI : (p1 : Int) < (p2 : Int) + (b : Int) := by omega
          go_wp2_with fail
          refine T1.out.mono ?_
          rintro e w2 ⟨rfl, rfl⟩
          go_wp2_with fail
          refine T2.out.mono ?_
          rintro e w2 ⟨rfl, rfl⟩
          go_wp2_with (at_builtin; refine wpList_append_limb rfl _ _ 23 rfl w1.heap.size 43 i0 Tryz.underlying23 hi hz0 hz1 hz2 _ cs rfl hown _ ((p1 + 8589934592 - p2 - b) % 4294967296) (congrArg (Value.int .u32) (by omega)) rfl hcl hb.size ?_)
          intro v' w3 hown1 hg1
          have hb1 := hb.trans hg1
          clear hown hg1 hb hcl T1 T2
          go_wp2
          go_roundw
          case rel => exact ⟨k + 1, 1, _, by omega, by go_num, rfl, by omega, hdc2, HS, hown1, hb1⟩
          case measure => simp [intOf]; omega
        · rw [if_neg hxy] at HS
          have hI : ¬ (p1 : Int) < (p2 : Int) + (b : Int) := by omega
          go_wp2_with fail
          refine T1.out.mono ?_
          rintro e w2 ⟨rfl, rfl⟩
          go_wp2_with fail
          refine T2.out.mono ?_
          rintro e w2 ⟨rfl, rfl⟩
          go_wp2_with (at_builtin; refine wpList_append_limb rfl _ _ 23 rfl w1.heap.size 43 i0 Tryz.underlying23 hi hz0 hz1 hz2 _ cs rfl hown _ ((p1 + 8589934592 - p2 - b) % 4294967296) (congrArg (Value.int .u32) (by omega)) rfl hcl hb.size ?_)
          intro v' w3 hown1 hg1
          have hb1 := hb.trans hg1
          clear hown hg1 hb hcl T1 T2
          go_wp2
          go_roundw
          case rel => exact ⟨k + 1, 0, _, by omega, by go_num, rfl, by omega, hdc2, HS, hown1, hb1⟩
          case measure => simp [intOf]; omega
      · obtain rfl : k = x.length := by omega
        have hv := subIn_end hdx hdc hs HLE.out
        have hcl : cs.length ≤ 1000000 := by have := hs.1; omega
        have V := Lib.hid hv
        have hr := hown.nt
        clear hs hv hown hi hz0 hz1 hz2
        go_wp2_with fail
        refine (refTrim_any _ cs _ hdc (hr.low (Nat.zero_le _)) hcl).mono ?_
        rintro e w2 ⟨v3, rfl, h3, hb3⟩
        rw [V.out] at h3
        go_wp2
        go_ret2
        exact ⟨_, rfl, h3.low (Nat.le_trans hb0.size hb.size), hb0.trans ((hb.trans (hb3.mono hb.size)).mono hb0.size)⟩
end Go.Proofs.YtobmjcbjailclaaGreatDoor
