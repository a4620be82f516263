/- The program's powers of ten and rounded units by their contracts. Condition: bounds on lengths. -/
import Derived.Test.YtobmjcbjailclaaGreatDoorPrRat
import Derived.Test.YtobmjcbjailclaaGreatDoorLimTen
import Derived.Test.YtobmjcbjailclaaGreatDoorOfs
import Derived.Test.YtobmjcbjailclaaGreatDoorAdds2
import Derived.Test.YtobmjcbjailclaaGreatDoorCmps
import Derived.Laws.BitsAllLaws
namespace Go.Proofs.YtobmjcbjailclaaGreatDoor
set_option maxRecDepth 100000
open Go.RowKit

theorem ten_len60 {k : Nat} (h : k ≤ 60) : (lim (10 ^ k)).length ≤ 61 := lim_ten (Nat.pow_lt_pow_right (by omega) (Nat.lt_succ_self k)) (by omega)

set_option maxHeartbeats 3200000 in
theorem ten_any (d : Nat) (w : World) (hd : d ≤ 60) : Calls Tryz.prog 29 #[.int .i64 (d : Int)] w (Gives (lim (10 ^ d)) w) := by
  go_enter Tryz.func29, Tryz.ntmps29
  go_wp2_with fail
  refine (of_any 1 _ (by omega)).mono ?_
  rintro e w1 ⟨v1, rfl, h1, hb1⟩
  go_wp2_with fail
  have l0 : lim 1 = lim (10 ^ 0) := rfl
  rw [l0] at h1
  clear l0
  go_loopw [3, 6] (fun a i wr => ∃ k : Nat, k ≤ d ∧ i = .int .i64 (k : Nat) ∧ Nt wr w.heap.size wr.heap.size a (lim (10 ^ k)) ∧ Below w.heap.size w wr)
    (fun _ i _ => d - (intOf i).toNat)
  case atStart => exact ⟨0, Nat.zero_le _, rfl, h1, hb1⟩
  case round =>
    obtain ⟨k, hk, rfl, ha, hb⟩ := hrel
    clear h1 hb1
    by_cases hlt : k < d
    · have hlI : (k : Int) < (d : Int) := by omega
      have hl := ten_len60 (Nat.le_of_lt (Nat.lt_of_lt_of_le hlt hd))
      have dk := dig_lim (10 ^ k)
      have dt := dig_lim 10
      have lt : (lim 10).length ≤ 1 := lim_length_le (by omega)
      have V := Lib.hid (val_lim (10 ^ k))
      have V2 := Lib.hid (val_lim 10)
      have P : Hid (10 ^ k * 10 = 10 ^ (k + 1)) := (Nat.pow_succ ..).symm
      go_wp2_with fail
      refine (of_any 10 _ (by omega)).mono ?_
      rintro e w2 ⟨v2, rfl, h2, hb2⟩
      have ha2 := (ha.low (Nat.zero_le _)).after hb2
      have h2' := h2.low (Nat.zero_le _)
      have hb02 := hb.trans (hb2.mono hb.size)
      clear ha h2 hb hb2
      go_wp2_with fail
      refine (mul_any _ _ (lim (10 ^ k)) (lim 10) _ dk dt ha2 h2' (by omega) (by omega)).mono ?_
      rw [V.out, V2.out, P.out]
      rintro e w4 ⟨v4, rfl, h4, hb4⟩
      have h4' := h4.low hb02.size
      have hb04 := hb02.trans (hb4.mono hb02.size)
      clear h4 hb4 ha2 h2' hb02
      go_wp2_with fail
      go_roundw
      case rel => exact ⟨k + 1, by omega, by go_num, h4', hb04⟩
      case measure => simp [intOf]; omega
    · obtain rfl : k = d := by omega
      go_wp2_with fail
      go_ret
      exact ⟨_, rfl, ha, hb⟩

/-- A number held between 0 and 60. -/
def hold60 (d : Int) : Int := min (max d 0) 60
theorem hold60_range (d : Int) : 0 ≤ hold60 d ∧ hold60 d ≤ 60 := by unfold hold60; omega

theorem dheld_any (d : Int) (w : World) : Calls Tryz.prog 77 #[.int .i64 d] w fun e w' => e = .returned (.int .i64 (hold60 d)) ∧ w = w' := by
  by_cases h1 : d < 0
  · have e : hold60 d = 0 := by unfold hold60; omega
    rw [e]
    have h2 : ¬ 0 ≤ d := by omega
    have h3 : d ≤ 0 := by omega
    go_enter Tryz.func77, Tryz.ntmps77
    go_wp2
    go_ret
    exact ⟨rfl, rfl⟩
  · have h2 : 0 ≤ d := by omega
    by_cases h3 : d ≤ 60
    · have e : hold60 d = d := by unfold hold60; omega
      rw [e]
      have h4 : ¬ 60 < d := by omega
      go_enter Tryz.func77, Tryz.ntmps77
      go_wp2
      go_ret
      exact ⟨rfl, rfl⟩
    · have e : hold60 d = 60 := by unfold hold60; omega
      rw [e]
      have h4 : 60 < d := by omega
      go_enter Tryz.func77, Tryz.ntmps77
      go_wp2
      go_ret
      exact ⟨rfl, rfl⟩

/-- A number of units, to the even one at halves. -/
def rhe (x d : Nat) : Nat := if d < 2 * (x % d) ∨ (2 * (x % d) = d ∧ x / d % 2 = 1) then x / d + 1 else x / d

theorem lim_head {Q : Nat} (h : Q ≠ 0) : ∃ y r, lim Q = y :: r ∧ y % 2 = Q % 2 ∧ y < 4294967296 := by
  refine ⟨_, _, lim_pos h, ?_, ?_⟩ <;> omega

set_option maxHeartbeats 3200000 in
theorem units_any (v : Value) (s : Bool) (n d : List Nat) (k : Nat) (w : World) (dn : Dig n) (dd : Dig d) (h : Rt w 0 w.heap.size v s n d) (ln : n.length ≤ 1000) (ld : d.length ≤ 1000) (hk : k ≤ 60) (hd0 : val d ≠ 0) :
    Calls Tryz.prog 82 #[v, .int .i64 (k : Int)] w (Gives (lim (rhe (val n * 10 ^ k) (val d))) w) := by
  obtain ⟨vn, vd, rfl, hn, hd⟩ := h
  have dt := dig_lim (10 ^ k)
  have lt := ten_len60 hk
  have dx := dig_lim (val n * val (lim (10 ^ k)))
  have lx : (lim (val n * val (lim (10 ^ k)))).length ≤ 1061 := lim_mul_len dn dt rfl rfl ln lt
  obtain ⟨X, hX⟩ : ∃ X, val n * 10 ^ k = X := ⟨_, rfl⟩
  have VX : Hid (val (lim (val n * val (lim (10 ^ k)))) = X) := by show _ = _; rw [val_lim, val_lim, hX]
  obtain ⟨Q, hQ⟩ : ∃ Q, X / val d = Q := ⟨_, rfl⟩
  obtain ⟨R, hR⟩ : ∃ R, X % val d = R := ⟨_, rfl⟩
  have GR : Hid (remN X (val d) = R) := by show _ = _; unfold remN; rw [if_neg hd0, hR]
  have HQ := Lib.hid hQ
  rw [hX]
  have hrl : R < val d := by rw [← hR]; exact Nat.mod_lt _ (by omega)
  have HU : Hid (rhe X (val d) = if val d < 2 * R ∨ (2 * R = val d ∧ Q % 2 = 1) then Q + 1 else Q) := by show _ = _; unfold rhe; rw [hQ, hR]
  obtain ⟨U, hU⟩ : ∃ U, rhe X (val d) = U := ⟨_, rfl⟩
  rw [hU] at HU ⊢
  have lQ : (lim Q).length ≤ 2000 := by rw [← hQ]; exact Nat.le_trans (lim_len_mono (Nat.div_le_self _ _)) (by have := VX.out; rw [val_lim] at this; rw [← this]; omega)
  have lR : (lim R).length ≤ 1000 := Nat.le_trans (lim_len_mono (Nat.le_of_lt hrl)) (Nat.le_trans (lim_val_length d dd) ld)
  have dR := dig_lim R
  have VR := Lib.hid (val_lim R)
  have HSH : Hid (val (lim (shiftN R 1)) = 2 * R) := by
    show _ = _
    rw [val_lim]
    have : held12 1 = 1 := by decide
    unfold shiftN
    rw [this]
    show (if (1 : Int) < 0 then _ else _) = _
    rw [if_neg (by omega), show ((1 : Int)).toNat = 1 from rfl, Nat.pow_one, Nat.mul_comm]
  have dS := dig_lim (shiftN R 1)
  have lS : (lim (shiftN R 1)).length ≤ 2000 := by
    have h2 : shiftN R 1 = R * 2 := by have := HSH.out; rw [val_lim] at this; omega
    rw [h2]
    exact Nat.le_trans (lim_mul_len (x := lim R) (y := lim 2) (dig_lim _) (dig_lim _) (val_lim _).symm (val_lim _).symm lR (lim_length_le (by omega) : (lim 2).length ≤ 1)) (by omega)
  have hten := fun w => ten_any k w hk
  have HTEN := Lib.hid hten
  clear hten hQ hR hX hU
  go_enter Tryz.func82, Tryz.ntmps82
  go_wp2_with fail
  have b0 := Blk.new w 25 #[.bool s, vn, vd]
  have hB : Below w.heap.size w (w.alloc (.cells #[.bool s, vn, vd] 25)) := (Below.refl _ _).alloc (Nat.le_refl _) _
  generalize w.alloc (.cells #[.bool s, vn, vd] 25) = w2 at *
  replace hn := (hn.below hB (Nat.le_refl _)).up hB.size
  replace hd := (hd.below hB (Nat.le_refl _)).up hB.size
  have hg := b0.lt
  have cc1 := b0.cell 1
  have cc2 := b0.cell 2
  go_region_held3 (fun W => Below w2.heap.size w2 W ∧ W.cell? ⟨w.heap.size, 1, none⟩ = some vn ∧ W.cell? ⟨w.heap.size, 2, none⟩ = some vd)
    (first | assumption | exact keep2 (by assumption) (by assumption) hg | exact ⟨(Below.refl _ _).drew, cc1, cc2⟩)
    (first
      | (go_at_call 29; refine (HTEN.out _).mono ?_; rintro e w3 ⟨v3, rfl, h3, hb3⟩; have hbb3 := hb3; have hk3 : Below w2.heap.size w2 w3 := Below.trans (Below.drew (Below.refl _ _)) hb3)
      | (go_at_call 72; refine (mul_any vn v3 n (lim (10 ^ k)) _ dn dt (hn.after hk3) (h3.low (Nat.zero_le _)) (by omega) (by omega)).mono ?_; rintro e w4 ⟨v4, rfl, h4, hb4⟩; have hbb4 := hb4; have hk4 : Below w2.heap.size w2 w4 := hk3.trans (hb4.mono hk3.size))
      | (go_at_call 75; refine (div_any v4 vd (lim (val n * val (lim (10 ^ k)))) d _ dx dd (h4.low (Nat.zero_le _)) (hd.after hk4) (by omega) (by omega)).mono ?_; rintro e w5 ⟨v5, z5, rfl, h5, h5', hb5⟩; have hbb5 := hb5; have hk5 : Below w2.heap.size w2 w5 := hk4.trans (hb5.mono hk4.size))
      | fail)
  rw [VX.out, HQ.out] at h5
  rw [VX.out, GR.out] at h5'
  replace h5 := h5.low (show w2.heap.size ≤ _ from hk4.size)
  replace h5' := h5'.low (show w2.heap.size ≤ _ from hk4.size)
  have q0 := b0.below hk5 hg
  replace hd := hd.after hk5
  replace hB := hB.trans (hk5.mono hB.size)
  have hg5 : w.heap.size < w5.heap.size := q0.lt
  have cd1 := q0.cell 1
  have cd2 := q0.cell 2
  have hsz : w.heap.size ≤ w2.heap.size := Nat.le_of_lt hg
  clear hn h3 hb3 hbb3 hk3 h4 hb4 hbb4 hk4 hb5 hbb5 hk5 cc1 cc2 b0 dx lx dt lt
  go_wp2_with fail
  go_region_held3 (fun W => Below w5.heap.size w5 W ∧ W.cell? ⟨w.heap.size, 1, none⟩ = some vn ∧ W.cell? ⟨w.heap.size, 2, none⟩ = some vd)
    (first | assumption | exact keep2 (by assumption) (by assumption) hg5 | exact ⟨(Below.refl _ _).drew, cd1, cd2⟩)
    (first
      | (go_at_call 117; refine (shift_any z5 (lim R) 1 _ dR (h5'.drew.low (Nat.zero_le _)) (by omega)).mono ?_; rintro e w6 ⟨v6, rfl, h6, hb6⟩; have hbb6 := hb6; have hk6 : Below w5.heap.size w5 w6 := Below.trans (Below.drew (Below.refl _ _)) hb6)
      | (go_at_call 90; refine (cmp_any v6 vd (lim (shiftN (val (lim R)) 1)) d _ (dig_lim _) dd (h6.low (Nat.zero_le _)) (hd.after hk6) (by rw [VR.out]; omega) (by omega)).mono ?_; rintro e w7 ⟨rfl, hb7⟩; have hbb7 := hb7; have hk7 : Below w5.heap.size w5 w7 := hk6.trans (hb7.mono hk6.size))
      | fail)
  have HCM : Hid (cmpN (val (lim (shiftN (val (lim R)) 1))) (val d) = cmpN (2 * R) (val d)) := by
    show _ = _
    rw [VR.out, HSH.out]
  rw [HCM.out]
  replace h5 := h5.after hk7
  replace hB := hB.trans (hk7.mono hB.size)
  have hw7 : w.heap.size ≤ w7.heap.size := hB.size
  clear h6 hb6 hbb6 hk6 hb7 hbb7 hk7 q0 hd cd1 cd2 hg5 h5' dR lR VR HSH dS lS GR HCM hrl
  by_cases c1 : val d < 2 * R
  · rw [cmpN_gt c1]
    have hU : U = Q + 1 := by rw [HU.out, if_pos (Or.inl c1)]
    have HUU := Lib.hid hU
    clear c1 HU hU
    go_wp2_with fail
    refine (of_any 1 w7 (by omega)).mono ?_
    rintro e w8 ⟨v8, rfl, h8, hb⟩
    replace h5 := (h5.low (Nat.zero_le _)).after hb
    replace h8 := h8.low (Nat.zero_le _)
    replace hB := hB.trans (hb.mono hB.size)
    clear hb
    go_wp2_with fail
    refine (add_any _ _ (lim Q) (lim 1) w8 (dig_lim _) (dig_lim _) h5 h8 (by omega) (lim_length_le (by omega))).mono ?_
    rw [val_lim, val_lim]
    rintro e w9 ⟨v9, rfl, h9, hb⟩
    replace h9 := h9.low hB.size
    replace hB := hB.trans (hb.mono hB.size)
    clear hb h5 h8
    go_wp2_with fail
    go_ret
    exact ⟨_, rfl, by rw [HUU.out]; exact h9, hB⟩
  · by_cases c2 : 2 * R = val d
    · rw [cmpN_eq c2]
      by_cases c3 : Q = 0
      · have hU : U = 0 := by rw [HU.out, if_neg (by omega), c3]
        have HUU := Lib.hid hU
        rw [c3, lim_zero] at h5
        have h50 := h5
        obtain ⟨A5, c5, rfl, m5⟩ := nt_len h50
        have L0 := Lib.hid lim_zero
        clear c1 c2 HU hU c3 h50
        go_wp2_with fail
        go_ret
        exact ⟨_, rfl, by rw [HUU.out, L0.out]; exact h5.low hsz, hB⟩
      · obtain ⟨y, r, hy, hym, hyl⟩ := lim_head c3
        have h50 := h5
        rw [hy] at h50
        obtain ⟨A5, c5, hv5, hc5, m5, _, hx5⟩ := h50
        obtain ⟨b5, o5, rfl, _, _, hcell⟩ := hx5 (by simp)
        have hce := hcell 0 (by simp)
        rw [Nat.add_zero, List.getElem_cons_zero] at hce
        have hln : (lim Q).length = r.length + 1 := by rw [hy]; rfl
        subst hv5
        have hle : (y :: r).length = r.length + 1 := rfl
        obtain ⟨L, hL⟩ : ∃ L, r.length + 1 = L := ⟨_, rfl⟩
        rw [hle, hL] at h5 hc5 ⊢
        have hLp : (0 : Int) < (L : Int) := by omega
        have hand : bits .and .u32 (y : Int) 1 = ((Q % 2 : Nat) : Int) := by
          rw [← hym, ← Nat.and_one_is_mod]
          exact u32_and_nat y 1 hyl (by omega)
        by_cases c4 : Q % 2 = 1
        · have hU : U = Q + 1 := by rw [HU.out, if_pos (Or.inr ⟨c2, c4⟩)]
          have HUU := Lib.hid hU
          rw [c4] at hand
          replace hand : bits .and .u32 (y : Int) 1 = 1 := hand
          clear c1 c2 HU hU c3 c4 hx5 hcell hy hym hyl hln hle hL
          go_wp2_with fail
          refine (of_any 1 w7 (by omega)).mono ?_
          rintro e w8 ⟨v8, rfl, h8, hb⟩
          replace h5 := (h5.low (Nat.zero_le _)).after hb
          replace h8 := h8.low (Nat.zero_le _)
          replace hB := hB.trans (hb.mono hB.size)
          clear hb
          go_wp2_with fail
          refine (add_any _ _ (lim Q) (lim 1) w8 (dig_lim _) (dig_lim _) h5 h8 (by omega) (lim_length_le (by omega))).mono ?_
          rw [val_lim, val_lim]
          rintro e w9 ⟨v9, rfl, h9, hb⟩
          replace h9 := h9.low hB.size
          replace hB := hB.trans (hb.mono hB.size)
          clear hb h5 h8
          go_wp2_with fail
          go_ret
          exact ⟨_, rfl, by rw [HUU.out]; exact h9, hB⟩
        · have hU : U = Q := by rw [HU.out, if_neg (by omega)]
          have HUU := Lib.hid hU
          have c5' : Q % 2 = 0 := by omega
          rw [c5'] at hand
          replace hand : bits .and .u32 (y : Int) 1 = 0 := hand
          clear c1 c2 HU hU c3 c4 hx5 hcell hy hym hyl hln hle hL c5'
          go_wp2_with fail
          go_ret
          exact ⟨_, rfl, by rw [HUU.out]; exact h5.low hsz, hB⟩
    · have c6 : 2 * R < val d := by omega
      rw [cmpN_lt c6]
      have hU : U = Q := by rw [HU.out, if_neg (by omega)]
      have HUU := Lib.hid hU
      clear c1 c2 HU hU c6
      go_wp2_with fail
      go_ret
      exact ⟨_, rfl, by rw [HUU.out]; exact h5.low hsz, hB⟩
end Go.Proofs.YtobmjcbjailclaaGreatDoor
