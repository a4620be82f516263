/- Several texts in one: RefLong, RefGcd. Condition: each says its own. -/
import Derived.Test.YtchokmhfgikglaaGreatDoorPk1
import Derived.Test.YtchokmhfgikglaaGreatDoorPk4
import Derived.Test.YtchokmhfgikglaaGreatDoorPk5
namespace Go.Proofs.YtchokmhfgikglaaGreatDoor
set_option maxRecDepth 100000
open Go.RowKit

set_option maxHeartbeats 3200000 in
theorem refDivLong_ff (u v : Value) (a b : List Nat) (w : World) (da : Dig a) (db : Dig b) (ha : Nt w 0 w.heap.size u a) (hb_ : Nt w 0 w.heap.size v b) (la : a.length ≤ 1000) (lb : b.length ≤ 1000) (h0 : val b ≠ 0)
    (hoa : decide (val a < 18446744073709551616) = false) (hob : decide (val b < 18446744073709551616) = false) :
    Calls Tryz.prog 96 #[u, v] w (GivesD (lim (val a / val b)) (lim (remN (val a) (val b))) (decide (val b ≠ 0)) w) := by
  have e2 : remN (val a) (val b) = val a % val b := by unfold remN; rw [if_neg h0]
  have e3 : decide (val b ≠ 0) = true := decide_eq_true h0
  have e4 : (lim (val b)).length ≠ 0 := fun h => h0 (lim_eq_nil.1 (List.eq_nil_of_length_eq_zero h))
  rw [e2, e3]
  have E4 := Lib.hid e4
  have B0 : Hid (0 < val b) := by show 0 < val b; omega
  obtain ⟨xa, hxa⟩ : ∃ z, toN (val a) = z := ⟨_, rfl⟩
  obtain ⟨xb, hxb⟩ : ∃ z, toN (val b) = z := ⟨_, rfl⟩
  have XA := Lib.hid hxa
  have XB := Lib.hid hxb
  have OA := Lib.hid hoa
  have OB := Lib.hid hob
  clear e2 e3 e4 hxa hxb hoa hob h0
  have hmk := make_limbs a.length (a.length : Int) rfl (by omega)
  obtain ⟨A1, c1, rfl, m1⟩ := nt_len2 ha
  go_enter Tryz.func96, Tryz.ntmps96
  have hB : Below w.heap.size w w := Below.refl _ _
  go_wp2_with fail
  refine (refTrim_any _ b _ db hb_ (by omega)).mono ?_
  rintro e w1 ⟨v1, rfl, h3', hb⟩
  obtain ⟨A, c, rfl, hc, hm, _, hx⟩ := h3'
  have hne : ¬ (lim (val b)).length = 0 := E4.out
  replace ha := ha.after hb
  replace hb_ := hb_.after hb
  replace hB := hB.trans (hb.mono hB.size)
  clear hb hx
  go_wp2_with fail
  refine (refTo_any _ a _ da ha (by omega)).mono ?_
  rintro e w2 ⟨rfl, hb⟩
  rw [XA.out, OA.out]
  replace ha := ha.after hb
  replace hb_ := hb_.after hb
  replace hB := hB.trans (hb.mono hB.size)
  clear hb
  go_wp2_with fail
  refine (refTo_any _ b _ db hb_ (by omega)).mono ?_
  rintro e w3 ⟨rfl, hb⟩
  rw [XB.out, OB.out]
  replace ha := ha.after hb
  replace hb_ := hb_.after hb
  replace hB := hB.trans (hb.mono hB.size)
  clear hb
  generalize lim (val b) = lbz at *
  have i0a : (0 : Int) ≤ 32 * (a.length : Int) := by omega
  go_wp2_with fail
  have hBk := Lb.made w3 122 a.length
  have hbk0 : Below w3.heap.size w3 (w3.alloc (.cells (madeCells #[.int .u32 0] a.length) 122)) := (Below.refl _ _).alloc (Nat.le_refl _) _
  generalize w3.alloc (.cells (madeCells #[.int .u32 0] a.length) 122) = w4 at *
  have hst : Hid (BitAt (val a) (val (List.replicate a.length 0)) 0 (val b) (32 * a.length)) := by
    show BitAt _ _ _ _ _
    rw [val_zeros]
    refine bitAt_start _ ?_
    rw [← base_pow]
    exact val_lt da
  clear hmk
  go_loopw [14, 15] (fun r i wr => ∃ (k vr : Nat) (cs : List Nat), k ≤ 32 * a.length ∧ i = .int .i64 ((k : Int) - 1) ∧ Nt wr (w3.heap.size + 1) wr.heap.size r (lim vr) ∧ Dig cs ∧ Hid (cs.length = a.length) ∧ Hid (BitAt (val a) (val cs) vr (val b) k) ∧ Lb wr w3.heap.size 122 cs ∧ Below w3.heap.size w3 wr)
    (fun _ i _ => (intOf i + 1).toNat)
  case atStart => exact ⟨32 * a.length, 0, _, Nat.le_refl _, by go_num, by rw [lim_zero]; exact Nt.nil _ _ _, dig_zeros _, List.length_replicate, hst, hBk, hbk0⟩
  case round =>
    obtain ⟨k, vr, cs, hk, rfl, hr0, hdc, HL, HS, hB1, hb1⟩ := hrel
    have hr := hr0.low (Nat.zero_le _)
    have hgr := hB1.lt
    clear hr0
    by_cases hlt : 0 < k
    · obtain ⟨j, rfl⟩ : ∃ j, k = j + 1 := ⟨k - 1, by omega⟩
      have hi1 : ((j + 1 : Nat) : Int) - 1 = (j : Int) := by omega
      rw [hi1]
      have hj0 : (0 : Int) ≤ (j : Int) := by omega
      have hlr : (lim vr).length ≤ 1000 := by
        refine Nat.le_trans (lim_length_le (k := b.length) ?_) lb
        have e := HS.out.1
        have := Nat.mod_lt (val a / 2 ^ (j + 1)) B0.out
        have := val_lt db
        omega
      have hdr := dig_lim vr
      have vlr := Lib.hid (val_lim vr)
      have S1 : Hid (shiftN (val (lim vr)) 1 = vr * 2) := by
        show _ = _
        rw [val_lim]
        rfl
      clear hi1 hst
      go_wp2_with fail
      refine (refShift_any _ (lim vr) 1 _ hdr hr (by omega)).mono ?_
      rintro e w5 ⟨v5, rfl, h5, hb5⟩
      rw [S1.out] at h5
      obtain ⟨kk, hkk⟩ : ∃ z, j / 32 = z := ⟨_, rfl⟩
      obtain ⟨s, hss⟩ : ∃ z, j % 32 = z := ⟨_, rfl⟩
      have l1 : (j : Int) / 32 = (kk : Int) := by omega
      have l2 : (j : Int) % 32 = (s : Int) := by omega
      have hkl : kk < a.length := by omega
      have hs31 : s ≤ 31 := by omega
      have hjk : Hid (j = 32 * kk + s) := by show _ = _; omega
      have hb15 := hb1.trans (hb5.mono hb1.size)
      have hna := ha.below hb15 (Nat.le_refl _)
      obtain ⟨A9, c9, he9, _, hm9, _, hx9⟩ := hna
      obtain ⟨ba, oa, rfl, _, hba, hcella⟩ := hx9 (by omega)
      cases he9
      have hca := hcella kk hkl
      have hkI : (kk : Int) < (a.length : Int) := by omega
      have b1 := da.at hkl
      have hbit := bit_of a da kk s hs31
      rw [getD_in0 hkl, ← hjk.out] at hbit
      clear hcella hx9 hkk hss
      generalize a[kk] = y at *
      have hyd : (y : Int) / 2 ^ s = ((y / 2 ^ s : Nat) : Int) := by rw [Int.natCast_ediv, Int.natCast_pow]; rfl
      have hy2 : y / 2 ^ s < 4294967296 := Nat.lt_of_le_of_lt (Nat.div_le_self _ _) b1
      have hand : bits BinOp.and IntKind.u32 ((y : Int) / 2 ^ s) 1 = ((y / 2 ^ s % 2 : Nat) : Int) := by
        rw [hyd]
        have e := u32_and_nat (y / 2 ^ s) 1 hy2 (by omega)
        rw [Nat.and_one_is_mod] at e
        exact e
      clear hyd
      obtain ⟨c0, hc0⟩ : ∃ z, y / 2 ^ s % 2 = z := ⟨_, rfl⟩
      rw [hc0] at hand hbit
      have hstep := bitAt_step B0.out hbit.symm HS.out
      have hcc : c0 ≤ 1 := by omega
      have hl1 : (lim (vr * 2 + 1)).length ≤ 1001 := by
        refine Nat.le_trans (lim_length_le (k := b.length + 1) ?_) (by omega)
        have e := HS.out.1
        have := Nat.mod_lt (val a / 2 ^ (j + 1)) B0.out
        have := val_lt db
        rw [Nat.pow_succ]
        omega
      have hl0 : (lim (vr * 2)).length ≤ 1001 := by
        refine Nat.le_trans (lim_length_le (k := b.length + 1) ?_) (by omega)
        have e := HS.out.1
        have := Nat.mod_lt (val a / 2 ^ (j + 1)) B0.out
        have := val_lt db
        rw [Nat.pow_succ]
        omega
      have HSTEP := Lib.hid hstep
      clear hstep hbit hc0 hy2
      by_cases hc1 : c0 = 1
      · subst hc1
        obtain ⟨h1l, hb6⟩ := nt_laid w5 122 [1] (by simp)
        have ev : (lv [1]).toArray = #[Value.int .u32 1] := rfl
        rw [ev] at h1l hb6
        have h5' := (h5.low (Nat.zero_le _)).after hb6
        have hadd := refAdd_any _ _ _ _ _ (dig_lim (vr * 2)) (dig_one (by omega : 1 < 4294967296)) h5' h1l (by omega) (by simp)
        have ea : val (lim (vr * 2)) + val [1] = vr * 2 + 1 := by rw [val_lim]; simp [val]
        rw [ea] at hadd
        have HADD := Lib.hid hadd
        clear hadd ea ev h5' h1l
        go_wp2_with fail
        refine HADD.out.mono ?_
        rintro e w7 ⟨v7, rfl, h7, hb7⟩
        have hb17 := hb15.trans ((hb6.trans (hb7.mono hb6.size)).mono hb15.size)
        have hbw := (hb_.below hb17 (Nat.le_refl _)).up hb17.size
        have h7' := h7.low (Nat.zero_le _)
        have hbR := (hb5.trans ((hb6.trans (hb7.mono hb6.size)).mono hb5.size))
        have HR : Nt w7 (w3.heap.size + 1) w7.heap.size v7 (lim (vr * 2 + 1)) := h7.low (Nat.le_trans hgr (Nat.le_trans hb5.size hb6.size))
        clear HADD hb6 hb7 h7 h5
        have hcmp := refCmp_any _ _ (lim (vr * 2 + 1)) b _ (dig_lim _) db h7' hbw (by omega) (by omega)
        rw [val_lim] at hcmp
        have HCMP := Lib.hid hcmp
        clear hcmp
        by_cases hle : val b ≤ vr * 2 + 1
        · have hcz : 0 ≤ cmpN (vr * 2 + 1) (val b) := by
            have := cmpN_neg (m := vr * 2 + 1) (n := val b)
            omega
          generalize cmpN (vr * 2 + 1) (val b) = cz at *
          go_wp2_with fail
          refine HCMP.out.mono ?_
          rintro e w8 ⟨rfl, hb8⟩
          have hbw8 := hbw.after hb8
          have h78 := h7'.after hb8
          have hsub := refSub_any _ _ (lim (vr * 2 + 1)) b _ (dig_lim _) db h78 hbw8 (by omega) (by omega)
          rw [val_lim] at hsub
          have HSUB := Lib.hid hsub
          clear hsub
          go_wp2_with fail
          refine HSUB.out.mono ?_
          rintro e w9 ⟨v9, rfl, h9, hb9⟩
          have hr8 := hbR.trans (hb8.mono hbR.size)
          have hr9 := hr8.trans (hb9.mono hr8.size)
          have hB9 := hB1.below hr9 hgr
          have hb19 := hb1.trans (hr9.mono hb1.size)
          have hkn : kk < cs.length := by rw [HL.out]; exact hkl
          have hvY := HS.out.2
          rw [hjk.out] at hvY
          have hset := bit_set hdc hkn hs31 hvY
          rw [← hjk.out] at hset
          have hst2 := (HSTEP.out.1 hle)
          rw [← hset.1] at hst2
          rw [getD_in0 hkn] at hset hst2
          have hcc := hB9.cell kk hkn
          have hclt := hdc.at hkn
          have hfr := hB9.free kk
          have h9' : Nt w9 (w3.heap.size + 1) w9.heap.size v9 (lim (vr * 2 + 1 - val b)) := h9.low (Nat.le_trans hgr hr8.size)
          obtain ⟨p, hp⟩ : ∃ p : Nat, 2 ^ s = p := ⟨_, rfl⟩
          have hpl : p < 4294967296 := by
            rw [← hp]
            exact Nat.lt_of_le_of_lt (Nat.pow_le_pow_right (by omega) hs31) (by decide)
          have hpI : (2 : Int) ^ s = (p : Int) := by rw [← hp]; exact (Int.natCast_pow 2 s).symm
          have hw1 : IntKind.wrap .u32 ((2 : Int) ^ s) = (p : Int) := by
            rw [hpI]
            exact IntWalk.u32_in _ (by omega)
          rw [hp] at hset hst2
          have hor := u32_or_nat cs[kk] p hclt hpl
          have HST2 := Lib.hid hst2
          have hd9 := hdc.set kk _ hset.2
          have HL9 : Hid ((cs.set kk (cs[kk] ||| p)).length = a.length) := by show _ = _; rw [List.length_set]; exact HL.out
          have hB10 := hB9.put kk (cs[kk] ||| p)
          have hb10 : Below w3.heap.size w3 (w9.setCell ⟨w3.heap.size, kk, none⟩ (.int .u32 ((cs[kk] ||| p : Nat) : Int))) := hb19.setCell (Nat.le_refl _) _
          have h10 : Nt (w9.setCell ⟨w3.heap.size, kk, none⟩ (.int .u32 ((cs[kk] ||| p : Nat) : Int))) (w3.heap.size + 1) (w9.setCell ⟨w3.heap.size, kk, none⟩ (.int .u32 ((cs[kk] ||| p : Nat) : Int))).heap.size v9 (lim (vr * 2 + 1 - val b)) := h9'.stay (Nat.le_refl _) (by simp [World.setCell]) fun q hq _ => World.cell?_setCell_far _ _ _ _ (by
            show w3.heap.size ≠ q.block
            skip
            omega)
          generalize cs.set kk (cs[kk] ||| p) = c9 at *
          generalize cs[kk] ||| p = g9 at *
          generalize cs[kk] = x9 at *
          clear hst2 hset hvY hpI hp HL HS hB1 hb1 hr8 hr9 hB9 h9 h9' hb19 hdc HSUB HCMP HSTEP hbw8 h78
          go_wp2_with fail
          refine ⟨⟨j, vr * 2 + 1 - val b, c9, by omega, rfl, h10, hd9, HL9, HST2, hB10, hb10⟩, ?_⟩
          show ((j : Int) - 1 + 1).toNat < ((j : Int) + 1).toNat
          omega
        · have hcz : ¬ 0 ≤ cmpN (vr * 2 + 1) (val b) := by
            have := cmpN_neg (m := vr * 2 + 1) (n := val b)
            omega
          generalize cmpN (vr * 2 + 1) (val b) = cz at *
          go_wp2_with fail
          refine HCMP.out.mono ?_
          rintro e w8 ⟨rfl, hb8⟩
          have hr8 := hbR.trans (hb8.mono hbR.size)
          go_wp2_with fail
          refine ⟨⟨j, vr * 2 + 1, cs, by omega, rfl, HR.after hb8, hdc, HL, Lib.hid (HSTEP.out.2 (by omega)), hB1.below hr8 hgr, hb1.trans (hr8.mono hb1.size)⟩, ?_⟩
          show ((j : Int) - 1 + 1).toNat < ((j : Int) + 1).toNat
          omega
      · obtain rfl : c0 = 0 := by omega
        have hbw := (hb_.below hb15 (Nat.le_refl _)).up hb15.size
        have h5' := h5.low (Nat.zero_le _)
        have hbR := hb5
        have HR : Nt w5 (w3.heap.size + 1) w5.heap.size v5 (lim (vr * 2)) := h5.low hgr
        clear h5
        have hcmp := refCmp_any _ _ (lim (vr * 2)) b _ (dig_lim _) db h5' hbw (by omega) (by omega)
        rw [val_lim] at hcmp
        have HCMP := Lib.hid hcmp
        clear hcmp
        by_cases hle : val b ≤ vr * 2
        · have hcz : 0 ≤ cmpN (vr * 2) (val b) := by
            have := cmpN_neg (m := vr * 2) (n := val b)
            omega
          generalize cmpN (vr * 2) (val b) = cz at *
          go_wp2_with fail
          refine HCMP.out.mono ?_
          rintro e w8 ⟨rfl, hb8⟩
          have hbw8 := hbw.after hb8
          have h78 := h5'.after hb8
          have hsub := refSub_any _ _ (lim (vr * 2)) b _ (dig_lim _) db h78 hbw8 (by omega) (by omega)
          rw [val_lim] at hsub
          have HSUB := Lib.hid hsub
          clear hsub
          go_wp2_with fail
          refine HSUB.out.mono ?_
          rintro e w9 ⟨v9, rfl, h9, hb9⟩
          have hr8 := hbR.trans (hb8.mono hbR.size)
          have hr9 := hr8.trans (hb9.mono hr8.size)
          have hB9 := hB1.below hr9 hgr
          have hb19 := hb1.trans (hr9.mono hb1.size)
          have hkn : kk < cs.length := by rw [HL.out]; exact hkl
          have hvY := HS.out.2
          rw [hjk.out] at hvY
          have hset := bit_set hdc hkn hs31 hvY
          rw [← hjk.out] at hset
          have hst2 := (HSTEP.out.1 hle)
          rw [← hset.1] at hst2
          rw [getD_in0 hkn] at hset hst2
          have hcc := hB9.cell kk hkn
          have hclt := hdc.at hkn
          have hfr := hB9.free kk
          have h9' : Nt w9 (w3.heap.size + 1) w9.heap.size v9 (lim (vr * 2 - val b)) := h9.low (Nat.le_trans hgr hr8.size)
          obtain ⟨p, hp⟩ : ∃ p : Nat, 2 ^ s = p := ⟨_, rfl⟩
          have hpl : p < 4294967296 := by
            rw [← hp]
            exact Nat.lt_of_le_of_lt (Nat.pow_le_pow_right (by omega) hs31) (by decide)
          have hpI : (2 : Int) ^ s = (p : Int) := by rw [← hp]; exact (Int.natCast_pow 2 s).symm
          have hw1 : IntKind.wrap .u32 ((2 : Int) ^ s) = (p : Int) := by
            rw [hpI]
            exact IntWalk.u32_in _ (by omega)
          rw [hp] at hset hst2
          have hor := u32_or_nat cs[kk] p hclt hpl
          have HST2 := Lib.hid hst2
          have hd9 := hdc.set kk _ hset.2
          have HL9 : Hid ((cs.set kk (cs[kk] ||| p)).length = a.length) := by show _ = _; rw [List.length_set]; exact HL.out
          have hB10 := hB9.put kk (cs[kk] ||| p)
          have hb10 : Below w3.heap.size w3 (w9.setCell ⟨w3.heap.size, kk, none⟩ (.int .u32 ((cs[kk] ||| p : Nat) : Int))) := hb19.setCell (Nat.le_refl _) _
          have h10 : Nt (w9.setCell ⟨w3.heap.size, kk, none⟩ (.int .u32 ((cs[kk] ||| p : Nat) : Int))) (w3.heap.size + 1) (w9.setCell ⟨w3.heap.size, kk, none⟩ (.int .u32 ((cs[kk] ||| p : Nat) : Int))).heap.size v9 (lim (vr * 2 - val b)) := h9'.stay (Nat.le_refl _) (by simp [World.setCell]) fun q hq _ => World.cell?_setCell_far _ _ _ _ (by
            show w3.heap.size ≠ q.block
            skip
            omega)
          generalize cs.set kk (cs[kk] ||| p) = c9 at *
          generalize cs[kk] ||| p = g9 at *
          generalize cs[kk] = x9 at *
          clear hst2 hset hvY hpI hp HL HS hB1 hb1 hr8 hr9 hB9 h9 h9' hb19 hdc HSUB HCMP HSTEP hbw8 h78
          go_wp2_with fail
          refine ⟨⟨j, vr * 2 - val b, c9, by omega, rfl, h10, hd9, HL9, HST2, hB10, hb10⟩, ?_⟩
          show ((j : Int) - 1 + 1).toNat < ((j : Int) + 1).toNat
          omega
        · have hcz : ¬ 0 ≤ cmpN (vr * 2) (val b) := by
            have := cmpN_neg (m := vr * 2) (n := val b)
            omega
          generalize cmpN (vr * 2) (val b) = cz at *
          go_wp2_with fail
          refine HCMP.out.mono ?_
          rintro e w8 ⟨rfl, hb8⟩
          have hr8 := hbR.trans (hb8.mono hbR.size)
          go_wp2_with fail
          refine ⟨⟨j, vr * 2, cs, by omega, rfl, HR.after hb8, hdc, HL, Lib.hid (HSTEP.out.2 (by omega)), hB1.below hr8 hgr, hb1.trans (hr8.mono hb1.size)⟩, ?_⟩
          show ((j : Int) - 1 + 1).toNat < ((j : Int) + 1).toNat
          omega
    · obtain rfl : k = 0 := by omega
      have hv := bitAt_end HS.out
      have hl2 := HL.out
      have hq := hB1.reads (n := a.length) (by omega) (by unfold maxLen; omega)
      rw [hl2, List.take_of_length_le (by omega)] at hq
      have V := Lib.hid hv.1
      have R := Lib.hid hv.2
      have hcl : cs.length ≤ 1000000 := by omega
      have hq0 := hq.low (Nat.zero_le _)
      have hdr := dig_lim vr
      have vlr := Lib.hid (val_lim vr)
      have hlr : (lim vr).length ≤ 90000 := by
        refine Nat.le_trans (lim_length_le (k := b.length) ?_) (by omega)
        have := Nat.mod_lt (val a) B0.out
        have := val_lt db
        rw [hv.2]
        omega
      clear hv HL HS hB1 hl2 hst hq
      go_wp2_with fail
      refine (refTrim_any _ cs _ hdc hq0 hcl).mono ?_
      rintro e w5 ⟨v5, rfl, h5, hb5⟩
      rw [V.out] at h5
      replace hr := hr.after hb5
      have hB5 := (hB.trans (hb1.mono hB.size))
      replace h5 := h5.low hB5.size
      replace hB5 := hB5.trans (hb5.mono hB5.size)
      clear hb5 hq0
      go_wp2_with fail
      refine (refTrim_any _ (lim vr) _ hdr hr (by omega)).mono ?_
      rintro e w6 ⟨v6, rfl, h6, hb6⟩
      rw [vlr.out, R.out] at h6
      replace h6 := h6.low hB5.size
      replace h5 := h5.after hb6
      replace hB5 := hB5.trans (hb6.mono hB5.size)
      clear hb6 hr
      go_wp2
      go_ret3
      exact ⟨_, _, rfl, h5, h6, hB5⟩

set_option maxHeartbeats 3200000 in
theorem refDivLong_tf (u v : Value) (a b : List Nat) (w : World) (da : Dig a) (db : Dig b) (ha : Nt w 0 w.heap.size u a) (hb_ : Nt w 0 w.heap.size v b) (la : a.length ≤ 1000) (lb : b.length ≤ 1000) (h0 : val b ≠ 0)
    (hoa : decide (val a < 18446744073709551616) = true) (hob : decide (val b < 18446744073709551616) = false) :
    Calls Tryz.prog 96 #[u, v] w (GivesD (lim (val a / val b)) (lim (remN (val a) (val b))) (decide (val b ≠ 0)) w) := by
  have e2 : remN (val a) (val b) = val a % val b := by unfold remN; rw [if_neg h0]
  have e3 : decide (val b ≠ 0) = true := decide_eq_true h0
  have e4 : (lim (val b)).length ≠ 0 := fun h => h0 (lim_eq_nil.1 (List.eq_nil_of_length_eq_zero h))
  rw [e2, e3]
  have E4 := Lib.hid e4
  have B0 : Hid (0 < val b) := by show 0 < val b; omega
  obtain ⟨xa, hxa⟩ : ∃ z, toN (val a) = z := ⟨_, rfl⟩
  obtain ⟨xb, hxb⟩ : ∃ z, toN (val b) = z := ⟨_, rfl⟩
  have XA := Lib.hid hxa
  have XB := Lib.hid hxb
  have OA := Lib.hid hoa
  have OB := Lib.hid hob
  clear e2 e3 e4 hxa hxb hoa hob h0
  have hmk := make_limbs a.length (a.length : Int) rfl (by omega)
  obtain ⟨A1, c1, rfl, m1⟩ := nt_len2 ha
  go_enter Tryz.func96, Tryz.ntmps96
  have hB : Below w.heap.size w w := Below.refl _ _
  go_wp2_with fail
  refine (refTrim_any _ b _ db hb_ (by omega)).mono ?_
  rintro e w1 ⟨v1, rfl, h3', hb⟩
  obtain ⟨A, c, rfl, hc, hm, _, hx⟩ := h3'
  have hne : ¬ (lim (val b)).length = 0 := E4.out
  replace ha := ha.after hb
  replace hb_ := hb_.after hb
  replace hB := hB.trans (hb.mono hB.size)
  clear hb hx
  go_wp2_with fail
  refine (refTo_any _ a _ da ha (by omega)).mono ?_
  rintro e w2 ⟨rfl, hb⟩
  rw [XA.out, OA.out]
  replace ha := ha.after hb
  replace hb_ := hb_.after hb
  replace hB := hB.trans (hb.mono hB.size)
  clear hb
  go_wp2_with fail
  refine (refTo_any _ b _ db hb_ (by omega)).mono ?_
  rintro e w3 ⟨rfl, hb⟩
  rw [XB.out, OB.out]
  replace ha := ha.after hb
  replace hb_ := hb_.after hb
  replace hB := hB.trans (hb.mono hB.size)
  clear hb
  generalize lim (val b) = lbz at *
  have i0a : (0 : Int) ≤ 32 * (a.length : Int) := by omega
  go_wp2_with fail
  have hBk := Lb.made w3 122 a.length
  have hbk0 : Below w3.heap.size w3 (w3.alloc (.cells (madeCells #[.int .u32 0] a.length) 122)) := (Below.refl _ _).alloc (Nat.le_refl _) _
  generalize w3.alloc (.cells (madeCells #[.int .u32 0] a.length) 122) = w4 at *
  have hst : Hid (BitAt (val a) (val (List.replicate a.length 0)) 0 (val b) (32 * a.length)) := by
    show BitAt _ _ _ _ _
    rw [val_zeros]
    refine bitAt_start _ ?_
    rw [← base_pow]
    exact val_lt da
  clear hmk
  go_loopw [14, 15] (fun r i wr => ∃ (k vr : Nat) (cs : List Nat), k ≤ 32 * a.length ∧ i = .int .i64 ((k : Int) - 1) ∧ Nt wr (w3.heap.size + 1) wr.heap.size r (lim vr) ∧ Dig cs ∧ Hid (cs.length = a.length) ∧ Hid (BitAt (val a) (val cs) vr (val b) k) ∧ Lb wr w3.heap.size 122 cs ∧ Below w3.heap.size w3 wr)
    (fun _ i _ => (intOf i + 1).toNat)
  case atStart => exact ⟨32 * a.length, 0, _, Nat.le_refl _, by go_num, by rw [lim_zero]; exact Nt.nil _ _ _, dig_zeros _, List.length_replicate, hst, hBk, hbk0⟩
  case round =>
    obtain ⟨k, vr, cs, hk, rfl, hr0, hdc, HL, HS, hB1, hb1⟩ := hrel
    have hr := hr0.low (Nat.zero_le _)
    have hgr := hB1.lt
    clear hr0
    by_cases hlt : 0 < k
    · obtain ⟨j, rfl⟩ : ∃ j, k = j + 1 := ⟨k - 1, by omega⟩
      have hi1 : ((j + 1 : Nat) : Int) - 1 = (j : Int) := by omega
      rw [hi1]
      have hj0 : (0 : Int) ≤ (j : Int) := by omega
      have hlr : (lim vr).length ≤ 1000 := by
        refine Nat.le_trans (lim_length_le (k := b.length) ?_) lb
        have e := HS.out.1
        have := Nat.mod_lt (val a / 2 ^ (j + 1)) B0.out
        have := val_lt db
        omega
      have hdr := dig_lim vr
      have vlr := Lib.hid (val_lim vr)
      have S1 : Hid (shiftN (val (lim vr)) 1 = vr * 2) := by
        show _ = _
        rw [val_lim]
        rfl
      clear hi1 hst
      go_wp2_with fail
      refine (refShift_any _ (lim vr) 1 _ hdr hr (by omega)).mono ?_
      rintro e w5 ⟨v5, rfl, h5, hb5⟩
      rw [S1.out] at h5
      obtain ⟨kk, hkk⟩ : ∃ z, j / 32 = z := ⟨_, rfl⟩
      obtain ⟨s, hss⟩ : ∃ z, j % 32 = z := ⟨_, rfl⟩
      have l1 : (j : Int) / 32 = (kk : Int) := by omega
      have l2 : (j : Int) % 32 = (s : Int) := by omega
      have hkl : kk < a.length := by omega
      have hs31 : s ≤ 31 := by omega
      have hjk : Hid (j = 32 * kk + s) := by show _ = _; omega
      have hb15 := hb1.trans (hb5.mono hb1.size)
      have hna := ha.below hb15 (Nat.le_refl _)
      obtain ⟨A9, c9, he9, _, hm9, _, hx9⟩ := hna
      obtain ⟨ba, oa, rfl, _, hba, hcella⟩ := hx9 (by omega)
      cases he9
      have hca := hcella kk hkl
      have hkI : (kk : Int) < (a.length : Int) := by omega
      have b1 := da.at hkl
      have hbit := bit_of a da kk s hs31
      rw [getD_in0 hkl, ← hjk.out] at hbit
      clear hcella hx9 hkk hss
      generalize a[kk] = y at *
      have hyd : (y : Int) / 2 ^ s = ((y / 2 ^ s : Nat) : Int) := by rw [Int.natCast_ediv, Int.natCast_pow]; rfl
      have hy2 : y / 2 ^ s < 4294967296 := Nat.lt_of_le_of_lt (Nat.div_le_self _ _) b1
      have hand : bits BinOp.and IntKind.u32 ((y : Int) / 2 ^ s) 1 = ((y / 2 ^ s % 2 : Nat) : Int) := by
        rw [hyd]
        have e := u32_and_nat (y / 2 ^ s) 1 hy2 (by omega)
        rw [Nat.and_one_is_mod] at e
        exact e
      clear hyd
      obtain ⟨c0, hc0⟩ : ∃ z, y / 2 ^ s % 2 = z := ⟨_, rfl⟩
      rw [hc0] at hand hbit
      have hstep := bitAt_step B0.out hbit.symm HS.out
      have hcc : c0 ≤ 1 := by omega
      have hl1 : (lim (vr * 2 + 1)).length ≤ 1001 := by
        refine Nat.le_trans (lim_length_le (k := b.length + 1) ?_) (by omega)
        have e := HS.out.1
        have := Nat.mod_lt (val a / 2 ^ (j + 1)) B0.out
        have := val_lt db
        rw [Nat.pow_succ]
        omega
      have hl0 : (lim (vr * 2)).length ≤ 1001 := by
        refine Nat.le_trans (lim_length_le (k := b.length + 1) ?_) (by omega)
        have e := HS.out.1
        have := Nat.mod_lt (val a / 2 ^ (j + 1)) B0.out
        have := val_lt db
        rw [Nat.pow_succ]
        omega
      have HSTEP := Lib.hid hstep
      clear hstep hbit hc0 hy2
      by_cases hc1 : c0 = 1
      · subst hc1
        obtain ⟨h1l, hb6⟩ := nt_laid w5 122 [1] (by simp)
        have ev : (lv [1]).toArray = #[Value.int .u32 1] := rfl
        rw [ev] at h1l hb6
        have h5' := (h5.low (Nat.zero_le _)).after hb6
        have hadd := refAdd_any _ _ _ _ _ (dig_lim (vr * 2)) (dig_one (by omega : 1 < 4294967296)) h5' h1l (by omega) (by simp)
        have ea : val (lim (vr * 2)) + val [1] = vr * 2 + 1 := by rw [val_lim]; simp [val]
        rw [ea] at hadd
        have HADD := Lib.hid hadd
        clear hadd ea ev h5' h1l
        go_wp2_with fail
        refine HADD.out.mono ?_
        rintro e w7 ⟨v7, rfl, h7, hb7⟩
        have hb17 := hb15.trans ((hb6.trans (hb7.mono hb6.size)).mono hb15.size)
        have hbw := (hb_.below hb17 (Nat.le_refl _)).up hb17.size
        have h7' := h7.low (Nat.zero_le _)
        have hbR := (hb5.trans ((hb6.trans (hb7.mono hb6.size)).mono hb5.size))
        have HR : Nt w7 (w3.heap.size + 1) w7.heap.size v7 (lim (vr * 2 + 1)) := h7.low (Nat.le_trans hgr (Nat.le_trans hb5.size hb6.size))
        clear HADD hb6 hb7 h7 h5
        have hcmp := refCmp_any _ _ (lim (vr * 2 + 1)) b _ (dig_lim _) db h7' hbw (by omega) (by omega)
        rw [val_lim] at hcmp
        have HCMP := Lib.hid hcmp
        clear hcmp
        by_cases hle : val b ≤ vr * 2 + 1
        · have hcz : 0 ≤ cmpN (vr * 2 + 1) (val b) := by
            have := cmpN_neg (m := vr * 2 + 1) (n := val b)
            omega
          generalize cmpN (vr * 2 + 1) (val b) = cz at *
          go_wp2_with fail
          refine HCMP.out.mono ?_
          rintro e w8 ⟨rfl, hb8⟩
          have hbw8 := hbw.after hb8
          have h78 := h7'.after hb8
          have hsub := refSub_any _ _ (lim (vr * 2 + 1)) b _ (dig_lim _) db h78 hbw8 (by omega) (by omega)
          rw [val_lim] at hsub
          have HSUB := Lib.hid hsub
          clear hsub
          go_wp2_with fail
          refine HSUB.out.mono ?_
          rintro e w9 ⟨v9, rfl, h9, hb9⟩
          have hr8 := hbR.trans (hb8.mono hbR.size)
          have hr9 := hr8.trans (hb9.mono hr8.size)
          have hB9 := hB1.below hr9 hgr
          have hb19 := hb1.trans (hr9.mono hb1.size)
          have hkn : kk < cs.length := by rw [HL.out]; exact hkl
          have hvY := HS.out.2
          rw [hjk.out] at hvY
          have hset := bit_set hdc hkn hs31 hvY
          rw [← hjk.out] at hset
          have hst2 := (HSTEP.out.1 hle)
          rw [← hset.1] at hst2
          rw [getD_in0 hkn] at hset hst2
          have hcc := hB9.cell kk hkn
          have hclt := hdc.at hkn
          have hfr := hB9.free kk
          have h9' : Nt w9 (w3.heap.size + 1) w9.heap.size v9 (lim (vr * 2 + 1 - val b)) := h9.low (Nat.le_trans hgr hr8.size)
          obtain ⟨p, hp⟩ : ∃ p : Nat, 2 ^ s = p := ⟨_, rfl⟩
          have hpl : p < 4294967296 := by
            rw [← hp]
            exact Nat.lt_of_le_of_lt (Nat.pow_le_pow_right (by omega) hs31) (by decide)
          have hpI : (2 : Int) ^ s = (p : Int) := by rw [← hp]; exact (Int.natCast_pow 2 s).symm
          have hw1 : IntKind.wrap .u32 ((2 : Int) ^ s) = (p : Int) := by
            rw [hpI]
            exact IntWalk.u32_in _ (by omega)
          rw [hp] at hset hst2
          have hor := u32_or_nat cs[kk] p hclt hpl
          have HST2 := Lib.hid hst2
          have hd9 := hdc.set kk _ hset.2
          have HL9 : Hid ((cs.set kk (cs[kk] ||| p)).length = a.length) := by show _ = _; rw [List.length_set]; exact HL.out
          have hB10 := hB9.put kk (cs[kk] ||| p)
          have hb10 : Below w3.heap.size w3 (w9.setCell ⟨w3.heap.size, kk, none⟩ (.int .u32 ((cs[kk] ||| p : Nat) : Int))) := hb19.setCell (Nat.le_refl _) _
          have h10 : Nt (w9.setCell ⟨w3.heap.size, kk, none⟩ (.int .u32 ((cs[kk] ||| p : Nat) : Int))) (w3.heap.size + 1) (w9.setCell ⟨w3.heap.size, kk, none⟩ (.int .u32 ((cs[kk] ||| p : Nat) : Int))).heap.size v9 (lim (vr * 2 + 1 - val b)) := h9'.stay (Nat.le_refl _) (by simp [World.setCell]) fun q hq _ => World.cell?_setCell_far _ _ _ _ (by
            show w3.heap.size ≠ q.block
            skip
            omega)
          generalize cs.set kk (cs[kk] ||| p) = c9 at *
          generalize cs[kk] ||| p = g9 at *
          generalize cs[kk] = x9 at *
          clear hst2 hset hvY hpI hp HL HS hB1 hb1 hr8 hr9 hB9 h9 h9' hb19 hdc HSUB HCMP HSTEP hbw8 h78
          go_wp2_with fail
          refine ⟨⟨j, vr * 2 + 1 - val b, c9, by omega, rfl, h10, hd9, HL9, HST2, hB10, hb10⟩, ?_⟩
          show ((j : Int) - 1 + 1).toNat < ((j : Int) + 1).toNat
          omega
        · have hcz : ¬ 0 ≤ cmpN (vr * 2 + 1) (val b) := by
            have := cmpN_neg (m := vr * 2 + 1) (n := val b)
            omega
          generalize cmpN (vr * 2 + 1) (val b) = cz at *
          go_wp2_with fail
          refine HCMP.out.mono ?_
          rintro e w8 ⟨rfl, hb8⟩
          have hr8 := hbR.trans (hb8.mono hbR.size)
          go_wp2_with fail
          refine ⟨⟨j, vr * 2 + 1, cs, by omega, rfl, HR.after hb8, hdc, HL, Lib.hid (HSTEP.out.2 (by omega)), hB1.below hr8 hgr, hb1.trans (hr8.mono hb1.size)⟩, ?_⟩
          show ((j : Int) - 1 + 1).toNat < ((j : Int) + 1).toNat
          omega
      · obtain rfl : c0 = 0 := by omega
        have hbw := (hb_.below hb15 (Nat.le_refl _)).up hb15.size
        have h5' := h5.low (Nat.zero_le _)
        have hbR := hb5
        have HR : Nt w5 (w3.heap.size + 1) w5.heap.size v5 (lim (vr * 2)) := h5.low hgr
        clear h5
        have hcmp := refCmp_any _ _ (lim (vr * 2)) b _ (dig_lim _) db h5' hbw (by omega) (by omega)
        rw [val_lim] at hcmp
        have HCMP := Lib.hid hcmp
        clear hcmp
        by_cases hle : val b ≤ vr * 2
        · have hcz : 0 ≤ cmpN (vr * 2) (val b) := by
            have := cmpN_neg (m := vr * 2) (n := val b)
            omega
          generalize cmpN (vr * 2) (val b) = cz at *
          go_wp2_with fail
          refine HCMP.out.mono ?_
          rintro e w8 ⟨rfl, hb8⟩
          have hbw8 := hbw.after hb8
          have h78 := h5'.after hb8
          have hsub := refSub_any _ _ (lim (vr * 2)) b _ (dig_lim _) db h78 hbw8 (by omega) (by omega)
          rw [val_lim] at hsub
          have HSUB := Lib.hid hsub
          clear hsub
          go_wp2_with fail
          refine HSUB.out.mono ?_
          rintro e w9 ⟨v9, rfl, h9, hb9⟩
          have hr8 := hbR.trans (hb8.mono hbR.size)
          have hr9 := hr8.trans (hb9.mono hr8.size)
          have hB9 := hB1.below hr9 hgr
          have hb19 := hb1.trans (hr9.mono hb1.size)
          have hkn : kk < cs.length := by rw [HL.out]; exact hkl
          have hvY := HS.out.2
          rw [hjk.out] at hvY
          have hset := bit_set hdc hkn hs31 hvY
          rw [← hjk.out] at hset
          have hst2 := (HSTEP.out.1 hle)
          rw [← hset.1] at hst2
          rw [getD_in0 hkn] at hset hst2
          have hcc := hB9.cell kk hkn
          have hclt := hdc.at hkn
          have hfr := hB9.free kk
          have h9' : Nt w9 (w3.heap.size + 1) w9.heap.size v9 (lim (vr * 2 - val b)) := h9.low (Nat.le_trans hgr hr8.size)
          obtain ⟨p, hp⟩ : ∃ p : Nat, 2 ^ s = p := ⟨_, rfl⟩
          have hpl : p < 4294967296 := by
            rw [← hp]
            exact Nat.lt_of_le_of_lt (Nat.pow_le_pow_right (by omega) hs31) (by decide)
          have hpI : (2 : Int) ^ s = (p : Int) := by rw [← hp]; exact (Int.natCast_pow 2 s).symm
          have hw1 : IntKind.wrap .u32 ((2 : Int) ^ s) = (p : Int) := by
            rw [hpI]
            exact IntWalk.u32_in _ (by omega)
          rw [hp] at hset hst2
          have hor := u32_or_nat cs[kk] p hclt hpl
          have HST2 := Lib.hid hst2
          have hd9 := hdc.set kk _ hset.2
          have HL9 : Hid ((cs.set kk (cs[kk] ||| p)).length = a.length) := by show _ = _; rw [List.length_set]; exact HL.out
          have hB10 := hB9.put kk (cs[kk] ||| p)
          have hb10 : Below w3.heap.size w3 (w9.setCell ⟨w3.heap.size, kk, none⟩ (.int .u32 ((cs[kk] ||| p : Nat) : Int))) := hb19.setCell (Nat.le_refl _) _
          have h10 : Nt (w9.setCell ⟨w3.heap.size, kk, none⟩ (.int .u32 ((cs[kk] ||| p : Nat) : Int))) (w3.heap.size + 1) (w9.setCell ⟨w3.heap.size, kk, none⟩ (.int .u32 ((cs[kk] ||| p : Nat) : Int))).heap.size v9 (lim (vr * 2 - val b)) := h9'.stay (Nat.le_refl _) (by simp [World.setCell]) fun q hq _ => World.cell?_setCell_far _ _ _ _ (by
            show w3.heap.size ≠ q.block
            skip
            omega)
          generalize cs.set kk (cs[kk] ||| p) = c9 at *
          generalize cs[kk] ||| p = g9 at *
          generalize cs[kk] = x9 at *
          clear hst2 hset hvY hpI hp HL HS hB1 hb1 hr8 hr9 hB9 h9 h9' hb19 hdc HSUB HCMP HSTEP hbw8 h78
          go_wp2_with fail
          refine ⟨⟨j, vr * 2 - val b, c9, by omega, rfl, h10, hd9, HL9, HST2, hB10, hb10⟩, ?_⟩
          show ((j : Int) - 1 + 1).toNat < ((j : Int) + 1).toNat
          omega
        · have hcz : ¬ 0 ≤ cmpN (vr * 2) (val b) := by
            have := cmpN_neg (m := vr * 2) (n := val b)
            omega
          generalize cmpN (vr * 2) (val b) = cz at *
          go_wp2_with fail
          refine HCMP.out.mono ?_
          rintro e w8 ⟨rfl, hb8⟩
          have hr8 := hbR.trans (hb8.mono hbR.size)
          go_wp2_with fail
          refine ⟨⟨j, vr * 2, cs, by omega, rfl, HR.after hb8, hdc, HL, Lib.hid (HSTEP.out.2 (by omega)), hB1.below hr8 hgr, hb1.trans (hr8.mono hb1.size)⟩, ?_⟩
          show ((j : Int) - 1 + 1).toNat < ((j : Int) + 1).toNat
          omega
    · obtain rfl : k = 0 := by omega
      have hv := bitAt_end HS.out
      have hl2 := HL.out
      have hq := hB1.reads (n := a.length) (by omega) (by unfold maxLen; omega)
      rw [hl2, List.take_of_length_le (by omega)] at hq
      have V := Lib.hid hv.1
      have R := Lib.hid hv.2
      have hcl : cs.length ≤ 1000000 := by omega
      have hq0 := hq.low (Nat.zero_le _)
      have hdr := dig_lim vr
      have vlr := Lib.hid (val_lim vr)
      have hlr : (lim vr).length ≤ 90000 := by
        refine Nat.le_trans (lim_length_le (k := b.length) ?_) (by omega)
        have := Nat.mod_lt (val a) B0.out
        have := val_lt db
        rw [hv.2]
        omega
      clear hv HL HS hB1 hl2 hst hq
      go_wp2_with fail
      refine (refTrim_any _ cs _ hdc hq0 hcl).mono ?_
      rintro e w5 ⟨v5, rfl, h5, hb5⟩
      rw [V.out] at h5
      replace hr := hr.after hb5
      have hB5 := (hB.trans (hb1.mono hB.size))
      replace h5 := h5.low hB5.size
      replace hB5 := hB5.trans (hb5.mono hB5.size)
      clear hb5 hq0
      go_wp2_with fail
      refine (refTrim_any _ (lim vr) _ hdr hr (by omega)).mono ?_
      rintro e w6 ⟨v6, rfl, h6, hb6⟩
      rw [vlr.out, R.out] at h6
      replace h6 := h6.low hB5.size
      replace h5 := h5.after hb6
      replace hB5 := hB5.trans (hb6.mono hB5.size)
      clear hb6 hr
      go_wp2
      go_ret3
      exact ⟨_, _, rfl, h5, h6, hB5⟩

set_option maxHeartbeats 3200000 in
theorem refDivLong_ft (u v : Value) (a b : List Nat) (w : World) (da : Dig a) (db : Dig b) (ha : Nt w 0 w.heap.size u a) (hb_ : Nt w 0 w.heap.size v b) (la : a.length ≤ 1000) (lb : b.length ≤ 1000) (h0 : val b ≠ 0)
    (hoa : decide (val a < 18446744073709551616) = false) (hob : decide (val b < 18446744073709551616) = true) (h2 : ¬ val b < 4294967296) :
    Calls Tryz.prog 96 #[u, v] w (GivesD (lim (val a / val b)) (lim (remN (val a) (val b))) (decide (val b ≠ 0)) w) := by
  have e2 : remN (val a) (val b) = val a % val b := by unfold remN; rw [if_neg h0]
  have e3 : decide (val b ≠ 0) = true := decide_eq_true h0
  have e4 : (lim (val b)).length ≠ 0 := fun h => h0 (lim_eq_nil.1 (List.eq_nil_of_length_eq_zero h))
  rw [e2, e3]
  have E4 := Lib.hid e4
  have B0 : Hid (0 < val b) := by show 0 < val b; omega
  obtain ⟨xa, hxa⟩ : ∃ z, toN (val a) = z := ⟨_, rfl⟩
  obtain ⟨xb, hxb⟩ : ∃ z, toN (val b) = z := ⟨_, rfl⟩
  have hl0 : (4294967296 : Int) ≤ (xb : Int) := by
    have e : toN (val b) = val b := if_pos (of_decide_eq_true hob)
    omega
  obtain ⟨xz, hxz⟩ : ∃ z : Int, (xb : Int) = z := ⟨_, rfl⟩
  rw [hxz] at hl0
  have XZ := Lib.hid hxz
  clear hxz
  clear h2
  have XA := Lib.hid hxa
  have XB := Lib.hid hxb
  have OA := Lib.hid hoa
  have OB := Lib.hid hob
  clear e2 e3 e4 hxa hxb hoa hob h0
  have hmk := make_limbs a.length (a.length : Int) rfl (by omega)
  obtain ⟨A1, c1, rfl, m1⟩ := nt_len2 ha
  go_enter Tryz.func96, Tryz.ntmps96
  have hB : Below w.heap.size w w := Below.refl _ _
  go_wp2_with fail
  refine (refTrim_any _ b _ db hb_ (by omega)).mono ?_
  rintro e w1 ⟨v1, rfl, h3', hb⟩
  obtain ⟨A, c, rfl, hc, hm, _, hx⟩ := h3'
  have hne : ¬ (lim (val b)).length = 0 := E4.out
  replace ha := ha.after hb
  replace hb_ := hb_.after hb
  replace hB := hB.trans (hb.mono hB.size)
  clear hb hx
  go_wp2_with fail
  refine (refTo_any _ a _ da ha (by omega)).mono ?_
  rintro e w2 ⟨rfl, hb⟩
  rw [XA.out, OA.out]
  replace ha := ha.after hb
  replace hb_ := hb_.after hb
  replace hB := hB.trans (hb.mono hB.size)
  clear hb
  go_wp2_with fail
  refine (refTo_any _ b _ db hb_ (by omega)).mono ?_
  rintro e w3 ⟨rfl, hb⟩
  rw [XB.out, OB.out]
  rw [XZ.out]
  replace ha := ha.after hb
  replace hb_ := hb_.after hb
  replace hB := hB.trans (hb.mono hB.size)
  clear hb
  generalize lim (val b) = lbz at *
  have i0a : (0 : Int) ≤ 32 * (a.length : Int) := by omega
  go_wp2_with fail
  have hBk := Lb.made w3 122 a.length
  have hbk0 : Below w3.heap.size w3 (w3.alloc (.cells (madeCells #[.int .u32 0] a.length) 122)) := (Below.refl _ _).alloc (Nat.le_refl _) _
  generalize w3.alloc (.cells (madeCells #[.int .u32 0] a.length) 122) = w4 at *
  have hst : Hid (BitAt (val a) (val (List.replicate a.length 0)) 0 (val b) (32 * a.length)) := by
    show BitAt _ _ _ _ _
    rw [val_zeros]
    refine bitAt_start _ ?_
    rw [← base_pow]
    exact val_lt da
  clear hmk
  go_loopw [14, 15] (fun r i wr => ∃ (k vr : Nat) (cs : List Nat), k ≤ 32 * a.length ∧ i = .int .i64 ((k : Int) - 1) ∧ Nt wr (w3.heap.size + 1) wr.heap.size r (lim vr) ∧ Dig cs ∧ Hid (cs.length = a.length) ∧ Hid (BitAt (val a) (val cs) vr (val b) k) ∧ Lb wr w3.heap.size 122 cs ∧ Below w3.heap.size w3 wr)
    (fun _ i _ => (intOf i + 1).toNat)
  case atStart => exact ⟨32 * a.length, 0, _, Nat.le_refl _, by go_num, by rw [lim_zero]; exact Nt.nil _ _ _, dig_zeros _, List.length_replicate, hst, hBk, hbk0⟩
  case round =>
    obtain ⟨k, vr, cs, hk, rfl, hr0, hdc, HL, HS, hB1, hb1⟩ := hrel
    have hr := hr0.low (Nat.zero_le _)
    have hgr := hB1.lt
    clear hr0
    by_cases hlt : 0 < k
    · obtain ⟨j, rfl⟩ : ∃ j, k = j + 1 := ⟨k - 1, by omega⟩
      have hi1 : ((j + 1 : Nat) : Int) - 1 = (j : Int) := by omega
      rw [hi1]
      have hj0 : (0 : Int) ≤ (j : Int) := by omega
      have hlr : (lim vr).length ≤ 1000 := by
        refine Nat.le_trans (lim_length_le (k := b.length) ?_) lb
        have e := HS.out.1
        have := Nat.mod_lt (val a / 2 ^ (j + 1)) B0.out
        have := val_lt db
        omega
      have hdr := dig_lim vr
      have vlr := Lib.hid (val_lim vr)
      have S1 : Hid (shiftN (val (lim vr)) 1 = vr * 2) := by
        show _ = _
        rw [val_lim]
        rfl
      clear hi1 hst
      go_wp2_with fail
      refine (refShift_any _ (lim vr) 1 _ hdr hr (by omega)).mono ?_
      rintro e w5 ⟨v5, rfl, h5, hb5⟩
      rw [S1.out] at h5
      obtain ⟨kk, hkk⟩ : ∃ z, j / 32 = z := ⟨_, rfl⟩
      obtain ⟨s, hss⟩ : ∃ z, j % 32 = z := ⟨_, rfl⟩
      have l1 : (j : Int) / 32 = (kk : Int) := by omega
      have l2 : (j : Int) % 32 = (s : Int) := by omega
      have hkl : kk < a.length := by omega
      have hs31 : s ≤ 31 := by omega
      have hjk : Hid (j = 32 * kk + s) := by show _ = _; omega
      have hb15 := hb1.trans (hb5.mono hb1.size)
      have hna := ha.below hb15 (Nat.le_refl _)
      obtain ⟨A9, c9, he9, _, hm9, _, hx9⟩ := hna
      obtain ⟨ba, oa, rfl, _, hba, hcella⟩ := hx9 (by omega)
      cases he9
      have hca := hcella kk hkl
      have hkI : (kk : Int) < (a.length : Int) := by omega
      have b1 := da.at hkl
      have hbit := bit_of a da kk s hs31
      rw [getD_in0 hkl, ← hjk.out] at hbit
      clear hcella hx9 hkk hss
      generalize a[kk] = y at *
      have hyd : (y : Int) / 2 ^ s = ((y / 2 ^ s : Nat) : Int) := by rw [Int.natCast_ediv, Int.natCast_pow]; rfl
      have hy2 : y / 2 ^ s < 4294967296 := Nat.lt_of_le_of_lt (Nat.div_le_self _ _) b1
      have hand : bits BinOp.and IntKind.u32 ((y : Int) / 2 ^ s) 1 = ((y / 2 ^ s % 2 : Nat) : Int) := by
        rw [hyd]
        have e := u32_and_nat (y / 2 ^ s) 1 hy2 (by omega)
        rw [Nat.and_one_is_mod] at e
        exact e
      clear hyd
      obtain ⟨c0, hc0⟩ : ∃ z, y / 2 ^ s % 2 = z := ⟨_, rfl⟩
      rw [hc0] at hand hbit
      have hstep := bitAt_step B0.out hbit.symm HS.out
      have hcc : c0 ≤ 1 := by omega
      have hl1 : (lim (vr * 2 + 1)).length ≤ 1001 := by
        refine Nat.le_trans (lim_length_le (k := b.length + 1) ?_) (by omega)
        have e := HS.out.1
        have := Nat.mod_lt (val a / 2 ^ (j + 1)) B0.out
        have := val_lt db
        rw [Nat.pow_succ]
        omega
      have hl0 : (lim (vr * 2)).length ≤ 1001 := by
        refine Nat.le_trans (lim_length_le (k := b.length + 1) ?_) (by omega)
        have e := HS.out.1
        have := Nat.mod_lt (val a / 2 ^ (j + 1)) B0.out
        have := val_lt db
        rw [Nat.pow_succ]
        omega
      have HSTEP := Lib.hid hstep
      clear hstep hbit hc0 hy2
      by_cases hc1 : c0 = 1
      · subst hc1
        obtain ⟨h1l, hb6⟩ := nt_laid w5 122 [1] (by simp)
        have ev : (lv [1]).toArray = #[Value.int .u32 1] := rfl
        rw [ev] at h1l hb6
        have h5' := (h5.low (Nat.zero_le _)).after hb6
        have hadd := refAdd_any _ _ _ _ _ (dig_lim (vr * 2)) (dig_one (by omega : 1 < 4294967296)) h5' h1l (by omega) (by simp)
        have ea : val (lim (vr * 2)) + val [1] = vr * 2 + 1 := by rw [val_lim]; simp [val]
        rw [ea] at hadd
        have HADD := Lib.hid hadd
        clear hadd ea ev h5' h1l
        go_wp2_with fail
        refine HADD.out.mono ?_
        rintro e w7 ⟨v7, rfl, h7, hb7⟩
        have hb17 := hb15.trans ((hb6.trans (hb7.mono hb6.size)).mono hb15.size)
        have hbw := (hb_.below hb17 (Nat.le_refl _)).up hb17.size
        have h7' := h7.low (Nat.zero_le _)
        have hbR := (hb5.trans ((hb6.trans (hb7.mono hb6.size)).mono hb5.size))
        have HR : Nt w7 (w3.heap.size + 1) w7.heap.size v7 (lim (vr * 2 + 1)) := h7.low (Nat.le_trans hgr (Nat.le_trans hb5.size hb6.size))
        clear HADD hb6 hb7 h7 h5
        have hcmp := refCmp_any _ _ (lim (vr * 2 + 1)) b _ (dig_lim _) db h7' hbw (by omega) (by omega)
        rw [val_lim] at hcmp
        have HCMP := Lib.hid hcmp
        clear hcmp
        by_cases hle : val b ≤ vr * 2 + 1
        · have hcz : 0 ≤ cmpN (vr * 2 + 1) (val b) := by
            have := cmpN_neg (m := vr * 2 + 1) (n := val b)
            omega
          generalize cmpN (vr * 2 + 1) (val b) = cz at *
          go_wp2_with fail
          refine HCMP.out.mono ?_
          rintro e w8 ⟨rfl, hb8⟩
          have hbw8 := hbw.after hb8
          have h78 := h7'.after hb8
          have hsub := refSub_any _ _ (lim (vr * 2 + 1)) b _ (dig_lim _) db h78 hbw8 (by omega) (by omega)
          rw [val_lim] at hsub
          have HSUB := Lib.hid hsub
          clear hsub
          go_wp2_with fail
          refine HSUB.out.mono ?_
          rintro e w9 ⟨v9, rfl, h9, hb9⟩
          have hr8 := hbR.trans (hb8.mono hbR.size)
          have hr9 := hr8.trans (hb9.mono hr8.size)
          have hB9 := hB1.below hr9 hgr
          have hb19 := hb1.trans (hr9.mono hb1.size)
          have hkn : kk < cs.length := by rw [HL.out]; exact hkl
          have hvY := HS.out.2
          rw [hjk.out] at hvY
          have hset := bit_set hdc hkn hs31 hvY
          rw [← hjk.out] at hset
          have hst2 := (HSTEP.out.1 hle)
          rw [← hset.1] at hst2
          rw [getD_in0 hkn] at hset hst2
          have hcc := hB9.cell kk hkn
          have hclt := hdc.at hkn
          have hfr := hB9.free kk
          have h9' : Nt w9 (w3.heap.size + 1) w9.heap.size v9 (lim (vr * 2 + 1 - val b)) := h9.low (Nat.le_trans hgr hr8.size)
          obtain ⟨p, hp⟩ : ∃ p : Nat, 2 ^ s = p := ⟨_, rfl⟩
          have hpl : p < 4294967296 := by
            rw [← hp]
            exact Nat.lt_of_le_of_lt (Nat.pow_le_pow_right (by omega) hs31) (by decide)
          have hpI : (2 : Int) ^ s = (p : Int) := by rw [← hp]; exact (Int.natCast_pow 2 s).symm
          have hw1 : IntKind.wrap .u32 ((2 : Int) ^ s) = (p : Int) := by
            rw [hpI]
            exact IntWalk.u32_in _ (by omega)
          rw [hp] at hset hst2
          have hor := u32_or_nat cs[kk] p hclt hpl
          have HST2 := Lib.hid hst2
          have hd9 := hdc.set kk _ hset.2
          have HL9 : Hid ((cs.set kk (cs[kk] ||| p)).length = a.length) := by show _ = _; rw [List.length_set]; exact HL.out
          have hB10 := hB9.put kk (cs[kk] ||| p)
          have hb10 : Below w3.heap.size w3 (w9.setCell ⟨w3.heap.size, kk, none⟩ (.int .u32 ((cs[kk] ||| p : Nat) : Int))) := hb19.setCell (Nat.le_refl _) _
          have h10 : Nt (w9.setCell ⟨w3.heap.size, kk, none⟩ (.int .u32 ((cs[kk] ||| p : Nat) : Int))) (w3.heap.size + 1) (w9.setCell ⟨w3.heap.size, kk, none⟩ (.int .u32 ((cs[kk] ||| p : Nat) : Int))).heap.size v9 (lim (vr * 2 + 1 - val b)) := h9'.stay (Nat.le_refl _) (by simp [World.setCell]) fun q hq _ => World.cell?_setCell_far _ _ _ _ (by
            show w3.heap.size ≠ q.block
            skip
            omega)
          generalize cs.set kk (cs[kk] ||| p) = c9 at *
          generalize cs[kk] ||| p = g9 at *
          generalize cs[kk] = x9 at *
          clear hst2 hset hvY hpI hp HL HS hB1 hb1 hr8 hr9 hB9 h9 h9' hb19 hdc HSUB HCMP HSTEP hbw8 h78
          go_wp2_with fail
          refine ⟨⟨j, vr * 2 + 1 - val b, c9, by omega, rfl, h10, hd9, HL9, HST2, hB10, hb10⟩, ?_⟩
          show ((j : Int) - 1 + 1).toNat < ((j : Int) + 1).toNat
          omega
        · have hcz : ¬ 0 ≤ cmpN (vr * 2 + 1) (val b) := by
            have := cmpN_neg (m := vr * 2 + 1) (n := val b)
            omega
          generalize cmpN (vr * 2 + 1) (val b) = cz at *
          go_wp2_with fail
          refine HCMP.out.mono ?_
          rintro e w8 ⟨rfl, hb8⟩
          have hr8 := hbR.trans (hb8.mono hbR.size)
          go_wp2_with fail
          refine ⟨⟨j, vr * 2 + 1, cs, by omega, rfl, HR.after hb8, hdc, HL, Lib.hid (HSTEP.out.2 (by omega)), hB1.below hr8 hgr, hb1.trans (hr8.mono hb1.size)⟩, ?_⟩
          show ((j : Int) - 1 + 1).toNat < ((j : Int) + 1).toNat
          omega
      · obtain rfl : c0 = 0 := by omega
        have hbw := (hb_.below hb15 (Nat.le_refl _)).up hb15.size
        have h5' := h5.low (Nat.zero_le _)
        have hbR := hb5
        have HR : Nt w5 (w3.heap.size + 1) w5.heap.size v5 (lim (vr * 2)) := h5.low hgr
        clear h5
        have hcmp := refCmp_any _ _ (lim (vr * 2)) b _ (dig_lim _) db h5' hbw (by omega) (by omega)
        rw [val_lim] at hcmp
        have HCMP := Lib.hid hcmp
        clear hcmp
        by_cases hle : val b ≤ vr * 2
        · have hcz : 0 ≤ cmpN (vr * 2) (val b) := by
            have := cmpN_neg (m := vr * 2) (n := val b)
            omega
          generalize cmpN (vr * 2) (val b) = cz at *
          go_wp2_with fail
          refine HCMP.out.mono ?_
          rintro e w8 ⟨rfl, hb8⟩
          have hbw8 := hbw.after hb8
          have h78 := h5'.after hb8
          have hsub := refSub_any _ _ (lim (vr * 2)) b _ (dig_lim _) db h78 hbw8 (by omega) (by omega)
          rw [val_lim] at hsub
          have HSUB := Lib.hid hsub
          clear hsub
          go_wp2_with fail
          refine HSUB.out.mono ?_
          rintro e w9 ⟨v9, rfl, h9, hb9⟩
          have hr8 := hbR.trans (hb8.mono hbR.size)
          have hr9 := hr8.trans (hb9.mono hr8.size)
          have hB9 := hB1.below hr9 hgr
          have hb19 := hb1.trans (hr9.mono hb1.size)
          have hkn : kk < cs.length := by rw [HL.out]; exact hkl
          have hvY := HS.out.2
          rw [hjk.out] at hvY
          have hset := bit_set hdc hkn hs31 hvY
          rw [← hjk.out] at hset
          have hst2 := (HSTEP.out.1 hle)
          rw [← hset.1] at hst2
          rw [getD_in0 hkn] at hset hst2
          have hcc := hB9.cell kk hkn
          have hclt := hdc.at hkn
          have hfr := hB9.free kk
          have h9' : Nt w9 (w3.heap.size + 1) w9.heap.size v9 (lim (vr * 2 - val b)) := h9.low (Nat.le_trans hgr hr8.size)
          obtain ⟨p, hp⟩ : ∃ p : Nat, 2 ^ s = p := ⟨_, rfl⟩
          have hpl : p < 4294967296 := by
            rw [← hp]
            exact Nat.lt_of_le_of_lt (Nat.pow_le_pow_right (by omega) hs31) (by decide)
          have hpI : (2 : Int) ^ s = (p : Int) := by rw [← hp]; exact (Int.natCast_pow 2 s).symm
          have hw1 : IntKind.wrap .u32 ((2 : Int) ^ s) = (p : Int) := by
            rw [hpI]
            exact IntWalk.u32_in _ (by omega)
          rw [hp] at hset hst2
          have hor := u32_or_nat cs[kk] p hclt hpl
          have HST2 := Lib.hid hst2
          have hd9 := hdc.set kk _ hset.2
          have HL9 : Hid ((cs.set kk (cs[kk] ||| p)).length = a.length) := by show _ = _; rw [List.length_set]; exact HL.out
          have hB10 := hB9.put kk (cs[kk] ||| p)
          have hb10 : Below w3.heap.size w3 (w9.setCell ⟨w3.heap.size, kk, none⟩ (.int .u32 ((cs[kk] ||| p : Nat) : Int))) := hb19.setCell (Nat.le_refl _) _
          have h10 : Nt (w9.setCell ⟨w3.heap.size, kk, none⟩ (.int .u32 ((cs[kk] ||| p : Nat) : Int))) (w3.heap.size + 1) (w9.setCell ⟨w3.heap.size, kk, none⟩ (.int .u32 ((cs[kk] ||| p : Nat) : Int))).heap.size v9 (lim (vr * 2 - val b)) := h9'.stay (Nat.le_refl _) (by simp [World.setCell]) fun q hq _ => World.cell?_setCell_far _ _ _ _ (by
            show w3.heap.size ≠ q.block
            skip
            omega)
          generalize cs.set kk (cs[kk] ||| p) = c9 at *
          generalize cs[kk] ||| p = g9 at *
          generalize cs[kk] = x9 at *
          clear hst2 hset hvY hpI hp HL HS hB1 hb1 hr8 hr9 hB9 h9 h9' hb19 hdc HSUB HCMP HSTEP hbw8 h78
          go_wp2_with fail
          refine ⟨⟨j, vr * 2 - val b, c9, by omega, rfl, h10, hd9, HL9, HST2, hB10, hb10⟩, ?_⟩
          show ((j : Int) - 1 + 1).toNat < ((j : Int) + 1).toNat
          omega
        · have hcz : ¬ 0 ≤ cmpN (vr * 2) (val b) := by
            have := cmpN_neg (m := vr * 2) (n := val b)
            omega
          generalize cmpN (vr * 2) (val b) = cz at *
          go_wp2_with fail
          refine HCMP.out.mono ?_
          rintro e w8 ⟨rfl, hb8⟩
          have hr8 := hbR.trans (hb8.mono hbR.size)
          go_wp2_with fail
          refine ⟨⟨j, vr * 2, cs, by omega, rfl, HR.after hb8, hdc, HL, Lib.hid (HSTEP.out.2 (by omega)), hB1.below hr8 hgr, hb1.trans (hr8.mono hb1.size)⟩, ?_⟩
          show ((j : Int) - 1 + 1).toNat < ((j : Int) + 1).toNat
          omega
    · obtain rfl : k = 0 := by omega
      have hv := bitAt_end HS.out
      have hl2 := HL.out
      have hq := hB1.reads (n := a.length) (by omega) (by unfold maxLen; omega)
      rw [hl2, List.take_of_length_le (by omega)] at hq
      have V := Lib.hid hv.1
      have R := Lib.hid hv.2
      have hcl : cs.length ≤ 1000000 := by omega
      have hq0 := hq.low (Nat.zero_le _)
      have hdr := dig_lim vr
      have vlr := Lib.hid (val_lim vr)
      have hlr : (lim vr).length ≤ 90000 := by
        refine Nat.le_trans (lim_length_le (k := b.length) ?_) (by omega)
        have := Nat.mod_lt (val a) B0.out
        have := val_lt db
        rw [hv.2]
        omega
      clear hv HL HS hB1 hl2 hst hq
      go_wp2_with fail
      refine (refTrim_any _ cs _ hdc hq0 hcl).mono ?_
      rintro e w5 ⟨v5, rfl, h5, hb5⟩
      rw [V.out] at h5
      replace hr := hr.after hb5
      have hB5 := (hB.trans (hb1.mono hB.size))
      replace h5 := h5.low hB5.size
      replace hB5 := hB5.trans (hb5.mono hB5.size)
      clear hb5 hq0
      go_wp2_with fail
      refine (refTrim_any _ (lim vr) _ hdr hr (by omega)).mono ?_
      rintro e w6 ⟨v6, rfl, h6, hb6⟩
      rw [vlr.out, R.out] at h6
      replace h6 := h6.low hB5.size
      replace h5 := h5.after hb6
      replace hB5 := hB5.trans (hb6.mono hB5.size)
      clear hb6 hr
      go_wp2
      go_ret3
      exact ⟨_, _, rfl, h5, h6, hB5⟩

end Go.Proofs.YtchokmhfgikglaaGreatDoor

namespace Go.Proofs.YtchokmhfgikglaaGreatDoor
set_option maxRecDepth 100000
open Go.RowKit

theorem refDiv_any (u v : Value) (a b : List Nat) (w : World) (da : Dig a) (db : Dig b) (ha : Nt w 0 w.heap.size u a) (hb_ : Nt w 0 w.heap.size v b) (la : a.length ≤ 1000) (lb : b.length ≤ 1000) :
    Calls Tryz.prog 96 #[u, v] w (GivesD (lim (val a / val b)) (lim (remN (val a) (val b))) (decide (val b ≠ 0)) w) := by
  by_cases h0 : val b = 0
  · exact refDivZero_any u v a b w db hb_ (by omega) h0
  by_cases h1 : val a < 18446744073709551616
  · by_cases h2 : val b < 18446744073709551616
    · exact refDivTwo_any u v a b w da db ha hb_ (by omega) (by omega) h0 h1 h2
    · exact refDivLong_tf u v a b w da db ha hb_ la lb h0 (decide_eq_true h1) (decide_eq_false h2)
  · by_cases h2 : val b < 18446744073709551616
    · by_cases h3 : val b < 4294967296
      · exact refDivOne_any u v a b w da db ha hb_ (by omega) (by omega) h0 h1 h3
      · exact refDivLong_ft u v a b w da db ha hb_ la lb h0 (decide_eq_false h1) (decide_eq_true h2) h3
    · exact refDivLong_ff u v a b w da db ha hb_ la lb h0 (decide_eq_false h1) (decide_eq_false h2)

/-- The number that a slice's limbs make. -/
def rdN (w : World) (v : Value) : Nat :=
  match v with
  | .slice (some p) n _ => val ((List.range n).map fun j => match w.cell? ⟨p.block, p.off + j, none⟩ with
    | some (.int _ z) => z.toNat
    | _ => 0)
  | _ => 0

theorem rdN_of {w : World} {L B : Nat} {v : Value} {x : List Nat} (h : Nt w L B v x) : rdN w v = val x := by
  obtain ⟨A, c, rfl, hc, hm, hA, hx⟩ := h
  by_cases h0 : 0 < x.length
  · obtain ⟨b, off, rfl, _, _, hcell⟩ := hx h0
    unfold rdN
    show val _ = val x
    congr 1
    apply List.ext_getElem
    · simp
    · intro i h1 h2
      rw [List.getElem_map, List.getElem_range, hcell i h2]
      simp
  · obtain rfl : x = [] := List.eq_nil_of_length_eq_zero (by omega)
    unfold rdN
    cases A <;> rfl

theorem gcd_step {X Y : Nat} (h : Y ≠ 0) : Nat.gcd Y (remN X Y) = Nat.gcd X Y := by
  unfold remN
  rw [if_neg h, Nat.gcd_comm Y, ← Nat.gcd_rec, Nat.gcd_comm]

theorem lim_len_mono {X Y : Nat} (h : X ≤ Y) : (lim X).length ≤ (lim Y).length := by
  refine lim_length_le ?_
  have := val_lt (dig_lim Y)
  rw [val_lim] at this
  omega

set_option maxHeartbeats 3200000 in
theorem refGcd_any (u v : Value) (a b : List Nat) (w : World) (da : Dig a) (db : Dig b) (ha : Nt w 0 w.heap.size u a) (hb_ : Nt w 0 w.heap.size v b) (la : a.length ≤ 1000) (lb : b.length ≤ 1000) :
    Calls Tryz.prog 95 #[u, v] w (Gives (lim (Nat.gcd (val a) (val b))) w) := by
  obtain ⟨G, hG⟩ : ∃ G, Nat.gcd (val a) (val b) = G := ⟨_, rfl⟩
  rw [hG]
  have hg := Lib.hid hG
  clear hG
  go_enter Tryz.func95, Tryz.ntmps95
  have hB : Below w.heap.size w w := Below.refl _ _
  go_wp2_with fail
  refine (refTrim_any _ a _ da ha (by omega)).mono ?_
  rintro e w1 ⟨v1, rfl, h1, hb⟩
  replace hb_ := hb_.after hb
  replace hB := hB.trans (hb.mono hB.size)
  clear hb ha
  go_wp2_with fail
  refine (refTrim_any _ b _ db hb_ (by omega)).mono ?_
  rintro e w2 ⟨v2, rfl, h2, hb⟩
  replace h1 := h1.after hb
  replace h2 := h2.low hB.size
  replace hB := hB.trans (hb.mono hB.size)
  clear hb hb_
  have l1 : (lim (val a)).length ≤ 1000 := Nat.le_trans (lim_length_le (val_lt da)) la
  have l2 : (lim (val b)).length ≤ 1000 := Nat.le_trans (lim_length_le (val_lt db)) lb
  go_wp2_with fail
  go_loopw [5, 6] (fun x y wr => ∃ (X Y : Nat), Nt wr w.heap.size wr.heap.size x (lim X) ∧ Nt wr w.heap.size wr.heap.size y (lim Y) ∧ Hid (Nat.gcd X Y = G) ∧ (lim X).length ≤ 1000 ∧ (lim Y).length ≤ 1000 ∧ Below w.heap.size w wr)
    (fun _ y wr => rdN wr y)
  case atStart => exact ⟨_, _, h1, h2, hg, l1, l2, hB⟩
  case round =>
    obtain ⟨X, Y, hx, hy, HG, m1, m2, hb⟩ := hrel
    have vX := Lib.hid (val_lim X)
    have vY := Lib.hid (val_lim Y)
    have RY := Lib.hid (rdN_of hy)
    clear hB h1 h2 hg l1 l2 da db la lb
    by_cases hY : Y = 0
    · subst hY
      have hgx := HG.out
      rw [Nat.gcd_zero_right] at hgx
      rw [lim_zero] at hy
      have hx' := hx
      rw [hgx] at hx'
      obtain ⟨A, c, rfl, hc, hm, _, _⟩ := hy
      clear hx HG hgx
      go_wp2
      go_ret
      exact ⟨_, rfl, hx', hb⟩
    · have hne : (lim Y).length ≠ 0 := fun h => hY (lim_eq_nil.1 (List.eq_nil_of_length_eq_zero h))
      have hdiv := refDiv_any _ _ (lim X) (lim Y) _ (dig_lim X) (dig_lim Y) (hx.low (Nat.zero_le _)) (hy.low (Nat.zero_le _)) m1 m2
      rw [val_lim, val_lim] at hdiv
      have HDIV := Lib.hid hdiv
      have hy' := Lib.hid hy
      obtain ⟨A, c, rfl, hc, hm, _, _⟩ := hy
      have hst := Lib.hid (gcd_step (X := X) hY)
      have hlt : remN X Y < Y := by unfold remN; rw [if_neg hY]; exact Nat.mod_lt _ (by omega)
      have hlr := Nat.le_trans (lim_len_mono (Nat.le_of_lt hlt)) m2
      have HG2 : Hid (Nat.gcd Y (remN X Y) = G) := by show _ = _; rw [hst.out]; exact HG.out
      generalize remN X Y = R at *
      generalize decide (Y ≠ 0) = dY at *
      clear hdiv hst HG
      go_wp2_with fail
      refine HDIV.out.mono ?_
      rintro e w5 ⟨v5, v6, rfl, h5, h6, hb5⟩
      have hy5 := hy'.out.after hb5
      replace h6 := h6.low hb.size
      have hb6 := hb.trans (hb5.mono hb.size)
      have hR5 := Lib.hid (rdN_of h6)
      clear HDIV h5 hb5 hy'
      go_wp2_with fail
      refine ⟨⟨Y, R, hy5, h6, HG2, m2, hlr, hb6⟩, ?_⟩
      rw [hR5.out, RY.out, val_lim, vY.out]
      exact hlt
end Go.Proofs.YtchokmhfgikglaaGreatDoor
