/- Several texts in one: RefInt, ShowB, RefUnits, RefRatMul. Condition: each says its own. -/
import Derived.Test.YtobmjcbjailclaaGreatDoorPk3
import Derived.Test.YtobmjcbjailclaaGreatDoorPk4
import Derived.Test.YtobmjcbjailclaaGreatDoorPk5
import Derived.Test.YtobmjcbjailclaaGreatDoorPk6
import Derived.Test.YtobmjcbjailclaaGreatDoorPk7
import Derived.Test.YtobmjcbjailclaaGreatDoorPk9
import Derived.Test.YtobmjcbjailclaaGreatDoorPk10
import Derived.Test.YtobmjcbjailclaaGreatDoorPk11
import Derived.Test.YtobmjcbjailclaaGreatDoorPk12
/- The reference's powers of ten, its whole numbers, whether a number is 0. Condition: bounds. -/
namespace Go.Proofs.YtobmjcbjailclaaGreatDoor
set_option maxRecDepth 100000
open Go.RowKit

set_option maxHeartbeats 3200000 in
theorem refTen3_any (d : Nat) (w : World) (hd : d ≤ 1000) : Calls Tryz.prog 34 #[.int .i64 (d : Int)] w (Gives (lim (10 ^ d)) w) := by
  obtain ⟨h1, hb1⟩ := nt_laid w 43 [1] (by simp)
  have h1' : Nt (w.alloc (.cells #[.int .u32 1] 43)) w.heap.size (w.alloc (.cells #[.int .u32 1] 43)).heap.size (.slice (some ⟨w.heap.size, 0, none⟩) 1 1) (lim (10 ^ 0)) := by
    have l0 : lim (10 ^ 0) = [1] := lim_one (by omega) (by omega)
    rw [l0]
    have hb : Lb (w.alloc (.cells #[.int .u32 1] 43)) w.heap.size 43 [1] := Blk.new w _ _
    exact hb.reads (n := 1) (by simp) (by unfold maxLen; simp)
  clear h1
  go_enter Tryz.func34, Tryz.ntmps34
  go_wp2_with fail
  go_loopw [3, 4] (fun a i wr => ∃ k : Nat, k ≤ d ∧ i = .int .i64 (k : Nat) ∧ Nt wr w.heap.size wr.heap.size a (lim (10 ^ k)) ∧ Below w.heap.size w wr)
    (fun _ i _ => d - (RowKit.intOf i).toNat)
  case atStart => exact ⟨0, Nat.zero_le _, rfl, h1', hb1⟩
  case round =>
    obtain ⟨k, hk, rfl, ha, hb⟩ := hrel
    clear h1' hb1
    by_cases hlt : k < d
    · have hlI : (k : Int) < (d : Int) := by omega
      have hl : (lim (10 ^ k)).length ≤ 1001 := lim_ten (Nat.pow_lt_pow_right (by omega) (Nat.lt_succ_self k)) (by omega)
      have dk := dig_lim (10 ^ k)
      have D10 : Dig [10] := by intro x hx; simp at hx; omega
      have V : Hid (val (lim (10 ^ k)) * val [10] = 10 ^ (k + 1)) := by
        show _ = _
        rw [val_lim, Nat.pow_succ]
        rfl
      obtain ⟨h2, hb2⟩ := nt_laid wr 43 [10] (by simp)
      have ha2 := ((ha.low (Nat.zero_le _)).alloc (Nat.le_refl _) (.cells #[.int .u32 10] 43)).up (B' := (wr.alloc (.cells #[.int .u32 10] 43)).heap.size) (by simp)
      have hb02 := hb.trans (hb2.mono hb.size)
      clear ha hb hb2
      go_wp2_with fail
      refine (refMul_any _ _ (lim (10 ^ k)) [10] _ dk D10 ha2 h2 (by omega) (by simp)).mono ?_
      rw [V.out]
      rintro e w4 ⟨v4, rfl, h4, hb4⟩
      have h4' := h4.low hb02.size
      have hb04 := hb02.trans (hb4.mono hb02.size)
      clear h4 hb4 ha2 h2 hb02
      go_wp2_with fail
      go_roundw
      case rel => exact ⟨k + 1, by omega, by go_num, h4', hb04⟩
      case measure => simp [RowKit.intOf]; omega
    · obtain rfl : k = d := by omega
      go_wp2_with fail
      go_ret
      exact ⟨_, rfl, ha, hb⟩

set_option maxHeartbeats 3200000 in
theorem refInt_any (n : Nat) (w : World) (hn : n < 1000000000) : Calls Tryz.prog 31 #[.int .i64 (n : Int)] w (GivesF (qv false n 1) w) := by
  have k1 : IntKind.u64.wrap (n : Int) = (n : Int) := IntWalk.u64_in _ (by omega)
  have k2 : ¬ (n : Int) < 0 := by omega
  have ln : (lim n).length ≤ 1 := lim_length_le (by omega)
  have VN : Hid (val (lim n) = n) := val_lim n
  have hcon : Hid (∀ (vn vd : Value) (w : World), Nt w 0 w.heap.size vn (lim n) → Nt w 0 w.heap.size vd [1] → Calls Tryz.prog 21 #[.bool false, vn, vd] w (GivesF (qv false n 1) w)) := fun vn vd w h1 h2 => by
    have := ratOf_q false vn vd (lim n) [1] w (dig_lim n) (by intro x hx; simp at hx; omega) h1 h2 (by omega) (by simp)
    rw [VN.out] at this
    exact this
  have hof := fun w => refOf_any n w (by omega)
  have HOF := Lib.hid hof
  generalize qv false n 1 = q at *
  clear hof
  go_enter Tryz.func31, Tryz.ntmps31
  go_wp2_with fail
  have b1 := Blk.new w 25 #[.bool false, .slice none 0 0, .slice none 0 0]
  have hB : Below w.heap.size w (w.alloc (.cells #[.bool false, .slice none 0 0, .slice none 0 0] 25)) := (Below.refl _ _).alloc (Nat.le_refl _) _
  generalize w.alloc (.cells #[.bool false, .slice none 0 0, .slice none 0 0] 25) = w2 at *
  refine (HOF.out _).mono ?_
  rintro e w3 ⟨v3, rfl, h3, hb⟩
  have q1 := (b1.below hb b1.lt).alloc (.cells #[.int .u32 1] 43)
  replace hB := hB.trans (hb.mono hB.size)
  obtain ⟨h4, hb4⟩ := nt_laid w3 43 [1] (by simp)
  have h3' := ((h3.low (Nat.zero_le _)).alloc (Nat.le_refl _) (.cells #[.int .u32 1] 43)).up (B' := (w3.alloc (.cells #[.int .u32 1] 43)).heap.size) (by simp)
  replace hB := hB.trans (hb4.mono hB.size)
  clear h3 hb hb4 b1 HOF
  go_wp2_with fail
  refine (hcon.out _ _ _ h3' h4).mono ?_
  rintro e w5 ⟨v5, rfl, ⟨an, ad, rfl, han, had⟩, hb⟩
  have q5 := q1.below hb q1.lt
  have han' := han
  have had' := had
  obtain ⟨A8, c8, rfl, m8⟩ := nt_len han'
  obtain ⟨A9, c9, rfl, m9⟩ := nt_len had'
  obtain ⟨e0, e1, e2, hR, hBf⟩ := store3 q5 (hB.trans (hb.mono hB.size)) (Nat.le_refl _) (qS q) (.slice A8 (lim (qN q)).length c8) (.slice A9 (lim q.den).length c9) (han.low q1.lt) (had.low q1.lt)
  have r0 := q5.cell 0
  have r1 := q5.cell 1
  have r2 := q5.cell 2
  have f0 := q5.free 0
  have f1 := q5.free 1
  have f2 := q5.free 2
  have HR := Lib.hid hR
  have HBF := Lib.hid hBf
  clear q1 q5 han had han' had' hR hBf hb h3' h4 hB
  unfold St3 at *
  go_wp2_with fail
  clear r0 r1 r2 f0 f1 f2
  generalize ((World.setCell w5 ⟨w.heap.size, 0, none⟩ (.bool (qS q))).setCell ⟨w.heap.size, 1, none⟩ (.slice A8 (lim (qN q)).length c8)).setCell ⟨w.heap.size, 2, none⟩ (.slice A9 (lim q.den).length c9) = W at *
  refine bodyPost_ret (v := .agg #[.bool (qS q), .slice A8 (lim (qN q)).length c8, .slice A9 (lim q.den).length c9]) ?_ rfl ⟨_, rfl, HR.out, HBF.out⟩
  simp [results, Tryz.results31, go_sem, e0, e1, e2]

set_option maxHeartbeats 1600000 in
theorem refZero_any (v : Value) (q : Rat) (k : Nat) (w : World) (h : RQ w 0 w.heap.size v q k) (hk : k ≤ 1000) : Calls Tryz.prog 7 #[v] w fun e w' => e = .returned (.bool (decide (q = 0))) ∧ Below w.heap.size w w' := by
  have hcon := fun (w : World) (h : RQ w 0 w.heap.size v q k) => ratNorm_q v q k w h hk
  have HC := Lib.hid hcon
  obtain ⟨s, n, d, ⟨vn, vd, rfl, hn, hd⟩, rest⟩ := h
  have hlq : ((((lim (qN q)).length : Nat) : Int) == 0) = decide (q = 0) := by
    by_cases h0 : q = 0
    · rw [decide_eq_true h0, qN_zero.2 h0, lim_zero]; rfl
    · rw [decide_eq_false h0]
      have h1 : qN q ≠ 0 := fun h => h0 (qN_zero.1 h)
      have h2 : (lim (qN q)).length ≠ 0 := fun h => h1 (lim_eq_nil.1 (List.eq_nil_of_length_eq_zero h))
      exact beq_eq_false_iff_ne.2 (by omega)
  have HR : Hid (RQ w 0 w.heap.size (.agg #[.bool s, vn, vd]) q k) := ⟨s, n, d, ⟨vn, vd, rfl, hn, hd⟩, rest⟩
  clear hcon hn hd rest
  go_enter Tryz.func7, Tryz.ntmps7
  go_wp2_with fail
  have b0 := Blk.new w 25 #[.bool s, vn, vd]
  have hB : Below w.heap.size w (w.alloc (.cells #[.bool s, vn, vd] 25)) := (Below.refl _ _).alloc (Nat.le_refl _) _
  generalize w.alloc (.cells #[.bool s, vn, vd] 25) = w2 at *
  have c0 := b0.cell 0
  have c1 := b0.cell 1
  have c2 := b0.cell 2
  go_wp2_with fail
  refine (HC.out _ (HR.out.after hB)).mono ?_
  rintro e w3 ⟨v3, rfl, ⟨an, ad, rfl, h1, h2⟩, hb⟩
  obtain ⟨A8, c8, rfl, m8⟩ := nt_len h1
  obtain ⟨A9, c9, rfl, m9⟩ := nt_len h2
  replace hB := hB.trans (hb.mono hB.size)
  clear h1 h2 hb c0 c1 c2 b0 HC HR
  have hfd : ∀ w : World, Sem.run Tryz.prog (Instr.field 25 (.agg #[.bool (qS q), .slice A8 (lim (qN q)).length c8, .slice A9 (lim q.den).length c9]) 1) w = .ok (.slice A8 (lim (qN q)).length c8) w := fun _ => by kernel_rfl
  go_wp2_with fail
  go_ret
  exact ⟨by rw [← hlq]; rfl, hB⟩
end Go.Proofs.YtobmjcbjailclaaGreatDoor

/- The reference's 'Ten', 'Bit' and 'Bits' by their contracts. No condition but small sizes. -/
namespace Go.Proofs.YtobmjcbjailclaaGreatDoor
set_option maxRecDepth 100000
open Go.RowKit

theorem shiftN_on {v p : Nat} (hp : p ≤ 4096) : shiftN v (p : Int) = v * 2 ^ p := by
  have e : held12 (p : Int) = (p : Int) := by unfold held12; omega
  unfold shiftN
  rw [e, if_neg (by omega)]
  rfl

theorem two_len {p : Nat} (h : p ≤ 1000) : (lim (2 ^ p)).length ≤ 32 := by
  refine Nat.le_trans (lim_length_le (k := p / 32 + 1) ?_) (by omega)
  rw [base_pow]
  exact Nat.pow_lt_pow_right (by omega) (by omega)

/-- A literal row of one limb. -/
theorem lit_one (w : World) (t : TypeId) (x : Nat) : Nt (w.alloc (.cells #[.int .u32 (x : Int)] t)) w.heap.size (w.alloc (.cells #[.int .u32 (x : Int)] t)).heap.size (.slice (some ⟨w.heap.size, 0, none⟩) 1 1) [x] := by
  have h : Lb (w.alloc (.cells #[.int .u32 (x : Int)] t)) w.heap.size t [x] := Blk.new w t _
  exact h.reads (n := 1) (by simp) (by unfold maxLen; simp)

set_option maxHeartbeats 3200000 in
theorem refTen_any (d : Nat) (w : World) (hd : d ≤ 30) : Calls Tryz.prog 20 #[.int .i64 (d : Int)] w (GivesT false 1 (10 ^ d) w) := by
  go_enter Tryz.func20, Tryz.ntmps20
  go_wp2_with fail
  have b0 := (Blk.new w 25 #[.bool false, .slice none 0 0, .slice none 0 0]).alloc (.cells #[.int .u32 1] 43)
  have h1 := lit_one (w.alloc (.cells #[.bool false, .slice none 0 0, .slice none 0 0] 25)) 43 1
  have es : (w.alloc (.cells #[.bool false, .slice none 0 0, .slice none 0 0] 25)).heap.size = w.heap.size + 1 := by simp
  have hb1 : Below w.heap.size w ((w.alloc (.cells #[.bool false, .slice none 0 0, .slice none 0 0] 25)).alloc (.cells #[.int .u32 1] 43)) := ((Below.refl _ _).alloc (Nat.le_refl _) _).alloc (by simp) _
  rw [es] at h1
  clear es
  have l0 : ([1] : List Nat) = lim (10 ^ 0) := (lim_one (by omega) (by omega)).symm
  rw [l0] at h1
  clear l0
  go_loopw [3, 4] (fun a i wr => ∃ k : Nat, k ≤ d ∧ i = .int .i64 (k : Nat) ∧ Nt wr (w.heap.size + 1) wr.heap.size a (lim (10 ^ k)) ∧ Blk wr w.heap.size 25 #[.bool false, .slice none 0 0, .slice none 0 0] ∧ Below w.heap.size w wr)
    (fun _ i _ => d - (intOf i).toNat)
  case atStart => exact ⟨0, Nat.zero_le _, rfl, h1, b0, hb1⟩
  case round =>
    obtain ⟨k, hk, rfl, ha, hq, hb⟩ := hrel
    clear h1 b0 hb1
    have hl := ten_len (Nat.le_trans hk hd)
    have dk := dig_lim (10 ^ k)
    by_cases hlt : k < d
    · have hlI : (k : Int) < (d : Int) := by omega
      have P : Hid (val (lim (10 ^ k)) * val [10] = 10 ^ (k + 1)) := by
        show _ = _
        rw [val_lim, val_one, Nat.pow_succ]
      have dt : Dig [10] := dig_one (by omega)
      have h10 := lit_one wr 43 10
      have hbb : Below wr.heap.size wr (wr.alloc (.cells #[.int .u32 10] 43)) := (Below.refl _ _).alloc (Nat.le_refl _) _
      have ha2 := (ha.low (Nat.zero_le _)).after hbb
      have hq2 := hq.alloc (.cells #[.int .u32 10] 43)
      have hg := hq.lt
      have hs : Hid (w.heap.size + 1 ≤ (wr.alloc (.cells #[.int .u32 10] 43)).heap.size) := hq2.lt
      have hb2 := hb.trans (hbb.mono hb.size)
      have h10' := h10.low (Nat.zero_le _)
      clear ha hq hb hbb h10 hg
      go_wp2_with fail
      refine (refMul_any _ _ (lim (10 ^ k)) [10] _ dk dt ha2 h10' (by omega) (by simp)).mono ?_
      rw [P.out]
      rintro e w4 ⟨v4, rfl, h4, hb4⟩
      have h4' := h4.low hs.out
      have hq4 := hq2.below hb4 hq2.lt
      have hb04 := hb2.trans (hb4.mono hb2.size)
      clear h4 hb4 ha2 h10' hb2 hq2
      go_wp2_with fail
      go_roundw
      case rel => exact ⟨k + 1, by omega, by go_num, h4', hq4, hb04⟩
      case measure => simp [intOf]; omega
    · obtain rfl : k = d := by omega
      have h1 := lit_one wr 43 1
      have hbb : Below wr.heap.size wr (wr.alloc (.cells #[.int .u32 1] 43)) := (Below.refl _ _).alloc (Nat.le_refl _) _
      have ha2 := (ha.low (Nat.zero_le _)).after hbb
      have hq2 := hq.alloc (.cells #[.int .u32 1] 43)
      have hb2 := hb.trans (hbb.mono hb.size)
      have h1' := h1.low (Nat.zero_le _)
      have d1 : Dig [1] := dig_one (by omega)
      have N1 := Lib.hid (nr_one (s := false) (d := 10 ^ k) (Nat.ne_of_gt (Nat.pow_pos (by omega))))
      clear ha hq hb hbb h1
      go_wp2_with fail
      refine (ratOf_any false _ _ [1] (lim (10 ^ k)) _ d1 dk h1' ha2 (by simp) (by omega)).mono ?_
      rw [val_lim, val_one, N1.out.1, N1.out.2.1, N1.out.2.2]
      rintro e w2 ⟨v2, rfl, ⟨x, y, rfl, hx, hy⟩, hb3⟩
      have hx' := hx
      have hy' := hy
      obtain ⟨A3, c3, rfl, m3⟩ := nt_len hx'
      obtain ⟨A4, c4, rfl, m4⟩ := nt_len hy'
      have q0 := hq2.below hb3 hq2.lt
      have hx2 := hx.low (show w.heap.size + 1 ≤ _ from hq2.lt)
      have hy2 := hy.low (show w.heap.size + 1 ≤ _ from hq2.lt)
      have hB2 := hb2.trans (hb3.mono hb2.size)
      clear hx hy hb3 hb2 hq2 ha2 h1' hx' hy'
      have r0 := q0.cell 0
      have r1 := q0.cell 1
      have r2 := q0.cell 2
      have f0 := q0.free 0
      have f1 := q0.free 1
      have f2 := q0.free 2
      have p3 := ((q0.put 0 (.bool false)).put 1 (.slice A3 (lim 1).length c3)).put 2 (.slice A4 (lim (10 ^ k)).length c4)
      have hBB := ((hB2.setCell (p := ⟨w.heap.size, 0, none⟩) (by simp) (.bool false)).setCell (p := ⟨w.heap.size, 1, none⟩) (by simp) (.slice A3 (lim 1).length c3)).setCell (p := ⟨w.heap.size, 2, none⟩) (by simp) (.slice A4 (lim (10 ^ k)).length c4)
      have t6 := ((hx2.put3 (Nat.lt_succ_self _) 0 (.bool false)).put3 (Nat.lt_succ_self _) 1 (.slice A3 (lim 1).length c3)).put3 (Nat.lt_succ_self _) 2 (.slice A4 (lim (10 ^ k)).length c4)
      have t7 := ((hy2.put3 (Nat.lt_succ_self _) 0 (.bool false)).put3 (Nat.lt_succ_self _) 1 (.slice A3 (lim 1).length c3)).put3 (Nat.lt_succ_self _) 2 (.slice A4 (lim (10 ^ k)).length c4)
      clear hx2 hy2 
      go_wp2_with fail
      clear r0 r1 r2 f0 f1 f2 q0
      generalize ((World.setCell w2 ⟨w.heap.size, 0, none⟩ (.bool false)).setCell ⟨w.heap.size, 1, none⟩ (.slice A3 (lim 1).length c3)).setCell ⟨w.heap.size, 2, none⟩ (.slice A4 (lim (10 ^ k)).length c4) = WW at *
      have e0 : WW.cell? ⟨w.heap.size, 0, none⟩ = some (.bool false) := by rw [p3.cell]; rfl
      have e1 : WW.cell? ⟨w.heap.size, 1, none⟩ = some (.slice A3 (lim 1).length c3) := by rw [p3.cell]; rfl
      have e2 : WW.cell? ⟨w.heap.size, 2, none⟩ = some (.slice A4 (lim (10 ^ k)).length c4) := by rw [p3.cell]; rfl
      refine bodyPost_ret (v := .agg #[.bool false, .slice A3 (lim 1).length c3, .slice A4 (lim (10 ^ k)).length c4]) ?_ rfl ⟨_, rfl, ⟨_, _, rfl, t6.low (by omega), t7.low (by omega)⟩, hBB⟩
      simp [results, Tryz.results20, go_sem, e0, e1, e2]

set_option maxHeartbeats 3200000 in
theorem refBit_any (p : Nat) (w : World) (hp : p ≤ 1000) : Calls Tryz.prog 56 #[.int .i64 (p : Int)] w (GivesT false 1 (2 ^ p) w) := by
  have V : Hid (shiftN (val [1]) (p : Int) = 2 ^ p) := by
    show _ = _
    rw [shiftN_on (by omega), val_one, Nat.one_mul]
  have l2 := two_len hp
  have d2 := dig_lim (2 ^ p)
  have d1 : Dig [1] := dig_one (by omega)
  have N1 := Lib.hid (nr_one (s := false) (d := 2 ^ p) (Nat.ne_of_gt (Nat.two_pow_pos p)))
  go_enter Tryz.func56, Tryz.ntmps56
  go_wp2_with fail
  have b0 := ((Blk.new w 25 #[.bool false, .slice none 0 0, .slice none 0 0]).alloc (.cells #[.int .u32 1] 43)).alloc (.cells #[.int .u32 1] 43)
  have h1 := lit_one (w.alloc (.cells #[.bool false, .slice none 0 0, .slice none 0 0] 25)) 43 1
  have h2 := lit_one ((w.alloc (.cells #[.bool false, .slice none 0 0, .slice none 0 0] 25)).alloc (.cells #[.int .u32 1] 43)) 43 1
  have es : (w.alloc (.cells #[.bool false, .slice none 0 0, .slice none 0 0] 25)).heap.size = w.heap.size + 1 := by simp
  have es2 : ((w.alloc (.cells #[.bool false, .slice none 0 0, .slice none 0 0] 25)).alloc (.cells #[.int .u32 1] 43)).heap.size = w.heap.size + 1 + 1 := by simp
  have hbb : Below ((w.alloc (.cells #[.bool false, .slice none 0 0, .slice none 0 0] 25)).alloc (.cells #[.int .u32 1] 43)).heap.size ((w.alloc (.cells #[.bool false, .slice none 0 0, .slice none 0 0] 25)).alloc (.cells #[.int .u32 1] 43)) (((w.alloc (.cells #[.bool false, .slice none 0 0, .slice none 0 0] 25)).alloc (.cells #[.int .u32 1] 43)).alloc (.cells #[.int .u32 1] 43)) := (Below.refl _ _).alloc (Nat.le_refl _) _
  have h1' := (h1.after hbb).low (Nat.zero_le _)
  have h2' := h2.low (Nat.zero_le _)
  rw [es] at h1'
  rw [es2] at h2'
  have hb1 : Below w.heap.size w (((w.alloc (.cells #[.bool false, .slice none 0 0, .slice none 0 0] 25)).alloc (.cells #[.int .u32 1] 43)).alloc (.cells #[.int .u32 1] 43)) := (((Below.refl _ _).alloc (Nat.le_refl _) _).alloc (by simp) _).alloc (by simp; omega) _
  clear h1 h2 hbb es es2
  generalize ((w.alloc (.cells #[.bool false, .slice none 0 0, .slice none 0 0] 25)).alloc (.cells #[.int .u32 1] 43)).alloc (.cells #[.int .u32 1] 43) = w1 at *
  refine (refShift_any _ [1] _ _ d1 h2' (by simp)).mono ?_
  rw [V.out]
  rintro e w3 ⟨v3, rfl, h3, hb3⟩
  have h3' := h3.low (Nat.zero_le _)
  have h1'' := h1'.after hb3
  have q3 := b0.below hb3 b0.lt
  have hB3 := hb1.trans (hb3.mono hb1.size)
  clear h3 h1' h2' b0 hb1 hb3
  go_wp2_with fail
  refine (ratOf_any false _ _ [1] (lim (2 ^ p)) _ d1 d2 h1'' h3' (by simp) (by omega)).mono ?_
  rw [val_lim, val_one, N1.out.1, N1.out.2.1, N1.out.2.2]
  rintro e w2 ⟨v2, rfl, ⟨x, y, rfl, hx, hy⟩, hb3⟩
  have hx' := hx
  have hy' := hy
  obtain ⟨A3, c3, rfl, m3⟩ := nt_len hx'
  obtain ⟨A4, c4, rfl, m4⟩ := nt_len hy'
  have q0 := q3.below hb3 q3.lt
  have hx2 := hx.low (show w.heap.size + 1 ≤ _ from q3.lt)
  have hy2 := hy.low (show w.heap.size + 1 ≤ _ from q3.lt)
  have hB2 := hB3.trans (hb3.mono hB3.size)
  clear hx hy hb3 hB3 q3 h1'' h3' hx' hy'
  have r0 := q0.cell 0
  have r1 := q0.cell 1
  have r2 := q0.cell 2
  have f0 := q0.free 0
  have f1 := q0.free 1
  have f2 := q0.free 2
  have p3 := ((q0.put 0 (.bool false)).put 1 (.slice A3 (lim 1).length c3)).put 2 (.slice A4 (lim (2 ^ p)).length c4)
  have hBB := ((hB2.setCell (p := ⟨w.heap.size, 0, none⟩) (by simp) (.bool false)).setCell (p := ⟨w.heap.size, 1, none⟩) (by simp) (.slice A3 (lim 1).length c3)).setCell (p := ⟨w.heap.size, 2, none⟩) (by simp) (.slice A4 (lim (2 ^ p)).length c4)
  have t6 := ((hx2.put3 (Nat.lt_succ_self _) 0 (.bool false)).put3 (Nat.lt_succ_self _) 1 (.slice A3 (lim 1).length c3)).put3 (Nat.lt_succ_self _) 2 (.slice A4 (lim (2 ^ p)).length c4)
  have t7 := ((hy2.put3 (Nat.lt_succ_self _) 0 (.bool false)).put3 (Nat.lt_succ_self _) 1 (.slice A3 (lim 1).length c3)).put3 (Nat.lt_succ_self _) 2 (.slice A4 (lim (2 ^ p)).length c4)
  clear hx2 hy2 
  go_wp2_with fail
  clear r0 r1 r2 f0 f1 f2 q0
  generalize ((World.setCell w2 ⟨w.heap.size, 0, none⟩ (.bool false)).setCell ⟨w.heap.size, 1, none⟩ (.slice A3 (lim 1).length c3)).setCell ⟨w.heap.size, 2, none⟩ (.slice A4 (lim (2 ^ p)).length c4) = WW at *
  have e0 : WW.cell? ⟨w.heap.size, 0, none⟩ = some (.bool false) := by rw [p3.cell]; rfl
  have e1 : WW.cell? ⟨w.heap.size, 1, none⟩ = some (.slice A3 (lim 1).length c3) := by rw [p3.cell]; rfl
  have e2 : WW.cell? ⟨w.heap.size, 2, none⟩ = some (.slice A4 (lim (2 ^ p)).length c4) := by rw [p3.cell]; rfl
  refine bodyPost_ret (v := .agg #[.bool false, .slice A3 (lim 1).length c3, .slice A4 (lim (2 ^ p)).length c4]) ?_ rfl ⟨_, rfl, ⟨_, _, rfl, t6.low (by omega), t7.low (by omega)⟩, hBB⟩
  simp [results, Tryz.results56, go_sem, e0, e1, e2]

theorem cmp_ten (p d : Nat) : cmpI (sg false 1 * ((10 ^ d : Nat) : Int)) (sg false 1 * ((2 ^ p : Nat) : Int)) = cmpI ((10 ^ d : Nat) : Int) ((2 ^ p : Nat) : Int) := by
  unfold sg
  simp

/-- Half so often against a tenth so often: by their divisors, turned round. -/
theorem cmpBT_any (u v : Value) (p d : Nat) (w : World) (hp : p ≤ 1000) (hd : d ≤ 30) (h : Rt w 0 w.heap.size u false (lim 1) (lim (2 ^ p))) (h' : Rt w 0 w.heap.size v false (lim 1) (lim (10 ^ d))) :
    Calls Tryz.prog 48 #[u, v] w fun e w' => e = .returned (.int .i64 (cmpI ((10 ^ d : Nat) : Int) ((2 ^ p : Nat) : Int))) ∧ Below w.heap.size w w' := by
  have a := nr_one (s := false) (d := 2 ^ p) (Nat.ne_of_gt (Nat.two_pow_pos p))
  have b := nr_one (s := false) (d := 10 ^ d) (Nat.ne_of_gt (Nat.pow_pos (by omega)))
  have l1 : (lim 1).length ≤ 1 := lim_length_le (by omega)
  have l2 := two_len hp
  have l3 := ten_len hd
  have c := ratCmp_any u v false false (lim 1) (lim (2 ^ p)) (lim 1) (lim (10 ^ d)) w (dig_lim _) (dig_lim _) (dig_lim _) (dig_lim _) h h' (by omega) (by omega) (by omega) (by omega) false false 1 (2 ^ p) 1 (10 ^ d)
    (by rw [val_lim, val_lim]; exact a.1) (by rw [val_lim, val_lim]; exact a.2.1) (by rw [val_lim, val_lim]; exact a.2.2) (by rw [val_lim, val_lim]; exact b.1) (by rw [val_lim, val_lim]; exact b.2.1) (by rw [val_lim, val_lim]; exact b.2.2)
  rw [cmp_ten] at c
  exact c
end Go.Proofs.YtobmjcbjailclaaGreatDoor

/- The reference's 'units' of decimals by its contract. Condition: bounds on lengths. -/
namespace Go.Proofs.YtobmjcbjailclaaGreatDoor
set_option maxRecDepth 100000
open Go.RowKit

set_option maxHeartbeats 3200000 in
theorem refUnits_q (v : Value) (q : Rat) (kk k : Nat) (w : World) (h : RQ w 0 w.heap.size v q kk) (hkk : kk ≤ 70) (hkk1 : 1 ≤ kk) (hk : k ≤ 60) :
    Calls Tryz.prog 89 #[v, .int .i64 (k : Int)] w (Gives (lim (rhe (qN q * 10 ^ k) q.den)) w) := by
  have hz := h.sz hkk1
  have HNO : Hid (∀ W, Below w.heap.size w W → Calls Tryz.prog 22 #[v] W (GivesF q W)) := fun W hb => ratNorm_q v q kk W (h.after hb) (by omega)
  obtain ⟨n, hnn⟩ : ∃ n, lim (qN q) = n := ⟨_, rfl⟩
  obtain ⟨d, hdd⟩ : ∃ d, lim q.den = d := ⟨_, rfl⟩
  have dn : Dig n := by rw [← hnn]; exact dig_lim _
  have dd : Dig d := by rw [← hdd]; exact dig_lim _
  have vnq : qN q = val n := by rw [← hnn, val_lim]
  have vdq : q.den = val d := by rw [← hdd, val_lim]
  have hd0 : val d ≠ 0 := by rw [← vdq]; exact q.den_nz
  have ln : n.length ≤ 70 := by have := hz.1; rw [hnn] at this; omega
  have ld : d.length ≤ 70 := by have := hz.2; rw [hdd] at this; omega
  rw [vnq, vdq]
  unfold GivesF GivesT at HNO
  rw [hnn, hdd] at HNO
  clear vnq vdq hnn hdd hz
  obtain ⟨s0, n0, d0, ⟨un, ud, rfl, hn0, hd0'⟩, rest0⟩ := h
  obtain ⟨A1, k1, rfl, m1⟩ := nt_len hn0
  obtain ⟨A2, k2, rfl, m2⟩ := nt_len hd0'
  clear hn0 hd0' rest0
  have dt := dig_lim (10 ^ k)
  have lt := ten_len60 hk
  have dx := dig_lim (val n * val (lim (10 ^ k)))
  have lx : (lim (val n * val (lim (10 ^ k)))).length ≤ 131 := lim_mul_len dn dt rfl rfl ln lt
  obtain ⟨X, hX⟩ : ∃ X, val n * 10 ^ k = X := ⟨_, rfl⟩
  have VX : Hid (val (lim (val n * val (lim (10 ^ k)))) = X) := by show _ = _; rw [val_lim, val_lim, hX]
  obtain ⟨Q, hQ⟩ : ∃ Q, X / val d = Q := ⟨_, rfl⟩
  obtain ⟨R, hR⟩ : ∃ R, X % val d = R := ⟨_, rfl⟩
  have GR : Hid (remN X (val d) = R) := by show _ = _; unfold remN; rw [if_neg hd0, hR]
  have HQ := Lib.hid hQ
  rw [hX]
  have hrl : R < val d := by rw [← hR]; exact Nat.mod_lt _ (by omega)
  have HU : Hid (rhe X (val d) = if val d < 2 * R ∨ (2 * R = val d ∧ Q % 2 = 1) then Q + 1 else Q) := by show _ = _; unfold rhe; rw [hQ, hR]
  obtain ⟨U, hU⟩ : ∃ U, rhe X (val d) = U := ⟨_, rfl⟩
  rw [hU] at HU ⊢
  have lQ : (lim Q).length ≤ 2000 := by rw [← hQ]; exact Nat.le_trans (lim_len_mono (Nat.div_le_self _ _)) (by have := VX.out; rw [val_lim] at this; rw [← this]; omega)
  have lR : (lim R).length ≤ 1000 := Nat.le_trans (lim_len_mono (Nat.le_of_lt hrl)) (Nat.le_trans (lim_val_length d dd) (by omega))
  have dR := dig_lim R
  have VR := Lib.hid (val_lim R)
  have dS := dig_lim (R + R)
  have lS : (lim (R + R)).length ≤ 2000 := Nat.le_trans (lim_add_len dR dR (val_lim _).symm (val_lim _).symm lR lR) (by omega)
  have HSH : Hid (val (lim (R + R)) = 2 * R) := by show _ = _; rw [val_lim]; omega
  have HTEN : Hid (∀ W, Calls Tryz.prog 34 #[.int .i64 (k : Int)] W (Gives (lim (10 ^ k)) W)) := fun W => refTen3_any k W (by omega)
  have hB : Below w.heap.size w (w.alloc (.cells #[.bool s0, .slice A1 n0.length k1, .slice A2 d0.length k2] 25)) := (Below.refl _ _).alloc (Nat.le_refl _) _
  clear hQ hR hX hU
  go_enter Tryz.func89, Tryz.ntmps89
  go_wp2_with fail
  go_fit (HNO.out _ hB)
  rintro e w1 ⟨v1, rfl, ⟨vn, vd, rfl, hn, hd⟩, hb1⟩
  have hn' := hn
  have hd' := hd
  obtain ⟨A3, k3, rfl, m3⟩ := nt_len hn'
  obtain ⟨A4, k4, rfl, m4⟩ := nt_len hd'
  replace hB := hB.trans (hb1.mono hB.size)
  clear hn' hd' hb1 HNO
  replace hn := hn.low (Nat.zero_le _)
  replace hd := hd.low (Nat.zero_le _)
  have b0 := Blk.new w1 25 #[.bool (qS q), .slice A3 n.length k3, .slice A4 d.length k4]
  have hal : Below w1.heap.size w1 (w1.alloc (.cells #[.bool (qS q), .slice A3 n.length k3, .slice A4 d.length k4] 25)) := (Below.refl _ _).alloc (Nat.le_refl _) _
  have hsz0 : w.heap.size ≤ w1.heap.size := hB.size
  replace hn := hn.after hal
  replace hd := hd.after hal
  replace hB := hB.trans (hal.mono hB.size)
  have hg := b0.lt
  have cc1 := b0.cell 1
  have cc2 := b0.cell 2
  clear hal
  go_wp2_with fail
  generalize w1.alloc (.cells #[.bool (qS q), .slice A3 n.length k3, .slice A4 d.length k4] 25) = w2 at *
  go_region_held3 (fun W => Below w2.heap.size w2 W ∧ W.cell? ⟨w1.heap.size, 1, none⟩ = some (.slice A3 n.length k3) ∧ W.cell? ⟨w1.heap.size, 2, none⟩ = some (.slice A4 d.length k4))
    (first | assumption | exact keep2 (by assumption) (by assumption) hg | exact ⟨(Below.refl _ _).drew, cc1, cc2⟩)
    (first
      | (go_at_call 34; refine (HTEN.out _).mono ?_; rintro e w3 ⟨v3, rfl, h3, hb3⟩; have hbb3 := hb3; have hk3 : Below w2.heap.size w2 w3 := Below.trans (Below.drew (Below.refl _ _)) hb3)
      | (go_at_call 36; refine (refMul_any _ v3 n (lim (10 ^ k)) _ dn dt (hn.after hk3) (h3.low (Nat.zero_le _)) (by omega) (by omega)).mono ?_; rintro e w4 ⟨v4, rfl, h4, hb4⟩; have hbb4 := hb4; have hk4 : Below w2.heap.size w2 w4 := hk3.trans (hb4.mono hk3.size))
      | (go_at_call 65; refine (refDiv_any v4 _ (lim (val n * val (lim (10 ^ k)))) d _ dx dd (h4.low (Nat.zero_le _)) (hd.after hk4) (by omega) (by omega)).mono ?_; rintro e w5 ⟨v5, z5, rfl, h5, h5', hb5⟩; have hbb5 := hb5; have hk5 : Below w2.heap.size w2 w5 := hk4.trans (hb5.mono hk4.size))
      | fail)
  rw [VX.out, HQ.out] at h5
  rw [VX.out, GR.out] at h5'
  replace h5 := h5.low (show w2.heap.size ≤ _ from hk4.size)
  replace h5' := h5'.low (show w2.heap.size ≤ _ from hk4.size)
  have q0 := b0.below hk5 hg
  replace hd := hd.after hk5
  replace hB := hB.trans (hk5.mono hB.size)
  have hg5 : w1.heap.size < w5.heap.size := q0.lt
  have cd1 := q0.cell 1
  have cd2 := q0.cell 2
  have hsz : w.heap.size ≤ w2.heap.size := Nat.le_trans hsz0 (Nat.le_of_lt hg)
  clear hn h3 hb3 hbb3 hk3 h4 hb4 hbb4 hk4 hb5 hbb5 hk5 cc1 cc2 b0 dx lx dt lt
  go_wp2_with fail
  go_region_held3 (fun W => Below w5.heap.size w5 W ∧ W.cell? ⟨w1.heap.size, 1, none⟩ = some (.slice A3 n.length k3) ∧ W.cell? ⟨w1.heap.size, 2, none⟩ = some (.slice A4 d.length k4))
    (first | assumption | exact keep2 (by assumption) (by assumption) hg5 | exact ⟨(Below.refl _ _).drew, cd1, cd2⟩)
    (first
      | (go_at_call 35; refine (refAdd_any z5 z5 (lim R) (lim R) _ dR dR (h5'.drew.low (Nat.zero_le _)) (h5'.drew.low (Nat.zero_le _)) (by omega) (by omega)).mono ?_; rw [VR.out]; rintro e w6 ⟨v6, rfl, h6, hb6⟩; have hbb6 := hb6; have hk6 : Below w5.heap.size w5 w6 := Below.trans (Below.drew (Below.refl _ _)) hb6)
      | (go_at_call 66; refine (refCmp_any v6 _ (lim (R + R)) d _ (dig_lim _) dd (h6.low (Nat.zero_le _)) (hd.after hk6) (by omega) (by omega)).mono ?_; rintro e w7 ⟨rfl, hb7⟩; have hbb7 := hb7; have hk7 : Below w5.heap.size w5 w7 := hk6.trans (hb7.mono hk6.size))
      | fail)
  have HCM : Hid (cmpN (val (lim (R + R))) (val d) = cmpN (2 * R) (val d)) := by
    show _ = _
    rw [HSH.out]
  rw [HCM.out]
  replace h5 := h5.after hk7
  replace hB := hB.trans (hk7.mono hB.size)
  have hw7 : w.heap.size ≤ w7.heap.size := hB.size
  clear h6 hb6 hbb6 hk6 hb7 hbb7 hk7 q0 hd cd1 cd2 hg5 h5' dR lR VR HSH dS lS GR HCM hrl
  by_cases c1 : val d < 2 * R
  · rw [cmpN_gt c1]
    have hU : U = Q + 1 := by rw [HU.out, if_pos (Or.inl c1)]
    have HUU := Lib.hid hU
    clear c1 HU hU
    go_wp2_with fail
    have h8 := (lit_one w7 43 1).low (Nat.zero_le _)
    have hb : Below w7.heap.size w7 (w7.alloc (.cells #[.int .u32 1] 43)) := (Below.refl _ _).alloc (Nat.le_refl _) _
    replace h5 := (h5.low (Nat.zero_le _)).after hb
    replace hB := hB.trans (hb.mono hB.size)
    clear hb
    go_fit (refAdd_any _ _ (lim Q) [1] _ (dig_lim _) (dig_one (by omega)) h5 h8 (by omega) (by simp))
    rw [val_lim, val_one]
    rintro e w9 ⟨v9, rfl, h9, hb⟩
    replace h9 := h9.low hB.size
    replace hB := hB.trans (hb.mono hB.size)
    clear hb h5 h8
    go_wp2_with fail
    go_ret
    exact ⟨_, rfl, by rw [HUU.out]; exact h9, hB⟩
  · by_cases c2 : 2 * R = val d
    · rw [cmpN_eq c2]
      by_cases c3 : Q = 0
      · have hU : U = 0 := by rw [HU.out, if_neg (by omega), c3]
        have HUU := Lib.hid hU
        rw [c3, lim_zero] at h5
        have h50 := h5
        obtain ⟨A5, c5, rfl, m5⟩ := nt_len h50
        have L0 := Lib.hid lim_zero
        clear c1 c2 HU hU c3 h50
        go_wp2_with fail
        go_ret
        exact ⟨_, rfl, by rw [HUU.out, L0.out]; exact h5.low hsz, hB⟩
      · obtain ⟨y, r, hy, hym, hyl⟩ := lim_head c3
        have h50 := h5
        rw [hy] at h50
        obtain ⟨A5, c5, hv5, hc5, m5, _, hx5⟩ := h50
        obtain ⟨b5, o5, rfl, _, _, hcell⟩ := hx5 (by simp)
        have hce := hcell 0 (by simp)
        rw [Nat.add_zero, List.getElem_cons_zero] at hce
        have hln : (lim Q).length = r.length + 1 := by rw [hy]; rfl
        subst hv5
        have hle : (y :: r).length = r.length + 1 := rfl
        obtain ⟨L, hL⟩ : ∃ L, r.length + 1 = L := ⟨_, rfl⟩
        rw [hle, hL] at h5 hc5 ⊢
        have hLp : (0 : Int) < (L : Int) := by omega
        have hand : bits .and .u32 (y : Int) 1 = ((Q % 2 : Nat) : Int) := by
          rw [← hym, ← Nat.and_one_is_mod]
          exact u32_and_nat y 1 hyl (by omega)
        by_cases c4 : Q % 2 = 1
        · have hU : U = Q + 1 := by rw [HU.out, if_pos (Or.inr ⟨c2, c4⟩)]
          have HUU := Lib.hid hU
          rw [c4] at hand
          replace hand : bits .and .u32 (y : Int) 1 = 1 := hand
          clear c1 c2 HU hU c3 c4 hx5 hcell hy hym hyl hln hle hL
          go_wp2_with fail
          have h8 := (lit_one w7 43 1).low (Nat.zero_le _)
          have hb : Below w7.heap.size w7 (w7.alloc (.cells #[.int .u32 1] 43)) := (Below.refl _ _).alloc (Nat.le_refl _) _
          replace h5 := (h5.low (Nat.zero_le _)).after hb
          replace hB := hB.trans (hb.mono hB.size)
          clear hb
          go_fit (refAdd_any _ _ (lim Q) [1] _ (dig_lim _) (dig_one (by omega)) h5 h8 (by omega) (by simp))
          rw [val_lim, val_one]
          rintro e w9 ⟨v9, rfl, h9, hb⟩
          replace h9 := h9.low hB.size
          replace hB := hB.trans (hb.mono hB.size)
          clear hb h5 h8
          go_wp2_with fail
          go_ret
          exact ⟨_, rfl, by rw [HUU.out]; exact h9, hB⟩
        · have hU : U = Q := by rw [HU.out, if_neg (by omega)]
          have HUU := Lib.hid hU
          have c5' : Q % 2 = 0 := by omega
          rw [c5'] at hand
          replace hand : bits .and .u32 (y : Int) 1 = 0 := hand
          clear c1 c2 HU hU c3 c4 hx5 hcell hy hym hyl hln hle hL c5'
          go_wp2_with fail
          go_ret
          exact ⟨_, rfl, by rw [HUU.out]; exact h5.low hsz, hB⟩
    · have c6 : 2 * R < val d := by omega
      rw [cmpN_lt c6]
      have hU : U = Q := by rw [HU.out, if_neg (by omega)]
      have HUU := Lib.hid hU
      clear c1 c2 HU hU c6
      go_wp2_with fail
      go_ret
      exact ⟨_, rfl, by rw [HUU.out]; exact h5.low hsz, hB⟩
end Go.Proofs.YtobmjcbjailclaaGreatDoor

/- The reference's 'Mul' and 'Div' of numbers with a divisor by their contracts. Condition: a bound on lengths. -/
namespace Go.Proofs.YtobmjcbjailclaaGreatDoor
set_option maxRecDepth 100000
open Go.RowKit

theorem s6g_of {w0 W : World} {g h : Nat} {a0 a1 a2 b0 b1 b2 : Value} (hb : Below w0.heap.size w0 W) (c0 : w0.cell? ⟨g, 0, none⟩ = some a0) (c1 : w0.cell? ⟨g, 1, none⟩ = some a1) (c2 : w0.cell? ⟨g, 2, none⟩ = some a2) (d0 : w0.cell? ⟨h, 0, none⟩ = some b0) (d1 : w0.cell? ⟨h, 1, none⟩ = some b1) (d2 : w0.cell? ⟨h, 2, none⟩ = some b2) (hg : g < w0.heap.size) (hh : h < w0.heap.size) :
    W.cell? ⟨g, 0, none⟩ = some a0 ∧ W.cell? ⟨g, 1, none⟩ = some a1 ∧ W.cell? ⟨g, 2, none⟩ = some a2 ∧ W.cell? ⟨h, 0, none⟩ = some b0 ∧ W.cell? ⟨h, 1, none⟩ = some b1 ∧ W.cell? ⟨h, 2, none⟩ = some b2 :=
  ⟨(hb.cell (p := ⟨g, 0, none⟩) hg).trans c0, (hb.cell (p := ⟨g, 1, none⟩) hg).trans c1, (hb.cell (p := ⟨g, 2, none⟩) hg).trans c2, (hb.cell (p := ⟨h, 0, none⟩) hh).trans d0, (hb.cell (p := ⟨h, 1, none⟩) hh).trans d1, (hb.cell (p := ⟨h, 2, none⟩) hh).trans d2⟩

theorem s6g_set {W : World} {g h p : Nat} {a0 a1 a2 b0 b1 b2 u v z : Value} (hs : W.cell? ⟨g, 0, none⟩ = some a0 ∧ W.cell? ⟨g, 1, none⟩ = some a1 ∧ W.cell? ⟨g, 2, none⟩ = some a2 ∧ W.cell? ⟨h, 0, none⟩ = some b0 ∧ W.cell? ⟨h, 1, none⟩ = some b1 ∧ W.cell? ⟨h, 2, none⟩ = some b2) (hg : p ≠ g) (hh : p ≠ h) :
    (((W.setCell ⟨p, 0, none⟩ u).setCell ⟨p, 1, none⟩ v).setCell ⟨p, 2, none⟩ z).cell? ⟨g, 0, none⟩ = some a0 ∧ (((W.setCell ⟨p, 0, none⟩ u).setCell ⟨p, 1, none⟩ v).setCell ⟨p, 2, none⟩ z).cell? ⟨g, 1, none⟩ = some a1 ∧ (((W.setCell ⟨p, 0, none⟩ u).setCell ⟨p, 1, none⟩ v).setCell ⟨p, 2, none⟩ z).cell? ⟨g, 2, none⟩ = some a2 ∧
      (((W.setCell ⟨p, 0, none⟩ u).setCell ⟨p, 1, none⟩ v).setCell ⟨p, 2, none⟩ z).cell? ⟨h, 0, none⟩ = some b0 ∧ (((W.setCell ⟨p, 0, none⟩ u).setCell ⟨p, 1, none⟩ v).setCell ⟨p, 2, none⟩ z).cell? ⟨h, 1, none⟩ = some b1 ∧ (((W.setCell ⟨p, 0, none⟩ u).setCell ⟨p, 1, none⟩ v).setCell ⟨p, 2, none⟩ z).cell? ⟨h, 2, none⟩ = some b2 := by
  obtain ⟨a, b, c, d, e, f⟩ := hs
  exact ⟨far_set3 a hg, far_set3 b hg, far_set3 c hg, far_set3 d hh, far_set3 e hh, far_set3 f hh⟩

set_option maxHeartbeats 3200000 in
theorem ratMul_any (u v : Value) (s t : Bool) (n d m c : List Nat) (w : World) (dn : Dig n) (dd : Dig d) (dm : Dig m) (dc : Dig c) (h : Rt w 0 w.heap.size u s n d) (h' : Rt w 0 w.heap.size v t m c)
    (ln : n.length ≤ 400) (ld : d.length ≤ 400) (lm : m.length ≤ 400) (lc : c.length ≤ 400) (S T : Bool) (N D M C : Nat) (hS : nrS s (val n) (val d) = S) (hN : nrN (val n) (val d) = N) (hD : nrD (val n) (val d) = D)
    (hT : nrS t (val m) (val c) = T) (hM : nrN (val m) (val c) = M) (hC : nrD (val m) (val c) = C) :
    Calls Tryz.prog 19 #[u, v] w (GivesT (nrS (S != T) (N * M) (D * C)) (nrN (N * M) (D * C)) (nrD (N * M) (D * C)) w) := by
  obtain ⟨vn, vd, rfl, hn, hd⟩ := h
  obtain ⟨vm, vc, rfl, hm, hc⟩ := h'
  have hS' := Lib.hid hS
  have hN' := Lib.hid hN
  have hD' := Lib.hid hD
  have hT' := Lib.hid hT
  have hM' := Lib.hid hM
  have hC' := Lib.hid hC
  have lN : (lim N).length ≤ 400 := by rw [← hN]; exact nrN_len dn ln
  have lM : (lim M).length ≤ 400 := by rw [← hM]; exact nrN_len dm lm
  have lD : (lim D).length ≤ 400 := by rw [← hD]; exact nrD_len dd ld (by omega)
  have lC : (lim C).length ≤ 400 := by rw [← hC]; exact nrD_len dc lc (by omega)
  clear hS hN hD hT hM hC
  go_enter Tryz.func19, Tryz.ntmps19
  go_wp2_with fail
  have b0 := ((Blk.new w 25 #[.bool s, vn, vd]).alloc (.cells #[.bool t, vm, vc] 25)).alloc (.cells #[.bool false, .slice none 0 0, .slice none 0 0] 25)
  have b1 := (Blk.new (w.alloc (.cells #[.bool s, vn, vd] 25)) 25 #[.bool t, vm, vc]).alloc (.cells #[.bool false, .slice none 0 0, .slice none 0 0] 25)
  have b2 := Blk.new ((w.alloc (.cells #[.bool s, vn, vd] 25)).alloc (.cells #[.bool t, vm, vc] 25)) 25 #[.bool false, .slice none 0 0, .slice none 0 0]
  have hB : Below w.heap.size w (((w.alloc (.cells #[.bool s, vn, vd] 25)).alloc (.cells #[.bool t, vm, vc] 25)).alloc (.cells #[.bool false, .slice none 0 0, .slice none 0 0] 25)) := (((Below.refl _ _).alloc (Nat.le_refl _) _).alloc (by simp) _).alloc (by simp; omega) _
  have es : (w.alloc (.cells #[.bool s, vn, vd] 25)).heap.size = w.heap.size + 1 := by simp
  have es2 : ((w.alloc (.cells #[.bool s, vn, vd] 25)).alloc (.cells #[.bool t, vm, vc] 25)).heap.size = w.heap.size + 1 + 1 := by simp
  rw [es] at b1
  rw [es2] at b2
  clear es es2
  generalize ((w.alloc (.cells #[.bool s, vn, vd] 25)).alloc (.cells #[.bool t, vm, vc] 25)).alloc (.cells #[.bool false, .slice none 0 0, .slice none 0 0] 25) = w2 at *
  have hn2 := hn.after hB
  have hd2 := hd.after hB
  have hm2 := hm.after hB
  have hc2 := hc.after hB
  clear hn hd hm hc
  go_cut [5, 6] from 7 to 10 (fun p q wx => R2 w S T N D M C p q wx)
  case first =>
    have c00 := b0.cell 0
    have c01 := b0.cell 1
    have c02 := b0.cell 2
    have c10 := b1.cell 0
    have c11 := b1.cell 1
    have c12 := b1.cell 2
    have hg := b1.lt
    have SW : Hid (w.heap.size + 2 < w2.heap.size) := b2.lt
    obtain ⟨An, k1, rfl, m1⟩ := nt_len hn2
    obtain ⟨Ad, k2, rfl, m2⟩ := nt_len hd2
    obtain ⟨Am, k3, rfl, m3⟩ := nt_len hm2
    obtain ⟨Ac, k4, rfl, m4⟩ := nt_len hc2
    have HS0 : Hid (Below w2.heap.size w2 w2 ∧ w2.cell? ⟨w.heap.size, 0, none⟩ = some (.bool s) ∧ w2.cell? ⟨w.heap.size, 1, none⟩ = some (.slice An n.length k1) ∧ w2.cell? ⟨w.heap.size, 2, none⟩ = some (.slice Ad d.length k2) ∧ w2.cell? ⟨w.heap.size + 1, 0, none⟩ = some (.bool t) ∧ w2.cell? ⟨w.heap.size + 1, 1, none⟩ = some (.slice Am m.length k3) ∧ w2.cell? ⟨w.heap.size + 1, 2, none⟩ = some (.slice Ac c.length k4)) := ⟨Below.refl _ _, c00, c01, c02, c10, c11, c12⟩
    have HS2 : Hid (Below w2.heap.size w2 w2.drew ∧ w2.drew.cell? ⟨w.heap.size, 0, none⟩ = some (.bool s) ∧ w2.drew.cell? ⟨w.heap.size, 1, none⟩ = some (.slice An n.length k1) ∧ w2.drew.cell? ⟨w.heap.size, 2, none⟩ = some (.slice Ad d.length k2) ∧ w2.drew.cell? ⟨w.heap.size + 1, 0, none⟩ = some (.bool t) ∧ w2.drew.cell? ⟨w.heap.size + 1, 1, none⟩ = some (.slice Am m.length k3) ∧ w2.drew.cell? ⟨w.heap.size + 1, 2, none⟩ = some (.slice Ac c.length k4)) := ⟨(Below.refl _ _).drew, c00, c01, c02, c10, c11, c12⟩
    go_region_held3 (fun W => Below w2.heap.size w2 W ∧ W.cell? ⟨w.heap.size, 0, none⟩ = some (.bool s) ∧ W.cell? ⟨w.heap.size, 1, none⟩ = some (.slice An n.length k1) ∧ W.cell? ⟨w.heap.size, 2, none⟩ = some (.slice Ad d.length k2) ∧ W.cell? ⟨w.heap.size + 1, 0, none⟩ = some (.bool t) ∧ W.cell? ⟨w.heap.size + 1, 1, none⟩ = some (.slice Am m.length k3) ∧ W.cell? ⟨w.heap.size + 1, 2, none⟩ = some (.slice Ac c.length k4))
      (first | ((repeat (with_reducible (first | exact HS4.out | exact HS3.out | exact HS2.out | exact HS0.out | refine keep6d ?_ | refine keep6s ?_ (by have h3 := SZ3.out; have h4 := SZ4.out; omega) hg _ _ | refine keep6 ?_ ((Below.refl _ _).alloc (Nat.le_refl _) _) hg))); done) | fail)
      (first
        | (have hz := z2; have hx := hk3; go_at_call 22; refine (ratNorm_any _ t m c _ dm dc ⟨_, _, rfl, hm2.after (And.left (by assumption)), hc2.after (And.left (by assumption))⟩ (by omega) (by omega)).mono ?_; rw [hT'.out, hM'.out, hC'.out]; rintro e w4 ⟨v4, rfl, ⟨yn, yd, rfl, hyn, hyd⟩, hb4⟩; have HS4 := Lib.hid (keep6 (by assumption) hb4 hg); have SZ4 := Lib.hid (Below.size (And.left HS4.out)); have hyn' := hyn; have hyd' := hyd; obtain ⟨A5, k5, rfl, m5⟩ := nt_len hyn'; obtain ⟨A6, k6, rfl, m6⟩ := nt_len hyd'; clear hyn' hyd'; have y1 := z1.call0 hb4; have y2 := z2.call0 hb4; obtain ⟨f10, f11, f12, f13, f14, f15⟩ := y1.facts; obtain ⟨f20, f21, f22, f23, f24, f25⟩ := y2.facts; have SY := Lib.hid (show w3.heap.size + 0 ≤ w4.heap.size from Nat.le_trans (by simp) hb4.size); have Q4 := Lib.hid (Q0.of 2 0 hxn hxd (by simp) hb4 hyn hyd (by simp) b2 (And.left HS4.out) hB); clear hxn hxd hyn hyd)
        | (have hz := z1; have hx := hk3; go_at_call 22; refine (ratNorm_any _ t m c _ dm dc ⟨_, _, rfl, hm2.after (And.left (by assumption)), hc2.after (And.left (by assumption))⟩ (by omega) (by omega)).mono ?_; rw [hT'.out, hM'.out, hC'.out]; rintro e w4 ⟨v4, rfl, ⟨yn, yd, rfl, hyn, hyd⟩, hb4⟩; have HS4 := Lib.hid (keep6 (by assumption) hb4 hg); have SZ4 := Lib.hid (Below.size (And.left HS4.out)); have hyn' := hyn; have hyd' := hyd; obtain ⟨A5, k5, rfl, m5⟩ := nt_len hyn'; obtain ⟨A6, k6, rfl, m6⟩ := nt_len hyd'; clear hyn' hyd'; refine (fun (hq : Below (World.heap (World.alloc w3 (.cells #[.bool false, .slice none 0 0, .slice none 0 0] 25))).size (World.alloc w3 (.cells #[.bool false, .slice none 0 0, .slice none 0 0] 25)) w4) => ?_) ?_; rotate_left; with_reducible assumption; have y1 := z1.call1 hq; have y2 := zr_one hq; obtain ⟨f10, f11, f12, f13, f14, f15⟩ := y1.facts; obtain ⟨f20, f21, f22, f23, f24, f25⟩ := y2.facts; have ne1 := z1.ne; have ne2 := ne1.symm; have SY := Lib.hid (show w3.heap.size + 1 ≤ w4.heap.size from Nat.le_trans (by simp) hb4.size); have Q4 := Lib.hid (Q0.of 1 1 hxn hxd (by simp) (((Below.refl w3.heap.size w3).alloc (Nat.le_refl _) (.cells #[.bool false, .slice none 0 0, .slice none 0 0] 25)).trans (hq.mono (by simp))) hyn hyd (by simp) b2 (And.left HS4.out) hB); clear hxn hxd hyn hyd)
        | (have hz := z1; have hx := hk3; go_at_call 22; refine (ratNorm_any _ t m c _ dm dc ⟨_, _, rfl, hm2.after (And.left (by assumption)), hc2.after (And.left (by assumption))⟩ (by omega) (by omega)).mono ?_; rw [hT'.out, hM'.out, hC'.out]; rintro e w4 ⟨v4, rfl, ⟨yn, yd, rfl, hyn, hyd⟩, hb4⟩; have HS4 := Lib.hid (keep6 (by assumption) hb4 hg); have SZ4 := Lib.hid (Below.size (And.left HS4.out)); have hyn' := hyn; have hyd' := hyd; obtain ⟨A5, k5, rfl, m5⟩ := nt_len hyn'; obtain ⟨A6, k6, rfl, m6⟩ := nt_len hyd'; clear hyn' hyd'; have y1 := z1.call0 hb4; obtain ⟨f10, f11, f12, f13, f14, f15⟩ := y1.facts; obtain ⟨ga0, ga1, ga2, ga3, ga4, ga5⟩ := y1.more (.cells #[.bool false, .slice none 0 0, .slice none 0 0] 25); obtain ⟨gb0, gb1, gb2, gb3, gb4, gb5⟩ := y1.more (.cells #[.bool S, .slice A7 (lim N).length k7, .slice A8 (lim D).length k8] 25); obtain ⟨gc0, gc1, gc2, gc3, gc4, gc5⟩ := y1.more (.cells #[.bool T, .slice A5 (lim M).length k5, .slice A6 (lim C).length k6] 25); have ne1 := y1.ne; have ne2 := ne1.symm; have SY := Lib.hid (show w3.heap.size + 0 ≤ w4.heap.size from Nat.le_trans (by simp) hb4.size); have Q4 := Lib.hid (Q0.of 1 0 hxn hxd (by simp) hb4 hyn hyd (by simp) b2 (And.left HS4.out) hB); clear hxn hxd hyn hyd)
        | (have hx := hk3; go_at_call 22; refine (ratNorm_any _ t m c _ dm dc ⟨_, _, rfl, hm2.after (And.left (by assumption)), hc2.after (And.left (by assumption))⟩ (by omega) (by omega)).mono ?_; rw [hT'.out, hM'.out, hC'.out]; rintro e w4 ⟨v4, rfl, ⟨yn, yd, rfl, hyn, hyd⟩, hb4⟩; have HS4 := Lib.hid (keep6 (by assumption) hb4 hg); have SZ4 := Lib.hid (Below.size (And.left HS4.out)); have hyn' := hyn; have hyd' := hyd; obtain ⟨A5, k5, rfl, m5⟩ := nt_len hyn'; obtain ⟨A6, k6, rfl, m6⟩ := nt_len hyd'; clear hyn' hyd'; refine (fun (hq : Below (World.heap (World.alloc (World.alloc w3 (.cells #[.bool false, .slice none 0 0, .slice none 0 0] 25)) (.cells #[.bool false, .slice none 0 0, .slice none 0 0] 25))).size (World.alloc (World.alloc w3 (.cells #[.bool false, .slice none 0 0, .slice none 0 0] 25)) (.cells #[.bool false, .slice none 0 0, .slice none 0 0] 25)) w4) => ?_) ?_; rotate_left; with_reducible assumption; obtain ⟨y1, y2⟩ := zr_two hq; obtain ⟨f10, f11, f12, f13, f14, f15⟩ := y1.facts; obtain ⟨f20, f21, f22, f23, f24, f25⟩ := y2.facts; have SY := Lib.hid (show w3.heap.size + 2 ≤ w4.heap.size from Nat.le_trans (by simp) hb4.size); have Q4 := Lib.hid (Q0.of 0 2 hxn hxd (by simp) ((((Below.refl w3.heap.size w3).alloc (Nat.le_refl _) (.cells #[.bool false, .slice none 0 0, .slice none 0 0] 25)).alloc (by simp) (.cells #[.bool false, .slice none 0 0, .slice none 0 0] 25)).trans (hq.mono (by simp; omega))) hyn hyd (by simp) b2 (And.left HS4.out) hB); clear hxn hxd hyn hyd)
        | (have hx := hk3; go_at_call 22; refine (ratNorm_any _ t m c _ dm dc ⟨_, _, rfl, hm2.after (And.left (by assumption)), hc2.after (And.left (by assumption))⟩ (by omega) (by omega)).mono ?_; rw [hT'.out, hM'.out, hC'.out]; rintro e w4 ⟨v4, rfl, ⟨yn, yd, rfl, hyn, hyd⟩, hb4⟩; have HS4 := Lib.hid (keep6 (by assumption) hb4 hg); have SZ4 := Lib.hid (Below.size (And.left HS4.out)); have hyn' := hyn; have hyd' := hyd; obtain ⟨A5, k5, rfl, m5⟩ := nt_len hyn'; obtain ⟨A6, k6, rfl, m6⟩ := nt_len hyd'; clear hyn' hyd'; refine (fun (hq : Below (World.heap (World.alloc w3 (.cells #[.bool false, .slice none 0 0, .slice none 0 0] 25))).size (World.alloc w3 (.cells #[.bool false, .slice none 0 0, .slice none 0 0] 25)) w4) => ?_) ?_; rotate_left; with_reducible assumption; have y1 := zr_one hq; obtain ⟨f10, f11, f12, f13, f14, f15⟩ := y1.facts; obtain ⟨ga0, ga1, ga2, ga3, ga4, ga5⟩ := y1.more (.cells #[.bool false, .slice none 0 0, .slice none 0 0] 25); obtain ⟨gb0, gb1, gb2, gb3, gb4, gb5⟩ := y1.more (.cells #[.bool S, .slice A7 (lim N).length k7, .slice A8 (lim D).length k8] 25); obtain ⟨gc0, gc1, gc2, gc3, gc4, gc5⟩ := y1.more (.cells #[.bool T, .slice A5 (lim M).length k5, .slice A6 (lim C).length k6] 25); have ne1 := y1.ne; have ne2 := ne1.symm; have SY := Lib.hid (show w3.heap.size + 1 ≤ w4.heap.size from Nat.le_trans (by simp) hb4.size); have Q4 := Lib.hid (Q0.of 0 1 hxn hxd (by simp) (((Below.refl w3.heap.size w3).alloc (Nat.le_refl _) (.cells #[.bool false, .slice none 0 0, .slice none 0 0] 25)).trans (hq.mono (by simp))) hyn hyd (by simp) b2 (And.left HS4.out) hB); clear hxn hxd hyn hyd)
        | (have hx := hk3; go_at_call 22; refine (ratNorm_any _ t m c _ dm dc ⟨_, _, rfl, hm2.after (And.left (by assumption)), hc2.after (And.left (by assumption))⟩ (by omega) (by omega)).mono ?_; rw [hT'.out, hM'.out, hC'.out]; rintro e w4 ⟨v4, rfl, ⟨yn, yd, rfl, hyn, hyd⟩, hb4⟩; have HS4 := Lib.hid (keep6 (by assumption) hb4 hg); have SZ4 := Lib.hid (Below.size (And.left HS4.out)); have hyn' := hyn; have hyd' := hyd; obtain ⟨A5, k5, rfl, m5⟩ := nt_len hyn'; obtain ⟨A6, k6, rfl, m6⟩ := nt_len hyd'; clear hyn' hyd'; have SY := Lib.hid (show w3.heap.size + 0 ≤ w4.heap.size from Nat.le_trans (by simp) hb4.size); have Q4 := Lib.hid (Q0.of 0 0 hxn hxd (by simp) hb4 hyn hyd (by simp) b2 (And.left HS4.out) hB); clear hxn hxd hyn hyd)
        | (go_at_call 22; refine (ratNorm_any _ s n d _ dn dd ⟨_, _, rfl, hn2.after (And.left (by assumption)), hd2.after (And.left (by assumption))⟩ (by omega) (by omega)).mono ?_; rw [hS'.out, hN'.out, hD'.out]; rintro e w3 ⟨v3, rfl, ⟨xn, xd, rfl, hxn, hxd⟩, hk3⟩; have HS3 := Lib.hid (keep6 (by assumption) hk3 hg); have SZ3 := Lib.hid (Below.size (And.left HS3.out)); have hxn' := hxn; have hxd' := hxd; obtain ⟨A7, k7, rfl, m7⟩ := nt_len hxn'; obtain ⟨A8, k8, rfl, m8⟩ := nt_len hxd'; clear hxn' hxd'; refine (fun (hq : Below (World.heap (World.drew (World.alloc (World.alloc w2 (.cells #[.bool false, .slice none 0 0, .slice none 0 0] 25)) (.cells #[.bool false, .slice none 0 0, .slice none 0 0] 25)))).size (World.drew (World.alloc (World.alloc w2 (.cells #[.bool false, .slice none 0 0, .slice none 0 0] 25)) (.cells #[.bool false, .slice none 0 0, .slice none 0 0] 25))) w3) => ?_) ?_; rotate_left; with_reducible assumption; obtain ⟨z1, z2⟩ := zr_two (below_undrew hq); have SX := Lib.hid (show w2.heap.size + 2 ≤ w3.heap.size from Nat.le_trans (by simp) hk3.size))
        | (go_at_call 22; refine (ratNorm_any _ s n d _ dn dd ⟨_, _, rfl, hn2.after (And.left (by assumption)), hd2.after (And.left (by assumption))⟩ (by omega) (by omega)).mono ?_; rw [hS'.out, hN'.out, hD'.out]; rintro e w3 ⟨v3, rfl, ⟨xn, xd, rfl, hxn, hxd⟩, hk3⟩; have HS3 := Lib.hid (keep6 (by assumption) hk3 hg); have SZ3 := Lib.hid (Below.size (And.left HS3.out)); have hxn' := hxn; have hxd' := hxd; obtain ⟨A7, k7, rfl, m7⟩ := nt_len hxn'; obtain ⟨A8, k8, rfl, m8⟩ := nt_len hxd'; clear hxn' hxd'; refine (fun (hq : Below (World.heap (World.drew (World.alloc w2 (.cells #[.bool false, .slice none 0 0, .slice none 0 0] 25)))).size (World.drew (World.alloc w2 (.cells #[.bool false, .slice none 0 0, .slice none 0 0] 25))) w3) => ?_) ?_; rotate_left; with_reducible assumption; have z1 := zr_one (below_undrew hq); have SX := Lib.hid (show w2.heap.size + 1 ≤ w3.heap.size from Nat.le_trans (by simp) hk3.size))
        | (go_at_call 22; refine (ratNorm_any _ s n d _ dn dd ⟨_, _, rfl, hn2.after (And.left (by assumption)), hd2.after (And.left (by assumption))⟩ (by omega) (by omega)).mono ?_; rw [hS'.out, hN'.out, hD'.out]; rintro e w3 ⟨v3, rfl, ⟨xn, xd, rfl, hxn, hxd⟩, hk3⟩; have HS3 := Lib.hid (keep6 (by assumption) hk3 hg); have SZ3 := Lib.hid (Below.size (And.left HS3.out)); have hxn' := hxn; have hxd' := hxd; obtain ⟨A7, k7, rfl, m7⟩ := nt_len hxn'; obtain ⟨A8, k8, rfl, m8⟩ := nt_len hxd'; clear hxn' hxd'; have SX := Lib.hid (show w2.heap.size + 0 ≤ w3.heap.size from Nat.le_trans (by simp) hk3.size))
        | fail)
    all_goals (go_wp2_with fail; go_meet)
    all_goals (have hx3 := SX.out; have hy4 := SY.out; have hw2 := SW.out)
    all_goals first
      | with_reducible exact r2_a Q4.out (by omega)
      | with_reducible exact r2_b Q4.out (by omega)
      | with_reducible exact r2_c Q4.out y1 (by omega) (by omega)
      | with_reducible exact r2_e Q4.out y1 (by omega) (by omega)
      | with_reducible exact r2_d Q4.out y1 y2 (by omega) (by omega) (by omega)
      | with_reducible exact r2_d Q4.out y2 y1 (by omega) (by omega) (by omega)
      | trace_state
  case rest =>
    obtain ⟨gx, gy, xn, xd, yn, yd, rfl, rfl, hgx, hgy, hxn, hxd, hyn, hyd, hres, hBc, hgx2, hgy2⟩ := hcut
    clear hB b0 b1 b2 hn2 hd2 hm2 hc2
    obtain ⟨A1, k1, rfl, m1⟩ := nt_len hxn
    obtain ⟨A2, k2, rfl, m2⟩ := nt_len hxd
    obtain ⟨A3, k3, rfl, m3⟩ := nt_len hyn
    obtain ⟨A4, k4, rfl, m4⟩ := nt_len hyd
    have x0 := hgx.cell 0
    have x1 := hgx.cell 1
    have x2 := hgx.cell 2
    have y0 := hgy.cell 0
    have y1 := hgy.cell 1
    have y2 := hgy.cell 2
    have kx := hgx.lt
    have ky := hgy.lt
    have dN := dig_lim N
    have dD := dig_lim D
    have dM := dig_lim M
    have dC := dig_lim C
    have nex : w.heap.size + 1 + 1 ≠ gx := Nat.ne_of_lt hgx2
    have ney : w.heap.size + 1 + 1 ≠ gy := Nat.ne_of_lt hgy2
    have hk0 : Below wc.heap.size wc wc.drew := (Below.refl _ _).drew
    have VP : Hid (val (lim N) * val (lim M) = N * M) := by show _ = _; rw [val_lim, val_lim]
    have VQ : Hid (val (lim D) * val (lim C) = D * C) := by show _ = _; rw [val_lim, val_lim]
    have lP : (lim (N * M)).length ≤ 800 := lim_mul_len dN dM (val_lim _).symm (val_lim _).symm lN lM
    have lQ : (lim (D * C)).length ≤ 800 := lim_mul_len dD dC (val_lim _).symm (val_lim _).symm lD lC
    obtain ⟨P, hP⟩ : ∃ P, N * M = P := ⟨_, rfl⟩
    obtain ⟨Q, hQ⟩ : ∃ Q, D * C = Q := ⟨_, rfl⟩
    rw [hP] at VP lP
    rw [hQ] at VQ lQ
    have HP := Lib.hid hP
    have HQ := Lib.hid hQ
    clear hP hQ
    have WP := Lib.hid (val_lim P)
    have WQ := Lib.hid (val_lim Q)
    obtain ⟨ST, hST⟩ : ∃ b, (S != T) = b := ⟨_, rfl⟩
    have HST := Lib.hid hST
    obtain ⟨FS, hFS⟩ : ∃ z, nrS ST P Q = z := ⟨_, rfl⟩
    obtain ⟨FN, hFN⟩ : ∃ z, nrN P Q = z := ⟨_, rfl⟩
    obtain ⟨FD, hFD⟩ : ∃ z, nrD P Q = z := ⟨_, rfl⟩
    have HFS := Lib.hid hFS
    have HFN := Lib.hid hFN
    have HFD := Lib.hid hFD
    clear hFS hFN hFD
    have hbe : (!(S == T)) = ST := hST
    clear hST
    go_wp2_with fail
    go_region_held3 (fun W => W.cell? ⟨gx, 0, none⟩ = some (.bool S) ∧ W.cell? ⟨gx, 1, none⟩ = some (.slice A1 (lim N).length k1) ∧ W.cell? ⟨gx, 2, none⟩ = some (.slice A2 (lim D).length k2) ∧ W.cell? ⟨gy, 0, none⟩ = some (.bool T) ∧ W.cell? ⟨gy, 1, none⟩ = some (.slice A3 (lim M).length k3) ∧ W.cell? ⟨gy, 2, none⟩ = some (.slice A4 (lim C).length k4))
      (first | exact s6g_set (s6g_of hk9 x0 x1 x2 y0 y1 y2 kx ky) nex ney | exact s6g_of hk9 x0 x1 x2 y0 y1 y2 kx ky | exact s6g_of hk8 x0 x1 x2 y0 y1 y2 kx ky | exact s6g_of hk7 x0 x1 x2 y0 y1 y2 kx ky | exact s6g_of hk0 x0 x1 x2 y0 y1 y2 kx ky | fail)
      (first
        | (have hx := hk8; go_at_call 21; refine (ratOf_any ST _ _ (lim P) (lim Q) _ (dig_lim P) (dig_lim Q) (h7.after hb8) (h8.low (Nat.zero_le _)) (by omega) (by omega)).mono ?_; rw [WP.out, WQ.out, HFS.out, HFN.out, HFD.out]; rintro e w9 ⟨v9, rfl, ⟨an, ad, rfl, han, had⟩, hb9⟩; have han' := han; have had' := had; obtain ⟨A5, k5, rfl, m5⟩ := nt_len han'; obtain ⟨A6, k6, rfl, m6⟩ := nt_len had'; clear han' had'; have hk9 : Below wc.heap.size wc w9 := hk8.trans (hb9.mono hk8.size); have q9 := hres.below hk9 hres.lt; have r0 := q9.cell 0; have r1 := q9.cell 1; have r2 := q9.cell 2; have f0 := q9.free 0; have f1 := q9.free 1; have f2 := q9.free 2)
        | (have hx := hk7; go_at_call 36; refine (refMul_any _ _ (lim D) (lim C) _ dD dC (hxd.after hk7) (hyd.after hk7) (by omega) (by omega)).mono ?_; rw [VQ.out]; rintro e w8 ⟨v8, rfl, h8, hb8⟩; have hk8 : Below wc.heap.size wc w8 := hk7.trans (hb8.mono hk7.size))
        | (go_at_call 36; refine (refMul_any _ _ (lim N) (lim M) _ dN dM hxn.drew hyn.drew (by omega) (by omega)).mono ?_; rw [VP.out]; rintro e w7 ⟨v7, rfl, h7, hb7⟩; replace h7 := h7.low (Nat.zero_le _); have hk7 : Below wc.heap.size wc w7 := Below.trans (Below.drew (Below.refl _ _)) hb7)
        | fail)
    obtain ⟨e0, e1, e2, hR, hBf⟩ := store3 q9 (hBc.trans (hk9.mono hBc.size)) (by omega) FS (.slice A5 (lim FN).length k5) (.slice A6 (lim FD).length k6) (han.low (Nat.le_trans hres.lt hk8.size)) (had.low (Nat.le_trans hres.lt hk8.size))
    have HR := Lib.hid hR
    have HBF := Lib.hid hBf
    clear r0 r1 r2 f0 f1 f2 q9 han had hR hBf h7 h8 hb7 hb8 hb9
    unfold St3 at *
    go_wp2_with fail
    generalize ((World.setCell w9 ⟨w.heap.size + 1 + 1, 0, none⟩ (.bool FS)).setCell ⟨w.heap.size + 1 + 1, 1, none⟩ (.slice A5 (lim FN).length k5)).setCell ⟨w.heap.size + 1 + 1, 2, none⟩ (.slice A6 (lim FD).length k6) = WW at *
    refine bodyPost_ret (v := .agg #[.bool FS, .slice A5 (lim FN).length k5, .slice A6 (lim FD).length k6]) ?_ rfl (by show GivesT _ _ _ _ _ _; rw [HST.out, HP.out, HQ.out, HFS.out, HFN.out, HFD.out]; exact ⟨_, rfl, HR.out, HBF.out⟩)
    simp [results, Tryz.results19, go_sem, e0, e1, e2]
end Go.Proofs.YtobmjcbjailclaaGreatDoor
