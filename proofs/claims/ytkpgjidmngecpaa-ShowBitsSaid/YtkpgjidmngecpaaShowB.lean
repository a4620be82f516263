/- The reference's 'Ten', 'Bit' and 'Bits' by their contracts. No condition but small sizes. -/
import Derived.Test.YtkpgjidmngecpaaShowA
import Derived.Test.YtkpgjidmngecpaaRefRatCmp
import Derived.Test.YtkpgjidmngecpaaRefShift
import Derived.Test.YtkpgjidmngecpaaNumQuot
namespace Go.Proofs.Ytkpgjidmngecpaa
open Go.RowKit

theorem shiftN_on {v p : Nat} (hp : p ≤ 4096) : shiftN v (p : Int) = v * 2 ^ p := by
  have e : held12 (p : Int) = (p : Int) := by unfold held12; omega
  unfold shiftN
  rw [e, if_neg (by omega)]
  rfl

theorem two_len {p : Nat} (h : p ≤ 1000) : (lim (2 ^ p)).length ≤ 32 := by
  refine Nat.le_trans (lim_length_le (k := p / 32 + 1) ?_) (by omega)
  rw [base_pow]
  exact Nat.pow_lt_pow_right (by omega) (by omega)

/-- A literal row of one limb. -/
theorem lit_one (w : World) (t : TypeId) (x : Nat) : Nt (w.alloc (.cells #[.int .u32 (x : Int)] t)) w.heap.size (w.alloc (.cells #[.int .u32 (x : Int)] t)).heap.size (.slice (some ⟨w.heap.size, 0, none⟩) 1 1) [x] := by
  have h : Lb (w.alloc (.cells #[.int .u32 (x : Int)] t)) w.heap.size t [x] := Blk.new w t _
  exact h.reads (n := 1) (by simp) (by unfold maxLen; simp)

set_option maxHeartbeats 3200000 in
theorem refTen_any (d : Nat) (w : World) (hd : d ≤ 30) : Calls Try.prog 9 #[.int .i64 (d : Int)] w (GivesT false 1 (10 ^ d) w) := by
  go_enter Try.func9, Try.ntmps9
  go_wp2_with fail
  have b0 := (Blk.new w 27 #[.bool false, .slice none 0 0, .slice none 0 0]).alloc (.cells #[.int .u32 1] 38)
  have h1 := lit_one (w.alloc (.cells #[.bool false, .slice none 0 0, .slice none 0 0] 27)) 38 1
  have es : (w.alloc (.cells #[.bool false, .slice none 0 0, .slice none 0 0] 27)).heap.size = w.heap.size + 1 := by simp
  have hb1 : Below w.heap.size w ((w.alloc (.cells #[.bool false, .slice none 0 0, .slice none 0 0] 27)).alloc (.cells #[.int .u32 1] 38)) := ((Below.refl _ _).alloc (Nat.le_refl _) _).alloc (by simp) _
  rw [es] at h1
  clear es
  have l0 : ([1] : List Nat) = lim (10 ^ 0) := (lim_one (by omega) (by omega)).symm
  rw [l0] at h1
  clear l0
  go_loopw [3, 4] (fun a i wr => ∃ k : Nat, k ≤ d ∧ i = .int .i64 (k : Nat) ∧ Nt wr (w.heap.size + 1) wr.heap.size a (lim (10 ^ k)) ∧ Blk wr w.heap.size 27 #[.bool false, .slice none 0 0, .slice none 0 0] ∧ Below w.heap.size w wr)
    (fun _ i _ => d - (intOf i).toNat)
  case atStart => exact ⟨0, Nat.zero_le _, rfl, h1, b0, hb1⟩
  case round =>
    obtain ⟨k, hk, rfl, ha, hq, hb⟩ := hrel
    clear h1 b0 hb1
    have hl := ten_len (Nat.le_trans hk hd)
    have dk := dig_lim (10 ^ k)
    by_cases hlt : k < d
    · have hlI : (k : Int) < (d : Int) := by omega
      have P : Hid (val (lim (10 ^ k)) * val [10] = 10 ^ (k + 1)) := by
        show _ = _
        rw [val_lim, val_one, Nat.pow_succ]
      have dt : Dig [10] := dig_one (by omega)
      have h10 := lit_one wr 38 10
      have hbb : Below wr.heap.size wr (wr.alloc (.cells #[.int .u32 10] 38)) := (Below.refl _ _).alloc (Nat.le_refl _) _
      have ha2 := (ha.low (Nat.zero_le _)).after hbb
      have hq2 := hq.alloc (.cells #[.int .u32 10] 38)
      have hg := hq.lt
      have hs : Hid (w.heap.size + 1 ≤ (wr.alloc (.cells #[.int .u32 10] 38)).heap.size) := hq2.lt
      have hb2 := hb.trans (hbb.mono hb.size)
      have h10' := h10.low (Nat.zero_le _)
      clear ha hq hb hbb h10 hg
      go_wp2_with fail
      refine (refMul_any _ _ (lim (10 ^ k)) [10] _ dk dt ha2 h10' (by omega) (by simp)).mono ?_
      rw [P.out]
      rintro e w4 ⟨v4, rfl, h4, hb4⟩
      have h4' := h4.low hs.out
      have hq4 := hq2.below hb4 hq2.lt
      have hb04 := hb2.trans (hb4.mono hb2.size)
      clear h4 hb4 ha2 h10' hb2 hq2
      go_wp2_with fail
      go_roundw
      case rel => exact ⟨k + 1, by omega, by go_num, h4', hq4, hb04⟩
      case measure => simp [intOf]; omega
    · obtain rfl : k = d := by omega
      have h1 := lit_one wr 38 1
      have hbb : Below wr.heap.size wr (wr.alloc (.cells #[.int .u32 1] 38)) := (Below.refl _ _).alloc (Nat.le_refl _) _
      have ha2 := (ha.low (Nat.zero_le _)).after hbb
      have hq2 := hq.alloc (.cells #[.int .u32 1] 38)
      have hb2 := hb.trans (hbb.mono hb.size)
      have h1' := h1.low (Nat.zero_le _)
      have d1 : Dig [1] := dig_one (by omega)
      have N1 := Lib.hid (nr_one (s := false) (d := 10 ^ k) (Nat.ne_of_gt (Nat.pow_pos (by omega))))
      clear ha hq hb hbb h1
      go_wp2_with fail
      refine (ratOf_any false _ _ [1] (lim (10 ^ k)) _ d1 dk h1' ha2 (by simp) (by omega)).mono ?_
      rw [val_lim, val_one, N1.out.1, N1.out.2.1, N1.out.2.2]
      rintro e w2 ⟨v2, rfl, ⟨x, y, rfl, hx, hy⟩, hb3⟩
      have hx' := hx
      have hy' := hy
      obtain ⟨A3, c3, rfl, m3⟩ := nt_len hx'
      obtain ⟨A4, c4, rfl, m4⟩ := nt_len hy'
      have q0 := hq2.below hb3 hq2.lt
      have hx2 := hx.low (show w.heap.size + 1 ≤ _ from hq2.lt)
      have hy2 := hy.low (show w.heap.size + 1 ≤ _ from hq2.lt)
      have hB2 := hb2.trans (hb3.mono hb2.size)
      clear hx hy hb3 hb2 hq2 ha2 h1' hx' hy'
      have r0 := q0.cell 0
      have r1 := q0.cell 1
      have r2 := q0.cell 2
      have f0 := q0.free 0
      have f1 := q0.free 1
      have f2 := q0.free 2
      have p3 := ((q0.put 0 (.bool false)).put 1 (.slice A3 (lim 1).length c3)).put 2 (.slice A4 (lim (10 ^ k)).length c4)
      have hBB := ((hB2.setCell (p := ⟨w.heap.size, 0, none⟩) (by simp) (.bool false)).setCell (p := ⟨w.heap.size, 1, none⟩) (by simp) (.slice A3 (lim 1).length c3)).setCell (p := ⟨w.heap.size, 2, none⟩) (by simp) (.slice A4 (lim (10 ^ k)).length c4)
      have t6 := ((hx2.put3 (Nat.lt_succ_self _) 0 (.bool false)).put3 (Nat.lt_succ_self _) 1 (.slice A3 (lim 1).length c3)).put3 (Nat.lt_succ_self _) 2 (.slice A4 (lim (10 ^ k)).length c4)
      have t7 := ((hy2.put3 (Nat.lt_succ_self _) 0 (.bool false)).put3 (Nat.lt_succ_self _) 1 (.slice A3 (lim 1).length c3)).put3 (Nat.lt_succ_self _) 2 (.slice A4 (lim (10 ^ k)).length c4)
      clear hx2 hy2 
      go_wp2_with fail
      clear r0 r1 r2 f0 f1 f2 q0
      generalize ((World.setCell w2 ⟨w.heap.size, 0, none⟩ (.bool false)).setCell ⟨w.heap.size, 1, none⟩ (.slice A3 (lim 1).length c3)).setCell ⟨w.heap.size, 2, none⟩ (.slice A4 (lim (10 ^ k)).length c4) = WW at *
      have e0 : WW.cell? ⟨w.heap.size, 0, none⟩ = some (.bool false) := by rw [p3.cell]; rfl
      have e1 : WW.cell? ⟨w.heap.size, 1, none⟩ = some (.slice A3 (lim 1).length c3) := by rw [p3.cell]; rfl
      have e2 : WW.cell? ⟨w.heap.size, 2, none⟩ = some (.slice A4 (lim (10 ^ k)).length c4) := by rw [p3.cell]; rfl
      refine bodyPost_ret (v := .agg #[.bool false, .slice A3 (lim 1).length c3, .slice A4 (lim (10 ^ k)).length c4]) ?_ rfl ⟨_, rfl, ⟨_, _, rfl, t6.low (by omega), t7.low (by omega)⟩, hBB⟩
      simp [results, Try.results9, go_sem, e0, e1, e2]

set_option maxHeartbeats 3200000 in
theorem refBit_any (p : Nat) (w : World) (hp : p ≤ 1000) : Calls Try.prog 8 #[.int .i64 (p : Int)] w (GivesT false 1 (2 ^ p) w) := by
  have V : Hid (shiftN (val [1]) (p : Int) = 2 ^ p) := by
    show _ = _
    rw [shiftN_on (by omega), val_one, Nat.one_mul]
  have l2 := two_len hp
  have d2 := dig_lim (2 ^ p)
  have d1 : Dig [1] := dig_one (by omega)
  have N1 := Lib.hid (nr_one (s := false) (d := 2 ^ p) (Nat.ne_of_gt (Nat.two_pow_pos p)))
  go_enter Try.func8, Try.ntmps8
  go_wp2_with fail
  have b0 := ((Blk.new w 27 #[.bool false, .slice none 0 0, .slice none 0 0]).alloc (.cells #[.int .u32 1] 38)).alloc (.cells #[.int .u32 1] 38)
  have h1 := lit_one (w.alloc (.cells #[.bool false, .slice none 0 0, .slice none 0 0] 27)) 38 1
  have h2 := lit_one ((w.alloc (.cells #[.bool false, .slice none 0 0, .slice none 0 0] 27)).alloc (.cells #[.int .u32 1] 38)) 38 1
  have es : (w.alloc (.cells #[.bool false, .slice none 0 0, .slice none 0 0] 27)).heap.size = w.heap.size + 1 := by simp
  have es2 : ((w.alloc (.cells #[.bool false, .slice none 0 0, .slice none 0 0] 27)).alloc (.cells #[.int .u32 1] 38)).heap.size = w.heap.size + 1 + 1 := by simp
  have hbb : Below ((w.alloc (.cells #[.bool false, .slice none 0 0, .slice none 0 0] 27)).alloc (.cells #[.int .u32 1] 38)).heap.size ((w.alloc (.cells #[.bool false, .slice none 0 0, .slice none 0 0] 27)).alloc (.cells #[.int .u32 1] 38)) (((w.alloc (.cells #[.bool false, .slice none 0 0, .slice none 0 0] 27)).alloc (.cells #[.int .u32 1] 38)).alloc (.cells #[.int .u32 1] 38)) := (Below.refl _ _).alloc (Nat.le_refl _) _
  have h1' := (h1.after hbb).low (Nat.zero_le _)
  have h2' := h2.low (Nat.zero_le _)
  rw [es] at h1'
  rw [es2] at h2'
  have hb1 : Below w.heap.size w (((w.alloc (.cells #[.bool false, .slice none 0 0, .slice none 0 0] 27)).alloc (.cells #[.int .u32 1] 38)).alloc (.cells #[.int .u32 1] 38)) := (((Below.refl _ _).alloc (Nat.le_refl _) _).alloc (by simp) _).alloc (by simp; omega) _
  clear h1 h2 hbb es es2
  generalize ((w.alloc (.cells #[.bool false, .slice none 0 0, .slice none 0 0] 27)).alloc (.cells #[.int .u32 1] 38)).alloc (.cells #[.int .u32 1] 38) = w1 at *
  refine (refShift_any _ [1] _ _ d1 h2' (by simp)).mono ?_
  rw [V.out]
  rintro e w3 ⟨v3, rfl, h3, hb3⟩
  have h3' := h3.low (Nat.zero_le _)
  have h1'' := h1'.after hb3
  have q3 := b0.below hb3 b0.lt
  have hB3 := hb1.trans (hb3.mono hb1.size)
  clear h3 h1' h2' b0 hb1 hb3
  go_wp2_with fail
  refine (ratOf_any false _ _ [1] (lim (2 ^ p)) _ d1 d2 h1'' h3' (by simp) (by omega)).mono ?_
  rw [val_lim, val_one, N1.out.1, N1.out.2.1, N1.out.2.2]
  rintro e w2 ⟨v2, rfl, ⟨x, y, rfl, hx, hy⟩, hb3⟩
  have hx' := hx
  have hy' := hy
  obtain ⟨A3, c3, rfl, m3⟩ := nt_len hx'
  obtain ⟨A4, c4, rfl, m4⟩ := nt_len hy'
  have q0 := q3.below hb3 q3.lt
  have hx2 := hx.low (show w.heap.size + 1 ≤ _ from q3.lt)
  have hy2 := hy.low (show w.heap.size + 1 ≤ _ from q3.lt)
  have hB2 := hB3.trans (hb3.mono hB3.size)
  clear hx hy hb3 hB3 q3 h1'' h3' hx' hy'
  have r0 := q0.cell 0
  have r1 := q0.cell 1
  have r2 := q0.cell 2
  have f0 := q0.free 0
  have f1 := q0.free 1
  have f2 := q0.free 2
  have p3 := ((q0.put 0 (.bool false)).put 1 (.slice A3 (lim 1).length c3)).put 2 (.slice A4 (lim (2 ^ p)).length c4)
  have hBB := ((hB2.setCell (p := ⟨w.heap.size, 0, none⟩) (by simp) (.bool false)).setCell (p := ⟨w.heap.size, 1, none⟩) (by simp) (.slice A3 (lim 1).length c3)).setCell (p := ⟨w.heap.size, 2, none⟩) (by simp) (.slice A4 (lim (2 ^ p)).length c4)
  have t6 := ((hx2.put3 (Nat.lt_succ_self _) 0 (.bool false)).put3 (Nat.lt_succ_self _) 1 (.slice A3 (lim 1).length c3)).put3 (Nat.lt_succ_self _) 2 (.slice A4 (lim (2 ^ p)).length c4)
  have t7 := ((hy2.put3 (Nat.lt_succ_self _) 0 (.bool false)).put3 (Nat.lt_succ_self _) 1 (.slice A3 (lim 1).length c3)).put3 (Nat.lt_succ_self _) 2 (.slice A4 (lim (2 ^ p)).length c4)
  clear hx2 hy2 
  go_wp2_with fail
  clear r0 r1 r2 f0 f1 f2 q0
  generalize ((World.setCell w2 ⟨w.heap.size, 0, none⟩ (.bool false)).setCell ⟨w.heap.size, 1, none⟩ (.slice A3 (lim 1).length c3)).setCell ⟨w.heap.size, 2, none⟩ (.slice A4 (lim (2 ^ p)).length c4) = WW at *
  have e0 : WW.cell? ⟨w.heap.size, 0, none⟩ = some (.bool false) := by rw [p3.cell]; rfl
  have e1 : WW.cell? ⟨w.heap.size, 1, none⟩ = some (.slice A3 (lim 1).length c3) := by rw [p3.cell]; rfl
  have e2 : WW.cell? ⟨w.heap.size, 2, none⟩ = some (.slice A4 (lim (2 ^ p)).length c4) := by rw [p3.cell]; rfl
  refine bodyPost_ret (v := .agg #[.bool false, .slice A3 (lim 1).length c3, .slice A4 (lim (2 ^ p)).length c4]) ?_ rfl ⟨_, rfl, ⟨_, _, rfl, t6.low (by omega), t7.low (by omega)⟩, hBB⟩
  simp [results, Try.results8, go_sem, e0, e1, e2]

theorem cmp_ten (p d : Nat) : cmpI (sg false 1 * ((10 ^ d : Nat) : Int)) (sg false 1 * ((2 ^ p : Nat) : Int)) = cmpI ((10 ^ d : Nat) : Int) ((2 ^ p : Nat) : Int) := by
  unfold sg
  simp

/-- Half so often against a tenth so often: by their divisors, turned round. -/
theorem cmpBT_any (u v : Value) (p d : Nat) (w : World) (hp : p ≤ 1000) (hd : d ≤ 30) (h : Rt w 0 w.heap.size u false (lim 1) (lim (2 ^ p))) (h' : Rt w 0 w.heap.size v false (lim 1) (lim (10 ^ d))) :
    Calls Try.prog 7 #[u, v] w fun e w' => e = .returned (.int .i64 (cmpI ((10 ^ d : Nat) : Int) ((2 ^ p : Nat) : Int))) ∧ Below w.heap.size w w' := by
  have a := nr_one (s := false) (d := 2 ^ p) (Nat.ne_of_gt (Nat.two_pow_pos p))
  have b := nr_one (s := false) (d := 10 ^ d) (Nat.ne_of_gt (Nat.pow_pos (by omega)))
  have l1 : (lim 1).length ≤ 1 := lim_length_le (by omega)
  have l2 := two_len hp
  have l3 := ten_len hd
  have c := ratCmp_any u v false false (lim 1) (lim (2 ^ p)) (lim 1) (lim (10 ^ d)) w (dig_lim _) (dig_lim _) (dig_lim _) (dig_lim _) h h' (by omega) (by omega) (by omega) (by omega) false false 1 (2 ^ p) 1 (10 ^ d)
    (by rw [val_lim, val_lim]; exact a.1) (by rw [val_lim, val_lim]; exact a.2.1) (by rw [val_lim, val_lim]; exact a.2.2) (by rw [val_lim, val_lim]; exact b.1) (by rw [val_lim, val_lim]; exact b.2.1) (by rw [val_lim, val_lim]; exact b.2.2)
  rw [cmp_ten] at c
  exact c
end Go.Proofs.Ytkpgjidmngecpaa
