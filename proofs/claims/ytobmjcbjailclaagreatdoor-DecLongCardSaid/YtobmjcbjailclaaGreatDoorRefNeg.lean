/- The reference's 'Neg' of a number with a divisor by its contract. Condition: a bound on lengths. -/
import Derived.Test.YtobmjcbjailclaaGreatDoorRefRat
namespace Go.Proofs.YtobmjcbjailclaaGreatDoor
set_option maxRecDepth 100000
open Go.RowKit

set_option maxHeartbeats 3200000 in
theorem ratNeg_any (v : Value) (s : Bool) (n d : List Nat) (w : World) (dn : Dig n) (dd : Dig d) (h : Rt w 0 w.heap.size v s n d) (ln : n.length ≤ 1000) (ld : d.length ≤ 1000) :
    Calls Tryz.prog 100 #[v] w (GivesT (!(nrS s (val n) (val d)) && decide (0 < nrN (val n) (val d))) (nrN (val n) (val d)) (nrD (val n) (val d)) w) := by
  obtain ⟨vn, vd, rfl, hn, hd⟩ := h
  have hn' := hn
  have hd' := hd
  obtain ⟨A1, c1, rfl, m1⟩ := nt_len hn'
  obtain ⟨A2, c2, rfl, m2⟩ := nt_len hd'
  clear hn' hd'
  go_enter Tryz.func100, Tryz.ntmps100
  go_wp2_with fail
  have b1 := Blk.new (w.alloc (.cells #[.bool s, .slice A1 n.length c1, .slice A2 d.length c2] 25)) 25 #[.bool false, .slice none 0 0, .slice none 0 0]
  have hB : Below w.heap.size w ((w.alloc (.cells #[.bool s, .slice A1 n.length c1, .slice A2 d.length c2] 25)).alloc (.cells #[.bool false, .slice none 0 0, .slice none 0 0] 25)) := ((Below.refl _ _).alloc (Nat.le_refl _) _).alloc (by simp) _
  have es : (w.alloc (.cells #[.bool s, .slice A1 n.length c1, .slice A2 d.length c2] 25)).heap.size = w.heap.size + 1 := by simp
  rw [es] at b1
  clear es
  generalize (w.alloc (.cells #[.bool s, .slice A1 n.length c1, .slice A2 d.length c2] 25)).alloc (.cells #[.bool false, .slice none 0 0, .slice none 0 0] 25) = w1 at *
  refine (ratNorm_any _ s n d _ dn dd ⟨_, _, rfl, hn.after hB, hd.after hB⟩ ln ld).mono ?_
  rintro e w2 ⟨v2, rfl, h2, hb2⟩
  obtain ⟨x, y, rfl, hx, hy⟩ := h2
  have hx' := hx
  have hy' := hy
  obtain ⟨A3, c3, rfl, m3⟩ := nt_len hx'
  obtain ⟨A4, c4, rfl, m4⟩ := nt_len hy'
  have q1 := b1.below hb2 b1.lt
  have hx2 := hx.low (show w.heap.size + 2 ≤ _ from b1.lt)
  have hy2 := hy.low (show w.heap.size + 2 ≤ _ from b1.lt)
  have hB2 := hB.trans (hb2.mono hB.size)
  clear hx' hy' hx hy hb2 hB b1 hn hd dn dd
  have zl : (0 < (lim (nrN (val n) (val d))).length) ↔ 0 < nrN (val n) (val d) := by
    constructor
    · intro hlt
      refine Nat.pos_of_ne_zero fun h0 => ?_
      rw [h0, lim_zero] at hlt
      exact absurd hlt (by simp)
    · intro hlt
      have : (lim (nrN (val n) (val d))).length ≠ 0 := fun h => by
        have := lim_eq_nil.1 (List.eq_nil_of_length_eq_zero h)
        omega
      omega
  have dz : decide (0 < (lim (nrN (val n) (val d))).length) = decide (0 < nrN (val n) (val d)) := decide_eq_decide.2 zl
  have DZ := Lib.hid dz
  clear zl dz
  generalize nrN (val n) (val d) = N at *
  generalize nrD (val n) (val d) = D at *
  generalize nrS s (val n) (val d) = S at *
  cases S
  · skip
    have hba := (Below.refl w2.heap.size w2).alloc (Nat.le_refl _) (.cells #[.bool (decide (0 < (lim N).length)), .slice A3 (lim N).length c3, .slice A4 (lim D).length c4] 25)
    have q3 := q1.alloc (.cells #[.bool (decide (0 < (lim N).length)), .slice A3 (lim N).length c3, .slice A4 (lim D).length c4] 25)
    have hx3 := hx2.after hba
    have hy3 := hy2.after hba
    have hB3 := hB2.trans (hba.mono hB2.size)
    clear hx2 hy2 hba q1 hB2
    have r0 := q3.cell 0
    have r1 := q3.cell 1
    have r2 := q3.cell 2
    have f0 := q3.free 0
    have f1 := q3.free 1
    have f2 := q3.free 2
    have p3 := ((q3.put 0 (.bool (decide (0 < (lim N).length)))).put 1 (.slice A3 (lim N).length c3)).put 2 (.slice A4 (lim D).length c4)
    have hBB := ((hB3.setCell (p := ⟨w.heap.size + 1, 0, none⟩) (by simp) (.bool (decide (0 < (lim N).length)))).setCell (p := ⟨w.heap.size + 1, 1, none⟩) (by simp) (.slice A3 (lim N).length c3)).setCell (p := ⟨w.heap.size + 1, 2, none⟩) (by simp) (.slice A4 (lim D).length c4)
    have t6 := ((hx3.put3 (Nat.lt_succ_self _) 0 (.bool (decide (0 < (lim N).length)))).put3 (Nat.lt_succ_self _) 1 (.slice A3 (lim N).length c3)).put3 (Nat.lt_succ_self _) 2 (.slice A4 (lim D).length c4)
    have t7 := ((hy3.put3 (Nat.lt_succ_self _) 0 (.bool (decide (0 < (lim N).length)))).put3 (Nat.lt_succ_self _) 1 (.slice A3 (lim N).length c3)).put3 (Nat.lt_succ_self _) 2 (.slice A4 (lim D).length c4)
    clear hx3 hy3 
    go_wp2_with fail
    clear r0 r1 r2 f0 f1 f2 q3
    generalize ((World.setCell (w2.alloc (.cells #[.bool (decide (0 < (lim N).length)), .slice A3 (lim N).length c3, .slice A4 (lim D).length c4] 25)) ⟨w.heap.size + 1, 0, none⟩ (.bool (decide (0 < (lim N).length)))).setCell ⟨w.heap.size + 1, 1, none⟩ (.slice A3 (lim N).length c3)).setCell ⟨w.heap.size + 1, 2, none⟩ (.slice A4 (lim D).length c4) = WW at *
    have e0 : WW.cell? ⟨w.heap.size + 1, 0, none⟩ = some (.bool (decide (0 < (lim N).length))) := by rw [p3.cell]; rfl
    have e1 : WW.cell? ⟨w.heap.size + 1, 1, none⟩ = some (.slice A3 (lim N).length c3) := by rw [p3.cell]; rfl
    have e2 : WW.cell? ⟨w.heap.size + 1, 2, none⟩ = some (.slice A4 (lim D).length c4) := by rw [p3.cell]; rfl
    refine bodyPost_ret (v := .agg #[.bool (decide (0 < (lim N).length)), .slice A3 (lim N).length c3, .slice A4 (lim D).length c4]) ?_ rfl ⟨_, rfl, ⟨_, _, (by rw [DZ.out]; rfl), t6.low (by omega), t7.low (by omega)⟩, hBB⟩
    simp [results, Tryz.results100, go_sem, e0, e1, e2]
  · skip
    have hba := (Below.refl w2.heap.size w2).alloc (Nat.le_refl _) (.cells #[.bool false, .slice A3 (lim N).length c3, .slice A4 (lim D).length c4] 25)
    have q3 := q1.alloc (.cells #[.bool false, .slice A3 (lim N).length c3, .slice A4 (lim D).length c4] 25)
    have hx3 := hx2.after hba
    have hy3 := hy2.after hba
    have hB3 := hB2.trans (hba.mono hB2.size)
    clear hx2 hy2 hba q1 hB2
    have r0 := q3.cell 0
    have r1 := q3.cell 1
    have r2 := q3.cell 2
    have f0 := q3.free 0
    have f1 := q3.free 1
    have f2 := q3.free 2
    have p3 := ((q3.put 0 (.bool false)).put 1 (.slice A3 (lim N).length c3)).put 2 (.slice A4 (lim D).length c4)
    have hBB := ((hB3.setCell (p := ⟨w.heap.size + 1, 0, none⟩) (by simp) (.bool false)).setCell (p := ⟨w.heap.size + 1, 1, none⟩) (by simp) (.slice A3 (lim N).length c3)).setCell (p := ⟨w.heap.size + 1, 2, none⟩) (by simp) (.slice A4 (lim D).length c4)
    have t6 := ((hx3.put3 (Nat.lt_succ_self _) 0 (.bool false)).put3 (Nat.lt_succ_self _) 1 (.slice A3 (lim N).length c3)).put3 (Nat.lt_succ_self _) 2 (.slice A4 (lim D).length c4)
    have t7 := ((hy3.put3 (Nat.lt_succ_self _) 0 (.bool false)).put3 (Nat.lt_succ_self _) 1 (.slice A3 (lim N).length c3)).put3 (Nat.lt_succ_self _) 2 (.slice A4 (lim D).length c4)
    clear hx3 hy3 
    go_wp2_with fail
    clear r0 r1 r2 f0 f1 f2 q3
    generalize ((World.setCell (w2.alloc (.cells #[.bool false, .slice A3 (lim N).length c3, .slice A4 (lim D).length c4] 25)) ⟨w.heap.size + 1, 0, none⟩ (.bool false)).setCell ⟨w.heap.size + 1, 1, none⟩ (.slice A3 (lim N).length c3)).setCell ⟨w.heap.size + 1, 2, none⟩ (.slice A4 (lim D).length c4) = WW at *
    have e0 : WW.cell? ⟨w.heap.size + 1, 0, none⟩ = some (.bool false) := by rw [p3.cell]; rfl
    have e1 : WW.cell? ⟨w.heap.size + 1, 1, none⟩ = some (.slice A3 (lim N).length c3) := by rw [p3.cell]; rfl
    have e2 : WW.cell? ⟨w.heap.size + 1, 2, none⟩ = some (.slice A4 (lim D).length c4) := by rw [p3.cell]; rfl
    refine bodyPost_ret (v := .agg #[.bool false, .slice A3 (lim N).length c3, .slice A4 (lim D).length c4]) ?_ rfl ⟨_, rfl, ⟨_, _, rfl, t6.low (by omega), t7.low (by omega)⟩, hBB⟩
    simp [results, Tryz.results100, go_sem, e0, e1, e2]
end Go.Proofs.YtobmjcbjailclaaGreatDoor
