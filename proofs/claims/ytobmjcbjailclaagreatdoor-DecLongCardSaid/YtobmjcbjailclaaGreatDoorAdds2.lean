/- 'Add' of the program by its contract. Condition: a bound on lengths. -/
import Derived.Test.YtobmjcbjailclaaGreatDoorTrims
import Derived.Test.YtobmjcbjailclaaGreatDoorNums
namespace Go.Proofs.YtobmjcbjailclaaGreatDoor
set_option maxRecDepth 100000
open Go.RowKit

/-- 'make([]uint32, z)'. -/
theorem make_limbs (n : Nat) (z : Int) (hz : z = (n : Int)) (hn : n ≤ 1000000) (w : World) :
    (Instr.makeSlice 23 (.int .i64 z) (.int .i64 z)).run Tryz.prog w = .ok (.slice (some ⟨w.heap.size, 0, none⟩) n n) (w.alloc (.cells (madeCells #[.int .u32 0] n) 43)) := by
  subst hz
  exact run_make_row' (P := Tryz.prog) 23 43 (.int .u32 0) 4 Tryz.underlying23 Tryz.info32 rfl .i64 .i64 n (by omega) (by omega) w

theorem limBd' {x : List Nat} (hd : Dig x) (n : Nat) (h : x.length ≤ n) : (lim (val x)).length ≤ n := Nat.le_trans (limBd hd) h

theorem getD_at {x : List Nat} {k : Nat} (h : k < x.length) : x.getD k 0 = x[k] := by rw [List.getD_eq_getElem?_getD, List.getElem?_eq_getElem h]; rfl
theorem getD_out {x : List Nat} {k : Nat} (h : ¬ k < x.length) : x.getD k 0 = 0 := by rw [List.getD_eq_getElem?_getD, List.getElem?_eq_none (by omega)]; rfl

/-- The row of the sum behind the last limb. -/
theorem add_final {p q cs : List Nat} {s k : Nat} (h : AddAt p q cs s k) (hp : p.length ≤ k) (hq : q.length ≤ k) (hl : cs.length = k + 1) : val (cs.set k s) = val p + val q := by
  have := addAt_end h hp hq (by omega)
  rw [List.take_of_length_le (by simp; omega)] at this
  exact this

/-! WALKS -/

set_option maxHeartbeats 1600000 in
theorem add_ge (u v : Value) (x y : List Nat) (w : World) (hdx : Dig x) (hdy : Dig y) (h : Nt w 0 w.heap.size u x) (h' : Nt w 0 w.heap.size v y) (hlx : x.length ≤ 100000) (hly : y.length ≤ 100000)
    (hcase : ¬ (lim (val x)).length < (lim (val y)).length) :
    Calls Tryz.prog 71 #[u, v] w (Gives (lim (val x + val y)) w) := by
  have hxl := limBd' hdx _ hlx
  have hyl := limBd' hdy _ hly
  have vx := val_lim (val x)
  have vy := val_lim (val y)
  have d1 := dig_lim (val x)
  have d2 := dig_lim (val y)
  have VS : Hid (lim (val x + val y) = lim (val (lim (val x)) + val (lim (val y)))) := by rw [vx, vy]; exact rfl
  clear vx vy
  go_enter Tryz.func71, Tryz.ntmps71
  go_wp2_with fail
  refine (trim_any _ x _ _ _ hdx h).mono ?_
  rintro e w1 ⟨v1, rfl, h1, rfl⟩
  go_wp2_with fail
  refine (trim_any _ y _ _ _ hdy h').mono ?_
  rintro e w1 ⟨v2, rfl, h2, rfl⟩
  generalize lim (val x) = p at *
  generalize lim (val y) = q at *
  clear h h' hdx hdy hlx hly
  obtain ⟨Ap, cp, rfl, hcp, hmp, _, hxp⟩ := h1
  obtain ⟨Aq, cq, rfl, hcq, hmq, _, hxq⟩ := h2
  have hdp : Dig p := by assumption
  have hdq : Dig q := by assumption
  clear d1 d2
  have hmk := make_limbs (p.length + 1) ((p.length : Int) + 1) (by omega) (by omega)
  go_wp2_with fail
  go_loopw [6, 7, 8, 26] (fun s _ _ i wr => ∃ (k t : Nat) (cs : List Nat), k ≤ p.length ∧ i = .int .i64 (k : Nat) ∧ s = .int .u64 (t : Nat) ∧ t ≤ 1 ∧ Dig cs ∧ Hid (cs.length = p.length + 1) ∧ AddAt p q cs t k ∧ Lb wr w.heap.size 43 cs ∧ Below w.heap.size w wr)
    (fun _ _ _ i _ => p.length - (intOf i).toNat)
  case atStart => exact ⟨0, 0, _, Nat.zero_le _, rfl, rfl, by omega, dig_zeros _, List.length_replicate, addAt_zero _ _ _, Lb.made w _ _, (Below.refl _ _).alloc (Nat.le_refl _) _⟩
  case round =>
    obtain ⟨k, t, cs, hk, rfl, rfl, ht, hdc, HL, hs, hB, hb⟩ := hrel
    have hcl : p.length + 1 ≤ cs.length ∧ cs.length ≤ p.length + 1 := by have := HL.out; omega
    by_cases hlt : k < p.length
    · have b1 := hdp.at hlt
      obtain ⟨ba, oa, rfl, _, hba, hcella⟩ := hxp (by omega)
      have hca := (hb.cell (p := ⟨ba, oa + k, none⟩) hba).trans (hcella k hlt)
      have HS := addAt_step hs (by omega : k < cs.length) (t := t + p.getD k 0 + q.getD k 0) rfl
      rw [getD_at hlt] at HS
      have hcc := hB.cell k (by omega)
      have hfr := hB.free k
      clear hs hcella
      by_cases hlq : k < q.length
      · obtain ⟨bb, ob, rfl, _, hbb, hcellb⟩ := hxq (by omega)
        have hcb := (hb.cell (p := ⟨bb, ob + k, none⟩) hbb).trans (hcellb k hlq)
        have b2 := hdq.at hlq
        rw [getD_at hlq] at HS
        have hd2 := hdc.set k ((t + p[k] + q[k]) % 4294967296) (Nat.mod_lt _ (by omega))
        have hB2 := hB.put k ((t + p[k] + q[k]) % 4294967296)
        have hb2 : Below w.heap.size w (wr.setCell ⟨w.heap.size, k, none⟩ (.int .u32 (((t + p[k] + q[k]) % 4294967296 : Nat) : Int))) := hb.setCell (Nat.le_refl _) _
        have HL2 : Hid ((cs.set k ((t + p[k] + q[k]) % 4294967296)).length = p.length + 1) := by have := HL.out; show _ = _; rw [List.length_set]; exact this
        have hq2 : (t + p[k] + q[k]) / 4294967296 ≤ 1 := by omega
        have ec : (((t + p[k] + q[k]) % 4294967296 : Nat) : Int) = ((t : Int) + p[k] + q[k]) % 4294967296 := by omega
        rw [ec] at hB2 hb2
        generalize cs.set k ((t + p[k] + q[k]) % 4294967296) = cs2 at *
        generalize cs[k] = old at *
        clear hdc hB hb hcellb HL hxp hxq hcl ec hmk
        generalize p[k] = pk at *
        generalize q[k] = qk at *
        go_wp2
        go_roundw
        case rel => exact ⟨k + 1, (t + pk + qk) / 4294967296, cs2, by omega, by go_num, by go_num, hq2, hd2, HL2, HS, hB2, hb2⟩
        case measure => simp [intOf]; omega
      · rw [getD_out hlq, Nat.add_zero] at HS
        have hd2 := hdc.set k ((t + p[k]) % 4294967296) (Nat.mod_lt _ (by omega))
        have hB2 := hB.put k ((t + p[k]) % 4294967296)
        have hb2 : Below w.heap.size w (wr.setCell ⟨w.heap.size, k, none⟩ (.int .u32 (((t + p[k]) % 4294967296 : Nat) : Int))) := hb.setCell (Nat.le_refl _) _
        have HL2 : Hid ((cs.set k ((t + p[k]) % 4294967296)).length = p.length + 1) := by have := HL.out; show _ = _; rw [List.length_set]; exact this
        have hq2 : (t + p[k]) / 4294967296 ≤ 1 := by omega
        have ec : (((t + p[k]) % 4294967296 : Nat) : Int) = ((t : Int) + p[k]) % 4294967296 := by omega
        rw [ec] at hB2 hb2
        generalize cs.set k ((t + p[k]) % 4294967296) = cs2 at *
        generalize cs[k] = old at *
        clear hdc hB hb HL hxp hxq hcl ec hmk
        generalize p[k] = pk at *
        go_wp2
        go_roundw
        case rel => exact ⟨k + 1, (t + pk) / 4294967296, cs2, by omega, by go_num, by go_num, hq2, hd2, HL2, HS, hB2, hb2⟩
        case measure => simp [intOf]; omega
    · obtain rfl : k = p.length := by omega
      have hv := add_final hs (Nat.le_refl _) (by omega) HL.out
      have hd2 := hdc.set p.length t (by omega)
      have hcc := hB.cell p.length (by omega)
      have hfr := hB.free p.length
      have hB2 := hB.put p.length t
      have hb2 : Below w.heap.size w (wr.setCell ⟨w.heap.size, p.length, none⟩ (.int .u32 (t : Int))) := hb.setCell (Nat.le_refl _) _
      have hl2 : (cs.set p.length t).length = p.length + 1 := by have := HL.out; rw [List.length_set]; exact this
      have hr := hB2.reads (n := p.length + 1) (by omega) (by unfold maxLen; omega)
      rw [hl2, List.take_of_length_le (by omega)] at hr
      have V := Lib.hid hv
      generalize cs.set p.length t = cs2 at *
      generalize cs[p.length] = old at *
      clear hs hdc HL hB hb hcl hv hB2 hxp hxq hmk
      go_wp2_with fail
      refine (trim_any _ cs2 _ _ _ hd2 hr).mono ?_
      rintro e w2 ⟨v3, rfl, h3, rfl⟩
      rw [V.out] at h3
      go_wp2
      go_ret
      refine ⟨_, rfl, ?_, hb2⟩
      rw [VS.out]
      exact h3

set_option maxHeartbeats 1600000 in
theorem add_lt (u v : Value) (x y : List Nat) (w : World) (hdx : Dig x) (hdy : Dig y) (h : Nt w 0 w.heap.size u x) (h' : Nt w 0 w.heap.size v y) (hlx : x.length ≤ 100000) (hly : y.length ≤ 100000)
    (hcase : (lim (val x)).length < (lim (val y)).length) :
    Calls Tryz.prog 71 #[u, v] w (Gives (lim (val x + val y)) w) := by
  have hxl := limBd' hdx _ hlx
  have hyl := limBd' hdy _ hly
  have vx := val_lim (val x)
  have vy := val_lim (val y)
  have d1 := dig_lim (val x)
  have d2 := dig_lim (val y)
  have VS : Hid (lim (val x + val y) = lim (val (lim (val x)) + val (lim (val y)))) := by rw [vx, vy]; exact rfl
  clear vx vy
  go_enter Tryz.func71, Tryz.ntmps71
  go_wp2_with fail
  refine (trim_any _ x _ _ _ hdx h).mono ?_
  rintro e w1 ⟨v1, rfl, h1, rfl⟩
  go_wp2_with fail
  refine (trim_any _ y _ _ _ hdy h').mono ?_
  rintro e w1 ⟨v2, rfl, h2, rfl⟩
  generalize lim (val x) = q at *
  generalize lim (val y) = p at *
  clear h h' hdx hdy hlx hly
  obtain ⟨Aq, cq, rfl, hcq, hmq, _, hxq⟩ := h1
  obtain ⟨Ap, cp, rfl, hcp, hmp, _, hxp⟩ := h2
  have hdp : Dig p := by assumption
  have hdq : Dig q := by assumption
  clear d1 d2
  have hmk := make_limbs (p.length + 1) ((p.length : Int) + 1) (by omega) (by omega)
  go_wp2_with fail
  go_loopw [6, 7, 8, 26] (fun s _ _ i wr => ∃ (k t : Nat) (cs : List Nat), k ≤ p.length ∧ i = .int .i64 (k : Nat) ∧ s = .int .u64 (t : Nat) ∧ t ≤ 1 ∧ Dig cs ∧ Hid (cs.length = p.length + 1) ∧ AddAt p q cs t k ∧ Lb wr w.heap.size 43 cs ∧ Below w.heap.size w wr)
    (fun _ _ _ i _ => p.length - (intOf i).toNat)
  case atStart => exact ⟨0, 0, _, Nat.zero_le _, rfl, rfl, by omega, dig_zeros _, List.length_replicate, addAt_zero _ _ _, Lb.made w _ _, (Below.refl _ _).alloc (Nat.le_refl _) _⟩
  case round =>
    obtain ⟨k, t, cs, hk, rfl, rfl, ht, hdc, HL, hs, hB, hb⟩ := hrel
    have hcl : p.length + 1 ≤ cs.length ∧ cs.length ≤ p.length + 1 := by have := HL.out; omega
    by_cases hlt : k < p.length
    · have b1 := hdp.at hlt
      obtain ⟨ba, oa, rfl, _, hba, hcella⟩ := hxp (by omega)
      have hca := (hb.cell (p := ⟨ba, oa + k, none⟩) hba).trans (hcella k hlt)
      have HS := addAt_step hs (by omega : k < cs.length) (t := t + p.getD k 0 + q.getD k 0) rfl
      rw [getD_at hlt] at HS
      have hcc := hB.cell k (by omega)
      have hfr := hB.free k
      clear hs hcella
      by_cases hlq : k < q.length
      · obtain ⟨bb, ob, rfl, _, hbb, hcellb⟩ := hxq (by omega)
        have hcb := (hb.cell (p := ⟨bb, ob + k, none⟩) hbb).trans (hcellb k hlq)
        have b2 := hdq.at hlq
        rw [getD_at hlq] at HS
        have hd2 := hdc.set k ((t + p[k] + q[k]) % 4294967296) (Nat.mod_lt _ (by omega))
        have hB2 := hB.put k ((t + p[k] + q[k]) % 4294967296)
        have hb2 : Below w.heap.size w (wr.setCell ⟨w.heap.size, k, none⟩ (.int .u32 (((t + p[k] + q[k]) % 4294967296 : Nat) : Int))) := hb.setCell (Nat.le_refl _) _
        have HL2 : Hid ((cs.set k ((t + p[k] + q[k]) % 4294967296)).length = p.length + 1) := by have := HL.out; show _ = _; rw [List.length_set]; exact this
        have hq2 : (t + p[k] + q[k]) / 4294967296 ≤ 1 := by omega
        have ec : (((t + p[k] + q[k]) % 4294967296 : Nat) : Int) = ((t : Int) + p[k] + q[k]) % 4294967296 := by omega
        rw [ec] at hB2 hb2
        generalize cs.set k ((t + p[k] + q[k]) % 4294967296) = cs2 at *
        generalize cs[k] = old at *
        clear hdc hB hb hcellb HL hxp hxq hcl ec hmk
        generalize p[k] = pk at *
        generalize q[k] = qk at *
        go_wp2
        go_roundw
        case rel => exact ⟨k + 1, (t + pk + qk) / 4294967296, cs2, by omega, by go_num, by go_num, hq2, hd2, HL2, HS, hB2, hb2⟩
        case measure => simp [intOf]; omega
      · rw [getD_out hlq, Nat.add_zero] at HS
        have hd2 := hdc.set k ((t + p[k]) % 4294967296) (Nat.mod_lt _ (by omega))
        have hB2 := hB.put k ((t + p[k]) % 4294967296)
        have hb2 : Below w.heap.size w (wr.setCell ⟨w.heap.size, k, none⟩ (.int .u32 (((t + p[k]) % 4294967296 : Nat) : Int))) := hb.setCell (Nat.le_refl _) _
        have HL2 : Hid ((cs.set k ((t + p[k]) % 4294967296)).length = p.length + 1) := by have := HL.out; show _ = _; rw [List.length_set]; exact this
        have hq2 : (t + p[k]) / 4294967296 ≤ 1 := by omega
        have ec : (((t + p[k]) % 4294967296 : Nat) : Int) = ((t : Int) + p[k]) % 4294967296 := by omega
        rw [ec] at hB2 hb2
        generalize cs.set k ((t + p[k]) % 4294967296) = cs2 at *
        generalize cs[k] = old at *
        clear hdc hB hb HL hxp hxq hcl ec hmk
        generalize p[k] = pk at *
        go_wp2
        go_roundw
        case rel => exact ⟨k + 1, (t + pk) / 4294967296, cs2, by omega, by go_num, by go_num, hq2, hd2, HL2, HS, hB2, hb2⟩
        case measure => simp [intOf]; omega
    · obtain rfl : k = p.length := by omega
      have hv := add_final hs (Nat.le_refl _) (by omega) HL.out
      have hd2 := hdc.set p.length t (by omega)
      have hcc := hB.cell p.length (by omega)
      have hfr := hB.free p.length
      have hB2 := hB.put p.length t
      have hb2 : Below w.heap.size w (wr.setCell ⟨w.heap.size, p.length, none⟩ (.int .u32 (t : Int))) := hb.setCell (Nat.le_refl _) _
      have hl2 : (cs.set p.length t).length = p.length + 1 := by have := HL.out; rw [List.length_set]; exact this
      have hr := hB2.reads (n := p.length + 1) (by omega) (by unfold maxLen; omega)
      rw [hl2, List.take_of_length_le (by omega)] at hr
      have V := Lib.hid hv
      generalize cs.set p.length t = cs2 at *
      generalize cs[p.length] = old at *
      clear hs hdc HL hB hb hcl hv hB2 hxp hxq hmk
      go_wp2_with fail
      refine (trim_any _ cs2 _ _ _ hd2 hr).mono ?_
      rintro e w2 ⟨v3, rfl, h3, rfl⟩
      rw [V.out] at h3
      go_wp2
      go_ret
      refine ⟨_, rfl, ?_, hb2⟩
      rw [VS.out]
      rw [Nat.add_comm (val q)]; exact h3

/-- 'Add': the sum's limbs, in a new row. -/
theorem add_any (u v : Value) (x y : List Nat) (w : World) (hdx : Dig x) (hdy : Dig y) (h : Nt w 0 w.heap.size u x) (h' : Nt w 0 w.heap.size v y) (hlx : x.length ≤ 100000) (hly : y.length ≤ 100000) :
    Calls Tryz.prog 71 #[u, v] w (Gives (lim (val x + val y)) w) := by
  by_cases hc : (lim (val x)).length < (lim (val y)).length
  · exact add_lt u v x y w hdx hdy h h' hlx hly hc
  · exact add_ge u v x y w hdx hdy h h' hlx hly hc
end Go.Proofs.YtobmjcbjailclaaGreatDoor
