/- 'Cmp' of the program and of the reference by their contracts. Condition: a bound on lengths. -/
import Derived.Test.YtobmjcbjailclaaGreatDoorMuls
import Derived.Test.YtobmjcbjailclaaGreatDoorNums
namespace Go.Proofs.YtobmjcbjailclaaGreatDoor
set_option maxRecDepth 100000
open Go.RowKit

set_option maxHeartbeats 3200000 in
theorem cmp_any (u v : Value) (x y : List Nat) (w : World) (hdx : Dig x) (hdy : Dig y) (h : Nt w 0 w.heap.size u x) (h' : Nt w 0 w.heap.size v y) (hlx : x.length ≤ 100000) (hly : y.length ≤ 100000) :
    Calls Tryz.prog 90 #[u, v] w fun e w' => e = .returned (.int .i64 (cmpN (val x) (val y))) ∧ Below w.heap.size w w' := by
  have hxl := limBd' hdx _ hlx
  have hyl := limBd' hdy _ hly
  have vx := val_lim (val x)
  have vy := val_lim (val y)
  have hdp := dig_lim (val x)
  have hdq := dig_lim (val y)
  have C1 : Hid ((lim (val x)).length < (lim (val y)).length → cmpN (val x) (val y) = -1) := fun hc => cmpN_lt (lim_len_lt hc)
  have C2 : Hid ((lim (val y)).length < (lim (val x)).length → cmpN (val x) (val y) = 1) := fun hc => cmpN_gt (lim_len_lt hc)
  have VS : Hid (cmpN (val x) (val y) = cmpN (val (lim (val x))) (val (lim (val y)))) := by rw [vx, vy]; exact rfl
  clear vx vy
  have wb : Below w.heap.size w w := Below.refl _ _
  go_enter Tryz.func90, Tryz.ntmps90
  go_wp2_with fail
  refine (trim_any _ x _ _ _ hdx h).mono ?_
  rintro e w1 ⟨v1, rfl, h1, rfl⟩
  go_wp2_with fail
  refine (trim_any _ y _ _ _ hdy h').mono ?_
  rintro e w1 ⟨v2, rfl, h2, rfl⟩
  have hb := wb
  clear wb
  generalize lim (val x) = p at *
  generalize lim (val y) = q at *
  clear h h' hdx hdy hlx hly
  obtain ⟨Ap, cp, rfl, hcp, hmp, _, hxp⟩ := h1
  obtain ⟨Aq, cq, rfl, hcq, hmq, _, hxq⟩ := h2
  by_cases hne : p.length = q.length
  · have hne1 : ((p.length : Int) != (q.length : Int)) = false := bne_false (by omega)
    have hle : p.length ≤ q.length ∧ q.length ≤ p.length := by omega
    clear hne C1 C2
    go_wp2_with fail
    go_loopw [5] (fun i wr => ∃ z : Int, i = .int .i64 z ∧ -1 ≤ z ∧ z < p.length ∧ Hid (p.drop (z + 1).toNat = q.drop (z + 1).toNat) ∧ Hid (∀ a : Addr, a.block < w.heap.size → wr.cell? a = w.cell? a) ∧ Below w.heap.size w wr) (fun i _ => (intOf i + 1).toNat)
    case atStart => exact ⟨_, rfl, by omega, by omega, by
      show _ = _
      rw [List.drop_eq_nil_of_le (by omega), List.drop_eq_nil_of_le (by omega)], fun _ _ => rfl, hb⟩
    case round =>
      clear hb
      obtain ⟨z, rfl, hz1, hz2, hd, hw, hb⟩ := hrel
      by_cases hz : 0 ≤ z
      · obtain ⟨j, rfl⟩ := Int.eq_ofNat_of_zero_le hz
        have hj : j < p.length := by omega
        have hk : j < q.length := by omega
        have e1 : ((j : Int) + 1).toNat = j + 1 := by omega
        rw [e1] at hd
        obtain ⟨ba, oa, rfl, _, hba, hca⟩ := hxp (by omega)
        obtain ⟨bb, ob, rfl, _, hbb, hcb⟩ := hxq (by omega)
        have a1 := (hw.out ⟨ba, oa + j, none⟩ hba).trans (hca j hj)
        have a2 := (hw.out ⟨bb, ob + j, none⟩ hbb).trans (hcb j hk)
        have i1 : (j : Int) < (p.length : Int) := by omega
        have i2 : (j : Int) < (q.length : Int) := by omega
        clear hca hcb hxp hxq e1
        rcases Nat.lt_trichotomy p[j] q[j] with hc | hc | hc
        · have F : Hid (cmpN (val p) (val q) = -1) := cmpN_lt (cmp_at hdp hj hk hc hd.out)
          have t1 : (((p[j] : Nat) : Int) != ((q[j] : Nat) : Int)) = true := bne_true (by omega)
          have t2 : ((p[j] : Nat) : Int) < ((q[j] : Nat) : Int) := by omega
          clear hc hd
          generalize p[j] = pj at *
          generalize q[j] = qj at *
          go_wp2_with fail
          go_quiet (fail)
          go_wp2_with fail
          go_quiet (fail)
          go_wp2
          go_ret
          exact ⟨by rw [VS.out, F.out]; rfl, below_drewN (below_drewN hb _) _⟩
        · have D : Hid (p.drop j = q.drop j) := drop_at hj hk hc hd.out
          have t1 : (((p[j] : Nat) : Int) != ((q[j] : Nat) : Int)) = false := bne_false (by omega)
          clear hc hd
          generalize p[j] = pj at *
          generalize q[j] = qj at *
          go_wp2_with fail
          go_quiet (fail)
          go_wp2
          go_roundw
          case rel => exact ⟨(j : Int) - 1, rfl, by omega, by omega, by
            have e : ((j : Int) - 1 + 1).toNat = j := by omega
            rw [e]; exact D, hw, below_drewN hb _⟩
          case measure => first | (simp [intOf]; done) | (simp [intOf]; omega)
        · have F : Hid (cmpN (val p) (val q) = 1) := cmpN_gt (cmp_at hdq hk hj hc hd.out.symm)
          have t1 : (((p[j] : Nat) : Int) != ((q[j] : Nat) : Int)) = true := bne_true (by omega)
          have t2 : ¬ ((p[j] : Nat) : Int) < ((q[j] : Nat) : Int) := by omega
          clear hc hd
          generalize p[j] = pj at *
          generalize q[j] = qj at *
          go_wp2_with fail
          go_quiet (fail)
          go_wp2_with fail
          go_quiet (fail)
          go_wp2
          go_ret
          exact ⟨by rw [VS.out, F.out]; rfl, below_drewN (below_drewN hb _) _⟩
      · have hz3 : z = -1 := by omega
        have hz4 : ¬ (0 : Int) ≤ z := hz
        have F : Hid (cmpN (val p) (val q) = 0) := by
          have := hd.out
          rw [hz3] at this
          simp at this
          rw [this]
          exact cmpN_eq rfl
        clear hz3 hd hxp hxq
        go_wp2
        go_ret
        exact ⟨by rw [VS.out, F.out]; rfl, hb⟩
  · have hne1 : ((p.length : Int) != (q.length : Int)) = true := bne_true (by omega)
    by_cases hlt : p.length < q.length
    · have F := Lib.hid (C1.out hlt)
      clear hne C1 C2 hxp hxq
      go_wp2
      go_ret
      exact ⟨by rw [F.out]; rfl, hb⟩
    · have F := Lib.hid (C2.out (by omega))
      clear hne C1 C2 hxp hxq
      go_wp2
      go_ret
      exact ⟨by rw [F.out]; rfl, hb⟩

set_option maxHeartbeats 3200000 in
theorem refCmp_any (u v : Value) (x y : List Nat) (w : World) (hdx : Dig x) (hdy : Dig y) (h : Nt w 0 w.heap.size u x) (h' : Nt w 0 w.heap.size v y) (hlx : x.length ≤ 100000) (hly : y.length ≤ 100000) :
    Calls Tryz.prog 66 #[u, v] w fun e w' => e = .returned (.int .i64 (cmpN (val x) (val y))) ∧ Below w.heap.size w w' := by
  have hxl := limBd' hdx _ hlx
  have hyl := limBd' hdy _ hly
  have vx := val_lim (val x)
  have vy := val_lim (val y)
  have hdp := dig_lim (val x)
  have hdq := dig_lim (val y)
  have C1 : Hid ((lim (val x)).length < (lim (val y)).length → cmpN (val x) (val y) = -1) := fun hc => cmpN_lt (lim_len_lt hc)
  have C2 : Hid ((lim (val y)).length < (lim (val x)).length → cmpN (val x) (val y) = 1) := fun hc => cmpN_gt (lim_len_lt hc)
  have VS : Hid (cmpN (val x) (val y) = cmpN (val (lim (val x))) (val (lim (val y)))) := by rw [vx, vy]; exact rfl
  clear vx vy
  have wb : Below w.heap.size w w := Below.refl _ _
  go_enter Tryz.func66, Tryz.ntmps66
  go_wp2_with fail
  refine (refTrim_any _ x _ hdx h (by omega)).mono ?_
  rintro e w1 ⟨v1, rfl, h1, hb1⟩
  go_wp2_with fail
  refine (refTrim_any _ y _ hdy (h'.after hb1) (by omega)).mono ?_
  rintro e w2 ⟨v2, rfl, h2, hb2⟩
  replace h1 := (h1.low (Nat.zero_le _)).after hb2
  replace h2 := h2.low (Nat.zero_le _)
  have hb : Below w.heap.size w w2 := hb1.trans (hb2.mono hb1.size)
  clear hb1 hb2 wb
  generalize lim (val x) = p at *
  generalize lim (val y) = q at *
  clear h h' hdx hdy hlx hly
  obtain ⟨Ap, cp, rfl, hcp, hmp, _, hxp⟩ := h1
  obtain ⟨Aq, cq, rfl, hcq, hmq, _, hxq⟩ := h2
  by_cases hne : p.length = q.length
  · have hne1 : ((p.length : Int) != (q.length : Int)) = false := bne_false (by omega)
    have hle : p.length ≤ q.length ∧ q.length ≤ p.length := by omega
    clear hne C1 C2
    go_wp2_with fail
    go_loopw [7] (fun i wr => ∃ z : Int, i = .int .i64 z ∧ -1 ≤ z ∧ z < p.length ∧ Hid (p.drop (z + 1).toNat = q.drop (z + 1).toNat) ∧ Hid (∀ a : Addr, a.block < w2.heap.size → wr.cell? a = w2.cell? a) ∧ Below w.heap.size w wr) (fun i _ => (intOf i + 1).toNat)
    case atStart => exact ⟨_, rfl, by omega, by omega, by
      show _ = _
      rw [List.drop_eq_nil_of_le (by omega), List.drop_eq_nil_of_le (by omega)], fun _ _ => rfl, hb⟩
    case round =>
      clear hb
      obtain ⟨z, rfl, hz1, hz2, hd, hw, hb⟩ := hrel
      by_cases hz : 0 ≤ z
      · obtain ⟨j, rfl⟩ := Int.eq_ofNat_of_zero_le hz
        have hj : j < p.length := by omega
        have hk : j < q.length := by omega
        have e1 : ((j : Int) + 1).toNat = j + 1 := by omega
        rw [e1] at hd
        obtain ⟨ba, oa, rfl, _, hba, hca⟩ := hxp (by omega)
        obtain ⟨bb, ob, rfl, _, hbb, hcb⟩ := hxq (by omega)
        have a1 := (hw.out ⟨ba, oa + j, none⟩ hba).trans (hca j hj)
        have a2 := (hw.out ⟨bb, ob + j, none⟩ hbb).trans (hcb j hk)
        have i1 : (j : Int) < (p.length : Int) := by omega
        have i2 : (j : Int) < (q.length : Int) := by omega
        clear hca hcb hxp hxq e1
        rcases Nat.lt_trichotomy p[j] q[j] with hc | hc | hc
        · have F : Hid (cmpN (val p) (val q) = -1) := cmpN_lt (cmp_at hdp hj hk hc hd.out)
          have t1 : ((p[j] : Nat) : Int) < ((q[j] : Nat) : Int) := by omega
          clear hc hd
          generalize p[j] = pj at *
          generalize q[j] = qj at *
          go_wp2_with fail
          go_quiet (fail)
          go_wp2
          go_ret
          exact ⟨by rw [VS.out, F.out]; rfl, below_drewN hb _⟩
        · have D : Hid (p.drop j = q.drop j) := drop_at hj hk hc hd.out
          have t1 : ¬ ((p[j] : Nat) : Int) < ((q[j] : Nat) : Int) := by omega
          have t2 : ¬ ((q[j] : Nat) : Int) < ((p[j] : Nat) : Int) := by omega
          clear hc hd
          generalize p[j] = pj at *
          generalize q[j] = qj at *
          go_wp2_with fail
          go_quiet (fail)
          go_wp2_with fail
          go_quiet (fail)
          go_wp2
          go_roundw
          case rel => exact ⟨(j : Int) - 1, rfl, by omega, by omega, by
            have e : ((j : Int) - 1 + 1).toNat = j := by omega
            rw [e]; exact D, hw, (by first | exact below_drewN hb _ | exact below_drewN (below_drewN hb _) _)⟩
          case measure => first | (simp [intOf]; done) | (simp [intOf]; omega)
        · have F : Hid (cmpN (val p) (val q) = 1) := cmpN_gt (cmp_at hdq hk hj hc hd.out.symm)
          have t1 : ¬ ((p[j] : Nat) : Int) < ((q[j] : Nat) : Int) := by omega
          have t2 : ((q[j] : Nat) : Int) < ((p[j] : Nat) : Int) := by omega
          clear hc hd
          generalize p[j] = pj at *
          generalize q[j] = qj at *
          go_wp2_with fail
          go_quiet (fail)
          go_wp2_with fail
          go_quiet (fail)
          go_wp2
          go_ret
          exact ⟨by rw [VS.out, F.out]; rfl, below_drewN (below_drewN hb _) _⟩
      · have hz3 : z = -1 := by omega
        have hz4 : ¬ (0 : Int) ≤ z := hz
        have F : Hid (cmpN (val p) (val q) = 0) := by
          have := hd.out
          rw [hz3] at this
          simp at this
          rw [this]
          exact cmpN_eq rfl
        clear hz3 hd hxp hxq
        go_wp2
        go_ret
        exact ⟨by rw [VS.out, F.out]; rfl, hb⟩
  · have hne1 : ((p.length : Int) != (q.length : Int)) = true := bne_true (by omega)
    by_cases hlt : p.length < q.length
    · have F := Lib.hid (C1.out hlt)
      clear hne C1 C2 hxp hxq
      go_wp2
      go_ret
      exact ⟨by rw [F.out]; rfl, hb⟩
    · have F := Lib.hid (C2.out (by omega))
      clear hne C1 C2 hxp hxq
      go_wp2
      go_ret
      exact ⟨by rw [F.out]; rfl, hb⟩
end Go.Proofs.YtobmjcbjailclaaGreatDoor
