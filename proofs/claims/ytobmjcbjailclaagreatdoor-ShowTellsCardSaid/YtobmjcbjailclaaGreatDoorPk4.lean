/- Several texts in one: Bits, Cmps, Sub32, Fns, Small, Bytes, LawLaws, LimTen, Subs, RefSub, Left. Condition: each says its own. -/
import Derived.Lib.BitFns
import Derived.Outline
import Derived.Laws.BitsAllLaws
import Derived.Deep.AppendLies
import Derived.Test.YtobmjcbjailclaaGreatDoorPk1
import Derived.Test.YtobmjcbjailclaaGreatDoorPk2
import Derived.Test.YtobmjcbjailclaaGreatDoorPk3
/- 'bits.Len32', 'Bits' and the reference's 'Bits' by their contracts. Condition: a bound on lengths. -/
namespace Go.Proofs.YtobmjcbjailclaaGreatDoor
set_option maxRecDepth 100000
open Go.RowKit

theorem tab_at (i : Int) (h0 : 0 ≤ i) (h1 : i ≤ 255) (h : i.toNat < Lib.len8tab.size) : ((Lib.len8tab[i.toNat]'h).toNat : Int) = (Lib.bitLen i.toNat : Int) ∧ Lib.bitLen i.toNat ≤ 8 := by
  refine ⟨?_, Lib.bitLen_le8' i h0 h1⟩
  have e := Lib.len8_of i h0 h1
  unfold Lib.len8 at e
  rw [getElem?_pos Lib.len8tab i.toNat h] at e
  exact e

theorem wrap_small (z : Int) (h0 : 0 ≤ z) (h1 : z ≤ 100000) : wrap64 z = z := by
  unfold wrap64
  omega

set_option maxHeartbeats 4000000 in
set_option maxRecDepth 100000 in
theorem len32_any (x : Int) (w : World) (h0 : 0 ≤ x) (h1 : x ≤ 4294967295) :
    Calls Tryz.prog 93 #[.int .u32 x] w fun e w' => e = .returned (.int .i64 (Lib.bitLen x.toNat)) ∧ w = w' := by
  have sz : (Lib.len8tab.size : Int) = 256 := by rw [Lib.len8tab_size]; rfl
  have sn := Lib.len8tab_size
  go_enter Tryz.func93, Tryz.ntmps93
  go_wp2
  all_goals (go_ret; refine ⟨congrArg Ending.returned (congrArg (Value.int IntKind.i64) ?_), rfl⟩)
  all_goals first
    | (have q := tab_at (x / 65536 / 256) (by omega) (by omega) (by rw [sn]; omega)
       rw [q.1]
       have l := q.2
       have e : (x / 65536 / 256).toNat = x.toNat / 16777216 := by omega
       have s := Lib.bitLen_shift24 x.toNat (by omega) (by omega)
       clear q
       rw [e] at l ⊢
       generalize Lib.bitLen (x.toNat / 16777216) = L1 at *
       rw [wrap_small (L1 : Int) (by omega) (by omega), wrap_small _ (by omega) (by omega)]
       omega)
    | (have q := tab_at (x / 65536) (by omega) (by omega) (by rw [sn]; omega)
       rw [q.1]
       have l := q.2
       have e : (x / 65536).toNat = x.toNat / 65536 := by omega
       have s := Lib.bitLen_shift16 x.toNat (by omega) (by omega)
       clear q
       rw [e] at l ⊢
       generalize Lib.bitLen (x.toNat / 65536) = L1 at *
       rw [wrap_small (L1 : Int) (by omega) (by omega), wrap_small _ (by omega) (by omega)]
       omega)
    | (have q := tab_at (x / 256) (by omega) (by omega) (by rw [sn]; omega)
       rw [q.1]
       have l := q.2
       have e : (x / 256).toNat = x.toNat / 256 := by omega
       have s := Lib.bitLen_shift8 x.toNat (by omega) (by omega)
       clear q
       rw [e] at l ⊢
       generalize Lib.bitLen (x.toNat / 256) = L1 at *
       rw [wrap_small (L1 : Int) (by omega) (by omega), wrap_small _ (by omega) (by omega)]
       omega)
    | (have q := tab_at (x) (by omega) (by omega) (by rw [sn]; omega)
       rw [q.1]
       have l := q.2
       clear q
       generalize Lib.bitLen (x.toNat) = L1 at *
       rw [wrap_small (L1 : Int) (by omega) (by omega), wrap_small _ (by omega) (by omega)])

/-- How many bits a number takes. -/
def bl (n : Nat) : Nat := if h : n = 0 then 0 else 1 + bl (n / 2)
termination_by n
decreasing_by omega

theorem bl_zero : bl 0 = 0 := by rw [bl]; rfl
theorem bl_pos {n : Nat} (h : n ≠ 0) : bl n = 1 + bl (n / 2) := by rw [bl, dif_neg h]

theorem bl_shift : ∀ (k n : Nat), n / 2 ^ k ≠ 0 → bl n = k + bl (n / 2 ^ k)
  | 0, n, _ => by rw [Nat.pow_zero, Nat.div_one, Nat.zero_add]
  | k + 1, n, h => by
    have e : n / 2 ^ (k + 1) = n / 2 / 2 ^ k := by rw [Nat.div_div_eq_div_mul, Nat.pow_succ, Nat.mul_comm]
    rw [e] at h ⊢
    have h0 : n ≠ 0 := by
      intro h1
      subst h1
      exact h (by simp)
    rw [bl_pos h0, bl_shift k (n / 2) h]
    omega

theorem bl_lib (n : Nat) : n < 2 ^ 64 → Lib.bitLen n = bl n := by
  induction n using Nat.strongRecOn with
  | _ n ih =>
    intro h
    by_cases h0 : n = 0
    · subst h0; rw [bl_zero]; rfl
    · rw [Lib.bitLen_half n h0 h, bl_pos h0, ih (n / 2) (by omega) (by omega)]

/-- The last limb, and what lies before it. -/
theorem bl_val {p : List Nat} {k : Nat} (hd : Dig p) (hk : p.length = k + 1) (hc : p.getD k 0 ≠ 0) : bl (val p) = 32 * k + bl (p.getD k 0) := by
  have e := val_take_getD p k
  rw [List.take_of_length_le (by omega)] at e
  have h1 := val_lt (hd.take k)
  rw [List.length_take, Nat.min_eq_left (by omega)] at h1
  have p1 : 0 < 4294967296 ^ k := Nat.pow_pos (by omega)
  have e2 : val p / 2 ^ (32 * k) = p.getD k 0 := by
    rw [← base_pow, e, Nat.add_mul_div_left _ _ p1, Nat.div_eq_of_lt h1, Nat.zero_add]
  rw [bl_shift (32 * k) (val p) (by rw [e2]; exact hc), e2]

theorem lim_last {v k : Nat} (h : (lim v).length = k + 1) : (lim v).getD k 0 ≠ 0 := by
  have hc := canon_lim v
  have hne : lim v ≠ [] := by intro h0; rw [h0] at h; simp at h
  have := hc ((lim v).getLast hne) ((lim v).dropLast) (List.dropLast_concat_getLast hne).symm
  rw [List.getD_eq_getElem?_getD, List.getElem?_eq_getElem (by omega)]
  rw [List.getLast_eq_getElem] at this
  have e : (lim v).length - 1 = k := by omega
  simp only [e] at this
  exact this

set_option maxHeartbeats 800000 in
theorem bits_any (v : Value) (x : List Nat) (w : World) (hd : Dig x) (h : Nt w 0 w.heap.size v x) (hl : x.length ≤ 100000) :
    Calls Tryz.prog 55 #[v] w fun e w' => e = .returned (.int .i64 ((bl (val x) : Nat) : Int)) ∧ w = w' := by
  have hxl := limBd' hd _ hl
  have hdp := dig_lim (val x)
  have vx := val_lim (val x)
  have hlast : ∀ k, (lim (val x)).length = k + 1 → (lim (val x)).getD k 0 ≠ 0 := fun k hk => lim_last hk
  have HLast := Lib.hid hlast
  have VX := Lib.hid vx
  clear hlast vx
  go_enter Tryz.func55, Tryz.ntmps55
  go_wp2_with fail
  refine (trim_any _ x _ _ _ hd h).mono ?_
  rintro e w1 ⟨v1, rfl, h1, rfl⟩
  generalize lim (val x) = p at *
  obtain ⟨A, c, rfl, hc, hm, _, hx⟩ := h1
  by_cases h0 : p.length = 0
  · have e1 : bl (val x) = 0 := by
      rw [← VX.out]
      obtain rfl := List.eq_nil_of_length_eq_zero h0
      rw [show val [] = 0 from rfl]
      exact bl_zero
    have E1 := Lib.hid e1
    clear e1
    go_wp2
    go_ret
    exact ⟨by rw [E1.out]; rfl, rfl⟩
  · obtain ⟨k, hk⟩ : ∃ k, p.length = k + 1 := ⟨p.length - 1, by omega⟩
    have e1 := bl_val hdp hk (HLast.out k hk)
    rw [VX.out] at e1
    obtain ⟨b, off, rfl, _, hbl, hcell⟩ := hx (by omega)
    have hca := hcell k (by omega)
    have b1 := hdp.at (show k < p.length by omega)
    have hgk : p.getD k 0 = p[k] := getD_at (by omega)
    rw [hgk] at e1
    clear hgk
    generalize p[k] = y at *
    have e2 := bl_lib y (by omega)
    have h8 : bl y ≤ 32 := by rw [← e2]; exact Lib.bitLen_le y 32 (by omega) (by omega)
    have hlen := len32_any (y : Int) w (by omega) (by omega)
    rw [Int.toNat_natCast, e2] at hlen
    have HLEN := Lib.hid hlen
    have E1 := Lib.hid e1
    have hk1 : (p.length : Int) - 1 = (k : Int) := by omega
    have hk2 : ¬ p.length = 0 := h0
    have hk3 : (k : Int) < (p.length : Int) := by omega
    have hk4 : k ≤ 100000 := by omega
    clear e1 e2 hlen hcell hx HLast hk
    generalize bl y = L1 at *
    go_wp2_with fail
    refine HLEN.out.mono ?_
    rintro e w2 ⟨rfl, rfl⟩
    go_wp2
    go_ret
    exact ⟨by rw [E1.out]; rfl, rfl⟩
end Go.Proofs.YtobmjcbjailclaaGreatDoor

/- 'Cmp' of the program and of the reference by their contracts. Condition: a bound on lengths. -/
namespace Go.Proofs.YtobmjcbjailclaaGreatDoor
set_option maxRecDepth 100000
open Go.RowKit

set_option maxHeartbeats 3200000 in
theorem cmp_any (u v : Value) (x y : List Nat) (w : World) (hdx : Dig x) (hdy : Dig y) (h : Nt w 0 w.heap.size u x) (h' : Nt w 0 w.heap.size v y) (hlx : x.length ≤ 100000) (hly : y.length ≤ 100000) :
    Calls Tryz.prog 90 #[u, v] w fun e w' => e = .returned (.int .i64 (cmpN (val x) (val y))) ∧ Below w.heap.size w w' := by
  have hxl := limBd' hdx _ hlx
  have hyl := limBd' hdy _ hly
  have vx := val_lim (val x)
  have vy := val_lim (val y)
  have hdp := dig_lim (val x)
  have hdq := dig_lim (val y)
  have C1 : Hid ((lim (val x)).length < (lim (val y)).length → cmpN (val x) (val y) = -1) := fun hc => cmpN_lt (lim_len_lt hc)
  have C2 : Hid ((lim (val y)).length < (lim (val x)).length → cmpN (val x) (val y) = 1) := fun hc => cmpN_gt (lim_len_lt hc)
  have VS : Hid (cmpN (val x) (val y) = cmpN (val (lim (val x))) (val (lim (val y)))) := by rw [vx, vy]; exact rfl
  clear vx vy
  have wb : Below w.heap.size w w := Below.refl _ _
  go_enter Tryz.func90, Tryz.ntmps90
  go_wp2_with fail
  refine (trim_any _ x _ _ _ hdx h).mono ?_
  rintro e w1 ⟨v1, rfl, h1, rfl⟩
  go_wp2_with fail
  refine (trim_any _ y _ _ _ hdy h').mono ?_
  rintro e w1 ⟨v2, rfl, h2, rfl⟩
  have hb := wb
  clear wb
  generalize lim (val x) = p at *
  generalize lim (val y) = q at *
  clear h h' hdx hdy hlx hly
  obtain ⟨Ap, cp, rfl, hcp, hmp, _, hxp⟩ := h1
  obtain ⟨Aq, cq, rfl, hcq, hmq, _, hxq⟩ := h2
  by_cases hne : p.length = q.length
  · have hne1 : ((p.length : Int) != (q.length : Int)) = false := bne_false (by omega)
    have hle : p.length ≤ q.length ∧ q.length ≤ p.length := by omega
    clear hne C1 C2
    go_wp2_with fail
    go_loopw [5] (fun i wr => ∃ z : Int, i = .int .i64 z ∧ -1 ≤ z ∧ z < p.length ∧ Hid (p.drop (z + 1).toNat = q.drop (z + 1).toNat) ∧ Hid (∀ a : Addr, a.block < w.heap.size → wr.cell? a = w.cell? a) ∧ Below w.heap.size w wr) (fun i _ => (intOf i + 1).toNat)
    case atStart => exact ⟨_, rfl, by omega, by omega, by
      show _ = _
      rw [List.drop_eq_nil_of_le (by omega), List.drop_eq_nil_of_le (by omega)], fun _ _ => rfl, hb⟩
    case round =>
      clear hb
      obtain ⟨z, rfl, hz1, hz2, hd, hw, hb⟩ := hrel
      by_cases hz : 0 ≤ z
      · obtain ⟨j, rfl⟩ := Int.eq_ofNat_of_zero_le hz
        have hj : j < p.length := by omega
        have hk : j < q.length := by omega
        have e1 : ((j : Int) + 1).toNat = j + 1 := by omega
        rw [e1] at hd
        obtain ⟨ba, oa, rfl, _, hba, hca⟩ := hxp (by omega)
        obtain ⟨bb, ob, rfl, _, hbb, hcb⟩ := hxq (by omega)
        have a1 := (hw.out ⟨ba, oa + j, none⟩ hba).trans (hca j hj)
        have a2 := (hw.out ⟨bb, ob + j, none⟩ hbb).trans (hcb j hk)
        have i1 : (j : Int) < (p.length : Int) := by omega
        have i2 : (j : Int) < (q.length : Int) := by omega
        clear hca hcb hxp hxq e1
        rcases Nat.lt_trichotomy p[j] q[j] with hc | hc | hc
        · have F : Hid (cmpN (val p) (val q) = -1) := cmpN_lt (cmp_at hdp hj hk hc hd.out)
          have t1 : (((p[j] : Nat) : Int) != ((q[j] : Nat) : Int)) = true := bne_true (by omega)
          have t2 : ((p[j] : Nat) : Int) < ((q[j] : Nat) : Int) := by omega
          clear hc hd
          generalize p[j] = pj at *
          generalize q[j] = qj at *
          go_wp2_with fail
          go_quiet (fail)
          go_wp2_with fail
          go_quiet (fail)
          go_wp2
          go_ret
          exact ⟨by rw [VS.out, F.out]; rfl, below_drewN (below_drewN hb _) _⟩
        · have D : Hid (p.drop j = q.drop j) := drop_at hj hk hc hd.out
          have t1 : (((p[j] : Nat) : Int) != ((q[j] : Nat) : Int)) = false := bne_false (by omega)
          clear hc hd
          generalize p[j] = pj at *
          generalize q[j] = qj at *
          go_wp2_with fail
          go_quiet (fail)
          go_wp2
          go_roundw
          case rel => exact ⟨(j : Int) - 1, rfl, by omega, by omega, by
            have e : ((j : Int) - 1 + 1).toNat = j := by omega
            rw [e]; exact D, hw, below_drewN hb _⟩
          case measure => first | (simp [intOf]; done) | (simp [intOf]; omega)
        · have F : Hid (cmpN (val p) (val q) = 1) := cmpN_gt (cmp_at hdq hk hj hc hd.out.symm)
          have t1 : (((p[j] : Nat) : Int) != ((q[j] : Nat) : Int)) = true := bne_true (by omega)
          have t2 : ¬ ((p[j] : Nat) : Int) < ((q[j] : Nat) : Int) := by omega
          clear hc hd
          generalize p[j] = pj at *
          generalize q[j] = qj at *
          go_wp2_with fail
          go_quiet (fail)
          go_wp2_with fail
          go_quiet (fail)
          go_wp2
          go_ret
          exact ⟨by rw [VS.out, F.out]; rfl, below_drewN (below_drewN hb _) _⟩
      · have hz3 : z = -1 := by omega
        have hz4 : ¬ (0 : Int) ≤ z := hz
        have F : Hid (cmpN (val p) (val q) = 0) := by
          have := hd.out
          rw [hz3] at this
          simp at this
          rw [this]
          exact cmpN_eq rfl
        clear hz3 hd hxp hxq
        go_wp2
        go_ret
        exact ⟨by rw [VS.out, F.out]; rfl, hb⟩
  · have hne1 : ((p.length : Int) != (q.length : Int)) = true := bne_true (by omega)
    by_cases hlt : p.length < q.length
    · have F := Lib.hid (C1.out hlt)
      clear hne C1 C2 hxp hxq
      go_wp2
      go_ret
      exact ⟨by rw [F.out]; rfl, hb⟩
    · have F := Lib.hid (C2.out (by omega))
      clear hne C1 C2 hxp hxq
      go_wp2
      go_ret
      exact ⟨by rw [F.out]; rfl, hb⟩

set_option maxHeartbeats 3200000 in
theorem refCmp_any (u v : Value) (x y : List Nat) (w : World) (hdx : Dig x) (hdy : Dig y) (h : Nt w 0 w.heap.size u x) (h' : Nt w 0 w.heap.size v y) (hlx : x.length ≤ 100000) (hly : y.length ≤ 100000) :
    Calls Tryz.prog 66 #[u, v] w fun e w' => e = .returned (.int .i64 (cmpN (val x) (val y))) ∧ Below w.heap.size w w' := by
  have hxl := limBd' hdx _ hlx
  have hyl := limBd' hdy _ hly
  have vx := val_lim (val x)
  have vy := val_lim (val y)
  have hdp := dig_lim (val x)
  have hdq := dig_lim (val y)
  have C1 : Hid ((lim (val x)).length < (lim (val y)).length → cmpN (val x) (val y) = -1) := fun hc => cmpN_lt (lim_len_lt hc)
  have C2 : Hid ((lim (val y)).length < (lim (val x)).length → cmpN (val x) (val y) = 1) := fun hc => cmpN_gt (lim_len_lt hc)
  have VS : Hid (cmpN (val x) (val y) = cmpN (val (lim (val x))) (val (lim (val y)))) := by rw [vx, vy]; exact rfl
  clear vx vy
  have wb : Below w.heap.size w w := Below.refl _ _
  go_enter Tryz.func66, Tryz.ntmps66
  go_wp2_with fail
  refine (refTrim_any _ x _ hdx h (by omega)).mono ?_
  rintro e w1 ⟨v1, rfl, h1, hb1⟩
  go_wp2_with fail
  refine (refTrim_any _ y _ hdy (h'.after hb1) (by omega)).mono ?_
  rintro e w2 ⟨v2, rfl, h2, hb2⟩
  replace h1 := (h1.low (Nat.zero_le _)).after hb2
  replace h2 := h2.low (Nat.zero_le _)
  have hb : Below w.heap.size w w2 := hb1.trans (hb2.mono hb1.size)
  clear hb1 hb2 wb
  generalize lim (val x) = p at *
  generalize lim (val y) = q at *
  clear h h' hdx hdy hlx hly
  obtain ⟨Ap, cp, rfl, hcp, hmp, _, hxp⟩ := h1
  obtain ⟨Aq, cq, rfl, hcq, hmq, _, hxq⟩ := h2
  by_cases hne : p.length = q.length
  · have hne1 : ((p.length : Int) != (q.length : Int)) = false := bne_false (by omega)
    have hle : p.length ≤ q.length ∧ q.length ≤ p.length := by omega
    clear hne C1 C2
    go_wp2_with fail
    go_loopw [7] (fun i wr => ∃ z : Int, i = .int .i64 z ∧ -1 ≤ z ∧ z < p.length ∧ Hid (p.drop (z + 1).toNat = q.drop (z + 1).toNat) ∧ Hid (∀ a : Addr, a.block < w2.heap.size → wr.cell? a = w2.cell? a) ∧ Below w.heap.size w wr) (fun i _ => (intOf i + 1).toNat)
    case atStart => exact ⟨_, rfl, by omega, by omega, by
      show _ = _
      rw [List.drop_eq_nil_of_le (by omega), List.drop_eq_nil_of_le (by omega)], fun _ _ => rfl, hb⟩
    case round =>
      clear hb
      obtain ⟨z, rfl, hz1, hz2, hd, hw, hb⟩ := hrel
      by_cases hz : 0 ≤ z
      · obtain ⟨j, rfl⟩ := Int.eq_ofNat_of_zero_le hz
        have hj : j < p.length := by omega
        have hk : j < q.length := by omega
        have e1 : ((j : Int) + 1).toNat = j + 1 := by omega
        rw [e1] at hd
        obtain ⟨ba, oa, rfl, _, hba, hca⟩ := hxp (by omega)
        obtain ⟨bb, ob, rfl, _, hbb, hcb⟩ := hxq (by omega)
        have a1 := (hw.out ⟨ba, oa + j, none⟩ hba).trans (hca j hj)
        have a2 := (hw.out ⟨bb, ob + j, none⟩ hbb).trans (hcb j hk)
        have i1 : (j : Int) < (p.length : Int) := by omega
        have i2 : (j : Int) < (q.length : Int) := by omega
        clear hca hcb hxp hxq e1
        rcases Nat.lt_trichotomy p[j] q[j] with hc | hc | hc
        · have F : Hid (cmpN (val p) (val q) = -1) := cmpN_lt (cmp_at hdp hj hk hc hd.out)
          have t1 : ((p[j] : Nat) : Int) < ((q[j] : Nat) : Int) := by omega
          clear hc hd
          generalize p[j] = pj at *
          generalize q[j] = qj at *
          go_wp2_with fail
          go_quiet (fail)
          go_wp2
          go_ret
          exact ⟨by rw [VS.out, F.out]; rfl, below_drewN hb _⟩
        · have D : Hid (p.drop j = q.drop j) := drop_at hj hk hc hd.out
          have t1 : ¬ ((p[j] : Nat) : Int) < ((q[j] : Nat) : Int) := by omega
          have t2 : ¬ ((q[j] : Nat) : Int) < ((p[j] : Nat) : Int) := by omega
          clear hc hd
          generalize p[j] = pj at *
          generalize q[j] = qj at *
          go_wp2_with fail
          go_quiet (fail)
          go_wp2_with fail
          go_quiet (fail)
          go_wp2
          go_roundw
          case rel => exact ⟨(j : Int) - 1, rfl, by omega, by omega, by
            have e : ((j : Int) - 1 + 1).toNat = j := by omega
            rw [e]; exact D, hw, (by first | exact below_drewN hb _ | exact below_drewN (below_drewN hb _) _)⟩
          case measure => first | (simp [intOf]; done) | (simp [intOf]; omega)
        · have F : Hid (cmpN (val p) (val q) = 1) := cmpN_gt (cmp_at hdq hk hj hc hd.out.symm)
          have t1 : ¬ ((p[j] : Nat) : Int) < ((q[j] : Nat) : Int) := by omega
          have t2 : ((q[j] : Nat) : Int) < ((p[j] : Nat) : Int) := by omega
          clear hc hd
          generalize p[j] = pj at *
          generalize q[j] = qj at *
          go_wp2_with fail
          go_quiet (fail)
          go_wp2_with fail
          go_quiet (fail)
          go_wp2
          go_ret
          exact ⟨by rw [VS.out, F.out]; rfl, below_drewN (below_drewN hb _) _⟩
      · have hz3 : z = -1 := by omega
        have hz4 : ¬ (0 : Int) ≤ z := hz
        have F : Hid (cmpN (val p) (val q) = 0) := by
          have := hd.out
          rw [hz3] at this
          simp at this
          rw [this]
          exact cmpN_eq rfl
        clear hz3 hd hxp hxq
        go_wp2
        go_ret
        exact ⟨by rw [VS.out, F.out]; rfl, hb⟩
  · have hne1 : ((p.length : Int) != (q.length : Int)) = true := bne_true (by omega)
    by_cases hlt : p.length < q.length
    · have F := Lib.hid (C1.out hlt)
      clear hne C1 C2 hxp hxq
      go_wp2
      go_ret
      exact ⟨by rw [F.out]; rfl, hb⟩
    · have F := Lib.hid (C2.out (by omega))
      clear hne C1 C2 hxp hxq
      go_wp2
      go_ret
      exact ⟨by rw [F.out]; rfl, hb⟩
end Go.Proofs.YtobmjcbjailclaaGreatDoor

/- 'bits.Sub32' and 'Sub' of the program and of the reference by their contracts. Condition: a bound on lengths. -/
namespace Go.Proofs.YtobmjcbjailclaaGreatDoor
set_option maxRecDepth 100000
open Go.RowKit

theorem xor_top {a : Nat} (h : a < 4294967296) : 4294967295 ^^^ a < 4294967296 := Nat.xor_lt_two_pow (n := 32) (by omega) (by omega)
theorem xor_lt {a b : Nat} (h : a < 4294967296) (hb : b < 4294967296) : a ^^^ b < 4294967296 := Nat.xor_lt_two_pow (n := 32) (by omega) (by omega)
theorem and_lt {a b : Nat} (hb : b < 4294967296) : a &&& b < 4294967296 := Nat.and_lt_two_pow (n := 32) _ (by omega)

theorem borrow_run (x y d : Nat) (hx : x < 4294967296) (hy : y < 4294967296) (hd : d < 4294967296) :
    bits BinOp.or IntKind.u32 (bits BinOp.and IntKind.u32 (bits BinOp.xor IntKind.u32 IntKind.u32.max (x : Int)) (y : Int))
      (bits BinOp.and IntKind.u32 (bits BinOp.xor IntKind.u32 IntKind.u32.max (bits BinOp.xor IntKind.u32 (x : Int) (y : Int))) (d : Int)) / 2147483648 =
      (((((4294967295 ^^^ x) &&& y) ||| ((4294967295 ^^^ (x ^^^ y)) &&& d)) / 2147483648 : Nat) : Int) := by
  have e : IntKind.u32.max = ((4294967295 : Nat) : Int) := rfl
  rw [e, u32_xor_nat _ _ (by omega) hx, u32_and_nat _ _ (xor_top hx) hy, u32_xor_nat _ _ hx hy, u32_xor_nat _ _ (by omega) (xor_lt hx hy), u32_and_nat _ _ (xor_top (xor_lt hx hy)) hd,
    u32_or_nat _ _ (and_lt hy) (and_lt hd)]
  exact (Int.natCast_ediv _ _).symm

set_option maxHeartbeats 800000 in
theorem sub32_any (x y b : Nat) (w : World) (hx : x < 4294967296) (hy : y < 4294967296) (hb : b ≤ 1) :
    Calls Tryz.prog 92 #[.int .u32 (x : Int), .int .u32 (y : Int), .int .u32 (b : Int)] w fun e w' => e = .returned (.tuple #[.int .u32 (((x + 8589934592 - y - b) % 4294967296 : Nat) : Int), .int .u32 ((if x < y + b then 1 else 0 : Nat) : Int)]) ∧ w = w' := by
  obtain ⟨d, hd⟩ : ∃ d, d = (x + 8589934592 - y - b) % 4294967296 := ⟨_, rfl⟩
  have hdl : d < 4294967296 := by omega
  have hdi : ((x : Int) - (y : Int) - (b : Int)) % 4294967296 = (d : Int) := by omega
  have hdj : (((x : Int) - (y : Int)) % 4294967296 - (b : Int)) % 4294967296 = (d : Int) := by omega
  have hbr := borrow_run x y d hx hy hdl
  rw [borrow_eq x y b d hx hy hb hd] at hbr
  rw [← hd]
  obtain ⟨r, hr⟩ : ∃ r : Nat, r = if x < y + b then 1 else 0 := ⟨_, rfl⟩
  rw [← hr] at hbr ⊢
  clear hr hd
  have hsg : IntKind.u32.signed = false := rfl
  go_enter Tryz.func92, Tryz.ntmps92
  go_wp2
  go_ret2
  refine ⟨?_, rfl⟩
  show Ending.returned (.tuple #[.int .u32 ((((x : Int) - (y : Int)) % 4294967296 - (b : Int)) % 4294967296), .int .u32 (r : Int)]) = _
  rw [hdj]
end Go.Proofs.YtobmjcbjailclaaGreatDoor

/- 'bits.Div32', 'bits.Add32', 'bits.LeadingZeros32' by their contracts. No condition but the words' sizes. -/
namespace Go.Proofs.YtobmjcbjailclaaGreatDoor
set_option maxRecDepth 100000
open Go.RowKit

set_option maxHeartbeats 800000 in
theorem div32_any (hi lo y : Nat) (w : World) (h1 : hi < y) (h2 : y < 4294967296) (h3 : lo < 4294967296) :
    Calls Tryz.prog 131 #[.int .u32 (hi : Int), .int .u32 (lo : Int), .int .u32 (y : Int)] w fun e w' => e = .returned (.tuple #[.int .u32 (((hi * 4294967296 + lo) / y : Nat) : Int), .int .u32 (((hi * 4294967296 + lo) % y : Nat) : Int)]) ∧ w.drew = w' := by
  have hdl : (hi * 4294967296 + lo) / y < 4294967296 := by
    rw [Nat.div_lt_iff_lt_mul (by omega)]
    calc hi * 4294967296 + lo < hi * 4294967296 + 4294967296 := by omega
      _ = (hi + 1) * 4294967296 := by omega
      _ ≤ y * 4294967296 := Nat.mul_le_mul_right _ h1
      _ = 4294967296 * y := Nat.mul_comm _ _
  have hml : (hi * 4294967296 + lo) % y < y := Nat.mod_lt _ (by omega)
  obtain ⟨m, hm0⟩ : ∃ m, hi * 4294967296 = m := ⟨_, rfl⟩
  have hW2 : (hi : Int) * 4294967296 = (m : Int) := by omega
  rw [hm0] at hdl hml ⊢
  obtain ⟨t, ht0⟩ : ∃ t, m + lo = t := ⟨_, rfl⟩
  have hm1 : m < 18446744073709551616 := by omega
  have hor : bits BinOp.or IntKind.u64 (m : Int) (lo : Int) = (t : Int) := by
    rw [u64_or_nat m lo (by omega) (by omega), Nat.or_comm, or_add (m := m) (h := lo) (s := 32) (by omega) ⟨hi, by omega⟩]
    omega
  rw [ht0] at hdl hml ⊢
  have ht1 : t < 18446744073709551616 := by omega
  clear hm0 ht0
  obtain ⟨d, hd0⟩ : ∃ d, t / y = d := ⟨_, rfl⟩
  obtain ⟨q, hq0⟩ : ∃ q, t % y = q := ⟨_, rfl⟩
  have hdv : (t : Int) / (y : Int) = (d : Int) := by rw [← hd0]; exact (Int.natCast_ediv t y).symm
  have hmd : (t : Int) % (y : Int) = (q : Int) := by rw [← hq0]; exact (Int.natCast_emod t y).symm
  rw [hd0] at hdl
  rw [hq0] at hml
  rw [hd0, hq0]
  clear hd0 hq0
  have hy0 : ¬ (y : Int) = 0 := by omega
  have hyh : ¬ (y : Int) ≤ (hi : Int) := by omega
  have ed : (d : Int) % 4294967296 = (d : Int) := by omega
  go_enter Tryz.func131, Tryz.ntmps131
  go_wp2
  have eq : (q : Int) % 4294967296 = (q : Int) := by omega
  have eqt : (t : Int).tmod (y : Int) = (q : Int) := by rw [Int.tmod_eq_emod_of_nonneg (by omega)]; exact hmd
  go_region
  go_wp2
  go_ret2
  exact ⟨rfl, rfl⟩

set_option maxHeartbeats 800000 in
theorem add32_any (x y c : Nat) (w : World) (h1 : x < 4294967296) (h2 : y < 4294967296) (h3 : c ≤ 1) :
    Calls Tryz.prog 148 #[.int .u32 (x : Int), .int .u32 (y : Int), .int .u32 (c : Int)] w fun e w' => e = .returned (.tuple #[.int .u32 (((x + y + c) % 4294967296 : Nat) : Int), .int .u32 (((x + y + c) / 4294967296 : Nat) : Int)]) ∧ w = w' := by
  go_enter Tryz.func148, Tryz.ntmps148
  go_wp2
  go_ret2
  refine ⟨?_, rfl⟩
  have e1 : ((x : Int) + y + c) % 4294967296 = (((x + y + c) % 4294967296 : Nat) : Int) := by omega
  have e2 : ((x : Int) + y + c) / 4294967296 = (((x + y + c) / 4294967296 : Nat) : Int) := by omega
  show Ending.returned (.tuple #[.int .u32 (((x : Int) + y + c) % 4294967296), .int .u32 (((x : Int) + y + c) / 4294967296)]) = _
  rw [e1, e2]

set_option maxHeartbeats 800000 in
theorem lead32_any (x : Int) (w : World) (h0 : 0 ≤ x) (h1 : x ≤ 4294967295) :
    Calls Tryz.prog 132 #[.int .u32 x] w fun e w' => e = .returned (.int .i64 (32 - Lib.bitLen x.toNat)) ∧ w = w' := by
  go_enter Tryz.func132, Tryz.ntmps132
  go_wp2_with fail
  refine (len32_any x w h0 h1).mono ?_
  rintro e w1 ⟨rfl, rfl⟩
  go_wp2
  go_ret
  refine ⟨?_, rfl⟩
  have l := Lib.bitLen_le x.toNat 32 (by omega) (by omega)
  have e := wrap_small (32 - (Lib.bitLen x.toNat : Int)) (by omega) (by omega)
  show Ending.returned (.int .i64 (wrap64 (32 - (Lib.bitLen x.toNat : Int)))) = _
  rw [e]
end Go.Proofs.YtobmjcbjailclaaGreatDoor

/- The program's 'small' by its contract: division by one limb. Condition: a bound on lengths. -/
namespace Go.Proofs.YtobmjcbjailclaaGreatDoor
set_option maxRecDepth 100000
open Go.RowKit

/-- What the program's division by a limb hands back. -/
def GivesS (x : List Nat) (r : Nat) (w : World) (e : Ending) (w' : World) : Prop :=
  ∃ v', e = .returned (.tuple #[v', .int .u32 (r : Int)]) ∧ Nt w' w.heap.size w'.heap.size v' x ∧ Below w.heap.size w w'

set_option maxHeartbeats 3200000 in
theorem small_any (v : Value) (x : List Nat) (b : Nat) (w : World) (hd : Dig x) (h : Nt w 0 w.heap.size v x) (hl : x.length ≤ 90000) (hb0 : 0 < b) (hb1 : b < 4294967296) :
    Calls Tryz.prog 113 #[v, .int .u32 (b : Int)] w (GivesS (lim (val x / b)) (val x % b) w) := by
  have hmk := make_limbs x.length (x.length : Int) rfl (by omega)
  obtain ⟨A, c, rfl, hc, hm, _, hx⟩ := h
  go_enter Tryz.func113, Tryz.ntmps113
  go_wp2_with fail
  go_loopw [7, 8] (fun u i wr => ∃ (k r : Nat) (cs : List Nat), k ≤ x.length ∧ i = .int .i64 ((k : Int) - 1) ∧ u = .int .u32 (r : Nat) ∧ Dig cs ∧ Hid (cs.length = x.length) ∧ SmallAt x cs b r k ∧ Lb wr w.heap.size 43 cs ∧ Below w.heap.size w wr)
    (fun _ i _ => (intOf i + 1).toNat)
  case atStart => exact ⟨x.length, 0, _, Nat.le_refl _, rfl, rfl, dig_zeros _, List.length_replicate, smallAt_zero _ _ hb0, Lb.made w _ _, (Below.refl _ _).alloc (Nat.le_refl _) _⟩
  case round =>
    obtain ⟨k, r, cs, hk, rfl, rfl, hdc, HL, hs0, hB, hb⟩ := hrel
    by_cases hlt : 0 < k
    · obtain ⟨j, rfl⟩ : ∃ j, k = j + 1 := ⟨k - 1, by omega⟩
      obtain ⟨ba, oa, rfl, _, hba, hcella⟩ := hx (by omega)
      have hjl : j < x.length := by omega
      have b1 := hd.at hjl
      have hca := (hb.cell (p := ⟨ba, oa + j, none⟩) hba).trans (hcella j hjl)
      have hcl : j < cs.length := by have := HL.out; omega
      have hcc := hB.cell j hcl
      have hfr := hB.free j
      have HS := smallAt_step (by omega) hd HL.out hjl hs0
      rw [getD_at hjl] at HS
      have hr := hs0.1
      have hdiv := fun w => div32_any r x[j] b w hr hb1 b1
      generalize cs[j] = z0 at *
      generalize x[j] = v1 at *
      obtain ⟨d, hd0⟩ : ∃ d, (r * 4294967296 + v1) / b = d := ⟨_, rfl⟩
      obtain ⟨q, hq0⟩ : ∃ q, (r * 4294967296 + v1) % b = q := ⟨_, rfl⟩
      rw [hd0, hq0] at HS
      simp only [hd0, hq0] at hdiv
      have HDIV := Lib.hid hdiv
      clear hd0 hq0 hdiv
      have hi1 : ((j + 1 : Nat) : Int) - 1 = (j : Int) := by omega
      rw [hi1]
      have hj0 : (0 : Int) ≤ (j : Int) := by omega
      have hj1 : (j : Int) < (x.length : Int) := by omega
      have hdl := HS.2
      have hS1 := HS.1
      have hq1 := hS1.1
      have hB1 := hB.drew.put j d
      have hd1 := hdc.set j d hdl
      have hbb : Below w.heap.size w (wr.drew.setCell ⟨w.heap.size, j, none⟩ (.int .u32 (d : Int))) := hb.drew.setCell (Nat.le_refl _) _
      have HL1 : Hid ((cs.set j d).length = x.length) := by have := HL.out; show _ = _; rw [List.length_set]; exact this
      clear hdc HL hs0 hB hb hcl HS hi1 hx hcella hmk
      generalize cs.set j d = c1 at *
      go_wp2_with fail
      refine (HDIV.out _).mono ?_
      rintro e w' ⟨rfl, rfl⟩
      clear HDIV
      go_wp2_with fail
      go_roundw
      case rel => exact ⟨j, q, c1, by omega, rfl, rfl, hd1, HL1, hS1, hB1, hbb⟩
      case measure => simp [intOf]
    · obtain rfl : k = 0 := by omega
      have hv := smallAt_end hs0
      have hl2 := HL.out
      have hr := hB.reads (n := x.length) (by omega) (by unfold maxLen; omega)
      rw [hl2, List.take_of_length_le (by omega)] at hr
      have V := Lib.hid hv.1
      have R := Lib.hid hv.2
      have hcl : cs.length ≤ 1000000 := by omega
      clear hv HL hs0 hB hl2 hmk hx
      go_wp2_with fail
      refine (trim_any _ cs _ _ _ hdc hr).mono ?_
      rintro e w2 ⟨v3, rfl, h3, rfl⟩
      rw [V.out] at h3
      go_wp2
      go_ret2
      exact ⟨_, by rw [R.out]; rfl, h3, hb⟩
end Go.Proofs.YtobmjcbjailclaaGreatDoor

/- Rows of bytes of a call's own. Condition: a bound on lengths. -/
namespace Go.Proofs.YtobmjcbjailclaaGreatDoor
set_option maxRecDepth 100000
open Go.RowKit

theorem Tryz.info8 : (Tryz.prog.info? 5).map (fun i => (i.zero, i.size, i.bytes)) = some (some (.int .u8 0), 1, 1) := by kernel_rfl

/-- Numbers as bytes. -/
def bv (l : List Nat) : List Value := l.map fun n : Nat => Value.int .u8 (n : Int)
theorem bv_snoc (cs : List Nat) (d : Nat) : bv (cs ++ [d]) = bv cs ++ [.int .u8 (d : Int)] := by unfold bv; rw [List.map_append]; rfl

/-- The call's own row v holds these bytes. -/
def OwnB (w : World) (base : Nat) (e : TypeId) (v : Value) (cs : List Nat) : Prop := w.ownsRow base e 1 v cs.length (bv cs)
theorem OwnB.nil (w : World) (base : Nat) (e : TypeId) : OwnB w base e (.slice none 0 0) [] := World.ownsRow_nil _ _ _ _

theorem OwnB.after {w w' : World} {base : Nat} {e : TypeId} {v : Value} {cs : List Nat} (h : OwnB w base e v cs) (hb : Below w.heap.size w w') : OwnB w' base e v cs := by
  obtain ⟨hl, h | ⟨g, cap, cur, hv, hg, hc, rest⟩⟩ := h
  · exact ⟨hl, Or.inl h⟩
  · exact ⟨hl, Or.inr ⟨g, cap, cur, hv, hg, (hb.block g (Array.getElem?_eq_some_iff.1 hc).1).trans hc, rest⟩⟩

theorem OwnB.own_lt {w : World} {base : Nat} {e : TypeId} {v : Value} {cs : List Nat} (h : OwnB w base e v cs) {g : Nat} (hg : v.ownBlock = some g) : g < w.heap.size := (World.ownsRow.lt h g hg).2

/-- One byte more onto a row of the call's own. -/
theorem wpList_append_byte {P : Program} {w : World} {ops : Array Oper} {rest : List Oper} {o : Oper} {a : Act} {Q : Exit → Act → World → Prop} (hgd : o.guard = none) (s x : Operand) (t : TypeId)
    (ho : o.op = .call { callee := .builtin .append, args := #[s, x], argTypes := #[t, t] })
    (base : Nat) (e : TypeId) (i : TypeInfo) (ht : P.underlying t = some (.slice e)) (hi : P.info? e = some i) (hz : i.zero = some (.int .u8 0)) (hsize : i.size = 1) (hby : i.bytes = 1)
    (v : Value) (cs : List Nat) (hs : a.eval s = v) (hown : OwnB w base e v cs) (y : Value) (d : Nat) (hy : y = .int .u8 (d : Int)) (hx : a.eval x = .slice (some ⟨w.heap.size, 0, none⟩) 1 1)
    (hlen : cs.length ≤ 1000000) (hbase : base ≤ w.heap.size)
    (h : ∀ v' w', OwnB w' base e v' (cs ++ [d]) → Below base w w' → wpList P ops Q rest (a.put o.dst v') w') : wpList P ops Q (o :: rest) a (w.alloc (.cells #[y] e)) := by
  refine wpList_append_own _ hgd s x t ho base e i (.int .u8 0) 1 1 ht hi hz hsize hby rfl (by decide) v cs.length (bv cs) hs (World.ownsRow.alloc hown _) ⟨w.heap.size, 0, none⟩ 1 1 [y] hx rfl (cell_one_new _ _ _) ?_ ?_ ?_ ?_ ?_
  · intro u hu
    rw [List.mem_singleton] at hu
    subst hu
    rw [hy]; rfl
  · unfold maxLen; omega
  · omega
  · simp; omega
  · intro v' w' h1 h2 _
    refine h v' w' ?_ ?_
    · show w'.ownsRow base e 1 v' (cs ++ [d]).length (bv (cs ++ [d]))
      rw [bv_snoc, List.length_append, ← hy]; exact h1
    · exact ((Below.refl base w).alloc hbase _).grown h2 (by simp; omega) (fun j hj => (World.ownsRow.lt hown j hj).1)

/-- The same, and all other blocks are as they were. -/
theorem wpList_append_byte2 {P : Program} {w : World} {ops : Array Oper} {rest : List Oper} {o : Oper} {a : Act} {Q : Exit → Act → World → Prop} (hgd : o.guard = none) (s x : Operand) (t : TypeId)
    (ho : o.op = .call { callee := .builtin .append, args := #[s, x], argTypes := #[t, t] })
    (base : Nat) (e : TypeId) (i : TypeInfo) (ht : P.underlying t = some (.slice e)) (hi : P.info? e = some i) (hz : i.zero = some (.int .u8 0)) (hsize : i.size = 1) (hby : i.bytes = 1)
    (v : Value) (cs : List Nat) (hs : a.eval s = v) (hown : OwnB w base e v cs) (y : Value) (d : Nat) (hy : y = .int .u8 (d : Int)) (hx : a.eval x = .slice (some ⟨w.heap.size, 0, none⟩) 1 1)
    (hlen : cs.length ≤ 1000000) (hbase : base ≤ w.heap.size)
    (h : ∀ v' w', OwnB w' base e v' (cs ++ [d]) → Below base w w' → (∀ k, v.ownBlock ≠ some k → k < w.heap.size → w'.heap[k]? = w.heap[k]?) → wpList P ops Q rest (a.put o.dst v') w') : wpList P ops Q (o :: rest) a (w.alloc (.cells #[y] e)) := by
  refine wpList_append_own _ hgd s x t ho base e i (.int .u8 0) 1 1 ht hi hz hsize hby rfl (by decide) v cs.length (bv cs) hs (World.ownsRow.alloc hown _) ⟨w.heap.size, 0, none⟩ 1 1 [y] hx rfl (cell_one_new _ _ _) ?_ ?_ ?_ ?_ ?_
  · intro u hu
    rw [List.mem_singleton] at hu
    subst hu
    rw [hy]; rfl
  · unfold maxLen; omega
  · omega
  · simp; omega
  · intro v' w' h1 h2 _
    refine h v' w' ?_ ?_ (fun k hk hl => (h2.block k (by simp; omega) (fun e => hk e.symm)).trans (Below.heap_alloc _ _ _ hl))
    · show w'.ownsRow base e 1 v' (cs ++ [d]).length (bv (cs ++ [d]))
      rw [bv_snoc, List.length_append, ← hy]; exact h1
    · exact ((Below.refl base w).alloc hbase _).grown h2 (by simp; omega) (fun j hj => (World.ownsRow.lt hown j hj).1)

/-- The same, and where the row lies then: where it lay, or in a new block. -/
theorem wpList_append_byte3 {P : Program} {w : World} {ops : Array Oper} {rest : List Oper} {o : Oper} {a : Act} {Q : Exit → Act → World → Prop} (hgd : o.guard = none) (s x : Operand) (t : TypeId)
    (ho : o.op = .call { callee := .builtin .append, args := #[s, x], argTypes := #[t, t] })
    (base : Nat) (e : TypeId) (i : TypeInfo) (ht : P.underlying t = some (.slice e)) (hi : P.info? e = some i) (hz : i.zero = some (.int .u8 0)) (hsize : i.size = 1) (hby : i.bytes = 1)
    (v : Value) (cs : List Nat) (hs : a.eval s = v) (hown : OwnB w base e v cs) (y : Value) (d : Nat) (hy : y = .int .u8 (d : Int)) (hx : a.eval x = .slice (some ⟨w.heap.size, 0, none⟩) 1 1)
    (hlen : cs.length ≤ 1000000) (hbase : base ≤ w.heap.size)
    (h : ∀ g cap w', OwnB w' base e (.slice (some ⟨g, 0, none⟩) (cs.length + 1) cap) (cs ++ [d]) → Below base w w' → (∀ k, v.ownBlock ≠ some k → k < w.heap.size → w'.heap[k]? = w.heap[k]?) → (v.ownBlock = some g ∨ w.heap.size ≤ g) → g < w'.heap.size →
      wpList P ops Q rest (a.put o.dst (.slice (some ⟨g, 0, none⟩) (cs.length + 1) cap)) w') : wpList P ops Q (o :: rest) a (w.alloc (.cells #[y] e)) := by
  refine wpList_append_lies _ hgd s x t ho base e i (.int .u8 0) 1 1 ht hi hz hsize hby rfl (by decide) v cs.length (bv cs) hs (World.ownsRow.alloc hown _) ⟨w.heap.size, 0, none⟩ 1 1 [y] hx rfl (cell_one_new _ _ _) ?_ (by decide) ?_ ?_ ?_ _ rfl ?_
  · intro u hu
    rw [List.mem_singleton] at hu
    subst hu
    rw [hy]; rfl
  · unfold maxLen; omega
  · omega
  · simp; omega
  · intro g cap w' h1 h2 h3 h4
    refine h g cap w' ?_ ?_ (fun k hk hl => (h2.block k (by simp; omega) (fun e => hk e.symm)).trans (Below.heap_alloc _ _ _ hl)) ?_ h4
    · show w'.ownsRow base e 1 _ (cs ++ [d]).length (bv (cs ++ [d]))
      rw [bv_snoc, List.length_append, ← hy]; exact h1
    · exact ((Below.refl base w).alloc hbase _).grown h2 (by simp; omega) (fun j hj => (World.ownsRow.lt hown j hj).1)
    · rcases h3 with h3 | h3
      · exact Or.inl h3
      · right; rw [h3]; simp
end Go.Proofs.YtobmjcbjailclaaGreatDoor

/- 'NatLaws' returns true at any rows of limbs. No condition. -/
namespace Go.Proofs.YtobmjcbjailclaaGreatDoor
set_option maxRecDepth 100000
open Go.RowKit

theorem nt_len {w : World} {L B : Nat} {v : Value} {x : List Nat} (h : Nt w L B v x) : ∃ A c, v = .slice A x.length c ∧ x.length ≤ 9223372036854775807 := by
  obtain ⟨A, c, rfl, hc, hm, _⟩ := h
  exact ⟨A, c, rfl, by unfold maxLen at hm; omega⟩

theorem lim_add_len {a b n : Nat} {x y : List Nat} (hx : Dig x) (hy : Dig y) (ha : a = val x) (hb : b = val y) (h1 : x.length ≤ n) (h2 : y.length ≤ n) : (lim (a + b)).length ≤ n + 1 := by
  subst ha; subst hb
  refine lim_length_le ?_
  have e1 := val_lt hx
  have e2 := val_lt hy
  have e3 : 4294967296 ^ x.length ≤ 4294967296 ^ n := Nat.pow_le_pow_right (by omega) h1
  have e4 : 4294967296 ^ y.length ≤ 4294967296 ^ n := Nat.pow_le_pow_right (by omega) h2
  rw [Nat.pow_succ]
  generalize 4294967296 ^ n = N at *
  omega

theorem lim_mul_len {a b m n : Nat} {x y : List Nat} (hx : Dig x) (hy : Dig y) (ha : a = val x) (hb : b = val y) (h1 : x.length ≤ m) (h2 : y.length ≤ n) : (lim (a * b)).length ≤ m + n := by
  subst ha; subst hb
  refine lim_length_le ?_
  rw [Nat.pow_add]
  have e1 := val_lt hx
  have e2 := val_lt hy
  have e3 : 4294967296 ^ x.length ≤ 4294967296 ^ m := Nat.pow_le_pow_right (by omega) h1
  have e4 : 4294967296 ^ y.length ≤ 4294967296 ^ n := Nat.pow_le_pow_right (by omega) h2
  exact Nat.mul_lt_mul_of_lt_of_le (Nat.lt_of_lt_of_le e1 e3) (Nat.le_of_lt (Nat.lt_of_lt_of_le e2 e4)) (pow_pos' _)

theorem eqb_eq {x y : List Nat} (h : x = y) : eqb x y = true := decide_eq_true h

end Go.Proofs.YtobmjcbjailclaaGreatDoor

/- Limbs of a number below a power of ten. No condition. -/
namespace Go.Proofs.YtobmjcbjailclaaGreatDoor
set_option maxRecDepth 100000
theorem lim_ten {n l m : Nat} (h : n < 10 ^ l) (hl : l ≤ m) : (lim n).length ≤ m :=
  lim_length_le (Nat.lt_of_lt_of_le h (Nat.le_trans (Nat.pow_le_pow_left (by omega : 10 ≤ 4294967296) _) (Nat.pow_le_pow_right (by decide) hl)))
end Go.Proofs.YtobmjcbjailclaaGreatDoor

/- 'Sub' of the program and of the reference by their contracts. Condition: a bound on lengths. -/
namespace Go.Proofs.YtobmjcbjailclaaGreatDoor
set_option maxRecDepth 100000
open Go.RowKit

/-- A row and whether there is one. -/
def GivesB (x : List Nat) (b : Bool) (w : World) (e : Ending) (w' : World) : Prop :=
  ∃ v', e = .returned (.tuple #[v', .bool b]) ∧ Nt w' w.heap.size w'.heap.size v' x ∧ Below w.heap.size w w'

set_option maxHeartbeats 3200000 in
theorem sub_any (u v : Value) (x y : List Nat) (w : World) (hdx : Dig x) (hdy : Dig y) (h : Nt w 0 w.heap.size u x) (h' : Nt w 0 w.heap.size v y) (hlx : x.length ≤ 100000) (hly : y.length ≤ 100000) :
    Calls Tryz.prog 52 #[u, v] w (GivesB (lim (val x - val y)) (decide (val y ≤ val x)) w) := by
  by_cases hlt : val x < val y
  · have e1 : lim (val x - val y) = [] := by rw [Nat.sub_eq_zero_of_le (Nat.le_of_lt hlt)]; exact lim_zero
    have e2 : decide (val y ≤ val x) = false := decide_eq_false (by omega)
    rw [e1, e2]
    have C := Lib.hid (cmpN_lt hlt)
    clear e1 e2 hlt
    go_enter Tryz.func52, Tryz.ntmps52
    go_wp2_with fail
    refine (cmp_any _ _ x y _ hdx hdy h h' hlx hly).mono ?_
    rintro e w1 ⟨rfl, hb⟩
    rw [C.out]
    go_wp2
    go_ret2
    exact ⟨_, rfl, Nt.nil _ _ _, hb⟩
  · have e2 : decide (val y ≤ val x) = true := decide_eq_true (by omega)
    rw [e2]
    have hle : val y ≤ val x := by omega
    have C : Hid (¬ cmpN (val x) (val y) < 0) := by
      show ¬ _
      rw [cmpN_neg]; exact hlt
    have hxl := limBd' hdx _ hlx
    have hyl := limBd' hdy _ hly
    have vx := val_lim (val x)
    have vy := val_lim (val y)
    have hdp := dig_lim (val x)
    have hdq := dig_lim (val y)
    have VS : Hid (lim (val x - val y) = lim (val (lim (val x)) - val (lim (val y)))) := by rw [vx, vy]; exact rfl
    have HLE : Hid (val (lim (val y)) ≤ val (lim (val x))) := by rw [vx, vy]; exact hle
    clear vx vy e2 hlt hle
    generalize hcz : cmpN (val x) (val y) = cz at *
    have CZ := Lib.hid hcz
    clear hcz
    have hcn : ¬ cz < 0 := C.out
    clear C
    go_enter Tryz.func52, Tryz.ntmps52
    go_wp2_with fail
    refine (cmp_any _ _ x y _ hdx hdy h h' hlx hly).mono ?_
    rintro e w1 ⟨rfl, hb0⟩
    rw [CZ.out]
    replace h := h.after hb0
    replace h' := h'.after hb0
    go_wp2_with fail
    refine (trim_any _ x _ _ _ hdx h).mono ?_
    rintro e w2 ⟨v1, rfl, h1, rfl⟩
    go_wp2_with fail
    refine (trim_any _ y _ _ _ hdy h').mono ?_
    rintro e w2 ⟨v2, rfl, h2, rfl⟩
    generalize lim (val x) = p at *
    generalize lim (val y) = q at *
    clear h h' hdx hdy hlx hly CZ hcn
    obtain ⟨Ap, cp, rfl, hcp, hmp, _, hxp⟩ := h1
    obtain ⟨Aq, cq, rfl, hcq, hmq, _, hxq⟩ := h2
    have hmk := make_limbs p.length (p.length : Int) rfl (by omega)
    go_wp2_with fail
    go_loopw [7, 8, 9, 10, 24, 37] (fun s _ _ _ i _ wr => ∃ (k b : Nat) (cs : List Nat), k ≤ p.length ∧ i = .int .i64 (k : Nat) ∧ s = .int .u32 (b : Nat) ∧ b ≤ 1 ∧ Dig cs ∧ Hid (cs.length = p.length) ∧ SubAt p q cs b k ∧ Lb wr w1.heap.size 43 cs ∧ Below w1.heap.size w1 wr)
      (fun _ _ _ _ i _ _ => p.length - (intOf i).toNat)
    case atStart => exact ⟨0, 0, _, Nat.zero_le _, rfl, rfl, by omega, dig_zeros _, List.length_replicate, subAt_zero _ _ _, Lb.made w1 _ _, (Below.refl _ _).alloc (Nat.le_refl _) _⟩
    case round =>
      obtain ⟨k, b, cs, hk, rfl, rfl, hbb, hdc, HL, hs, hB, hb⟩ := hrel
      have hcl : p.length ≤ cs.length ∧ cs.length ≤ p.length := by have := HL.out; omega
      by_cases hlt : k < p.length
      · have b1 := hdp.at hlt
        have b2 := dig_getD hdq k
        obtain ⟨ba, oa, rfl, _, hba, hcella⟩ := hxp (by omega)
        have hca := (hb.cell (p := ⟨ba, oa + k, none⟩) hba).trans (hcella k hlt)
        have HS := subAt_step hdp hdq hs (by omega : k < cs.length) hbb
        rw [getD_at hlt] at HS
        have hcc := hB.cell k (by omega)
        have hfr := hB.free k
        clear hs hcella hmk
        by_cases hlq : k < q.length
        · obtain ⟨bb, ob, rfl, _, hbq, hcellb⟩ := hxq (by omega)
          have hcb := (hb.cell (p := ⟨bb, ob + k, none⟩) hbq).trans (hcellb k hlq)
          rw [getD_at hlq] at HS b2
          clear hcellb
          generalize q[k] = qk at *
          have hd2 := hdc.set k ((p[k] + 8589934592 - qk - b) % 4294967296) (Nat.mod_lt _ (by omega))
          have hB2 := hB.put k ((p[k] + 8589934592 - qk - b) % 4294967296)
          have hb2 : Below w1.heap.size w1 (wr.setCell ⟨w1.heap.size, k, none⟩ (.int .u32 (((p[k] + 8589934592 - qk - b) % 4294967296 : Nat) : Int))) := hb.setCell (Nat.le_refl _) _
          have HL2 : Hid ((cs.set k ((p[k] + 8589934592 - qk - b) % 4294967296)).length = p.length) := by have := HL.out; show _ = _; rw [List.length_set]; exact this
          have hq2 : (if p[k] < qk + b then 1 else 0) ≤ 1 := by split <;> omega
          generalize cs.set k ((p[k] + 8589934592 - qk - b) % 4294967296) = cs2 at *
          generalize cs[k] = old at *
          clear hdc hB hb HL hxp hxq hcl
          generalize p[k] = pk at *
          have S := Lib.hid (fun w : World => sub32_any pk qk b w b1 b2 hbb)
          generalize (pk + 8589934592 - qk - b) % 4294967296 = d at *
          generalize (if pk < qk + b then 1 else 0) = r at *
          go_wp2_with fail
          refine (S.out _).mono ?_
          rintro e w3 ⟨rfl, rfl⟩
          clear S
          go_wp2
          go_roundw
          case rel => exact ⟨k + 1, r, cs2, by omega, by go_num, rfl, hq2, hd2, HL2, HS, hB2, hb2⟩
          case measure => simp [intOf]; omega
        · have hqk := getD_out hlq
          generalize q.getD k 0 = qk at *
          have Z : Hid (∀ w : World, Calls Tryz.prog 92 #[.int .u32 ((p[k] : Nat) : Int), .int .u32 0, .int .u32 (b : Int)] w fun e w' => e = .returned (.tuple #[.int .u32 (((p[k] + 8589934592 - qk - b) % 4294967296 : Nat) : Int), .int .u32 ((if p[k] < qk + b then 1 else 0 : Nat) : Int)]) ∧ w = w') := by
            intro w
            have := sub32_any p[k] qk b w b1 b2 hbb
            rw [hqk] at this ⊢
            exact this
          clear hqk
          have hd2 := hdc.set k ((p[k] + 8589934592 - qk - b) % 4294967296) (Nat.mod_lt _ (by omega))
          have hB2 := hB.put k ((p[k] + 8589934592 - qk - b) % 4294967296)
          have hb2 : Below w1.heap.size w1 (wr.setCell ⟨w1.heap.size, k, none⟩ (.int .u32 (((p[k] + 8589934592 - qk - b) % 4294967296 : Nat) : Int))) := hb.setCell (Nat.le_refl _) _
          have HL2 : Hid ((cs.set k ((p[k] + 8589934592 - qk - b) % 4294967296)).length = p.length) := by have := HL.out; show _ = _; rw [List.length_set]; exact this
          have hq2 : (if p[k] < qk + b then 1 else 0) ≤ 1 := by split <;> omega
          generalize cs.set k ((p[k] + 8589934592 - qk - b) % 4294967296) = cs2 at *
          generalize cs[k] = old at *
          clear hdc hB hb HL hxp hxq hcl
          generalize p[k] = pk at *
          generalize (pk + 8589934592 - qk - b) % 4294967296 = d at *
          generalize (if pk < qk + b then 1 else 0) = r at *
          go_wp2_with fail
          refine (Z.out _).mono ?_
          rintro e w3 ⟨rfl, rfl⟩
          clear Z
          go_wp2
          go_roundw
          case rel => exact ⟨k + 1, r, cs2, by omega, by go_num, rfl, hq2, hd2, HL2, HS, hB2, hb2⟩
          case measure => simp [intOf]; omega
      · obtain rfl : k = p.length := by omega
        have hv := subAt_end hdp hdc hs HL.out HLE.out
        have hr := hB.reads (n := p.length) (by omega) (by unfold maxLen; omega)
        have hl2 := HL.out
        rw [hl2, List.take_of_length_le (by omega)] at hr
        have V := Lib.hid hv
        clear hs HL hB hcl hv hxp hxq hmk hl2
        go_wp2_with fail
        refine (trim_any _ cs _ _ _ hdc hr).mono ?_
        rintro e w2 ⟨v3, rfl, h3, rfl⟩
        rw [V.out] at h3
        go_wp2
        go_ret2
        exact ⟨_, rfl, by rw [VS.out]; exact h3.low hb0.size, hb0.trans (hb.mono hb0.size)⟩
end Go.Proofs.YtobmjcbjailclaaGreatDoor

/- The reference's 'Sub' by its contract. Condition: a bound on lengths. -/
namespace Go.Proofs.YtobmjcbjailclaaGreatDoor
set_option maxRecDepth 100000
open Go.RowKit

set_option maxHeartbeats 3200000 in
theorem refSub_any (u v : Value) (x y : List Nat) (w : World) (hdx : Dig x) (hdy : Dig y) (h : Nt w 0 w.heap.size u x) (h' : Nt w 0 w.heap.size v y) (hlx : x.length ≤ 100000) (hly : y.length ≤ 100000) :
    Calls Tryz.prog 67 #[u, v] w (GivesB (lim (val x - val y)) (decide (val y ≤ val x)) w) := by
  by_cases hlt : val x < val y
  · have e1 : lim (val x - val y) = [] := by rw [Nat.sub_eq_zero_of_le (Nat.le_of_lt hlt)]; exact lim_zero
    have e2 : decide (val y ≤ val x) = false := decide_eq_false (by omega)
    rw [e1, e2]
    have C := Lib.hid (cmpN_lt hlt)
    clear e1 e2 hlt
    go_enter Tryz.func67, Tryz.ntmps67
    go_wp2_with fail
    refine (refCmp_any _ _ x y _ hdx hdy h h' hlx hly).mono ?_
    rintro e w1 ⟨rfl, hb⟩
    rw [C.out]
    go_wp2
    go_ret2
    exact ⟨_, rfl, Nt.nil _ _ _, hb⟩
  · have e2 : decide (val y ≤ val x) = true := decide_eq_true (by omega)
    rw [e2]
    have HLE : Hid (val y ≤ val x) := by show val y ≤ val x; omega
    have C : Hid (¬ cmpN (val x) (val y) < 0) := by
      show ¬ _
      rw [cmpN_neg]; exact hlt
    clear e2 hlt
    generalize hcz : cmpN (val x) (val y) = cz at *
    have CZ := Lib.hid hcz
    clear hcz
    have hcn : ¬ cz < 0 := C.out
    clear C
    obtain ⟨i0, hi, hz0, hz1, hz2⟩ := info_parts Tryz.info32
    go_enter Tryz.func67, Tryz.ntmps67
    go_wp2_with fail
    refine (refCmp_any _ _ x y _ hdx hdy h h' hlx hly).mono ?_
    rintro e w1 ⟨rfl, hb0⟩
    rw [CZ.out]
    replace h := h.after hb0
    replace h' := h'.after hb0
    clear CZ
    have hn := h
    have hn' := h'
    obtain ⟨A, c, rfl, hc, hm, _, _⟩ := h
    obtain ⟨A', c', rfl, hc', hm', _, _⟩ := h'
    go_wp2_with fail
    go_loopw [6, 7, 8, 9, 10] (fun o s i _ _ wr => ∃ (k b : Nat) (cs : List Nat), k ≤ x.length ∧ i = .int .i64 (k : Nat) ∧ s = .int .u64 (b : Nat) ∧ b ≤ 1 ∧ Dig cs ∧ SubIn x y cs b k ∧ Own wr w1.heap.size 43 o cs ∧ Below w1.heap.size w1 wr)
      (fun _ _ i _ _ _ => x.length - (intOf i).toNat)
    case atStart => exact ⟨0, 0, [], Nat.zero_le _, rfl, rfl, by omega, Dig.nil, ⟨rfl, by simp [val]⟩, Own.nil _ _ _, Below.refl _ _⟩
    case round =>
      obtain ⟨k, b, cs, hk, rfl, rfl, hbb, hdc, hs, hown, hb⟩ := hrel
      by_cases hlt : k < x.length
      · have b1 := dig_getD hdx k
        have b2 := dig_getD hdy k
        have hcl : cs.length ≤ 1000000 := by have := hs.1; omega
        have HS := subIn_step hdx hdy hs hbb
        clear hs
        have hdc2 := hdc.append (Dig.cons (Nat.mod_lt (x.getD k 0 + 8589934592 - y.getD k 0 - b) (by omega)) Dig.nil)
        generalize hp1 : x.getD k 0 = p1 at *
        generalize hp2 : y.getD k 0 = p2 at *
        have P1 := Lib.hid hp1
        have P2 := Lib.hid hp2
        clear hp1 hp2
        have hat1 := at_any _ x k wr 0 w1.heap.size hdx (hn.below hb (Nat.le_refl _)) (by omega)
        rw [P1.out] at hat1
        have hat2 := at_any _ y k wr 0 w1.heap.size hdy (hn'.below hb (Nat.le_refl _)) (by omega)
        rw [P2.out] at hat2
        have T1 := Lib.hid hat1
        have T2 := Lib.hid hat2
        clear hat1 hat2
        by_cases hxy : p1 < p2 + b
        · rw [if_pos hxy] at HS
          have hI : (p1 : Int) < (p2 : Int) + (b : Int) := by omega
          go_wp2_with fail
          refine T1.out.mono ?_
          rintro e w2 ⟨rfl, rfl⟩
          go_wp2_with fail
          refine T2.out.mono ?_
          rintro e w2 ⟨rfl, rfl⟩
          go_wp2_with (at_builtin; refine wpList_append_limb rfl _ _ 23 rfl w1.heap.size 43 i0 Tryz.underlying23 hi hz0 hz1 hz2 _ cs rfl hown _ ((p1 + 8589934592 - p2 - b) % 4294967296) (congrArg (Value.int .u32) (by omega)) rfl hcl hb.size ?_)
          intro v' w3 hown1 hg1
          have hb1 := hb.trans hg1
          clear hown hg1 hb hcl T1 T2
          go_wp2
          go_roundw
          case rel => exact ⟨k + 1, 1, _, by omega, by go_num, rfl, by omega, hdc2, HS, hown1, hb1⟩
          case measure => simp [intOf]; omega
        · rw [if_neg hxy] at HS
          have hI : ¬ (p1 : Int) < (p2 : Int) + (b : Int) := by omega
          go_wp2_with fail
          refine T1.out.mono ?_
          rintro e w2 ⟨rfl, rfl⟩
          go_wp2_with fail
          refine T2.out.mono ?_
          rintro e w2 ⟨rfl, rfl⟩
          go_wp2_with (at_builtin; refine wpList_append_limb rfl _ _ 23 rfl w1.heap.size 43 i0 Tryz.underlying23 hi hz0 hz1 hz2 _ cs rfl hown _ ((p1 + 8589934592 - p2 - b) % 4294967296) (congrArg (Value.int .u32) (by omega)) rfl hcl hb.size ?_)
          intro v' w3 hown1 hg1
          have hb1 := hb.trans hg1
          clear hown hg1 hb hcl T1 T2
          go_wp2
          go_roundw
          case rel => exact ⟨k + 1, 0, _, by omega, by go_num, rfl, by omega, hdc2, HS, hown1, hb1⟩
          case measure => simp [intOf]; omega
      · obtain rfl : k = x.length := by omega
        have hv := subIn_end hdx hdc hs HLE.out
        have hcl : cs.length ≤ 1000000 := by have := hs.1; omega
        have V := Lib.hid hv
        have hr := hown.nt
        clear hs hv hown hi hz0 hz1 hz2
        go_wp2_with fail
        refine (refTrim_any _ cs _ hdc (hr.low (Nat.zero_le _)) hcl).mono ?_
        rintro e w2 ⟨v3, rfl, h3, hb3⟩
        rw [V.out] at h3
        go_wp2
        go_ret2
        exact ⟨_, rfl, h3.low (Nat.le_trans hb0.size hb.size), hb0.trans ((hb.trans (hb3.mono hb.size)).mono hb0.size)⟩
end Go.Proofs.YtobmjcbjailclaaGreatDoor

/- 'left' by its contract. Condition: a bound on lengths; a shift below 32. -/
namespace Go.Proofs.YtobmjcbjailclaaGreatDoor
set_option maxRecDepth 100000
open Go.RowKit

def LeftPost (a : List Nat) (s n : Nat) (w : World) (e : Ending) (w' : World) : Prop :=
  ∃ c, e = .returned (.slice (some ⟨w.heap.size, 0, none⟩) n n) ∧ Lb w' w.heap.size 43 c ∧ c.length = n ∧ Dig c ∧ val c = val a * 2 ^ s ∧ Below w.heap.size w w'

theorem leftAt_set {a c : List Nat} {s h k d : Nat} (hl : LeftAt a c s h k) : LeftAt a (c.set k d) s h k := by
  unfold LeftAt at hl ⊢
  rw [List.take_set_of_le (Nat.le_refl _)]
  exact hl

set_option maxHeartbeats 3200000 in
theorem left_any (v : Value) (a : List Nat) (s n : Nat) (w : World) (hd : Dig a) (h : Nt w 0 w.heap.size v a) (hl : a.length ≤ 100000) (hs : s ≤ 31) (hn1 : a.length ≤ n) (hn2 : n ≤ a.length + 1) (hf : n = a.length → val a * 2 ^ s < 4294967296 ^ a.length) :
    Calls Tryz.prog 133 #[v, .int .u64 (s : Int), .int .i64 (n : Int)] w (LeftPost a s n w) := by
  obtain ⟨A, c, rfl, hc, hm, _, hx⟩ := h
  have hmk := make_limbs n (n : Int) rfl (by omega)
  have HF := Lib.hid hf
  clear hf
  go_enter Tryz.func133, Tryz.ntmps133
  go_wp2_with fail
  go_loopw [8, 9, 10, 15] (fun _ _ _ i wr => ∃ (k h : Nat) (cs : List Nat), k ≤ a.length ∧ i = .int .i64 (k : Nat) ∧ Dig cs ∧ Hid (cs.length = n) ∧ LeftAt a cs s h k ∧ Hid (k < n → cs.getD k 0 = h) ∧ Bare cs (k + 1) ∧ Lb wr w.heap.size 43 cs ∧ Below w.heap.size w wr)
    (fun _ _ _ i _ => a.length - (intOf i).toNat)
  case atStart => exact ⟨0, 0, _, Nat.zero_le _, rfl, dig_zeros _, List.length_replicate, leftAt_zero _ _ _, fun _ => bare_zeros n 0 0 (Nat.le_refl _), bare_zeros _ _, Lb.made w _ _, (Below.refl _ _).alloc (Nat.le_refl _) _⟩
  case round =>
    obtain ⟨k, h, cs, hk, rfl, hdc, HL, hs0, HC, hbare, hB, hb⟩ := hrel
    have hcl : n ≤ cs.length ∧ cs.length ≤ n := by have := HL.out; omega
    by_cases hlt : k < a.length
    · have b1 := hd.at hlt
      obtain ⟨ba, oa, rfl, _, hba, hcella⟩ := hx (by omega)
      have hca := (hb.cell (p := ⟨ba, oa + k, none⟩) hba).trans (hcella k hlt)
      have hkn : k < cs.length := by omega
      have HS := leftAt_step hd hs hs0 hkn
      rw [getD_at hlt] at HS
      have hp := shl_parts b1 hs
      have hcc := hB.cell k hkn
      have hck : cs[k] = h := by have := HC.out (by omega); rw [getD_at hkn] at this; exact this
      rw [hck] at hcc
      have hfr := hB.free k
      clear hcella hmk
      have hhs := hs0.2
      have hTW := two_pow_le hs
      generalize a[k] = v at *
      have W : IntKind.u64.wrap ((v : Int) * 2 ^ s) = ((v * 2 ^ s : Nat) : Int) := by
        have e : ((v * 2 ^ s : Nat) : Int) = (v : Int) * 2 ^ s := by rw [Int.natCast_mul, Int.natCast_pow]; rfl
        rw [← e]
        have := hp.1
        exact IntWalk.u64_in _ (by omega)
      obtain ⟨m, hm0⟩ : ∃ m, v * 2 ^ s = m := ⟨_, rfl⟩
      rw [hm0] at W HS hp
      clear hm0
      have hmb := hp.2.1
      have hor : bits BinOp.or IntKind.u32 (h : Int) ((m : Int) % 4294967296) = ((h ||| m % 4294967296 : Nat) : Int) := by
        have e : (m : Int) % 4294967296 = ((m % 4294967296 : Nat) : Int) := by omega
        rw [e]
        exact u32_or_nat _ _ (by omega) (Nat.mod_lt _ (by omega))
      have hhi : (m : Int) / 4294967296 % 4294967296 = ((m / 4294967296 : Nat) : Int) := by omega
      have hd1 := hdc.set k (h ||| m % 4294967296) HS.2
      have hB1 := hB.put k (h ||| m % 4294967296)
      have hb1 : Below w.heap.size w (wr.setCell ⟨w.heap.size, k, none⟩ (.int .u32 ((h ||| m % 4294967296 : Nat) : Int))) := hb.setCell (Nat.le_refl _) _
      have HL1 : Hid ((cs.set k (h ||| m % 4294967296)).length = n) := by have := HL.out; show _ = _; rw [List.length_set]; exact this
      have hba1 : Bare (cs.set k (h ||| m % 4294967296)) (k + 1) := hbare.set (Nat.lt_succ_self k)
      have hS1 := HS.1
      have hdor := HS.2
      clear hdc HL hbare hB hb HC hck hs0 HS hp hx
      generalize cs.set k (h ||| m % 4294967296) = c1 at *
      clear hcl hkn
      have hcl : n ≤ c1.length ∧ c1.length ≤ n := by have := HL1.out; omega
      generalize (h ||| m % 4294967296) = d at *
      by_cases hnn : k + 1 < n
      · have hI : (k : Int) + 1 < (n : Int) := by omega
        have hc2 := hB1.cell (k + 1) (by omega)
        have hf2 := hB1.free (k + 1)
        have hd2 := hd1.set (k + 1) (m / 4294967296) (by omega)
        have hB2 := hB1.put (k + 1) (m / 4294967296)
        have hb2 := hb1.setCell (p := ⟨w.heap.size, k + 1, none⟩) (Nat.le_refl _) (.int .u32 ((m / 4294967296 : Nat) : Int))
        have HL2 : Hid ((c1.set (k + 1) (m / 4294967296)).length = n) := by have := HL1.out; show _ = _; rw [List.length_set]; exact this
        have HC2 : Hid (k + 1 < n → (c1.set (k + 1) (m / 4294967296)).getD (k + 1) 0 = m / 4294967296) := fun _ => getD_set_same (by omega)
        have hba2 : Bare (c1.set (k + 1) (m / 4294967296)) (k + 1 + 1) := (hba1.more (Nat.le_succ _)).set (Nat.lt_succ_self _)
        have hS2 := leftAt_set (d := m / 4294967296) hS1
        clear hd1 hB1 hb1 HL1 hba1 hS1
        generalize c1.set (k + 1) (m / 4294967296) = c2 at *
        generalize c1[k + 1] = old at *
        go_wp2
        go_roundw
        case rel => exact ⟨k + 1, m / 4294967296, c2, by omega, by go_num, hd2, HL2, hS2, HC2, hba2, hB2, hb2⟩
        case measure => simp [intOf]; omega
      · have hI : ¬ (k : Int) + 1 < (n : Int) := by omega
        have HC2 : Hid (k + 1 < n → c1.getD (k + 1) 0 = m / 4294967296) := fun hx => absurd hx hnn
        have hba2 : Bare c1 (k + 1 + 1) := hba1.more (Nat.le_succ _)
        clear hba1
        go_wp2
        go_roundw
        case rel => exact ⟨k + 1, m / 4294967296, c1, by omega, by go_num, hd1, HL1, hS1, HC2, hba2, hB1, hb1⟩
        case measure => simp [intOf]; omega
    · obtain rfl : k = a.length := by omega
      have hv : val cs = val a * 2 ^ s := by
        by_cases hn : n = a.length
        · exact leftAt_fit hs0 (by have := HL.out; omega) (HF.out hn)
        · exact leftAt_end hs0 (by have := HL.out; omega) hbare (HC.out (by omega))
      have HV := Lib.hid hv
      clear hv hs0 HC hbare hx hmk hcl
      go_wp2
      go_ret
      exact ⟨cs, rfl, hB, HL.out, hdc, HV.out, hb⟩
end Go.Proofs.YtobmjcbjailclaaGreatDoor
