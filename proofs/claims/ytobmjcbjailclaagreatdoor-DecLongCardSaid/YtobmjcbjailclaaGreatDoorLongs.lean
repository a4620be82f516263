/- The program's 'long' by its contract: long division. Condition: sizes. -/
import Derived.Test.YtobmjcbjailclaaGreatDoorTakes
import Derived.Test.YtobmjcbjailclaaGreatDoorShiftAny
import Derived.Test.YtobmjcbjailclaaGreatDoorShiftL
namespace Go.Proofs.YtobmjcbjailclaaGreatDoor
set_option maxRecDepth 100000
open Go.RowKit

theorem keep5 {w0 W W' : World} {g h x2 x1 x0 y1 y0 : Nat} {v2 v1 v0 u1 u0 : Value}
    (hs : Below w0.heap.size w0 W ∧ W.cell? ⟨g, x2, none⟩ = some v2 ∧ W.cell? ⟨g, x1, none⟩ = some v1 ∧ W.cell? ⟨g, x0, none⟩ = some v0 ∧ W.cell? ⟨h, y1, none⟩ = some u1 ∧ W.cell? ⟨h, y0, none⟩ = some u0)
    (hb : Below W.heap.size W W') (hg : g < w0.heap.size) (hh : h < w0.heap.size) :
    Below w0.heap.size w0 W' ∧ W'.cell? ⟨g, x2, none⟩ = some v2 ∧ W'.cell? ⟨g, x1, none⟩ = some v1 ∧ W'.cell? ⟨g, x0, none⟩ = some v0 ∧ W'.cell? ⟨h, y1, none⟩ = some u1 ∧ W'.cell? ⟨h, y0, none⟩ = some u0 := by
  obtain ⟨a, b, c, d, e, f⟩ := hs
  have hz := a.size
  have k1 : g < W.heap.size := by omega
  have k2 : h < W.heap.size := by omega
  exact ⟨a.trans (hb.mono hz), (hb.cell (p := ⟨g, x2, none⟩) k1).trans b, (hb.cell (p := ⟨g, x1, none⟩) k1).trans c, (hb.cell (p := ⟨g, x0, none⟩) k1).trans d, (hb.cell (p := ⟨h, y1, none⟩) k2).trans e, (hb.cell (p := ⟨h, y0, none⟩) k2).trans f⟩

theorem takes_any' (g h i c n m : Nat) (hm : m = n + 1) (xs b : List Nat) (Q q : Nat) (w : World) (hdx : Dig xs) (hdb : Dig b) (hn : b.length = n) (hi : i + n < xs.length) (hc : n + 1 ≤ c) (hgh : h ≠ g)
    (hx : Lb w g 43 xs) (hb : Lb w h 43 b) (hn2 : n ≤ 90000) (hq : q < 4294967296) (hQ1 : Q ≤ q) (hQ2 : q ≤ Q + 1) (hz : Bare xs (i + (n + 1)))
    (hv1 : 4294967296 ^ i * (Q * val b) ≤ val xs) (hv2 : val xs < 4294967296 ^ i * ((Q + 1) * val b)) :
    Calls Tryz.prog 135 #[.slice (some ⟨g, i, none⟩) m c, .slice (some ⟨h, 0, none⟩) n n, .int .u64 (q : Int)] w (TakePost g xs (4294967296 ^ i) Q (val b) q w) := by
  subst hm
  exact takes_any g h i c n xs b Q q w hdx hdb hn hi hc hgh hx hb hn2 hq hQ1 hQ2 hz hv1 hv2

theorem shift_any' (v : Value) (x : List Nat) (n z : Int) (w : World) (hd : Dig x) (h : Nt w 0 w.heap.size v x) (hl : x.length ≤ 90000) (hz : z = n) :
    Calls Tryz.prog 117 #[v, .int .i64 z] w (Gives (lim (shiftN (val x) n)) w) := by
  subst hz
  exact shift_any v x z w hd h hl

/-- What long division hands back. -/
def GivesQ (x y : List Nat) (w : World) (e : Ending) (w' : World) : Prop :=
  ∃ v1 v2, e = .returned (.tuple #[v1, v2]) ∧ Nt w' w.heap.size w'.heap.size v1 x ∧ Nt w' w.heap.size w'.heap.size v2 y ∧ Below w.heap.size w w'

theorem shiftN_back {v s : Nat} (hs : s ≤ 31) : shiftN v (-(s : Int)) = v / 2 ^ s := by
  have e : held12 (-(s : Int)) = -(s : Int) := by unfold held12; omega
  unfold shiftN
  rw [e]
  by_cases h0 : s = 0
  · subst h0
    rw [if_neg (by omega)]
    show v * 2 ^ 0 = v / 2 ^ 0
    rw [Nat.pow_zero, Nat.mul_one, Nat.div_one]
  · rw [if_pos (by omega)]
    congr 2
    omega

set_option maxHeartbeats 3200000 in
theorem long_any (u v : Value) (a b : List Nat) (e : Nat) (w : World) (da : Dig a) (db : Dig b) (ha : Nt w 0 w.heap.size u a) (hb_ : Nt w 0 w.heap.size v b) (la : a.length ≤ 80000) (lb : b.length = e + 2) (hab : e + 2 ≤ a.length)
    (h0 : b.getD (e + 1) 0 ≠ 0) :
    Calls Tryz.prog 114 #[u, v] w (GivesQ (lim (val a / val b)) (lim (val a % val b)) w) := by
  obtain ⟨k1, k2, k3, k4⟩ := top_norm db lb h0
  obtain ⟨s, hs⟩ : ∃ s, 32 - bl (b.getD (e + 1) 0) = s := ⟨_, rfl⟩
  rw [hs] at k3 k4
  have hs31 : s ≤ 31 := by omega
  have htl := dig_getD db (e + 1)
  have hbl := bl_lib (b.getD (e + 1) 0) (by omega)
  have htI : ((b.getD (e + 1) 0 : Nat) : Int) ≤ 4294967295 := by omega
  have hld := fun w => lead32_any ((b.getD (e + 1) 0 : Nat) : Int) w (Int.natCast_nonneg _) htI
  simp only [Int.toNat_natCast, hbl] at hld
  have hsI : (32 : Int) - (bl (b.getD (e + 1) 0) : Int) = (s : Int) := by omega
  rw [hsI] at hld
  have HLD := Lib.hid hld
  clear htI
  have ha' := ha
  have hb' := hb_
  obtain ⟨A1, c1, rfl, hc1, m1, _, hx1⟩ := ha'
  obtain ⟨A2, c2, rfl, hc2, m2, _, hx2⟩ := hb'
  obtain ⟨ba, oa, rfl, _, hba, hcella⟩ := hx2 (by omega)
  have hct := hcella (e + 1) (by omega)
  rw [← getD_in0 (by omega : e + 1 < b.length)] at hct
  have K3 := Lib.hid k3
  have K4 := Lib.hid k4
  obtain ⟨n, hn⟩ : ∃ n, e + 2 = n := ⟨_, rfl⟩
  obtain ⟨y1, hy1⟩ : ∃ x, e + 1 = x := ⟨_, rfl⟩
  obtain ⟨N, hN⟩ : ∃ N, a.length + 1 = N := ⟨_, rfl⟩
  have n4 : (n : Int) - 1 = (y1 : Int) := by omega
  have n5 : (n : Int) - 2 = (e : Int) := by omega
  have n6 : (a.length : Int) + 1 = (N : Int) := by omega
  clear k3 k4 hsI hld hbl k1 k2 h0 hs hcella hx1 hx2
  generalize b.getD (e + 1) 0 = t at *
  rw [lb, hn] at hb_ hc2 ⊢
  rw [hy1] at hct
  go_enter Tryz.func114, Tryz.ntmps114
  go_wp2_with fail
  refine (HLD.out _).mono ?_
  rintro e w1 ⟨rfl, rfl⟩
  clear HLD
  have la2 : a.length ≤ 100000 := by omega
  go_wp2_with fail
  refine (left_any' _ a s N _ _ (by omega) rfl w da ha la2 hs31 (by omega) (by omega) (by omega)).mono ?_
  rintro e2 w2 ⟨U0, rfl, hU, hUl, hUd, hUv, hbU⟩
  have hb2 := hb_.after hbU
  have HF : Hid (val b * 2 ^ s < 4294967296 ^ b.length) := by show _ < _; rw [lb]; exact K3.out
  go_wp2_with fail
  refine (left_any' _ b s n _ _ (by omega) rfl w2 db hb2 (by omega) hs31 (by omega) (by omega) (fun _ => HF.out)).mono ?_
  rintro e3 w3 ⟨D0, rfl, hD, hDl, hDd, hDv, hbD⟩
  obtain ⟨M, hM⟩ : ∃ M, a.length - n + 1 = M := ⟨_, rfl⟩
  have hmk := make_limbs M ((a.length : Int) - (n : Int) + 1) (by omega) (by omega)
  have htop := top_limb (m := e + 1) hDd (by omega) (by rw [hDv]; exact K4.out)
  have hst := quotAt_start (A := val a * 2 ^ s) (D := val D0) (e := e) (M := M) da (by omega) hs31 rfl (by rw [hDv]; exact K4.out) hUv
  have hD0 : Hid (0 < val D0) := by
    show 0 < val D0
    have := K4.out
    rw [← hDv] at this
    have := pow_pos' (e + 1)
    omega
  have hgw : w.heap.size < w2.heap.size := hU.lt
  have hU3 := hU.below hbD hgw
  have hUx := Lib.hid hUl
  have HST := Lib.hid hst
  clear hst hUv hU hct hb2 HF hb_ ha
  go_wp2_with fail
  have hQ0 := Lb.made w3 43 M
  have hbB := (hbU.trans (hbD.mono hbU.size)).alloc (o := .cells (madeCells #[.int .u32 0] M) 43) (Nat.le_trans hbU.size hbD.size)
  have hU4 := hU3.alloc (.cells (madeCells #[.int .u32 0] M) 43)
  have hD4 := hD.alloc (.cells (madeCells #[.int .u32 0] M) 43)
  have hDlt := hD.lt
  generalize w3.alloc (.cells (madeCells #[.int .u32 0] M) 43) = w4 at *
  obtain ⟨g, hg⟩ : ∃ g, w.heap.size = g := ⟨_, rfl⟩
  obtain ⟨h, hh⟩ : ∃ h, w2.heap.size = h := ⟨_, rfl⟩
  obtain ⟨f, hf⟩ : ∃ f, w3.heap.size = f := ⟨_, rfl⟩
  rw [hg] at hU4 hgw
  rw [hh] at hD4 hgw hDlt
  rw [hf] at hDlt hQ0
  have G0 := Lib.hid hg
  rw [hg, hh, hf]
  clear hU3 hD hbU hbD hg hh hf hmk hba
  go_loopw [10] (fun i wr => ∃ (k : Nat) (us qs : List Nat), k ≤ M ∧ i = .int .i64 ((k : Int) - 1) ∧ Dig us ∧ Dig qs ∧ Hid (us.length = N) ∧ Hid (qs.length = M) ∧ Hid (QuotAt (val a * 2 ^ s) (val D0) us qs k) ∧ Lb wr g 43 us ∧ Lb wr h 43 D0 ∧ Lb wr f 43 qs ∧ Below w.heap.size w wr)
    (fun i _ => (intOf i + 1).toNat)
  case atStart => exact ⟨M, U0, _, Nat.le_refl _, rfl, hUd, dig_zeros _, hUx, List.length_replicate, HST, hU4, hD4, hQ0, hbB⟩
  case round =>
    obtain ⟨k, us, qs, hk, rfl, hud, hqd, HUL, HQL, HQ, hUB, hDB, hQB, hb⟩ := hrel
    clear hU4 hD4 hQ0 hbB HST
    by_cases hlt : 0 < k
    · obtain ⟨j, rfl⟩ : ∃ j, k = j + 1 := ⟨k - 1, by omega⟩
      have hi1 : ((j + 1 : Nat) : Int) - 1 = (j : Int) := by omega
      rw [hi1]
      have hj0 : (0 : Int) ≤ (j : Int) := by omega
      have hjM : (j : Int) < (M : Int) := by omega
      obtain ⟨x2, hx2⟩ : ∃ x, j + e + 2 = x := ⟨_, rfl⟩
      obtain ⟨x1, hx1⟩ : ∃ x, j + e + 1 = x := ⟨_, rfl⟩
      obtain ⟨x0, hx0⟩ : ∃ x, j + e = x := ⟨_, rfl⟩
      have hul : us.length = N := HUL.out
      have cu2 := hUB.cell x2 (by omega)
      have cu1 := hUB.cell x1 (by omega)
      have cu0 := hUB.cell x0 (by omega)
      have cd1 := hDB.cell y1 (by omega)
      have cd0 := hDB.cell e (by omega)
      have hgs := quot_guess hud hDd (by omega : D0.length = e + 2) (by exact htop) HQ.out.2.1
      rw [hx2, hx1, hx0, hy1, getD_in0 (by omega), getD_in0 (by omega), getD_in0 (by omega), getD_in0 (by omega), getD_in0 (by omega)] at hgs
      rw [hy1, getD_in0 (by omega)] at htop
      have hqd2 := quot_digit hD0.out HQ.out.2.1
      obtain ⟨q, hq⟩ : ∃ q, guessN 4294967296 (us[x2] * 4294967296 + us[x1]) us[x0] D0[y1] D0[e] = q := ⟨_, rfl⟩
      have hql : q < 4294967296 := by
        rw [← hq]
        exact guessN_lt (by omega)
      have hgu := fun w => guess_any us[x2] us[x1] us[x0] D0[y1] D0[e] w hgs.1 htop (hDd.at _) (hDd.at _) (hud.at _) (hud.at _)
      rw [hq] at hgs
      simp only [hq] at hgu
      have HGU := Lib.hid hgu
      obtain ⟨Q, hQ⟩ : ∃ Q, val us / (4294967296 ^ j * val D0) = Q := ⟨_, rfl⟩
      rw [hQ] at hgs hqd2
      have hQ1 := hgs.2.1
      have hQ2 := hgs.2.2
      have hQl := hqd2.1
      have HQM := Lib.hid hqd2.2.1
      have HQH := Lib.hid hqd2.2.2
      have hbare : Hid (Bare us (j + (n + 1))) := by
        refine bare_of_lt hud ?_
        have h1 := HQ.out.2.1
        have h2 := val_lt hDd
        rw [hDl] at h2
        have e1 : (4294967296 : Nat) ^ (j + (n + 1)) = 4294967296 ^ (j + 1) * 4294967296 ^ n := by rw [← Nat.pow_add]; congr 1; omega
        rw [e1]
        exact Nat.lt_trans h1 (Nat.mul_lt_mul_of_pos_left h2 (pow_pos' _))
      clear hgu hgs hqd2 hq hQ htop hi1
      generalize us[x2] = vx2 at *
      generalize us[x1] = vx1 at *
      generalize us[x0] = vx0 at *
      generalize D0[y1] = vy1 at *
      generalize D0[e] = vy0 at *
      have n1 : (j : Int) + (n : Int) = (x2 : Int) := by omega
      have n2 : (x2 : Int) - 1 = (x1 : Int) := by omega
      have n3 : (x2 : Int) - 2 = (x0 : Int) := by omega
      have o1 : (x2 : Int) < (N : Int) := by omega
      have o2 : (x1 : Int) < (N : Int) := by omega
      have o3 : (x0 : Int) < (N : Int) := by omega
      have o4 : (y1 : Int) < (n : Int) := by omega
      have o5 : (e : Int) < (n : Int) := by omega
      have p1 : (0 : Int) ≤ (x2 : Int) := by omega
      have p2 : (0 : Int) ≤ (x1 : Int) := by omega
      have p3 : (0 : Int) ≤ (x0 : Int) := by omega
      have p4 : (0 : Int) ≤ (y1 : Int) := by omega
      have p5 : (0 : Int) ≤ (e : Int) := by omega
      have q0 : IntKind.i64.wrap (x2 : Int) = (x2 : Int) := IntWalk.i64_in _ (by omega)
      have q1 : IntKind.i64.wrap (x1 : Int) = (x1 : Int) := IntWalk.i64_in _ (by omega)
      have q2 : IntKind.i64.wrap (x0 : Int) = (x0 : Int) := IntWalk.i64_in _ (by omega)
      have q3 : IntKind.i64.wrap (y1 : Int) = (y1 : Int) := IntWalk.i64_in _ (by omega)
      have q4 : IntKind.i64.wrap (e : Int) = (e : Int) := IntWalk.i64_in _ (by omega)
      have hlu := hUB.lt
      have hld := hDB.lt
      have hlq := hQB.lt
      go_wp2_with fail
      go_region_held3 (fun W => Below wr.heap.size wr W ∧ W.cell? ⟨g, x2, none⟩ = some (.int .u32 (vx2 : Nat)) ∧ W.cell? ⟨g, x1, none⟩ = some (.int .u32 (vx1 : Nat)) ∧ W.cell? ⟨g, x0, none⟩ = some (.int .u32 (vx0 : Nat)) ∧ W.cell? ⟨h, y1, none⟩ = some (.int .u32 (vy1 : Nat)) ∧ W.cell? ⟨h, e, none⟩ = some (.int .u32 (vy0 : Nat)))
        (first | assumption | exact keep5 (by assumption) (by assumption) hlu hld | exact ⟨(Below.refl _ _).drew, cu2, cu1, cu0, cd1, cd0⟩)
        (first
          | (go_at_call 134; refine (HGU.out _).mono ?_; rintro e9 w' ⟨rfl, hbb⟩)
          | fail)
      have hbr : Below wr.heap.size wr w' := Below.trans (Below.drew (Below.refl _ _)) hbb
      have hUB2 := hUB.below hbr hlu
      have hDB2 := hDB.below hbr hld
      have hQB2 := hQB.below hbr hlq
      have hb2 := hb.trans (hbr.mono hb.size)
      obtain ⟨x3, hx3⟩ : ∃ x, x2 + 1 = x := ⟨_, rfl⟩
      have n7 : (x2 : Int) + 1 = (x3 : Int) := by omega
      have o7 : (x3 : Int) ≤ (N : Int) := by omega
      have o8 : (j : Int) ≤ (x3 : Int) := by omega
      clear cu0 cu1 cu2 cd0 cd1 hbb hbr hUB hDB hQB hb q0 q1 q2 q3 q4 o1 o2 o3 o4 o5 p1 p2 p3 p4 p5 n2 n3 HGU
      have hta := takes_any' g h j (N - j) n (x3 - j) (by omega) us D0 Q q w' hud hDd hDl (by omega) (by omega) (by omega) hUB2 hDB2 (by omega) hql hQ1 hQ2 hbare.out HQM.out HQH.out
      have HTA := Lib.hid hta
      clear hta
      have hjq : j < qs.length := by rw [HQL.out]; omega
      go_wp2_with fail
      refine HTA.out.mono ?_
      rintro e9 w5 ⟨ys, rfl, hyd, hyl, hyv, hYB, hap⟩
      clear HTA
      have hgf : g < f := by omega
      have hQB3 := hap.lb hQB2 (by omega)
      have hDB3 := hap.lb hDB2 (by omega)
      have hb3 := hb2.trans (hap.below (Nat.le_of_eq (show w.heap.size = g from G0.out)))
      have hst := quotAt_step HQ.out hjq hyv HQH.out
      have HST := Lib.hid hst
      have hcc := hQB3.cell j hjq
      have hfr := hQB3.free j
      have hqd3 := hqd.set j Q hQl
      have hQB4 := hQB3.put j Q
      have hYB4 := hYB.far (p := ⟨f, j, none⟩) (by show g ≠ f; omega) (.int .u32 (Q : Int))
      have hDB4 := hDB3.far (p := ⟨f, j, none⟩) (by show h ≠ f; omega) (.int .u32 (Q : Int))
      have hb4 := hb3.setCell (p := ⟨f, j, none⟩) (by show w.heap.size ≤ f; have := G0.out; omega) (.int .u32 (Q : Int))
      have HYL : Hid (ys.length = N) := by show _ = _; rw [hyl]; exact HUL.out
      have HQL4 : Hid ((qs.set j Q).length = M) := by show _ = _; rw [List.length_set]; exact HQL.out
      generalize qs.set j Q = qs4 at *
      generalize qs[j] = old at *
      clear hst hyv hYB hap hQB2 hDB2 hUB2 hQB3 hDB3 hb2 hb3 HQ HUL HQL HQM HQH hqd hud hbare hyl hul hlu hld hlq
      by_cases hlt : Q < q
      · have hdt : decide (Q < q) = true := decide_eq_true hlt
        have hqQ : (q : Int) - 1 = (Q : Int) := by omega
        have hQm : (Q : Int) % 4294967296 = (Q : Int) := by omega
        rw [hdt]
        go_wp2_with fail
        refine ⟨⟨j, ys, qs4, by omega, rfl, hyd, hqd3, HYL, HQL4, HST, hYB4, hDB4, hQB4, hb4⟩, ?_⟩
        show ((j : Int) - 1 + 1).toNat < ((j : Int) + 1).toNat
        omega
      · have hdt : decide (Q < q) = false := decide_eq_false hlt
        obtain rfl : q = Q := by omega
        have hQm : (q : Int) % 4294967296 = (q : Int) := by omega
        rw [hdt]
        go_wp2_with fail
        refine ⟨⟨j, ys, qs4, by omega, rfl, hyd, hqd3, HYL, HQL4, HST, hYB4, hDB4, hQB4, hb4⟩, ?_⟩
        show ((j : Int) - 1 + 1).toNat < ((j : Int) + 1).toNat
        omega
    · obtain rfl : k = 0 := by omega
      have hv := quotAt_end rfl hDv (Nat.two_pow_pos s) HQ.out
      have hus : val us < 4294967296 ^ n := by
        have h1 := HQ.out.2.1
        have h2 := val_lt hDd
        rw [hDl] at h2
        rw [Nat.pow_zero, Nat.one_mul] at h1
        omega
      have hql2 := HQL.out
      have hul2 := HUL.out
      have hqr := hQB.reads (n := M) (by omega) (by unfold maxLen; omega)
      rw [hql2, List.take_of_length_le (by omega)] at hqr
      have hur := hUB.reads (n := n) (by omega) (by unfold maxLen; omega)
      rw [hul2] at hur
      have htk : (us.take n).length ≤ 90000 := by rw [List.length_take]; omega
      have hut := hud.take n
      have hvt := val_take_all hus
      have hlow : w.heap.size ≤ f := by have := G0.out; omega
      have hlow2 : w.heap.size ≤ g := by have := G0.out; omega
      have V1 := Lib.hid hv.1
      have V2 : Hid (shiftN (val (us.take n)) (-(s : Int)) = val a % val b) := by
        show _ = _
        rw [hvt, shiftN_back hs31]
        exact hv.2
      have hnN : (n : Int) ≤ (N : Int) := by omega
      have z1 : Hid (IntKind.i64.wrap (-IntKind.i64.wrap (s : Int)) = -(s : Int)) := by
        show _ = _
        rw [IntWalk.i64_in (s : Int) (by omega)]
        exact IntWalk.i64_in _ (by omega)
      generalize us.take n = ut at *
      clear hv hus hvt HQ HQL HUL hql2 hul2 hUB hDB hQB hud
      go_wp2_with fail
      go_region_held3 (fun W => Below wr.heap.size wr W)
        (first | assumption | exact Below.drew (Below.refl _ _))
        (first
          | (have hbk1 := h5; go_at_call 117; refine (shift_any' _ ut (-(s : Int)) _ _ hut (hur.drew.low (Nat.zero_le _)) htk z1.out).mono ?_; rintro e9 w6 ⟨v6, rfl, h6, hb6⟩; have hbk6 : Below wr.heap.size wr w6 := Below.trans (Below.drew (Below.refl _ _)) hb6)
          | (go_at_call 91; refine (trim_any _ qs _ _ _ hqd hqr.drew).mono ?_; rintro e9 w5 ⟨v5, rfl, h5, rfl⟩)
          | fail)
      rw [V1.out] at h5
      rw [V2.out] at h6
      replace h5 := (h5.low hlow).after hb6
      replace h6 := h6.low (Nat.le_trans hb.size (Nat.le_refl _))
      go_wp2
      go_ret2
      exact ⟨_, _, rfl, h5, h6, hb.trans (hbk6.mono hb.size)⟩
end Go.Proofs.YtobmjcbjailclaaGreatDoor
