/- Several texts in one: Longs, Divs, Store3, PrRat, DecA, DecB, RefNeg. Condition: each says its own. -/
import Derived.Laws.BitsAllLaws
import Derived.Test.YtchokmhfgikglaaGreatDoorPk2
import Derived.Test.YtchokmhfgikglaaGreatDoorPk3
import Derived.Test.YtchokmhfgikglaaGreatDoorPk4
import Derived.Test.YtchokmhfgikglaaGreatDoorPk5
import Derived.Test.YtchokmhfgikglaaGreatDoorPk6
import Derived.Test.YtchokmhfgikglaaGreatDoorPk7
namespace Go.Proofs.YtchokmhfgikglaaGreatDoor
set_option maxRecDepth 100000
open Go.RowKit

theorem keep5 {w0 W W' : World} {g h x2 x1 x0 y1 y0 : Nat} {v2 v1 v0 u1 u0 : Value}
    (hs : Below w0.heap.size w0 W ∧ W.cell? ⟨g, x2, none⟩ = some v2 ∧ W.cell? ⟨g, x1, none⟩ = some v1 ∧ W.cell? ⟨g, x0, none⟩ = some v0 ∧ W.cell? ⟨h, y1, none⟩ = some u1 ∧ W.cell? ⟨h, y0, none⟩ = some u0)
    (hb : Below W.heap.size W W') (hg : g < w0.heap.size) (hh : h < w0.heap.size) :
    Below w0.heap.size w0 W' ∧ W'.cell? ⟨g, x2, none⟩ = some v2 ∧ W'.cell? ⟨g, x1, none⟩ = some v1 ∧ W'.cell? ⟨g, x0, none⟩ = some v0 ∧ W'.cell? ⟨h, y1, none⟩ = some u1 ∧ W'.cell? ⟨h, y0, none⟩ = some u0 := by
  obtain ⟨a, b, c, d, e, f⟩ := hs
  have hz := a.size
  have k1 : g < W.heap.size := by omega
  have k2 : h < W.heap.size := by omega
  exact ⟨a.trans (hb.mono hz), (hb.cell (p := ⟨g, x2, none⟩) k1).trans b, (hb.cell (p := ⟨g, x1, none⟩) k1).trans c, (hb.cell (p := ⟨g, x0, none⟩) k1).trans d, (hb.cell (p := ⟨h, y1, none⟩) k2).trans e, (hb.cell (p := ⟨h, y0, none⟩) k2).trans f⟩

theorem takes_any' (g h i c n m : Nat) (hm : m = n + 1) (xs b : List Nat) (Q q : Nat) (w : World) (hdx : Dig xs) (hdb : Dig b) (hn : b.length = n) (hi : i + n < xs.length) (hc : n + 1 ≤ c) (hgh : h ≠ g)
    (hx : Lb w g 122 xs) (hb : Lb w h 122 b) (hn2 : n ≤ 90000) (hq : q < 4294967296) (hQ1 : Q ≤ q) (hQ2 : q ≤ Q + 1) (hz : Bare xs (i + (n + 1)))
    (hv1 : 4294967296 ^ i * (Q * val b) ≤ val xs) (hv2 : val xs < 4294967296 ^ i * ((Q + 1) * val b)) :
    Calls Tryz.prog 284 #[.slice (some ⟨g, i, none⟩) m c, .slice (some ⟨h, 0, none⟩) n n, .int .u64 (q : Int)] w (TakePost g xs (4294967296 ^ i) Q (val b) q w) := by
  subst hm
  exact takes_any g h i c n xs b Q q w hdx hdb hn hi hc hgh hx hb hn2 hq hQ1 hQ2 hz hv1 hv2

theorem shift_any' (v : Value) (x : List Nat) (n z : Int) (w : World) (hd : Dig x) (h : Nt w 0 w.heap.size v x) (hl : x.length ≤ 90000) (hz : z = n) :
    Calls Tryz.prog 285 #[v, .int .i64 z] w (Gives (lim (shiftN (val x) n)) w) := by
  subst hz
  exact shift_any v x z w hd h hl

/-- What long division hands back. -/
def GivesQ (x y : List Nat) (w : World) (e : Ending) (w' : World) : Prop :=
  ∃ v1 v2, e = .returned (.tuple #[v1, v2]) ∧ Nt w' w.heap.size w'.heap.size v1 x ∧ Nt w' w.heap.size w'.heap.size v2 y ∧ Below w.heap.size w w'

theorem shiftN_back {v s : Nat} (hs : s ≤ 31) : shiftN v (-(s : Int)) = v / 2 ^ s := by
  have e : held12 (-(s : Int)) = -(s : Int) := by unfold held12; omega
  unfold shiftN
  rw [e]
  by_cases h0 : s = 0
  · subst h0
    rw [if_neg (by omega)]
    show v * 2 ^ 0 = v / 2 ^ 0
    rw [Nat.pow_zero, Nat.mul_one, Nat.div_one]
  · rw [if_pos (by omega)]
    congr 2
    omega

set_option maxHeartbeats 3200000 in
theorem long_any (u v : Value) (a b : List Nat) (e : Nat) (w : World) (da : Dig a) (db : Dig b) (ha : Nt w 0 w.heap.size u a) (hb_ : Nt w 0 w.heap.size v b) (la : a.length ≤ 80000) (lb : b.length = e + 2) (hab : e + 2 ≤ a.length)
    (h0 : b.getD (e + 1) 0 ≠ 0) :
    Calls Tryz.prog 215 #[u, v] w (GivesQ (lim (val a / val b)) (lim (val a % val b)) w) := by
  obtain ⟨k1, k2, k3, k4⟩ := top_norm db lb h0
  obtain ⟨s, hs⟩ : ∃ s, 32 - bl (b.getD (e + 1) 0) = s := ⟨_, rfl⟩
  rw [hs] at k3 k4
  have hs31 : s ≤ 31 := by omega
  have htl := dig_getD db (e + 1)
  have hbl := bl_lib (b.getD (e + 1) 0) (by omega)
  have htI : ((b.getD (e + 1) 0 : Nat) : Int) ≤ 4294967295 := by omega
  have hld := fun w => lead32_any ((b.getD (e + 1) 0 : Nat) : Int) w (Int.natCast_nonneg _) htI
  simp only [Int.toNat_natCast, hbl] at hld
  have hsI : (32 : Int) - (bl (b.getD (e + 1) 0) : Int) = (s : Int) := by omega
  rw [hsI] at hld
  have HLD := Lib.hid hld
  clear htI
  have ha' := ha
  have hb' := hb_
  obtain ⟨A1, c1, rfl, hc1, m1, _, hx1⟩ := ha'
  obtain ⟨A2, c2, rfl, hc2, m2, _, hx2⟩ := hb'
  obtain ⟨ba, oa, rfl, _, hba, hcella⟩ := hx2 (by omega)
  have hct := hcella (e + 1) (by omega)
  rw [← getD_in0 (by omega : e + 1 < b.length)] at hct
  have K3 := Lib.hid k3
  have K4 := Lib.hid k4
  obtain ⟨n, hn⟩ : ∃ n, e + 2 = n := ⟨_, rfl⟩
  obtain ⟨y1, hy1⟩ : ∃ x, e + 1 = x := ⟨_, rfl⟩
  obtain ⟨N, hN⟩ : ∃ N, a.length + 1 = N := ⟨_, rfl⟩
  have n4 : (n : Int) - 1 = (y1 : Int) := by omega
  have n5 : (n : Int) - 2 = (e : Int) := by omega
  have n6 : (a.length : Int) + 1 = (N : Int) := by omega
  clear k3 k4 hsI hld hbl k1 k2 h0 hs hcella hx1 hx2
  generalize b.getD (e + 1) 0 = t at *
  rw [lb, hn] at hb_ hc2 ⊢
  rw [hy1] at hct
  go_enter Tryz.func215, Tryz.ntmps215
  go_wp2_with fail
  refine (HLD.out _).mono ?_
  rintro e w1 ⟨rfl, rfl⟩
  clear HLD
  have la2 : a.length ≤ 100000 := by omega
  go_wp2_with fail
  refine (left_any' _ a s N _ _ (by omega) rfl w da ha la2 hs31 (by omega) (by omega) (by omega)).mono ?_
  rintro e2 w2 ⟨U0, rfl, hU, hUl, hUd, hUv, hbU⟩
  have hb2 := hb_.after hbU
  have HF : Hid (val b * 2 ^ s < 4294967296 ^ b.length) := by show _ < _; rw [lb]; exact K3.out
  go_wp2_with fail
  refine (left_any' _ b s n _ _ (by omega) rfl w2 db hb2 (by omega) hs31 (by omega) (by omega) (fun _ => HF.out)).mono ?_
  rintro e3 w3 ⟨D0, rfl, hD, hDl, hDd, hDv, hbD⟩
  obtain ⟨M, hM⟩ : ∃ M, a.length - n + 1 = M := ⟨_, rfl⟩
  have hmk := make_limbs M ((a.length : Int) - (n : Int) + 1) (by omega) (by omega)
  have htop := top_limb (m := e + 1) hDd (by omega) (by rw [hDv]; exact K4.out)
  have hst := quotAt_start (A := val a * 2 ^ s) (D := val D0) (e := e) (M := M) da (by omega) hs31 rfl (by rw [hDv]; exact K4.out) hUv
  have hD0 : Hid (0 < val D0) := by
    show 0 < val D0
    have := K4.out
    rw [← hDv] at this
    have := pow_pos' (e + 1)
    omega
  have hgw : w.heap.size < w2.heap.size := hU.lt
  have hU3 := hU.below hbD hgw
  have hUx := Lib.hid hUl
  have HST := Lib.hid hst
  clear hst hUv hU hct hb2 HF hb_ ha
  go_wp2_with fail
  have hQ0 := Lb.made w3 122 M
  have hbB := (hbU.trans (hbD.mono hbU.size)).alloc (o := .cells (madeCells #[.int .u32 0] M) 122) (Nat.le_trans hbU.size hbD.size)
  have hU4 := hU3.alloc (.cells (madeCells #[.int .u32 0] M) 122)
  have hD4 := hD.alloc (.cells (madeCells #[.int .u32 0] M) 122)
  have hDlt := hD.lt
  generalize w3.alloc (.cells (madeCells #[.int .u32 0] M) 122) = w4 at *
  obtain ⟨g, hg⟩ : ∃ g, w.heap.size = g := ⟨_, rfl⟩
  obtain ⟨h, hh⟩ : ∃ h, w2.heap.size = h := ⟨_, rfl⟩
  obtain ⟨f, hf⟩ : ∃ f, w3.heap.size = f := ⟨_, rfl⟩
  rw [hg] at hU4 hgw
  rw [hh] at hD4 hgw hDlt
  rw [hf] at hDlt hQ0
  have G0 := Lib.hid hg
  rw [hg, hh, hf]
  clear hU3 hD hbU hbD hg hh hf hmk hba
  go_loopw [10] (fun i wr => ∃ (k : Nat) (us qs : List Nat), k ≤ M ∧ i = .int .i64 ((k : Int) - 1) ∧ Dig us ∧ Dig qs ∧ Hid (us.length = N) ∧ Hid (qs.length = M) ∧ Hid (QuotAt (val a * 2 ^ s) (val D0) us qs k) ∧ Lb wr g 122 us ∧ Lb wr h 122 D0 ∧ Lb wr f 122 qs ∧ Below w.heap.size w wr)
    (fun i _ => (intOf i + 1).toNat)
  case atStart => exact ⟨M, U0, _, Nat.le_refl _, rfl, hUd, dig_zeros _, hUx, List.length_replicate, HST, hU4, hD4, hQ0, hbB⟩
  case round =>
    obtain ⟨k, us, qs, hk, rfl, hud, hqd, HUL, HQL, HQ, hUB, hDB, hQB, hb⟩ := hrel
    clear hU4 hD4 hQ0 hbB HST
    by_cases hlt : 0 < k
    · obtain ⟨j, rfl⟩ : ∃ j, k = j + 1 := ⟨k - 1, by omega⟩
      have hi1 : ((j + 1 : Nat) : Int) - 1 = (j : Int) := by omega
      rw [hi1]
      have hj0 : (0 : Int) ≤ (j : Int) := by omega
      have hjM : (j : Int) < (M : Int) := by omega
      obtain ⟨x2, hx2⟩ : ∃ x, j + e + 2 = x := ⟨_, rfl⟩
      obtain ⟨x1, hx1⟩ : ∃ x, j + e + 1 = x := ⟨_, rfl⟩
      obtain ⟨x0, hx0⟩ : ∃ x, j + e = x := ⟨_, rfl⟩
      have hul : us.length = N := HUL.out
      have cu2 := hUB.cell x2 (by omega)
      have cu1 := hUB.cell x1 (by omega)
      have cu0 := hUB.cell x0 (by omega)
      have cd1 := hDB.cell y1 (by omega)
      have cd0 := hDB.cell e (by omega)
      have hgs := quot_guess hud hDd (by omega : D0.length = e + 2) (by exact htop) HQ.out.2.1
      rw [hx2, hx1, hx0, hy1, getD_in0 (by omega), getD_in0 (by omega), getD_in0 (by omega), getD_in0 (by omega), getD_in0 (by omega)] at hgs
      rw [hy1, getD_in0 (by omega)] at htop
      have hqd2 := quot_digit hD0.out HQ.out.2.1
      obtain ⟨q, hq⟩ : ∃ q, guessN 4294967296 (us[x2] * 4294967296 + us[x1]) us[x0] D0[y1] D0[e] = q := ⟨_, rfl⟩
      have hql : q < 4294967296 := by
        rw [← hq]
        exact guessN_lt (by omega)
      have hgu := fun w => guess_any us[x2] us[x1] us[x0] D0[y1] D0[e] w hgs.1 htop (hDd.at _) (hDd.at _) (hud.at _) (hud.at _)
      rw [hq] at hgs
      simp only [hq] at hgu
      have HGU := Lib.hid hgu
      obtain ⟨Q, hQ⟩ : ∃ Q, val us / (4294967296 ^ j * val D0) = Q := ⟨_, rfl⟩
      rw [hQ] at hgs hqd2
      have hQ1 := hgs.2.1
      have hQ2 := hgs.2.2
      have hQl := hqd2.1
      have HQM := Lib.hid hqd2.2.1
      have HQH := Lib.hid hqd2.2.2
      have hbare : Hid (Bare us (j + (n + 1))) := by
        refine bare_of_lt hud ?_
        have h1 := HQ.out.2.1
        have h2 := val_lt hDd
        rw [hDl] at h2
        have e1 : (4294967296 : Nat) ^ (j + (n + 1)) = 4294967296 ^ (j + 1) * 4294967296 ^ n := by rw [← Nat.pow_add]; congr 1; omega
        rw [e1]
        exact Nat.lt_trans h1 (Nat.mul_lt_mul_of_pos_left h2 (pow_pos' _))
      clear hgu hgs hqd2 hq hQ htop hi1
      generalize us[x2] = vx2 at *
      generalize us[x1] = vx1 at *
      generalize us[x0] = vx0 at *
      generalize D0[y1] = vy1 at *
      generalize D0[e] = vy0 at *
      have n1 : (j : Int) + (n : Int) = (x2 : Int) := by omega
      have n2 : (x2 : Int) - 1 = (x1 : Int) := by omega
      have n3 : (x2 : Int) - 2 = (x0 : Int) := by omega
      have o1 : (x2 : Int) < (N : Int) := by omega
      have o2 : (x1 : Int) < (N : Int) := by omega
      have o3 : (x0 : Int) < (N : Int) := by omega
      have o4 : (y1 : Int) < (n : Int) := by omega
      have o5 : (e : Int) < (n : Int) := by omega
      have p1 : (0 : Int) ≤ (x2 : Int) := by omega
      have p2 : (0 : Int) ≤ (x1 : Int) := by omega
      have p3 : (0 : Int) ≤ (x0 : Int) := by omega
      have p4 : (0 : Int) ≤ (y1 : Int) := by omega
      have p5 : (0 : Int) ≤ (e : Int) := by omega
      have q0 : IntKind.i64.wrap (x2 : Int) = (x2 : Int) := IntWalk.i64_in _ (by omega)
      have q1 : IntKind.i64.wrap (x1 : Int) = (x1 : Int) := IntWalk.i64_in _ (by omega)
      have q2 : IntKind.i64.wrap (x0 : Int) = (x0 : Int) := IntWalk.i64_in _ (by omega)
      have q3 : IntKind.i64.wrap (y1 : Int) = (y1 : Int) := IntWalk.i64_in _ (by omega)
      have q4 : IntKind.i64.wrap (e : Int) = (e : Int) := IntWalk.i64_in _ (by omega)
      have hlu := hUB.lt
      have hld := hDB.lt
      have hlq := hQB.lt
      go_wp2_with fail
      go_region_held3 (fun W => Below wr.heap.size wr W ∧ W.cell? ⟨g, x2, none⟩ = some (.int .u32 (vx2 : Nat)) ∧ W.cell? ⟨g, x1, none⟩ = some (.int .u32 (vx1 : Nat)) ∧ W.cell? ⟨g, x0, none⟩ = some (.int .u32 (vx0 : Nat)) ∧ W.cell? ⟨h, y1, none⟩ = some (.int .u32 (vy1 : Nat)) ∧ W.cell? ⟨h, e, none⟩ = some (.int .u32 (vy0 : Nat)))
        (first | assumption | exact keep5 (by assumption) (by assumption) hlu hld | exact ⟨(Below.refl _ _).drew, cu2, cu1, cu0, cd1, cd0⟩)
        (first
          | (go_at_call 283; refine (HGU.out _).mono ?_; rintro e9 w' ⟨rfl, hbb⟩)
          | fail)
      have hbr : Below wr.heap.size wr w' := Below.trans (Below.drew (Below.refl _ _)) hbb
      have hUB2 := hUB.below hbr hlu
      have hDB2 := hDB.below hbr hld
      have hQB2 := hQB.below hbr hlq
      have hb2 := hb.trans (hbr.mono hb.size)
      obtain ⟨x3, hx3⟩ : ∃ x, x2 + 1 = x := ⟨_, rfl⟩
      have n7 : (x2 : Int) + 1 = (x3 : Int) := by omega
      have o7 : (x3 : Int) ≤ (N : Int) := by omega
      have o8 : (j : Int) ≤ (x3 : Int) := by omega
      clear cu0 cu1 cu2 cd0 cd1 hbb hbr hUB hDB hQB hb q0 q1 q2 q3 q4 o1 o2 o3 o4 o5 p1 p2 p3 p4 p5 n2 n3 HGU
      have hta := takes_any' g h j (N - j) n (x3 - j) (by omega) us D0 Q q w' hud hDd hDl (by omega) (by omega) (by omega) hUB2 hDB2 (by omega) hql hQ1 hQ2 hbare.out HQM.out HQH.out
      have HTA := Lib.hid hta
      clear hta
      have hjq : j < qs.length := by rw [HQL.out]; omega
      go_wp2_with fail
      refine HTA.out.mono ?_
      rintro e9 w5 ⟨ys, rfl, hyd, hyl, hyv, hYB, hap⟩
      clear HTA
      have hgf : g < f := by omega
      have hQB3 := hap.lb hQB2 (by omega)
      have hDB3 := hap.lb hDB2 (by omega)
      have hb3 := hb2.trans (hap.below (Nat.le_of_eq (show w.heap.size = g from G0.out)))
      have hst := quotAt_step HQ.out hjq hyv HQH.out
      have HST := Lib.hid hst
      have hcc := hQB3.cell j hjq
      have hfr := hQB3.free j
      have hqd3 := hqd.set j Q hQl
      have hQB4 := hQB3.put j Q
      have hYB4 := hYB.far (p := ⟨f, j, none⟩) (by show g ≠ f; omega) (.int .u32 (Q : Int))
      have hDB4 := hDB3.far (p := ⟨f, j, none⟩) (by show h ≠ f; omega) (.int .u32 (Q : Int))
      have hb4 := hb3.setCell (p := ⟨f, j, none⟩) (by show w.heap.size ≤ f; have := G0.out; omega) (.int .u32 (Q : Int))
      have HYL : Hid (ys.length = N) := by show _ = _; rw [hyl]; exact HUL.out
      have HQL4 : Hid ((qs.set j Q).length = M) := by show _ = _; rw [List.length_set]; exact HQL.out
      generalize qs.set j Q = qs4 at *
      generalize qs[j] = old at *
      clear hst hyv hYB hap hQB2 hDB2 hUB2 hQB3 hDB3 hb2 hb3 HQ HUL HQL HQM HQH hqd hud hbare hyl hul hlu hld hlq
      by_cases hlt : Q < q
      · have hdt : decide (Q < q) = true := decide_eq_true hlt
        have hqQ : (q : Int) - 1 = (Q : Int) := by omega
        have hQm : (Q : Int) % 4294967296 = (Q : Int) := by omega
        rw [hdt]
        go_wp2_with fail
        refine ⟨⟨j, ys, qs4, by omega, rfl, hyd, hqd3, HYL, HQL4, HST, hYB4, hDB4, hQB4, hb4⟩, ?_⟩
        show ((j : Int) - 1 + 1).toNat < ((j : Int) + 1).toNat
        omega
      · have hdt : decide (Q < q) = false := decide_eq_false hlt
        obtain rfl : q = Q := by omega
        have hQm : (q : Int) % 4294967296 = (q : Int) := by omega
        rw [hdt]
        go_wp2_with fail
        refine ⟨⟨j, ys, qs4, by omega, rfl, hyd, hqd3, HYL, HQL4, HST, hYB4, hDB4, hQB4, hb4⟩, ?_⟩
        show ((j : Int) - 1 + 1).toNat < ((j : Int) + 1).toNat
        omega
    · obtain rfl : k = 0 := by omega
      have hv := quotAt_end rfl hDv (Nat.two_pow_pos s) HQ.out
      have hus : val us < 4294967296 ^ n := by
        have h1 := HQ.out.2.1
        have h2 := val_lt hDd
        rw [hDl] at h2
        rw [Nat.pow_zero, Nat.one_mul] at h1
        omega
      have hql2 := HQL.out
      have hul2 := HUL.out
      have hqr := hQB.reads (n := M) (by omega) (by unfold maxLen; omega)
      rw [hql2, List.take_of_length_le (by omega)] at hqr
      have hur := hUB.reads (n := n) (by omega) (by unfold maxLen; omega)
      rw [hul2] at hur
      have htk : (us.take n).length ≤ 90000 := by rw [List.length_take]; omega
      have hut := hud.take n
      have hvt := val_take_all hus
      have hlow : w.heap.size ≤ f := by have := G0.out; omega
      have hlow2 : w.heap.size ≤ g := by have := G0.out; omega
      have V1 := Lib.hid hv.1
      have V2 : Hid (shiftN (val (us.take n)) (-(s : Int)) = val a % val b) := by
        show _ = _
        rw [hvt, shiftN_back hs31]
        exact hv.2
      have hnN : (n : Int) ≤ (N : Int) := by omega
      have z1 : Hid (IntKind.i64.wrap (-IntKind.i64.wrap (s : Int)) = -(s : Int)) := by
        show _ = _
        rw [IntWalk.i64_in (s : Int) (by omega)]
        exact IntWalk.i64_in _ (by omega)
      generalize us.take n = ut at *
      clear hv hus hvt HQ HQL HUL hql2 hul2 hUB hDB hQB hud
      go_wp2_with fail
      go_region_held3 (fun W => Below wr.heap.size wr W)
        (first | assumption | exact Below.drew (Below.refl _ _))
        (first
          | (have hbk1 := h5; go_at_call 285; refine (shift_any' _ ut (-(s : Int)) _ _ hut (hur.drew.low (Nat.zero_le _)) htk z1.out).mono ?_; rintro e9 w6 ⟨v6, rfl, h6, hb6⟩; have hbk6 : Below wr.heap.size wr w6 := Below.trans (Below.drew (Below.refl _ _)) hb6)
          | (go_at_call 102; refine (trim_any _ qs _ _ _ hqd hqr.drew).mono ?_; rintro e9 w5 ⟨v5, rfl, h5, rfl⟩)
          | fail)
      rw [V1.out] at h5
      rw [V2.out] at h6
      replace h5 := (h5.low hlow).after hb6
      replace h6 := h6.low (Nat.le_trans hb.size (Nat.le_refl _))
      go_wp2
      go_ret2
      exact ⟨_, _, rfl, h5, h6, hb.trans (hbk6.mono hb.size)⟩
end Go.Proofs.YtchokmhfgikglaaGreatDoor

namespace Go.Proofs.YtchokmhfgikglaaGreatDoor
set_option maxRecDepth 100000
open Go.RowKit

theorem canon_top {l : List Nat} {m : Nat} (hc : Canon l) (hl : l.length = m + 1) : l.getD m 0 ≠ 0 := by
  rw [getD_in0 (by omega)]
  refine hc _ (l.take m) ?_
  have e := List.take_append_drop m l
  rw [List.drop_eq_getElem_cons (by omega), List.drop_eq_nil_of_le (by omega)] at e
  exact e.symm

theorem of_any' (n : Nat) (z : Int) (hz : z = (n : Int)) (w : World) (hn : n < 18446744073709551616) :
    Calls Tryz.prog 52 #[.int .u64 z] w (Gives (lim n) w) := by
  subst hz
  exact of_any n w hn

set_option maxHeartbeats 3200000 in
theorem divZero_any (u v : Value) (a b : List Nat) (w : World) (da : Dig a) (db : Dig b) (ha : Nt w 0 w.heap.size u a) (hb_ : Nt w 0 w.heap.size v b) (h0 : val b = 0) :
    Calls Tryz.prog 160 #[u, v] w (GivesD (lim (val a / val b)) (lim (remN (val a) (val b))) (decide (val b ≠ 0)) w) := by
  have e1 : lim (val a / val b) = [] := by rw [h0, Nat.div_zero]; exact lim_zero
  have e2 : lim (remN (val a) (val b)) = [] := by unfold remN; rw [if_pos h0]; exact lim_zero
  have e3 : decide (val b ≠ 0) = false := by rw [h0]; rfl
  have e4 : lim (val b) = [] := by rw [h0]; exact lim_zero
  rw [e1, e2, e3]
  have E4 := Lib.hid e4
  clear e1 e2 e3 e4 h0
  go_enter Tryz.func160, Tryz.ntmps160
  go_wp2_with fail
  refine (trim_any _ a _ _ _ da ha).mono ?_
  rintro e w1 ⟨v1, rfl, h1, rfl⟩
  go_wp2_with fail
  refine (trim_any _ b _ _ _ db hb_).mono ?_
  rintro e w1 ⟨v2, rfl, h2, rfl⟩
  rw [E4.out] at h2
  obtain ⟨A, c, rfl, hc, hm, _, hx⟩ := h2
  go_wp2
  go_ret3
  exact ⟨_, _, rfl, Nt.nil _ _ _, Nt.nil _ _ _, Below.refl _ _⟩

set_option maxHeartbeats 3200000 in
theorem divLess_any (u v : Value) (a b : List Nat) (w : World) (da : Dig a) (db : Dig b) (ha : Nt w 0 w.heap.size u a) (hb_ : Nt w 0 w.heap.size v b) (la : a.length ≤ 80000) (lb : b.length ≤ 80000) (h0 : val b ≠ 0) (hlt : val a < val b) :
    Calls Tryz.prog 160 #[u, v] w (GivesD (lim (val a / val b)) (lim (remN (val a) (val b))) (decide (val b ≠ 0)) w) := by
  have e1 : lim (val a / val b) = [] := by rw [Nat.div_eq_of_lt hlt]; exact lim_zero
  have e2 : remN (val a) (val b) = val a := by unfold remN; rw [if_neg h0, Nat.mod_eq_of_lt hlt]
  have e3 : decide (val b ≠ 0) = true := decide_eq_true h0
  have e4 : (lim (val b)).length ≠ 0 := fun h => h0 (lim_eq_nil.1 (List.eq_nil_of_length_eq_zero h))
  rw [e1, e2, e3]
  have E4 := Lib.hid e4
  have l1 : (lim (val a)).length ≤ 80000 := Nat.le_trans (lim_val_length a da) la
  have l2 : (lim (val b)).length ≤ 80000 := Nat.le_trans (lim_val_length b db) lb
  have C : Hid (cmpN (val a) (val b) = -1) := cmpN_lt hlt
  have d1 := dig_lim (val a)
  have d2 := dig_lim (val b)
  have V1 := Lib.hid (val_lim (val a))
  have V2 := Lib.hid (val_lim (val b))
  clear e1 e2 e3 e4 h0 hlt la lb
  go_enter Tryz.func160, Tryz.ntmps160
  go_wp2_with fail
  refine (trim_any _ a _ _ _ da ha).mono ?_
  rintro e w1 ⟨v1, rfl, h1, rfl⟩
  go_wp2_with fail
  refine (trim_any _ b _ _ _ db hb_).mono ?_
  rintro e w1 ⟨v2, rfl, h2, rfl⟩
  have h2' := h2
  obtain ⟨A, c, rfl, hc, hm, _, hx⟩ := h2'
  have hne : ¬ (lim (val b)).length = 0 := E4.out
  clear ha hb_ da db hx
  go_wp2_with fail
  refine (cmp_any _ _ (lim (val a)) (lim (val b)) _ d1 d2 h1 h2 (by omega) (by omega)).mono ?_
  rintro e w2 ⟨rfl, hb⟩
  rw [V1.out, V2.out, C.out]
  replace h1 := h1.after hb
  clear h2
  go_wp2_with fail
  refine (Trim_any _ (lim (val a)) _ d1 h1 (by omega)).mono ?_
  rintro e w3 ⟨v3, rfl, h3, hb3⟩
  rw [V1.out] at h3
  go_wp2
  go_ret3
  exact ⟨_, _, rfl, Nt.nil _ _ _, h3.low hb.size, hb.trans (hb3.mono hb.size)⟩

set_option maxHeartbeats 3200000 in
theorem divOne_any (u v : Value) (a b : List Nat) (w : World) (da : Dig a) (db : Dig b) (ha : Nt w 0 w.heap.size u a) (hb_ : Nt w 0 w.heap.size v b) (la : a.length ≤ 80000) (h0 : val b ≠ 0) (hle : val b ≤ val a) (h1b : val b < 4294967296) :
    Calls Tryz.prog 160 #[u, v] w (GivesD (lim (val a / val b)) (lim (remN (val a) (val b))) (decide (val b ≠ 0)) w) := by
  have e2 : remN (val a) (val b) = val a % val b := by unfold remN; rw [if_neg h0]
  have e3 : decide (val b ≠ 0) = true := decide_eq_true h0
  have e4 : lim (val b) = [val b] := lim_one h1b h0
  rw [e2, e3]
  have E4 := Lib.hid e4
  have l1 : (lim (val a)).length ≤ 80000 := Nat.le_trans (lim_val_length a da) la
  have C : Hid (¬ cmpN (val a) (val b) < 0) := fun h => by have := cmpN_neg.1 h; omega
  have d1 := dig_lim (val a)
  have V1 := Lib.hid (val_lim (val a))
  have V2 : Hid (val [val b] = val b) := val_one _
  have hB0 : 0 < val b := by omega
  have hrl : val a % val b < 4294967296 := Nat.lt_trans (Nat.mod_lt _ hB0) h1b
  have db1 : Dig [val b] := dig_one h1b
  clear e2 e3 e4 h0 hle la
  go_enter Tryz.func160, Tryz.ntmps160
  go_wp2_with fail
  refine (trim_any _ a _ _ _ da ha).mono ?_
  rintro e w1 ⟨v1, rfl, h1, rfl⟩
  go_wp2_with fail
  refine (trim_any _ b _ _ _ db hb_).mono ?_
  rintro e w1 ⟨v2, rfl, h2, rfl⟩
  rw [E4.out] at h2
  have h2' := h2
  generalize val b = B at *
  obtain ⟨A, c, rfl, hc, hm, _, hx⟩ := h2'
  obtain ⟨ba, oa, rfl, _, hba, hcella⟩ := hx (by simp)
  have hc0 := hcella 0 (by simp)
  simp only [List.getElem_cons_zero, Nat.add_zero] at hc0
  clear ha hb_ da db hx hcella
  go_wp2_with fail
  refine (cmp_any _ _ (lim (val a)) [B] _ d1 db1 h1 h2 (by omega) (by simp)).mono ?_
  rintro e w2 ⟨rfl, hb⟩
  rw [V1.out, V2.out]
  have hcz := C.out
  generalize cmpN (val a) B = cz at *
  replace h1 := h1.after hb
  have hc1 := (hb.cell (p := ⟨ba, oa, none⟩) hba).trans hc0
  clear h2 hc0
  go_wp2_with fail
  refine (small_any _ (lim (val a)) B _ d1 h1 (by omega) hB0 h1b).mono ?_
  rintro e w3 ⟨v3, rfl, h3, hb3⟩
  rw [V1.out] at h3 ⊢
  replace h3 := h3.low hb.size
  replace hb := hb.trans (hb3.mono hb.size)
  generalize val a % B = r at *
  clear hc1 h1 hb3
  go_wp2_with fail
  refine (of_any r _ (by omega)).mono ?_
  rintro e w4 ⟨v4, rfl, h4, hb4⟩
  replace h3 := h3.after hb4
  replace h4 := h4.low hb.size
  go_wp2
  go_ret3
  exact ⟨_, _, rfl, h3, h4, hb.trans (hb4.mono hb.size)⟩

set_option maxHeartbeats 3200000 in
theorem divLong_any (u v : Value) (a b : List Nat) (w : World) (da : Dig a) (db : Dig b) (ha : Nt w 0 w.heap.size u a) (hb_ : Nt w 0 w.heap.size v b) (la : a.length ≤ 80000) (h0 : val b ≠ 0) (hle : val b ≤ val a) (h1b : ¬ val b < 4294967296) :
    Calls Tryz.prog 160 #[u, v] w (GivesD (lim (val a / val b)) (lim (remN (val a) (val b))) (decide (val b ≠ 0)) w) := by
  have e2 : remN (val a) (val b) = val a % val b := by unfold remN; rw [if_neg h0]
  have e3 : decide (val b ≠ 0) = true := decide_eq_true h0
  have e4 : 2 ≤ (lim (val b)).length := by
    have := lim_length_lt (n := val b) (k := 1) (by omega)
    omega
  rw [e2, e3]
  obtain ⟨e, he⟩ : ∃ e, (lim (val b)).length = e + 2 := ⟨(lim (val b)).length - 2, by omega⟩
  have hlm := lim_len_mono hle
  have ht := canon_top (canon_lim (val b)) he
  have l1 : (lim (val a)).length ≤ 80000 := Nat.le_trans (lim_val_length a da) la
  have C : Hid (¬ cmpN (val a) (val b) < 0) := fun h => by have := cmpN_neg.1 h; omega
  have d1 := dig_lim (val a)
  have d2 := dig_lim (val b)
  have V1 := Lib.hid (val_lim (val a))
  have V2 := Lib.hid (val_lim (val b))
  have HT := Lib.hid ht
  have HE := Lib.hid he
  have n0 : ¬ (lim (val b)).length = 0 := by omega
  have n1 : ¬ (lim (val b)).length = 1 := by omega
  have HLM := Lib.hid hlm
  clear e2 e3 h0 hle la h1b ht e4 he hlm
  go_enter Tryz.func160, Tryz.ntmps160
  go_wp2_with fail
  refine (trim_any _ a _ _ _ da ha).mono ?_
  rintro e9 w1 ⟨v1, rfl, h1, rfl⟩
  go_wp2_with fail
  refine (trim_any _ b _ _ _ db hb_).mono ?_
  rintro e9 w1 ⟨v2, rfl, h2, rfl⟩
  have h2' := h2
  obtain ⟨A, c, rfl, hc, hm, _, hx⟩ := h2'
  clear ha hb_ da db hx
  go_wp2_with fail
  refine (cmp_any _ _ (lim (val a)) (lim (val b)) _ d1 d2 h1 h2 (by omega) (by have := HLM.out; omega)).mono ?_
  rintro e9 w2 ⟨rfl, hb⟩
  rw [V1.out, V2.out]
  have hcz := C.out
  generalize cmpN (val a) (val b) = cz at *
  replace h1 := h1.after hb
  replace h2 := h2.after hb
  have hlong := long_any _ _ (lim (val a)) (lim (val b)) e w2 d1 d2 h1 h2 l1 HE.out (by have := HLM.out; have := HE.out; omega) HT.out
  rw [V1.out, V2.out] at hlong
  have HLONG := Lib.hid hlong
  clear hlong h1 h2 HE HLM HT
  go_wp2_with fail
  refine HLONG.out.mono ?_
  rintro e9 w3 ⟨v3, v4, rfl, h3, h4, hb3⟩
  go_wp2
  go_ret3
  exact ⟨_, _, rfl, h3.low hb.size, h4.low hb.size, hb.trans (hb3.mono hb.size)⟩

theorem div_any (u v : Value) (a b : List Nat) (w : World) (da : Dig a) (db : Dig b) (ha : Nt w 0 w.heap.size u a) (hb_ : Nt w 0 w.heap.size v b) (la : a.length ≤ 80000) (lb : b.length ≤ 80000) :
    Calls Tryz.prog 160 #[u, v] w (GivesD (lim (val a / val b)) (lim (remN (val a) (val b))) (decide (val b ≠ 0)) w) := by
  by_cases h0 : val b = 0
  · exact divZero_any u v a b w da db ha hb_ h0
  by_cases hlt : val a < val b
  · exact divLess_any u v a b w da db ha hb_ la lb h0 hlt
  by_cases h1 : val b < 4294967296
  · exact divOne_any u v a b w da db ha hb_ la h0 (by omega) h1
  · exact divLong_any u v a b w da db ha hb_ la h0 (by omega) h1

set_option maxHeartbeats 3200000 in
theorem gcd_any (u v : Value) (a b : List Nat) (w : World) (da : Dig a) (db : Dig b) (ha : Nt w 0 w.heap.size u a) (hb_ : Nt w 0 w.heap.size v b) (la : a.length ≤ 1000) (lb : b.length ≤ 1000) :
    Calls Tryz.prog 159 #[u, v] w (Gives (lim (Nat.gcd (val a) (val b))) w) := by
  obtain ⟨G, hG⟩ : ∃ G, Nat.gcd (val a) (val b) = G := ⟨_, rfl⟩
  rw [hG]
  have hg := Lib.hid hG
  clear hG
  go_enter Tryz.func159, Tryz.ntmps159
  have hB : Below w.heap.size w w := Below.refl _ _
  go_wp2_with fail
  refine (Trim_any _ a _ da ha (by omega)).mono ?_
  rintro e w1 ⟨v1, rfl, h1, hb⟩
  replace hb_ := hb_.after hb
  replace hB := hB.trans (hb.mono hB.size)
  clear hb ha
  go_wp2_with fail
  refine (Trim_any _ b _ db hb_ (by omega)).mono ?_
  rintro e w2 ⟨v2, rfl, h2, hb⟩
  replace h1 := h1.after hb
  replace h2 := h2.low hB.size
  replace hB := hB.trans (hb.mono hB.size)
  clear hb hb_
  have l1 : (lim (val a)).length ≤ 1000 := Nat.le_trans (lim_length_le (val_lt da)) la
  have l2 : (lim (val b)).length ≤ 1000 := Nat.le_trans (lim_length_le (val_lt db)) lb
  go_wp2_with fail
  go_loopw [0, 1] (fun x y wr => ∃ (X Y : Nat), Nt wr w.heap.size wr.heap.size x (lim X) ∧ Nt wr w.heap.size wr.heap.size y (lim Y) ∧ Hid (Nat.gcd X Y = G) ∧ (lim X).length ≤ 1000 ∧ (lim Y).length ≤ 1000 ∧ Below w.heap.size w wr)
    (fun _ y wr => rdN wr y)
  case atStart => exact ⟨_, _, h1, h2, hg, l1, l2, hB⟩
  case round =>
    obtain ⟨X, Y, hx, hy, HG, m1, m2, hb⟩ := hrel
    have vX := Lib.hid (val_lim X)
    have vY := Lib.hid (val_lim Y)
    have RY := Lib.hid (rdN_of hy)
    clear hB h1 h2 hg l1 l2 da db la lb
    by_cases hY : Y = 0
    · subst hY
      have hgx := HG.out
      rw [Nat.gcd_zero_right] at hgx
      rw [lim_zero] at hy
      have hx' := hx
      rw [hgx] at hx'
      obtain ⟨A, c, rfl, hc, hm, _, _⟩ := hy
      clear hx HG hgx
      go_wp2
      go_ret
      exact ⟨_, rfl, hx', hb⟩
    · have hne : (lim Y).length ≠ 0 := fun h => hY (lim_eq_nil.1 (List.eq_nil_of_length_eq_zero h))
      have hdiv := div_any _ _ (lim X) (lim Y) _ (dig_lim X) (dig_lim Y) (hx.low (Nat.zero_le _)) (hy.low (Nat.zero_le _)) (by omega) (by omega)
      rw [val_lim, val_lim] at hdiv
      have HDIV := Lib.hid hdiv
      have hy' := Lib.hid hy
      obtain ⟨A, c, rfl, hc, hm, _, _⟩ := hy
      have hst := Lib.hid (gcd_step (X := X) hY)
      have hlt : remN X Y < Y := by unfold remN; rw [if_neg hY]; exact Nat.mod_lt _ (by omega)
      have hlr := Nat.le_trans (lim_len_mono (Nat.le_of_lt hlt)) m2
      have HG2 : Hid (Nat.gcd Y (remN X Y) = G) := by show _ = _; rw [hst.out]; exact HG.out
      generalize remN X Y = R at *
      generalize decide (Y ≠ 0) = dY at *
      clear hdiv hst HG
      go_wp2_with fail
      refine HDIV.out.mono ?_
      rintro e w5 ⟨v5, v6, rfl, h5, h6, hb5⟩
      have hy5 := hy'.out.after hb5
      replace h6 := h6.low hb.size
      have hb6 := hb.trans (hb5.mono hb.size)
      have hR5 := Lib.hid (rdN_of h6)
      clear HDIV h5 hb5 hy'
      go_wp2_with fail
      refine ⟨⟨Y, R, hy5, h6, HG2, m2, hlr, hb6⟩, ?_⟩
      rw [hR5.out, RY.out, val_lim, vY.out]
      exact hlt
end Go.Proofs.YtchokmhfgikglaaGreatDoor

namespace Go.Proofs.YtchokmhfgikglaaGreatDoor
set_option maxRecDepth 100000
open Go.RowKit

/-- A result with a divisor, laid into its own block. -/
def St3 (w : World) (g : Nat) (s : Bool) (a b : Value) : World := ((w.setCell ⟨g, 0, none⟩ (.bool s)).setCell ⟨g, 1, none⟩ a).setCell ⟨g, 2, none⟩ b

theorem store3 {w w0 : World} {g : Nat} {t : TypeId} (q : Blk w g t #[.bool false, .slice none 0 0, .slice none 0 0]) (hB : Below w0.heap.size w0 w) (hg : w0.heap.size ≤ g) (s : Bool) (a b : Value) {x y : List Nat}
    (h1 : Nt w (g + 1) w.heap.size a x) (h2 : Nt w (g + 1) w.heap.size b y) :
    (St3 w g s a b).cell? ⟨g, 0, none⟩ = some (.bool s) ∧ (St3 w g s a b).cell? ⟨g, 1, none⟩ = some a ∧ (St3 w g s a b).cell? ⟨g, 2, none⟩ = some b ∧
      Rt (St3 w g s a b) w0.heap.size (St3 w g s a b).heap.size (.agg #[.bool s, a, b]) s x y ∧ Below w0.heap.size w0 (St3 w g s a b) := by
  have p3 := ((q.put 0 (.bool s)).put 1 a).put 2 b
  have hBB := ((hB.setCell (p := ⟨g, 0, none⟩) hg (.bool s)).setCell (p := ⟨g, 1, none⟩) hg a).setCell (p := ⟨g, 2, none⟩) hg b
  have t1 := ((h1.put3 (Nat.lt_succ_self _) 0 (.bool s)).put3 (Nat.lt_succ_self _) 1 a).put3 (Nat.lt_succ_self _) 2 b
  have t2 := ((h2.put3 (Nat.lt_succ_self _) 0 (.bool s)).put3 (Nat.lt_succ_self _) 1 a).put3 (Nat.lt_succ_self _) 2 b
  exact ⟨by unfold St3; rw [p3.cell]; rfl, by unfold St3; rw [p3.cell]; rfl, by unfold St3; rw [p3.cell]; rfl, ⟨_, _, rfl, t1.low (by omega), t2.low (by omega)⟩, hBB⟩

end Go.Proofs.YtchokmhfgikglaaGreatDoor

namespace Go.Proofs.YtchokmhfgikglaaGreatDoor
set_option maxRecDepth 100000
open Go.RowKit

set_option maxHeartbeats 3200000 in
theorem prOf_some (s : Bool) (vn vd : Value) (n d : List Nat) (w : World) (dn : Dig n) (dd : Dig d) (hn : Nt w 0 w.heap.size vn n) (hd : Nt w 0 w.heap.size vd d) (ln : n.length ≤ 1000) (ld : d.length ≤ 1000) (h0 : val n ≠ 0) (h1 : val d ≠ 0) :
    Calls Tryz.prog 98 #[.bool s, vn, vd] w (GivesT s (val n / Nat.gcd (val n) (val d)) (val d / Nat.gcd (val n) (val d)) w) := by
  have z1 : ((((lim (val n)).length : Nat) : Int) == 0) = false := beq_eq_false_iff_ne.2 (by have : (lim (val n)).length ≠ 0 := (fun h => h0 (lim_eq_nil.1 (List.eq_nil_of_length_eq_zero h))); omega)
  have z2 : ((((lim (val d)).length : Nat) : Int) == 0) = false := beq_eq_false_iff_ne.2 (by have : (lim (val d)).length ≠ 0 := (fun h => h1 (lim_eq_nil.1 (List.eq_nil_of_length_eq_zero h))); omega)
  have dn1 := dig_lim (val n)
  have dd1 := dig_lim (val d)
  have ln1 : (lim (val n)).length ≤ 1000 := Nat.le_trans (lim_val_length n dn) ln
  have ld1 : (lim (val d)).length ≤ 1000 := Nat.le_trans (lim_val_length d dd) ld
  have vn1 := Lib.hid (val_lim (val n))
  have vd1 := Lib.hid (val_lim (val d))
  obtain ⟨G, hG⟩ : ∃ G, Nat.gcd (val n) (val d) = G := ⟨_, rfl⟩
  have dg := dig_lim G
  have vg := Lib.hid (val_lim G)
  have lg : (lim G).length ≤ 1000 := by
    rw [← hG]
    exact Nat.le_trans (lim_len_mono (Nat.gcd_le_left _ (Nat.pos_of_ne_zero h0))) ln1
  have gn : Hid (remN (val n) G = val n % G) := by
    show _ = _
    unfold remN
    rw [if_neg (by rw [← hG]; exact fun h => h0 (Nat.eq_zero_of_gcd_eq_zero_left h))]
  have HG := Lib.hid hG
  rw [hG]
  clear hG h0 h1
  go_enter Tryz.func98, Tryz.ntmps98
  go_wp2_with fail
  have b1 := Blk.new w 60 #[.bool false, .slice none 0 0, .slice none 0 0]
  have hB : Below w.heap.size w (w.alloc (.cells #[.bool false, .slice none 0 0, .slice none 0 0] 60)) := (Below.refl _ _).alloc (Nat.le_refl _) _
  generalize w.alloc (.cells #[.bool false, .slice none 0 0, .slice none 0 0] 60) = w2 at *
  replace hn := (hn.below hB (Nat.le_refl _)).up hB.size
  replace hd := (hd.below hB (Nat.le_refl _)).up hB.size
  refine (Trim_any vn n _ dn hn (by omega)).mono ?_
  rintro e w3 ⟨v3, rfl, h3, hb⟩
  replace hd := hd.after hb
  replace h3 := h3.low (Nat.zero_le _)
  replace hB := hB.trans (hb.mono hB.size)
  have q1 := b1.below hb b1.lt
  clear hn hb b1
  go_wp2_with fail
  refine (Trim_any vd d _ dd hd (by omega)).mono ?_
  rintro e w4 ⟨v4, rfl, h4, hb⟩
  replace h3 := h3.after hb
  replace h4 := h4.low (Nat.zero_le _)
  replace hB := hB.trans (hb.mono hB.size)
  have b1 := q1.below hb q1.lt
  have hl3 := h3
  have hl4 := h4
  obtain ⟨A3, c3, rfl, m3⟩ := nt_len hl3
  obtain ⟨A4, c4, rfl, m4⟩ := nt_len hl4
  clear hd hb q1 hl3 hl4 dn dd ln ld
  go_wp2_with fail
  refine (gcd_any _ _ (lim (val n)) (lim (val d)) _ dn1 dd1 h3 h4 ln1 ld1).mono ?_
  rintro e w5 ⟨v5, rfl, h5, hb⟩
  rw [vn1.out, vd1.out, HG.out] at h5
  replace h5 := h5.low (Nat.zero_le _)
  replace h3 := h3.after hb
  replace h4 := h4.after hb
  have q1 := b1.below hb b1.lt
  replace hB := hB.trans (hb.mono hB.size)
  clear b1 hb
  go_wp2_with fail
  refine (div_any _ _ (lim (val n)) (lim G) _ dn1 dg h3 h5 (by omega) (by omega)).mono ?_
  rintro e w6 ⟨v6, z6, rfl, h6, h6', hb⟩
  rw [vn1.out, vg.out] at h6
  clear h6'
  replace h6 := h6.low (show w.heap.size + 1 ≤ _ from q1.lt)
  replace h5 := h5.after hb
  replace h4 := h4.after hb
  have b1 := q1.below hb q1.lt
  replace hB := hB.trans (hb.mono hB.size)
  clear q1 hb h3
  go_wp2_with fail
  refine (div_any _ _ (lim (val d)) (lim G) _ dd1 dg h4 h5 (by omega) (by omega)).mono ?_
  rintro e w7 ⟨v7, z7, rfl, h7, h7', hb⟩
  rw [vd1.out, vg.out] at h7
  clear h7'
  replace h7 := h7.low (show w.heap.size + 1 ≤ _ from b1.lt)
  have q1' := b1.below hb b1.lt
  replace hB := hB.trans (hb.mono hB.size)
  clear b1 h5 h4
  have hl6 := h6.after hb
  have hl7 := h7
  obtain ⟨A6, c6, rfl, m6⟩ := nt_len hl6
  obtain ⟨A7, c7, rfl, m7⟩ := nt_len hl7
  replace h6 := h6.after hb
  clear hl6 hl7 hb
  have r0 := q1'.cell 0
  have r1 := q1'.cell 1
  have r2 := q1'.cell 2
  have f0 := q1'.free 0
  have f1 := q1'.free 1
  have f2 := q1'.free 2
  have p3 := ((q1'.put 0 (.bool s)).put 1 (.slice A6 (lim (val n / G)).length c6)).put 2 (.slice A7 (lim (val d / G)).length c7)
  have hBB := ((hB.setCell (p := ⟨w.heap.size, 0, none⟩) (by simp) (.bool s)).setCell (p := ⟨w.heap.size, 1, none⟩) (by simp) (.slice A6 (lim (val n / G)).length c6)).setCell (p := ⟨w.heap.size, 2, none⟩) (by simp) (.slice A7 (lim (val d / G)).length c7)
  have t6 := ((h6.put3 (Nat.lt_succ_self _) 0 (.bool s)).put3 (Nat.lt_succ_self _) 1 (.slice A6 (lim (val n / G)).length c6)).put3 (Nat.lt_succ_self _) 2 (.slice A7 (lim (val d / G)).length c7)
  have t7 := ((h7.put3 (Nat.lt_succ_self _) 0 (.bool s)).put3 (Nat.lt_succ_self _) 1 (.slice A6 (lim (val n / G)).length c6)).put3 (Nat.lt_succ_self _) 2 (.slice A7 (lim (val d / G)).length c7)
  clear h6 h7
  go_wp2_with fail
  clear r0 r1 r2 f0 f1 f2 q1'
  generalize ((World.setCell w7 ⟨w.heap.size, 0, none⟩ (.bool s)).setCell ⟨w.heap.size, 1, none⟩ (.slice A6 (lim (val n / G)).length c6)).setCell ⟨w.heap.size, 2, none⟩ (.slice A7 (lim (val d / G)).length c7) = W at *
  have e0 : W.cell? ⟨w.heap.size, 0, none⟩ = some (.bool s) := by rw [p3.cell]; rfl
  have e1 : W.cell? ⟨w.heap.size, 1, none⟩ = some (.slice A6 (lim (val n / G)).length c6) := by rw [p3.cell]; rfl
  have e2 : W.cell? ⟨w.heap.size, 2, none⟩ = some (.slice A7 (lim (val d / G)).length c7) := by rw [p3.cell]; rfl
  refine bodyPost_ret (v := .agg #[.bool s, .slice A6 (lim (val n / G)).length c6, .slice A7 (lim (val d / G)).length c7]) ?_ rfl ⟨_, rfl, ⟨_, _, rfl, t6.low (by omega), t7.low (by omega)⟩, hBB⟩
  simp [results, Tryz.results98, go_sem, e0, e1, e2]

set_option maxHeartbeats 3200000 in
theorem prOf_zero (s : Bool) (vn vd : Value) (n d : List Nat) (w : World) (dn : Dig n) (dd : Dig d) (hn : Nt w 0 w.heap.size vn n) (hd : Nt w 0 w.heap.size vd d) (ln : n.length ≤ 1000) (ld : d.length ≤ 1000) (h0 : val n = 0 ∨ val d = 0) :
    Calls Tryz.prog 98 #[.bool s, vn, vd] w (GivesT false 0 1 w) := by
  have zz : ((((lim (val n)).length : Nat) : Int) == 0) = true ∨ ((((lim (val n)).length : Nat) : Int) == 0) = false ∧ ((((lim (val d)).length : Nat) : Int) == 0) = true := by
    by_cases h1 : val n = 0
    · left; rw [h1, lim_zero]; rfl
    · right
      refine ⟨beq_eq_false_iff_ne.2 (by have : (lim (val n)).length ≠ 0 := (fun h => h1 (lim_eq_nil.1 (List.eq_nil_of_length_eq_zero h))); omega), ?_⟩
      have h2 : val d = 0 := by omega
      rw [h2, lim_zero]; rfl
  have ZZ := Lib.hid zz
  have L0 := Lib.hid lim_zero
  clear h0 zz
  go_enter Tryz.func98, Tryz.ntmps98
  go_wp2_with fail
  have b1 := Blk.new w 60 #[.bool false, .slice none 0 0, .slice none 0 0]
  have hB : Below w.heap.size w (w.alloc (.cells #[.bool false, .slice none 0 0, .slice none 0 0] 60)) := (Below.refl _ _).alloc (Nat.le_refl _) _
  generalize w.alloc (.cells #[.bool false, .slice none 0 0, .slice none 0 0] 60) = w2 at *
  replace hn := (hn.below hB (Nat.le_refl _)).up hB.size
  replace hd := (hd.below hB (Nat.le_refl _)).up hB.size
  refine (Trim_any vn n _ dn hn (by omega)).mono ?_
  rintro e w3 ⟨v3, rfl, h3, hb⟩
  replace hd := hd.after hb
  replace h3 := h3.low (Nat.zero_le _)
  replace hB := hB.trans (hb.mono hB.size)
  have q1 := b1.below hb b1.lt
  clear hn hb b1
  go_wp2_with fail
  refine (Trim_any vd d _ dd hd (by omega)).mono ?_
  rintro e w4 ⟨v4, rfl, h4, hb⟩
  replace h3 := h3.after hb
  replace h4 := h4.low (Nat.zero_le _)
  replace hB := hB.trans (hb.mono hB.size)
  have b1 := q1.below hb q1.lt
  obtain ⟨A3, c3, rfl, m3⟩ := nt_len h3
  obtain ⟨A4, c4, rfl, m4⟩ := nt_len h4
  clear hd hb q1 dn dd ln ld h3 h4
  have hof := of_any 1 w4 (by omega)
  rcases ZZ.out with z1 | ⟨z0, z1⟩
  all_goals
    go_wp2_with fail
    refine hof.mono ?_
    rintro e w5 ⟨v5, rfl, h5, hb⟩
    clear hof
    replace h5 := h5.low (show w.heap.size + 1 ≤ _ from b1.lt)
    have q1' := b1.below hb b1.lt
    replace hB := hB.trans (hb.mono hB.size)
    have hl5 := h5
    obtain ⟨A7, c7, rfl, m7⟩ := nt_len hl5
    clear b1 hb hl5
    have r0 := q1'.cell 0
    have r1 := q1'.cell 1
    have r2 := q1'.cell 2
    have f0 := q1'.free 0
    have f1 := q1'.free 1
    have f2 := q1'.free 2
    have p3 := ((q1'.put 0 (.bool false)).put 1 (.slice none 0 0)).put 2 (.slice A7 (lim 1).length c7)
    have hBB := ((hB.setCell (p := ⟨w.heap.size, 0, none⟩) (by simp) (.bool false)).setCell (p := ⟨w.heap.size, 1, none⟩) (by simp) (.slice none 0 0)).setCell (p := ⟨w.heap.size, 2, none⟩) (by simp) (.slice A7 (lim 1).length c7)
    have t7 := ((h5.put3 (Nat.lt_succ_self _) 0 (.bool false)).put3 (Nat.lt_succ_self _) 1 (.slice none 0 0)).put3 (Nat.lt_succ_self _) 2 (.slice A7 (lim 1).length c7)
    clear h5
    go_wp2_with fail
    clear r0 r1 r2 f0 f1 f2 q1'
    generalize ((World.setCell w5 ⟨w.heap.size, 0, none⟩ (.bool false)).setCell ⟨w.heap.size, 1, none⟩ (.slice none 0 0)).setCell ⟨w.heap.size, 2, none⟩ (.slice A7 (lim 1).length c7) = W at *
    have e0 : W.cell? ⟨w.heap.size, 0, none⟩ = some (.bool false) := by rw [p3.cell]; rfl
    have e1 : W.cell? ⟨w.heap.size, 1, none⟩ = some (.slice none 0 0) := by rw [p3.cell]; rfl
    have e2 : W.cell? ⟨w.heap.size, 2, none⟩ = some (.slice A7 (lim 1).length c7) := by rw [p3.cell]; rfl
    refine bodyPost_ret (v := .agg #[.bool false, .slice none 0 0, .slice A7 (lim 1).length c7]) ?_ rfl ⟨_, rfl, ⟨_, _, rfl, by rw [L0.out]; exact Nt.nil _ _ _, t7.low (by omega)⟩, hBB⟩
    simp [results, Tryz.results98, go_sem, e0, e1, e2]

theorem prOf_any (s : Bool) (vn vd : Value) (n d : List Nat) (w : World) (dn : Dig n) (dd : Dig d) (hn : Nt w 0 w.heap.size vn n) (hd : Nt w 0 w.heap.size vd d) (ln : n.length ≤ 1000) (ld : d.length ≤ 1000) :
    Calls Tryz.prog 98 #[.bool s, vn, vd] w (GivesT (nrS s (val n) (val d)) (nrN (val n) (val d)) (nrD (val n) (val d)) w) := by
  by_cases h0 : val n = 0 ∨ val d = 0
  · obtain ⟨e1, e2, e3⟩ := nr_zero (s := s) h0
    rw [e1, e2, e3]
    exact prOf_zero s vn vd n d w dn dd hn hd ln ld h0
  · have h1 : val n ≠ 0 := by omega
    have h2 : val d ≠ 0 := by omega
    obtain ⟨e1, e2, e3⟩ := nr_some (s := s) h1 h2
    rw [e1, e2, e3]
    exact prOf_some s vn vd n d w dn dd hn hd ln ld h1 h2

set_option maxHeartbeats 3200000 in
theorem prNorm_any (v : Value) (s : Bool) (n d : List Nat) (w : World) (dn : Dig n) (dd : Dig d) (h : Rt w 0 w.heap.size v s n d) (ln : n.length ≤ 1000) (ld : d.length ≤ 1000) :
    Calls Tryz.prog 47 #[v] w (GivesT (nrS s (val n) (val d)) (nrN (val n) (val d)) (nrD (val n) (val d)) w) := by
  obtain ⟨vn, vd, rfl, hn, hd⟩ := h
  go_enter Tryz.func47, Tryz.ntmps47
  have hcon := fun w (hn : Nt w 0 w.heap.size vn n) (hd : Nt w 0 w.heap.size vd d) => prOf_any s vn vd n d w dn dd hn hd ln ld
  generalize nrS s (val n) (val d) = S at *
  generalize nrN (val n) (val d) = N at *
  generalize nrD (val n) (val d) = D at *
  have HC := Lib.hid hcon
  clear hcon
  go_wp2_with fail
  have b0 := (Blk.new w 60 #[.bool s, vn, vd]).alloc (.cells #[.bool false, .slice none 0 0, .slice none 0 0] 60)
  have b1 := Blk.new (w.alloc (.cells #[.bool s, vn, vd] 60)) 60 #[.bool false, .slice none 0 0, .slice none 0 0]
  have hB : Below w.heap.size w ((w.alloc (.cells #[.bool s, vn, vd] 60)).alloc (.cells #[.bool false, .slice none 0 0, .slice none 0 0] 60)) := ((Below.refl _ _).alloc (Nat.le_refl _) _).alloc (by simp) _
  have es : (w.alloc (.cells #[.bool s, vn, vd] 60)).heap.size = w.heap.size + 1 := by simp
  rw [es] at b1
  clear es
  generalize (w.alloc (.cells #[.bool s, vn, vd] 60)).alloc (.cells #[.bool false, .slice none 0 0, .slice none 0 0] 60) = w2 at *
  replace hn := (hn.below hB (Nat.le_refl _)).up hB.size
  replace hd := (hd.below hB (Nat.le_refl _)).up hB.size
  have c0 := b0.cell 0
  have c1 := b0.cell 1
  have c2 := b0.cell 2
  go_wp2_with fail
  refine (HC.out _ hn hd).mono ?_
  rintro e w3 ⟨v3, rfl, ⟨an, ad, rfl, h1, h2⟩, hb⟩
  have q := b1.below hb b1.lt
  have hl1 := h1
  have hl2 := h2
  obtain ⟨A6, c6, rfl, m6⟩ := nt_len hl1
  obtain ⟨A7, c7, rfl, m7⟩ := nt_len hl2
  clear hl1 hl2
  obtain ⟨e0, e1, e2, hR, hBB⟩ := store3 q (hB.trans (hb.mono hB.size)) (by omega) S (.slice A6 (lim N).length c6) (.slice A7 (lim D).length c7) (h1.low b1.lt) (h2.low b1.lt)
  have r0 := q.cell 0
  have r1 := q.cell 1
  have r2 := q.cell 2
  have f0 := q.free 0
  have f1 := q.free 1
  have f2 := q.free 2
  have HR := Lib.hid hR
  have HBB := Lib.hid hBB
  clear c0 c1 c2 b0 b1 hn hd h1 h2 hb q HC hR hBB hB
  unfold St3 at *
  go_wp2_with fail
  clear r0 r1 r2 f0 f1 f2
  generalize ((World.setCell w3 ⟨w.heap.size + 1, 0, none⟩ (.bool S)).setCell ⟨w.heap.size + 1, 1, none⟩ (.slice A6 (lim N).length c6)).setCell ⟨w.heap.size + 1, 2, none⟩ (.slice A7 (lim D).length c7) = W at *
  refine bodyPost_ret (v := .agg #[.bool S, .slice A6 (lim N).length c6, .slice A7 (lim D).length c7]) ?_ rfl ⟨_, rfl, HR.out, HBB.out⟩
  simp [results, Tryz.results47, go_sem, e0, e1, e2]
end Go.Proofs.YtchokmhfgikglaaGreatDoor

namespace Go.Proofs.YtchokmhfgikglaaGreatDoor
set_option maxRecDepth 100000
open Go.RowKit

/-- A number held between 0 and 60. -/
def hold60 (d : Int) : Int := min (max d 0) 60
/-- A number of units, to the even one at halves. -/
def rhe (x d : Nat) : Nat := if d < 2 * (x % d) ∨ (2 * (x % d) = d ∧ x / d % 2 = 1) then x / d + 1 else x / d

end Go.Proofs.YtchokmhfgikglaaGreatDoor

namespace Go.Proofs.YtchokmhfgikglaaGreatDoor
set_option maxRecDepth 100000
open Go.RowKit

theorem s3_of {w W : World} {g : Nat} {v0 v1 v2 : Value} (hb : Below w.heap.size w W) (c0 : w.cell? ⟨g, 0, none⟩ = some v0) (c1 : w.cell? ⟨g, 1, none⟩ = some v1) (c2 : w.cell? ⟨g, 2, none⟩ = some v2) (hg : g < w.heap.size) :
    W.cell? ⟨g, 0, none⟩ = some v0 ∧ W.cell? ⟨g, 1, none⟩ = some v1 ∧ W.cell? ⟨g, 2, none⟩ = some v2 :=
  ⟨(hb.cell (p := ⟨g, 0, none⟩) hg).trans c0, (hb.cell (p := ⟨g, 1, none⟩) hg).trans c1, (hb.cell (p := ⟨g, 2, none⟩) hg).trans c2⟩

end Go.Proofs.YtchokmhfgikglaaGreatDoor

namespace Go.Proofs.YtchokmhfgikglaaGreatDoor
set_option maxRecDepth 100000
open Go.RowKit

end Go.Proofs.YtchokmhfgikglaaGreatDoor
