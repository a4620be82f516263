/- Several texts in one: StatD, StatE, Ref22C, ToolB, DecPr, ToolC, ToolD. Condition: each says its own. -/
import Derived.Deep.AppendSrc
import Derived.Test.YtchokmhfgikglaaGreatDoorPk3
import Derived.Test.YtchokmhfgikglaaGreatDoorPk12
import Derived.Test.YtchokmhfgikglaaGreatDoorPk15
import Derived.Test.YtchokmhfgikglaaGreatDoorPk22
import Derived.Test.YtchokmhfgikglaaGreatDoorPk23
namespace Go.Proofs.YtchokmhfgikglaaGreatDoor
set_option maxRecDepth 100000
open Go.RowKit Go.Shelf Go.Lib

theorem blk_cell_alloc {w : World} {p : Addr} {v : Value} {o : Obj} (h : w.cell? p = some v) (hp : p.block < w.heap.size) : (w.alloc o).cell? p = some v := (((Below.refl _ w).alloc (Nat.le_refl _) o).cell hp).trans h

set_option maxHeartbeats 6400000 in
theorem products_q (u v : Value) (xs ys zs : List Rat) (m : Nat) (w : World) (h : RowIn w 0 w.heap.size u xs) (h' : RowIn w 0 w.heap.size v ys) (hxy : xs.length = ys.length) (hzl : zs.length = xs.length) (hzs : ∀ k (h1 : k < xs.length) (h2 : k < ys.length) (h3 : k < zs.length), xs[k] * ys[k] = zs[k])
    (hz : ∀ q ∈ xs, Sz q m) (hz' : ∀ q ∈ ys, Sz q m) (hm1 : 1 ≤ m) (hlen : 1 + xs.length * (m + m + 1) ≤ 390) (hm : m + m ≤ 390) (hl1 : xs.length ≤ 1000) :
    Calls Tryz.prog 256 #[u, v] w (GivesF (sumQ zs) w) := by
  obtain ⟨A, c, rfl, hc, hmx, hA0, hx⟩ := h
  obtain ⟨A', c', rfl, hc', hmx', hA0', hx'⟩ := h'
  have HX := Lib.hid hx
  have HX' := Lib.hid hx'
  have HZ : Hid (∀ k (h : k < xs.length), Sz xs[k] m) := fun k h => hz _ (List.getElem_mem h)
  have HZ' : Hid (∀ k (h : k < ys.length), Sz ys[k] m) := fun k h => hz' _ (List.getElem_mem h)
  have hzz : ∀ q ∈ zs, Sz q (m + m) := fun q hq => by
    obtain ⟨k, hk, rfl⟩ := List.mem_iff_getElem.1 hq
    rw [← hzs k (by omega) (by omega) hk]
    exact (HZ.out k (by omega)).mul (HZ'.out k (by omega)) hm1
  have HI0 : Hid (∀ W, Calls Tryz.prog 71 #[.int .i64 0] W (GivesF (sumQ (zs.take 0)) W)) := fun W => prInt_any 0 W (by omega)
  have HST : Hid (∀ k (h1 : k < xs.length) (h2 : k < ys.length), sumQ (zs.take k) + xs[k] * ys[k] = sumQ (zs.take (k + 1))) := fun k h1 h2 => by
    rw [List.take_succ_eq_append_getElem (show k < zs.length by omega), sumQ_snoc, hzs k h1 h2 (by omega)]
  have HSZ : Hid (∀ k, k ≤ xs.length → Sz (sumQ (zs.take k)) 390) := fun k hk => by
    refine (sz_sum (m := m + m) k (zs.take k) (by rw [List.length_take]; omega) (fun q hq => hzz q (List.mem_of_mem_take hq))).mono ?_
    refine Nat.le_trans (Nat.add_le_add_left (Nat.mul_le_mul_right _ hk) 1) hlen
  have HEND : Hid (sumQ (zs.take xs.length) = sumQ zs) := by show _ = _; rw [← hzl, List.take_length]
  rw [← HEND.out]
  obtain ⟨p, hp⟩ : ∃ p : Nat → Rat, ∀ k, p k = sumQ (zs.take k) := ⟨_, fun _ => rfl⟩
  rw [← hp] at HI0 ⊢
  simp only [← hp] at HST HSZ
  unfold maxLen at hmx hmx'
  clear hp hx hx' hz hz' hlen HEND hzz hzs hzl
  have b0 := Blk.new w 60 #[.bool false, .slice none 0 0, .slice none 0 0]
  have hB : Below w.heap.size w (w.alloc (.cells #[.bool false, .slice none 0 0, .slice none 0 0] 60)) := (Below.refl _ _).alloc (Nat.le_refl _) _
  go_enter Tryz.func256, Tryz.ntmps256
  go_wp2_with fail
  generalize w.alloc (.cells #[.bool false, .slice none 0 0, .slice none 0 0] 60) = w2 at *
  go_fit (HI0.out _)
  rintro e w3 ⟨v3, rfl, ⟨an, ad, rfl, han, had⟩, hb3⟩
  replace hB := hB.trans (hb3.mono hB.size)
  have hlt2 := b0.lt
  replace b0 := b0.below hb3 b0.lt
  obtain ⟨A1, k1, rfl, m1⟩ := nt_len han
  obtain ⟨A2, k2, rfl, m2⟩ := nt_len had
  have hx := RB.new (t := 60) (han.low (show w.heap.size + 1 ≤ _ from hlt2)) (had.low (show w.heap.size + 1 ≤ _ from hlt2))
  have hlt3 := b0.lt
  have c0 := b0.alloc (.cells #[.bool (qS (p 0)), .slice A1 (lim (qN (p 0))).length k1, .slice A2 (lim (p 0).den).length k2] 60)
  have hB4 : Below w.heap.size w (w3.alloc (.cells #[.bool (qS (p 0)), .slice A1 (lim (qN (p 0))).length k1, .slice A2 (lim (p 0).den).length k2] 60)) := hB.alloc hB.size _
  clear han had hb3 m1 m2 HI0 b0 hB
  obtain ⟨g3, hg3⟩ : ∃ g, w3.heap.size = g := ⟨_, rfl⟩
  rw [hg3] at hx hlt3
  have HG3 := Lib.hid hg3
  go_wp2_with fail
  generalize w3.alloc (.cells #[.bool (qS (p 0)), .slice A1 (lim (qN (p 0))).length k1, .slice A2 (lim (p 0).den).length k2] 60) = w4 at *
  clear hg3 HG3
  go_loopw [11] (fun i wr => ∃ k : Nat, k ≤ xs.length ∧ i = .int .i64 (k : Int) ∧ RB wr (w.heap.size + 1) g3 60 (p k) ∧ Blk wr w.heap.size 60 #[.bool false, .slice none 0 0, .slice none 0 0] ∧ Below w.heap.size w wr) (fun i _ => xs.length - (RowKit.intOf i).toNat)
  case atStart => exact ⟨0, Nat.zero_le _, rfl, hx, c0, hB4⟩
  case round =>
    clear hx c0 hB4
    obtain ⟨k, hk, rfl, hx, c0, hB⟩ := hrel
    by_cases hkn : k < xs.length
    · have y0 : (k : Int) < (xs.length : Int) := by omega
      have hkn' : k < ys.length := by omega
      have y0' : (k : Int) < (ys.length : Int) := by omega
      have z00 : (0 : Int) ≤ (k : Int) := by omega
      obtain ⟨b, rfl, hl, hb, hcell⟩ := HX.out (by omega)
      obtain ⟨b', rfl, hl', hb', hcell'⟩ := HX'.out (by omega)
      have hra := (hcell k hkn).stay (Nat.zero_le _) hb (Nat.le_refl _) hB.size (fun p _ hp => hB.cell (p := p) hp)
      obtain ⟨G1, j1, G2, j2, c0', c1', c2', m1, m2⟩ := hra
      have hra' := (hcell' k hkn').stay (Nat.zero_le _) hb' (Nat.le_refl _) hB.size (fun p _ hp => hB.cell (p := p) hp)
      obtain ⟨G3, j3, G4, j4, e0', e1', e2', m3, m4⟩ := hra'
      have hsz := HZ.out k hkn
      have hsz' := HZ'.out k hkn'
      have hq : RQ wr 0 wr.heap.size (.agg #[.bool (qS xs[k]), .slice G1 (lim (qN xs[k])).length j1, .slice G2 (lim xs[k].den).length j2]) xs[k] m := RQ.of ⟨_, _, rfl, m1, m2⟩ hsz
      have hq' : RQ wr 0 wr.heap.size (.agg #[.bool (qS ys[k]), .slice G3 (lim (qN ys[k])).length j3, .slice G4 (lim ys[k].den).length j4]) ys[k] m := RQ.of ⟨_, _, rfl, m3, m4⟩ hsz'
      have HST1 := Lib.hid (HST.out k hkn hkn')
      obtain ⟨F1, l1, F2, l2, hblk, hrq⟩ := hx.rq (HSZ.out k hk)
      have hbs' := Nat.lt_of_lt_of_le hb' hB.size
      have hpz : Sz (xs[k] * ys[k]) 390 := (hsz.mul hsz' hm1).mono hm
      generalize ys[k] = q' at *
      generalize xs[k] = q at *
      have hal : Below wr.heap.size wr (wr.alloc (.cells #[.bool (qS q), .slice G1 (lim (qN q)).length j1, .slice G2 (lim q.den).length j2] 60)) := (Below.refl _ _).alloc (Nat.le_refl _) _
      have b4 := Blk.new wr 60 #[.bool (qS q), .slice G1 (lim (qN q)).length j1, .slice G2 (lim q.den).length j2]
      have d4 := hblk.below hal hblk.lt
      have x0 := b4.cell 0
      have x1 := b4.cell 1
      have x2 := b4.cell 2
      have y1 := d4.cell 0
      have y2 := d4.cell 1
      have y3 := d4.cell 2
      have v0 := blk_cell_alloc (o := .cells #[.bool (qS q), .slice G1 (lim (qN q)).length j1, .slice G2 (lim q.den).length j2] 60) e0' hbs'
      have v1 := blk_cell_alloc (o := .cells #[.bool (qS q), .slice G1 (lim (qN q)).length j1, .slice G2 (lim q.den).length j2] 60) e1' hbs'
      have v2 := blk_cell_alloc (o := .cells #[.bool (qS q), .slice G1 (lim (qN q)).length j1, .slice G2 (lim q.den).length j2] 60) e2' hbs'
      have HQ := Lib.hid (hq.after hal)
      have HQ' := Lib.hid (hq'.after hal)
      have HRQ := Lib.hid (hrq.after hal)
      have HD4 := Lib.hid d4
      have HC0 := Lib.hid (c0.below hal c0.lt)
      have HB := Lib.hid (hB.trans (hal.mono hB.size))
      have HG := Lib.hid (show wr.heap.size < (wr.alloc (.cells #[.bool (qS q), .slice G1 (lim (qN q)).length j1, .slice G2 (lim q.den).length j2] 60)).heap.size by simp)
      clear hcell hcell' m1 m2 m3 m4 hl hl' hsz hsz' hq hq' hrq hblk c0 hB hx b4 d4 hal e0' e1' e2'
      obtain ⟨t1, ht1⟩ : ∃ z, q * q' = z := ⟨_, rfl⟩
      have HMUL : Hid (∀ W u v, RQ W 0 W.heap.size u q m → RQ W 0 W.heap.size v q' m → Calls Tryz.prog 77 #[u, v] W (GivesF t1 W)) := fun W u v h1 h2 => by
        rw [← ht1]
        exact prMul_q u v q q' m m W h1 h2 (by omega) (by omega)
      rw [ht1] at HST1 hpz
      have HPZ := Lib.hid hpz
      clear ht1 hpz
      go_wp2_with fail
      generalize wr.alloc (.cells #[.bool (qS q), .slice G1 (lim (qN q)).length j1, .slice G2 (lim q.den).length j2] 60) = w5 at *
      clear c0' c1' c2'
      generalize wr.heap.size = g9 at *
      go_region_with
        (first
          | (have hx9 := HB6
             go_at_call 204
             go_fit (prAdd_q _ _ (p k) t1 390 390 _ (HRQ.out.after HB6.out) HQ6.out (by omega) (by omega))
             rw [HST1.out]
             rintro e w7 ⟨v7, rfl, ⟨bn, bd, rfl, hbn, hbd⟩, hb7⟩
             obtain ⟨A3, k3, rfl, m3⟩ := nt_len hbn
             obtain ⟨A4, k4, rfl, m4⟩ := nt_len hbd
             clear m3 m4
             have f5 := HD4.out.below HB6.out HD4.out.lt
             have f6 := f5.below hb7 f5.lt
             have z0 := f6.free 0
             have z1 := f6.free 1
             have z2 := f6.free 2
             have d0 := f6.cell 0
             have d1 := f6.cell 1
             have d2 := f6.cell 2
             have c6 := (HC0.out.below HB6.out HC0.out.lt)
             have C6 := Lib.hid (c6.below hb7 c6.lt)
             have F6 := Lib.hid f6
             have hB5 := HB.out.trans (HB6.out.mono HB.out.size)
             have HB7 := Lib.hid (hB5.trans (hb7.mono hB5.size))
             have HBN := Lib.hid (hbn.low (show g3 + 1 ≤ _ from f5.lt))
             have HBD := Lib.hid (hbd.low (show g3 + 1 ≤ _ from f5.lt))
             clear f5 f6 c6 hB5 hbn hbd hb7 hx9)
          | (go_at_call 77
             go_fit (HMUL.out _ _ _ HQ.out.drew HQ'.out.drew)
             rintro e w6 ⟨v6, rfl, ⟨cn, cd, rfl, hcn, hcd⟩, hb6⟩
             have HB6 := Lib.hid (Below.trans ((Below.refl _ _).drew) hb6)
             have HQ6 := Lib.hid (RQ.of ⟨_, _, rfl, hcn.low (Nat.zero_le _), hcd.low (Nat.zero_le _)⟩ HPZ.out)
             have e9 := HD4.out.below HB6.out HD4.out.lt
             have x0_9 := e9.cell 0
             have x1_9 := e9.cell 1
             have x2_9 := e9.cell 2
             clear e9 hcn hcd hb6)
          | fail)
      all_goals
        have hset := RB.set F6.out HBN.out HBD.out (Nat.lt_succ_self g3)
        have hset2 := hset.low (show w.heap.size + 1 ≤ g3 + 1 by omega)
        have hc7 : Blk (St3 w7 g3 (qS (p (k + 1))) (.slice A3 (lim (qN (p (k + 1)))).length k3) (.slice A4 (lim (p (k + 1)).den).length k4)) w.heap.size 60 #[.bool false, .slice none 0 0, .slice none 0 0] :=
          ((C6.out.far (by show w.heap.size ≠ g3; omega) _).far (by show w.heap.size ≠ g3; omega) _).far (by show w.heap.size ≠ g3; omega) _
        have hB7 : Below w.heap.size w (St3 w7 g3 (qS (p (k + 1))) (.slice A3 (lim (qN (p (k + 1)))).length k3) (.slice A4 (lim (p (k + 1)).den).length k4)) :=
          ((HB7.out.setCell (p := ⟨g3, 0, none⟩) (by show w.heap.size ≤ g3; omega) _).setCell (p := ⟨g3, 1, none⟩) (by show w.heap.size ≤ g3; omega) _).setCell (p := ⟨g3, 2, none⟩) (by show w.heap.size ≤ g3; omega) _
        have HS2 := Lib.hid hset2
        have HC7 := Lib.hid hc7
        have HB8 := Lib.hid hB7
        clear hset hset2 hc7 hB7 d0 d1 d2 z0 z1 z2
        unfold St3 at *
        go_wp2_with fail
        go_roundw
        case rel => exact ⟨k + 1, by omega, by go_num, HS2.out, HC7.out, HB8.out⟩
        case measure => simp [RowKit.intOf]; omega
    · obtain rfl : k = xs.length := by omega
      have y0 : ¬ ((xs.length : Nat) : Int) < (xs.length : Int) := by omega
      obtain ⟨F1, l1, F2, l2, hblk, n1, n2, o1, o2⟩ := hx
      generalize p xs.length = s at *
      have x0 := hblk.cell 0
      have x1 := hblk.cell 1
      have x2 := hblk.cell 2
      have f0 := c0.free 0
      have f1 := c0.free 1
      have f2 := c0.free 2
      have e0 := c0.cell 0
      have e1 := c0.cell 1
      have e2 := c0.cell 2
      obtain ⟨r0, r1, r2, hR, hBf⟩ := store3 c0 hB (Nat.le_refl _) (qS s) (.slice F1 (lim (qN s)).length l1) (.slice F2 (lim s.den).length l2) n1 n2
      have HR := Lib.hid hR
      have HBF := Lib.hid hBf
      clear hblk n1 n2 o1 o2 hB c0 hR hBf
      unfold St3 at *
      go_wp2_with fail
      refine bodyPost_ret (v := .agg #[.bool (qS s), .slice F1 (lim (qN s)).length l1, .slice F2 (lim s.den).length l2]) ?_ rfl ⟨_, rfl, HR.out, HBF.out⟩
      simp [results, Tryz.results256, go_sem, r0, r1, r2]
end Go.Proofs.YtchokmhfgikglaaGreatDoor

namespace Go.Proofs.YtchokmhfgikglaaGreatDoor
set_option maxRecDepth 100000
open Go.RowKit Go.Shelf Go.Lib

/-- The squares of what each is more than the mean, together. -/
def sqQ (l : List Rat) : Rat := sumQ (List.zipWith (· * ·) (offQ l) (offQ l))
def varQ (l : List Rat) : Rat := sqQ l / ((l.length - 1 : Nat) : Rat)

theorem sz_mean {m : Nat} {l : List Rat} (hz : ∀ q ∈ l, Sz q m) (hl : l.length ≤ 1000) : Sz (meanQ l) (1 + l.length * (m + 1) + 1) :=
  Sz.div (sz_sum (m := m) l.length l rfl hz) (sz_nat (by omega)) (by omega)

theorem sz_off {m : Nat} {l : List Rat} (hz : ∀ q ∈ l, Sz q m) (hl : l.length ≤ 1000) : ∀ q ∈ offQ l, Sz q (m + (1 + l.length * (m + 1) + 1) + 1) := by
  intro q hq
  obtain ⟨x, hx, rfl⟩ := List.mem_map.1 hq
  show Sz (x - meanQ l) _
  rw [Rat.sub_eq_add_neg]
  exact Sz.add (hz x hx) (sz_mean hz hl).neg

set_option maxHeartbeats 6400000 in
theorem cov_q (v : Value) (xs : List Rat) (m j : Nat) (w : World) (h : RowIn w 0 w.heap.size v xs) (hz : ∀ q ∈ xs, Sz q m) (hj : m + (1 + xs.length * (m + 1) + 1) + 1 ≤ j) (hlen : 1 + xs.length * (j + j + 1) ≤ 390) (hm : j + j ≤ 390) (hl0 : 2 ≤ xs.length) (hl1 : xs.length ≤ 1000) :
    Calls Tryz.prog 195 #[v, v] w (GivesC (varQ xs) 0 w) := by
  have HOFF : Hid (∀ W, Below w.heap.size w W → Calls Tryz.prog 257 #[v] W fun e w' => (∃ v', e = .returned v' ∧ RowIn w' W.heap.size w'.heap.size v' (offQ xs)) ∧ Below W.heap.size W w') := fun W hb =>
    off_q v xs m W (h.after hb) hz (by omega) (by omega) (by omega) hl1 ((sz_mean hz hl1).mono (by omega))
  have hol : (offQ xs).length = xs.length := List.length_map _
  have hoz : ∀ q ∈ offQ xs, Sz q j := fun q hq => (sz_off hz hl1 q hq).mono hj
  have HPR : Hid (∀ W u u', RowIn W 0 W.heap.size u (offQ xs) → RowIn W 0 W.heap.size u' (offQ xs) → Calls Tryz.prog 256 #[u, u'] W (GivesF (sqQ xs) W)) := fun W u u' h1 h2 =>
    products_q u u' (offQ xs) (offQ xs) (List.zipWith (· * ·) (offQ xs) (offQ xs)) j W h1 h2 rfl (by simp) (fun k h1 h2 h3 => by rw [List.getElem_zipWith]) hoz hoz (by omega) (by rw [hol]; exact hlen) hm (by omega)
  have hsz : Sz (sqQ xs) 390 := by
    refine (sz_sum (m := j + j) (xs.length) (List.zipWith (· * ·) (offQ xs) (offQ xs)) (by rw [List.length_zipWith, hol, Nat.min_self]) ?_).mono hlen
    intro q hq
    obtain ⟨k, hk, rfl⟩ := List.mem_iff_getElem.1 hq
    rw [List.getElem_zipWith]
    exact (hoz _ (List.getElem_mem _)).mul (hoz _ (List.getElem_mem _)) (by omega)
  have HBY : Hid (∀ W u, RQ W 0 W.heap.size u (sqQ xs) 390 → Calls Tryz.prog 254 #[u, .int .i64 ((xs.length : Int) - 1)] W (GivesF (varQ xs) W)) := fun W u hu => by
    rw [show (xs.length : Int) - 1 = ((xs.length - 1 : Nat) : Int) by omega]
    exact by_q u (sqQ xs) 390 (xs.length - 1) W hu (by omega) (by omega) (by omega)
  obtain ⟨A, c, rfl, hc, hmx, hA0, hx⟩ := h
  have y0 : ((xs.length : Int) != (xs.length : Int)) = false := bne_false rfl
  have y1 : ¬ (xs.length : Int) < 2 := by omega
  have hw1 : IntKind.i64.wrap ((xs.length : Int) - 1) = (xs.length : Int) - 1 := by rw [IntKind.wrap_i64]; omega
  generalize varQ xs = M at *
  generalize sqQ xs = T at *
  generalize offQ xs = O at *
  clear hx hA0 hz hlen hmx hc hoz hol hj
  have b0 := Blk.new w 60 #[.bool false, .slice none 0 0, .slice none 0 0]
  have hB : Below w.heap.size w (w.alloc (.cells #[.bool false, .slice none 0 0, .slice none 0 0] 60)) := (Below.refl _ _).alloc (Nat.le_refl _) _
  go_enter Tryz.func195, Tryz.ntmps195
  go_wp2_with fail
  generalize w.alloc (.cells #[.bool false, .slice none 0 0, .slice none 0 0] 60) = w2 at *
  go_fit (HOFF.out _ hB)
  rintro e w3 ⟨⟨v3, rfl, hr3⟩, hb3⟩
  have hlt2 := b0.lt
  replace b0 := b0.below hb3 hlt2
  replace hB := hB.trans (hb3.mono hB.size)
  replace hr3 := hr3.low (Nat.zero_le _)
  have HB0 := Lib.hid b0
  have HB := Lib.hid hB
  clear b0 hB hb3
  have HR3 := Lib.hid hr3
  go_wp2_with fail
  go_fit (HOFF.out _ HB.out)
  rintro e w4 ⟨⟨v4, rfl, hr4⟩, hb4⟩
  have HB04 := Lib.hid (HB0.out.below hb4 HB0.out.lt)
  have HB4 := Lib.hid (HB.out.trans (hb4.mono HB.out.size))
  have HR34 := Lib.hid (HR3.out.after hb4)
  have HR4 := Lib.hid (hr4.low (Nat.zero_le _))
  clear hr4 hb4 HR3 HB0 HB
  go_wp2_with fail
  go_fit (HPR.out _ _ _ HR34.out HR4.out)
  rintro e w5 ⟨v5, rfl, hr5, hb5⟩
  have HB05 := Lib.hid (HB04.out.below hb5 HB04.out.lt)
  have HB5 := Lib.hid (HB4.out.trans (hb5.mono HB4.out.size))
  have HR5 := Lib.hid (RQ.of (hr5.low (Nat.zero_le _)) hsz)
  clear hr5 hb5 HR34 HR4 HB04 HB4
  go_wp2_with fail
  go_fit (HBY.out _ _ HR5.out)
  rintro e w6 ⟨v6, rfl, ⟨an, ad, rfl, han, had⟩, hb6⟩
  have b0 := HB05.out.below hb6 HB05.out.lt
  have hB := HB5.out.trans (hb6.mono HB5.out.size)
  obtain ⟨A1, k1, rfl, m1⟩ := nt_len han
  obtain ⟨A2, k2, rfl, m2⟩ := nt_len had
  have n1 := han.low (show w.heap.size + 1 ≤ _ from HB05.out.lt)
  have n2 := had.low (show w.heap.size + 1 ≤ _ from HB05.out.lt)
  have f0 := b0.free 0
  have f1 := b0.free 1
  have f2 := b0.free 2
  have e0 := b0.cell 0
  have e1 := b0.cell 1
  have e2 := b0.cell 2
  obtain ⟨r0, r1, r2, hR, hBf⟩ := store3 b0 hB (Nat.le_refl _) (qS M) (.slice A1 (lim (qN M)).length k1) (.slice A2 (lim M.den).length k2) n1 n2
  have HR := Lib.hid hR
  have HBF := Lib.hid hBf
  clear n1 n2 hB b0 hR hBf han had m1 m2 hb6 HB5 HB05 HR5
  unfold St3 at *
  go_wp2_with fail
  refine bodyPost_ret (v := .tuple #[.agg #[.bool (qS M), .slice A1 (lim (qN M)).length k1, .slice A2 (lim M.den).length k2], .int .i64 0]) ?_ rfl ⟨_, rfl, HR.out, HBF.out⟩
  simp [results, Tryz.results195, go_sem, r0, r1, r2]

set_option maxHeartbeats 3200000 in
theorem var_q (v : Value) (xs : List Rat) (m j : Nat) (w : World) (h : RowIn w 0 w.heap.size v xs) (hz : ∀ q ∈ xs, Sz q m) (hj : m + (1 + xs.length * (m + 1) + 1) + 1 ≤ j) (hlen : 1 + xs.length * (j + j + 1) ≤ 390) (hm : j + j ≤ 390) (hl0 : 2 ≤ xs.length) (hl1 : xs.length ≤ 1000) :
    Calls Tryz.prog 193 #[v] w (GivesC (varQ xs) 0 w) := by
  have HC : Hid (∀ W, Below w.heap.size w W → Calls Tryz.prog 195 #[v, v] W (GivesC (varQ xs) 0 W)) := fun W hb => cov_q v xs m j W (h.after hb) hz hj hlen hm hl0 hl1
  generalize varQ xs = M at *
  clear h hz hj hlen hm hl0 hl1
  have b0 := Blk.new w 60 #[.bool false, .slice none 0 0, .slice none 0 0]
  have hB : Below w.heap.size w (w.alloc (.cells #[.bool false, .slice none 0 0, .slice none 0 0] 60)) := (Below.refl _ _).alloc (Nat.le_refl _) _
  go_enter Tryz.func193, Tryz.ntmps193
  go_wp2_with fail
  generalize w.alloc (.cells #[.bool false, .slice none 0 0, .slice none 0 0] 60) = w2 at *
  go_fit (HC.out _ hB)
  rintro e w6 ⟨v6, rfl, ⟨an, ad, rfl, han, had⟩, hb6⟩
  have hlt2 := b0.lt
  replace b0 := b0.below hb6 hlt2
  replace hB := hB.trans (hb6.mono hB.size)
  obtain ⟨A1, k1, rfl, m1⟩ := nt_len han
  obtain ⟨A2, k2, rfl, m2⟩ := nt_len had
  have n1 := han.low (show w.heap.size + 1 ≤ _ from hlt2)
  have n2 := had.low (show w.heap.size + 1 ≤ _ from hlt2)
  have f0 := b0.free 0
  have f1 := b0.free 1
  have f2 := b0.free 2
  have e0 := b0.cell 0
  have e1 := b0.cell 1
  have e2 := b0.cell 2
  obtain ⟨r0, r1, r2, hR, hBf⟩ := store3 b0 hB (Nat.le_refl _) (qS M) (.slice A1 (lim (qN M)).length k1) (.slice A2 (lim M.den).length k2) n1 n2
  have HR := Lib.hid hR
  have HBF := Lib.hid hBf
  clear n1 n2 hB b0 hR hBf han had m1 m2 hb6
  unfold St3 at *
  go_wp2_with fail
  refine bodyPost_ret (v := .tuple #[.agg #[.bool (qS M), .slice A1 (lim (qN M)).length k1, .slice A2 (lim M.den).length k2], .int .i64 0]) ?_ rfl ⟨_, rfl, HR.out, HBF.out⟩
  simp [results, Tryz.results193, go_sem, r0, r1, r2]
end Go.Proofs.YtchokmhfgikglaaGreatDoor

namespace Go.Proofs.YtchokmhfgikglaaGreatDoor
set_option maxRecDepth 100000
open Go.RowKit Go.Shelf Go.Lib

abbrev SessRr := SessR 9 35 34
/-- What the reference's 'Set' and 'Let' leave. -/
def SetPostR (q : Nat) (D : Nat → Prop) (c : Nat) (ns : List (List Nat)) (rs : List (List Rat)) (w : World) (e : Ending) (w' : World) : Prop :=
  ∃ D', e = .returned (.int .i64 (c : Int)) ∧ SessRr w' q D' ns rs ∧ Turned D w w' ∧ (∀ k, D' k → D k ∨ w.heap.size ≤ k)

/-- 'append' of whatever row of one's own, by whatever slice: as a run. -/
theorem run_append_far {P : Program} {w : World} (base : Nat) (t ty e : TypeId) (i : TypeInfo) (z : Value) (size bytes : Nat) (ht : P.underlying t = some (.slice e)) (hi : P.info? e = some i) (hz : i.zero = some z)
    (hsize : i.size = size) (hby : i.bytes = bytes) (hzs : z.cells.size = size) (hsz : 0 < size)
    (v : Value) (n : Nat) (xs : List Value) (hown : w.ownsRow base e size v n xs)
    (A : Option Addr) (m c : Nat) (news : List Value) (hA : m = 0 ∨ ∃ ad, A = some ad ∧ ∀ j u, news[j]? = some u → w.cell? (ad.add j) = some u) (hl : news.length = m * size) (h1 : ∀ u ∈ news, u.oneCell' = true)
    (h63 : n + m ≤ maxLen) (hbytes : (n + m) * bytes ≤ 140737488355328) (hbase : base ≤ w.heap.size) :
    ∃ v' w', (Builtin.append_ #[t, t] ty #[v, .slice A m c]).run P w = .ok v' w' ∧ w'.ownsRow base e size v' (n + m) (xs ++ news) ∧ w.grownBy w' v.ownBlock := by
  by_cases hm : m = 0
  · subst hm
    have hn0 : news = [] := List.eq_nil_of_length_eq_zero (by omega)
    subst hn0
    cases A with
    | some ad =>
      obtain ⟨v', w', h1, h2, h3, _⟩ := run_append_own (P := P) w base t ty e i z size bytes ht hi hz hsize hby hzs hsz v n xs hown ad 0 c [] hl (fun j u hj => by simp at hj) h1 h63 hbytes hbase
      exact ⟨v', w', h1, h2, h3⟩
    | none =>
      refine ⟨v, w, ?_, by simpa using hown, ⟨rfl, rfl, rfl, Nat.le_refl _, fun _ _ _ => rfl⟩⟩
      rcases hown.2 with ⟨rfl, rfl⟩ | ⟨g, cap, cur, rfl, hg, hh, hnc, hcm, hcs, htk⟩
      · simp [Builtin.append_, run_underlying ht, sizeOf, typeInfo, zeroValue, hi, hz, Builtin.firstCells, Builtin.lenOf]
      · have hs : Src P i.size t (.slice none 0 c) 0 [] w := Src.ofNil w ht c
        exact run_append_room_src w t t ty e i ht hi g 0 n cap _ 0 [] hs hnc (fun j hj => absurd hj (by simp)) (fun j hj => absurd hj (by simp))
  · rcases hA with h | ⟨ad, rfl, hc⟩
    · exact absurd h hm
    · obtain ⟨v', w', h1, h2, h3, _⟩ := run_append_own (P := P) w base t ty e i z size bytes ht hi hz hsize hby hzs hsz v n xs hown ad m c news hl hc h1 h63 hbytes hbase
      exact ⟨v', w', h1, h2, h3⟩

/-- The same, as a step of a walk. -/
theorem wpList_append_src {P : Program} {w : World} {ops : Array Oper} {rest : List Oper} {o : Oper} {a : Act} {Q : Exit → Act → World → Prop} (hgd : o.guard = none) (s x : Operand) (t : TypeId)
    (ho : o.op = .call { callee := .builtin .append, args := #[s, x], argTypes := #[t, t] }) (v u : Value) (hs : a.eval s = v) (hx : a.eval x = u) (R : Value → World → Prop)
    (hr : ∃ v' w', (Builtin.append_ #[t, t] o.type #[v, u]).run P w = .ok v' w' ∧ R v' w')
    (h : ∀ v' w', R v' w' → wpList P ops Q rest (a.put o.dst v') w') : wpList P ops Q (o :: rest) a w := by
  obtain ⟨v', w', h1, h2⟩ := hr
  exact Lib.wpList_append_run _ hgd _ _ _ _ ho _ _ hs hx _ _ h1 (h v' w' h2)

/-- As a step of a region that draws. -/
theorem step_append_src {P : Program} {ops : Array Oper} {o : Oper} {a : Act} {w : World} {K : Act → World → Prop} {Q : Exit → Act → World → Prop} {E : Prop}
    (hg : o.guard = none) (s x : Operand) (t : TypeId) (hop : o.op = Op.call { callee := Callee.builtin Builtin.append, args := #[s, x], argTypes := #[t, t] })
    (v u : Value) (hs : a.eval s = v) (hx : a.eval x = u) (R : Value → World → Prop) (hr : ∃ v' w', (Builtin.append_ #[t, t] o.type #[v, u]).run P w = .ok v' w' ∧ R v' w') (hK : ∀ v' w', R v' w' → K (a.put o.dst v') w') :
    if Region.wanted o (yielded ops a.tmps) = true then Oper.wp P o a w K Q else E := by
  obtain ⟨v', w', h1, h2⟩ := hr
  have hw : Region.wanted o (yielded ops a.tmps) = true := by simp [Region.wanted, hg]
  rw [if_pos hw]
  unfold Oper.wp
  simp [execOp, hop, resolve, invoke, builtin, hs, hx, h1, Result.andThen]
  exact hK v' w' h2

/-- A row of the call's own, of elements of one cell. -/
def OwnV (w : World) (base : Nat) (e : TypeId) (v : Value) (xs : List Value) : Prop := w.ownsRow base e 1 v xs.length xs
theorem OwnV.after {w w' : World} {base : Nat} {e : TypeId} {v : Value} {xs : List Value} (h : OwnV w base e v xs) (hb : Below w.heap.size w w') : OwnV w' base e v xs := own_keep h fun g hg => hb.block g (own_lt h g hg).2
theorem OwnV.empty (w : World) (e : TypeId) : OwnV (w.alloc (.cells #[] e)) w.heap.size e (.slice (some ⟨w.heap.size, 0, none⟩) 0 0) [] := World.ownsRow_made w #[] 0 (Nat.le_refl _) (by decide) rfl
theorem OwnV.append {P : Program} {w : World} {base : Nat} {e : TypeId} {v : Value} {xs : List Value} (hown : OwnV w base e v xs) (t ty : TypeId) (i : TypeInfo) (z : Value) (bytes : Nat) (ht : P.underlying t = some (.slice e)) (hi : P.info? e = some i) (hz : i.zero = some z)
    (hsize : i.size = 1) (hby : i.bytes = bytes) (hzs : z.cells.size = 1) (hb2 : bytes ≤ 100) (A : Option Addr) (m c : Nat) (news : List Value) (hA : m = 0 ∨ ∃ ad, A = some ad ∧ ∀ j u, news[j]? = some u → w.cell? (ad.add j) = some u) (hl : news.length = m) (h1 : ∀ u ∈ news, u.oneCell' = true)
    (hs : xs.length + m ≤ 1000000) (hbase : base ≤ w.heap.size) :
    ∃ v' w', (Builtin.append_ #[t, t] ty #[v, .slice A m c]).run P w = .ok v' w' ∧ (OwnV w' base e v' (xs ++ news) ∧ w.grownBy w' v.ownBlock ∧ Below base w w') := by
  obtain ⟨v', w', h2, h3, h4⟩ := run_append_far (P := P) base t ty e i z 1 bytes ht hi hz hsize hby hzs (by decide) v xs.length xs hown A m c news hA (by omega) h1 (by unfold maxLen; omega) (by
    have : (xs.length + m) * bytes ≤ 1000000 * 100 := Nat.mul_le_mul hs hb2
    omega) hbase
  refine ⟨v', w', h2, by unfold OwnV; rw [List.length_append, hl]; exact h3, h4, (Below.refl base w).grown h4 hbase (fun k hk => (own_lt hown k hk).1)⟩
/-- One more. -/
theorem OwnV.one {P : Program} {w : World} {base : Nat} {e : TypeId} {v : Value} {xs : List Value} (hown : OwnV w base e v xs) (t ty : TypeId) (i : TypeInfo) (z : Value) (bytes : Nat) (ht : P.underlying t = some (.slice e)) (hi : P.info? e = some i) (hz : i.zero = some z)
    (hsize : i.size = 1) (hby : i.bytes = bytes) (hzs : z.cells.size = 1) (hb2 : bytes ≤ 100) (x : Value) (h1 : x.oneCell' = true) (hs : xs.length + 1 ≤ 1000000) (hbase : base ≤ w.heap.size) :
    ∃ v' w', (Builtin.append_ #[t, t] ty #[v, .slice (some ⟨w.heap.size, 0, none⟩) 1 1]).run P (w.alloc (.cells #[x] e)) = .ok v' w' ∧ (OwnV w' base e v' (xs ++ [x]) ∧ Below base w w') := by
  obtain ⟨v', w', h2, h3, h4, h5⟩ := OwnV.append (P := P) (w := w.alloc (.cells #[x] e)) (World.ownsRow.alloc hown _) t ty i z bytes ht hi hz hsize hby hzs hb2 (some ⟨w.heap.size, 0, none⟩) 1 1 [x] (Or.inr ⟨_, rfl, cell_one_new _ _ _⟩) rfl (fun u hu => by rw [List.mem_singleton] at hu; rw [hu]; exact h1) hs (by rw [World.size_alloc]; omega)
  exact ⟨v', w', h2, h3, ((Below.refl base w).alloc hbase _).trans h5⟩

theorem Tryz.infoStr2 : (Tryz.prog.info? 9).map (fun i => (i.zero, i.size, i.bytes)) = some (some (.string ByteArray.empty), 1, 16) := by kernel_rfl
theorem Tryz.infoRow : (Tryz.prog.info? 35).map (fun i => (i.zero, i.size, i.bytes)) = some (some (.slice none 0 0), 1, 24) := by kernel_rfl
end Go.Proofs.YtchokmhfgikglaaGreatDoor

namespace Go.Proofs.YtchokmhfgikglaaGreatDoor
set_option maxRecDepth 100000
open Go.RowKit Go.Shelf Go.Lib

set_option maxHeartbeats 3200000 in
theorem about_var (g : Nat) (c : Nat) (v : Value) (xs : List Rat) (m j : Nat) (w : World) (hg : w.cell? ⟨g, 0, none⟩ = some v) (hgl : g < w.heap.size) (h : RowIn w 0 w.heap.size v xs) (hz : ∀ q ∈ xs, Sz q m) (hj : m + (1 + xs.length * (m + 1) + 1) + 1 ≤ j) (hlen : 1 + xs.length * (j + j + 1) ≤ 390) (hm : j + j ≤ 390) (hl0 : 2 ≤ xs.length) (hl1 : xs.length ≤ 1000) :
    Calls Tryz.prog 128 #[.string ⟨#[118, 97, 114]⟩, .slice (some ⟨g, 0, none⟩) 1 c] w (GivesC (varQ xs) 0 w) := by
  have HV : Hid (∀ W, Below w.heap.size w W → Calls Tryz.prog 193 #[v] W (GivesC (varQ xs) 0 W)) := fun W hb => var_q v xs m j W (h.after hb) hz hj hlen hm hl0 hl1
  obtain ⟨A, cx, rfl, h'⟩ := h
  clear h'
  generalize varQ xs = M at *
  generalize xs.length = n at *
  clear hz hj hlen hm hl0 hl1
  have b0 := Blk.new w 60 #[.bool false, .slice none 0 0, .slice none 0 0]
  have hB : Below w.heap.size w (w.alloc (.cells #[.bool false, .slice none 0 0, .slice none 0 0] 60)) := (Below.refl _ _).alloc (Nat.le_refl _) _
  have x0 := (hB.cell (p := ⟨g, 0, none⟩) hgl).trans hg
  go_enter Tryz.func128, Tryz.ntmps128
  go_wp2_with fail
  generalize w.alloc (.cells #[.bool false, .slice none 0 0, .slice none 0 0] 60) = w2 at *
  go_wp2_with fail
  go_fit (HV.out _ hB)
  rintro e w6 ⟨v6, rfl, ⟨an, ad, rfl, han, had⟩, hb6⟩
  have hlt2 := b0.lt
  replace b0 := b0.below hb6 hlt2
  replace hB := hB.trans (hb6.mono hB.size)
  obtain ⟨A1, k1, rfl, m1⟩ := nt_len han
  obtain ⟨A2, k2, rfl, m2⟩ := nt_len had
  have n1 := han.low (show w.heap.size + 1 ≤ _ from hlt2)
  have n2 := had.low (show w.heap.size + 1 ≤ _ from hlt2)
  have f0 := b0.free 0
  have f1 := b0.free 1
  have f2 := b0.free 2
  have e0 := b0.cell 0
  have e1 := b0.cell 1
  have e2 := b0.cell 2
  obtain ⟨r0, r1, r2, hR, hBf⟩ := store3 b0 hB (Nat.le_refl _) (qS M) (.slice A1 (lim (qN M)).length k1) (.slice A2 (lim M.den).length k2) n1 n2
  have HR := Lib.hid hR
  have HBF := Lib.hid hBf
  clear n1 n2 hB b0 hR hBf han had m1 m2 hb6 x0
  unfold St3 at *
  go_wp2_with fail
  refine bodyPost_ret (v := .tuple #[.agg #[.bool (qS M), .slice A1 (lim (qN M)).length k1, .slice A2 (lim M.den).length k2], .int .i64 0]) ?_ rfl ⟨_, rfl, HR.out, HBF.out⟩
  simp [results, Tryz.results128, go_sem, r0, r1, r2]

theorem own_one {w : World} {base : Nat} {e : TypeId} {v x : Value} (h : OwnV w base e v [x]) : ∃ g c, v = .slice (some ⟨g, 0, none⟩) 1 c ∧ w.cell? ⟨g, 0, none⟩ = some x ∧ base ≤ g ∧ g < w.heap.size := by
  obtain ⟨hl, ⟨_, h0⟩ | ⟨g, cap, cur, rfl, hb, hg, hnc, hcm, hcs, htake⟩⟩ := h
  · cases h0
  · refine ⟨g, cap, rfl, ?_, hb, (Array.getElem?_eq_some_iff.1 hg).1⟩
    rw [cell_of_row w g 0 cur e (0, 0) hg]
    have h1 : (cur.toList.take ([x].length * 1))[0]? = some x := by rw [htake]; rfl
    rw [List.getElem?_take] at h1
    split at h1
    · simpa using h1
    · cases h1

set_option maxHeartbeats 6400000 in
/-- One name's row. -/
theorem rows_one (p : Nat) (D : Nat → Prop) (ns : List (List Nat)) (rs : List (List Rat)) (n : List Nat) (r : List Rat) (g : Nat) (c off : Nat) (w : World) (h : SessPr w p D ns rs) (hp : PureS ns rs) (hnb : Byt n)
    (hg : w.cell? ⟨g, off, none⟩ = some (.string (strN n))) (hgl : g < w.heap.size) (hh : hasG ns n = true) (hr : rs[atG ns n]? = some r) :
    Calls Tryz.prog 126 #[.agg #[.pointer (some ⟨p, 0, none⟩)], .slice (some ⟨g, off, none⟩) 1 c] w fun e w' =>
      (∃ g' c' v, e = .returned (.tuple #[.slice (some ⟨g', 0, none⟩) 1 c', .int .i64 0]) ∧ w'.cell? ⟨g', 0, none⟩ = some v ∧ g' < w'.heap.size ∧ RowIn w' 0 w'.heap.size v r) ∧ Below w.heap.size w w' := by
  have HGET : Hid (∀ W, Below w.heap.size w W → Calls Tryz.prog 11 #[.pointer (some ⟨p, 0, none⟩), .string (strN n)] W (fun e w' => Below W.heap.size W w' ∧ ∃ v', e = .returned (.tuple #[v', .int .i64 0]) ∧ RowIn w' W.heap.size w'.heap.size v' r)) := fun W hb => by
    refine (sessGet_any p D ns rs n W (h.below hb) hp hnb).mono ?_
    rintro e w' ⟨h1, h2 | h2⟩
    · rw [hh] at h2; cases h2.1
    · obtain ⟨_, v', r', h3, h4, h5⟩ := h2
      rw [hr] at h3
      cases h3
      exact ⟨h1, v', h4, h5⟩
  obtain ⟨i0, hi, hz0, hz1, hz2⟩ := info_parts Tryz.infoRow
  have hal : Below w.heap.size w (w.alloc (.cells #[.pointer (some ⟨p, 0, none⟩)] 64)) := (Below.refl _ _).alloc (Nat.le_refl _) _
  have b0 := Blk.new w 64 #[.pointer (some ⟨p, 0, none⟩)]
  clear h hp hh hr
  generalize strN n = t at *
  go_enter Tryz.func126, Tryz.ntmps126
  go_wp2_with fail
  generalize w.alloc (.cells #[.pointer (some ⟨p, 0, none⟩)] 64) = w2 at *
  have x0 := b0.cell 0
  have x1 := (hal.cell (p := ⟨g, off, none⟩) hgl).trans hg
  have HAL := Lib.hid hal
  clear b0 hal hg
  go_loopw [6, 13] (fun v i wr => (i = .int .i64 0 ∧ v = .slice none 0 0 ∧ wr = w2) ∨ (i = .int .i64 1 ∧ (∃ g' c' u, v = .slice (some ⟨g', 0, none⟩) 1 c' ∧ wr.cell? ⟨g', 0, none⟩ = some u ∧ g' < wr.heap.size ∧ RowIn wr 0 wr.heap.size u r) ∧ Below w.heap.size w wr)) (fun _ i _ => 1 - (RowKit.intOf i).toNat)
  case atStart => exact Or.inl ⟨rfl, rfl, rfl⟩
  case round =>
    rcases hrel with ⟨rfl, rfl, rfl⟩ | ⟨rfl, ⟨g', c', u, rfl, hc', hg', hr'⟩, hB⟩
    · have x2 : wr.cell? ⟨g, off + 0, none⟩ = some (.string t) := x1
      go_wp2_with fail
      go_fit (HGET.out _ HAL.out)
      rintro e w3 ⟨hb3, v3, rfl, hr3⟩
      obtain ⟨A, c3, rfl, hr3'⟩ := hr3
      have HR3 : Hid (RowIn w3 wr.heap.size w3.heap.size (.slice A r.length c3) r) := ⟨A, c3, rfl, hr3'⟩
      clear hr3'
      have HB3 := Lib.hid (HAL.out.trans (hb3.mono HAL.out.size))
      clear hb3
      have HAP := Lib.hid (OwnV.one (P := Tryz.prog) (w := w3) (base := w3.heap.size) (World.ownsRow_nil _ _ _ _) 32 32 i0 _ 24 Tryz.underlying32 hi hz0 hz1 hz2 rfl (by decide) (.slice A r.length c3) rfl (by simp) (Nat.le_refl _))
      go_wp2_with (at_builtin; refine wpList_append_src rfl _ _ 32 rfl _ _ rfl rfl _ HAP.out ?_)
      intro v5 w5 h5 hb5
      have ho5 : OwnV w5 w3.heap.size 35 v5 [.slice A r.length c3] := h5
      clear h5
      obtain ⟨g5, c5, rfl, hc5, _, hg5⟩ := own_one ho5
      have HR5 := Lib.hid ((HR3.out.after hb5).low (Nat.zero_le _))
      have HB5 := Lib.hid (HB3.out.trans (hb5.mono HB3.out.size))
      have HC5 := Lib.hid hc5
      clear ho5 hb5 hc5 HAP HR3 HB3
      go_wp2_with fail
      go_roundw
      case rel => exact Or.inr ⟨rfl, ⟨g5, c5, _, rfl, HC5.out, hg5, HR5.out⟩, HB5.out⟩
      case measure => simp [RowKit.intOf]
    · have HC' := Lib.hid hc'
      have HR' := Lib.hid hr'
      have HB := Lib.hid hB
      clear hc' hr' hB
      go_wp2_with fail
      refine bodyPost_ret (v := .tuple #[.slice (some ⟨g', 0, none⟩) 1 c', .int .i64 0]) ?_ rfl ⟨⟨g', c', u, rfl, HC'.out, hg', HR'.out⟩, HB.out⟩
      simp [results, Tryz.results126, go_sem]
end Go.Proofs.YtchokmhfgikglaaGreatDoor

namespace Go.Proofs.YtchokmhfgikglaaGreatDoor
set_option maxRecDepth 100000
open Go.RowKit

/-- A rational's text. -/
def prQ (q : Rat) : List Nat := sgn (qS q) ++ prn (qN q) ++ (if q.den = 1 then [] else 47 :: prn q.den)

set_option maxHeartbeats 6400000 in
theorem decPrint_q (v : Value) (q : Rat) (w : World) (h : RQ w 0 w.heap.size v q 80) :
    Calls Tryz.prog 26 #[v] w fun e w' => e = .returned (.string (strN (prQ q))) ∧ Below w.heap.size w w' := by
  have HNORM : Hid (∀ W, Below w.heap.size w W → Calls Tryz.prog 47 #[v] W (GivesF q W)) := fun W hb => prNorm_q v q 80 W (h.after hb) (by omega)
  have hsz := h.sz (by omega)
  have HPN : Hid (∀ v W, Nt W 0 W.heap.size v (lim (qN q)) → Calls Tryz.prog 50 #[v] W fun e w' => e = .returned (.string (strN (prn (qN q)))) ∧ Below W.heap.size W w') := fun v W h => by
    have := print_any v (lim (qN q)) W (dig_lim _) h (by have := hsz.1; omega)
    rw [val_lim] at this
    exact this
  have HPD : Hid (∀ v W, Nt W 0 W.heap.size v (lim q.den) → Calls Tryz.prog 50 #[v] W fun e w' => e = .returned (.string (strN (prn q.den))) ∧ Below W.heap.size W w') := fun v W h => by
    have := print_any v (lim q.den) W (dig_lim _) h (by have := hsz.2; omega)
    rw [val_lim] at this
    exact this
  obtain ⟨C, hC⟩ : ∃ C, cmpN q.den 1 = C := ⟨_, rfl⟩
  have HCMP : Hid (∀ u v W, Nt W 0 W.heap.size u (lim q.den) → Nt W 0 W.heap.size v (lim 1) → Calls Tryz.prog 51 #[u, v] W fun e w' => e = .returned (.int .i64 C) ∧ Below W.heap.size W w') := fun u v W h1 h2 => by
    have := cmp_any u v (lim q.den) (lim 1) W (dig_lim _) (dig_lim _) h1 h2 (by have := hsz.2; omega) (by have := lim_length_le (n := 1) (k := 1) (by decide); omega)
    rw [val_lim, val_lim, hC] at this
    exact this
  have HO : Hid (∀ W, Calls Tryz.prog 52 #[.int .u64 1] W (Gives (lim 1) W)) := fun W => of_any' 1 1 rfl W (by omega)
  have hl1 : (prn (qN q)).length ≤ 1000 := by have := prn_len_of hsz.1; omega
  have hl2 : (prn q.den).length ≤ 1000 := by have := prn_len_of hsz.2; omega
  have hl3 := sgn_len (qS q)
  have hadd1 : Hid (∀ W : World, (Op.stringOp .add (strN (sgn (qS q))) (strN (prn (qN q)))).run Tryz.prog W = .ok (.string (strN (sgn (qS q) ++ prn (qN q)))) W) := fun W => add_str _ _ (by omega) W
  have hadd2 : Hid (∀ W : World, (Op.stringOp .add ⟨#[47]⟩ (strN (prn q.den))).run Tryz.prog W = .ok (.string (strN (47 :: prn q.den))) W) := fun W => add_str [47] _ (by simp; omega) W
  have hadd3 : Hid (∀ W : World, (Op.stringOp .add (strN (sgn (qS q) ++ prn (qN q))) (strN (47 :: prn q.den))).run Tryz.prog W = .ok (.string (strN (sgn (qS q) ++ prn (qN q) ++ 47 :: prn q.den))) W) := fun W => add_str _ _ (by simp; omega) W
  have HE1 : Hid (q.den = 1 → strN (sgn (qS q) ++ prn (qN q)) = strN (prQ q)) := fun h => by unfold prQ; rw [if_pos h, List.append_nil]
  have HE2 : Hid (¬ q.den = 1 → strN (sgn (qS q) ++ prn (qN q) ++ 47 :: prn q.den) = strN (prQ q)) := fun h => by unfold prQ; rw [if_neg h]
  have HC1 : Hid (q.den = 1 → (C != 0) = false) := fun h => by rw [← hC, cmpN_eq h]; rfl
  have HC2 : Hid (¬ q.den = 1 → (C != 0) = true) := fun h => by
    rw [← hC]
    unfold cmpN
    split
    · rfl
    · split
      · rfl
      · exact absurd (by omega) h
  obtain ⟨s, x, d, ⟨xn, xd, rfl, hxn, hxd⟩, rest⟩ := h
  obtain ⟨G1, j1, rfl, m1⟩ := nt_len hxn
  obtain ⟨G2, j2, rfl, m2⟩ := nt_len hxd
  clear hxn hxd m1 m2 rest hsz hl1 hl2 hl3 hC
  have HSG : Hid (∀ W a b, Calls Tryz.prog 49 #[.agg #[.bool (qS q), a, b]] W fun e w' => e = .returned (.string (strN (sgn (qS q)))) ∧ Below W.heap.size W w') := fun W a b => sign_any _ (qS q) a b W rfl
  generalize strN (prQ q) = TQ at *
  generalize strN (sgn (qS q) ++ prn (qN q) ++ 47 :: prn q.den) = T3 at *
  generalize strN (sgn (qS q) ++ prn (qN q)) = T2 at *
  generalize strN (47 :: prn q.den) = T1 at *
  generalize strN (sgn (qS q)) = S0 at *
  generalize strN (prn (qN q)) = S1 at *
  generalize strN (prn q.den) = S2 at *
  have b0 := Blk.new w 60 #[.bool s, .slice G1 x.length j1, .slice G2 d.length j2]
  have hB : Below w.heap.size w (w.alloc (.cells #[.bool s, .slice G1 x.length j1, .slice G2 d.length j2] 60)) := (Below.refl _ _).alloc (Nat.le_refl _) _
  go_enter Tryz.func26, Tryz.ntmps26
  go_wp2_with fail
  generalize w.alloc (.cells #[.bool s, .slice G1 x.length j1, .slice G2 d.length j2] 60) = w2 at *
  have c0 := b0.cell 0
  have c1 := b0.cell 1
  have c2 := b0.cell 2
  go_wp2_with fail
  go_fit (HNORM.out _ hB)
  rintro e w3 ⟨v3, rfl, ⟨an, ad, rfl, h1, h2⟩, hb⟩
  have hlt := b0.lt
  have q0 := b0.below hb b0.lt
  replace hB := hB.trans (hb.mono hB.size)
  obtain ⟨A6, c6, rfl, m6⟩ := nt_len h1
  obtain ⟨A7, c7, rfl, m7⟩ := nt_len h2
  have hx := RB.set q0 (h1.low (show w.heap.size + 1 ≤ _ from hlt)) (h2.low (show w.heap.size + 1 ≤ _ from hlt)) (Nat.lt_succ_self w.heap.size)
  have hB5 := below_set3 hB (Nat.le_refl _) (.bool (qS q)) (.slice A6 (lim (qN q)).length c6) (.slice A7 (lim q.den).length c7)
  have r0 := q0.cell 0
  have r1 := q0.cell 1
  have r2 := q0.cell 2
  have f0 := q0.free 0
  have f1 := q0.free 1
  have f2 := q0.free 2
  have HX := Lib.hid hx
  have HB5 := Lib.hid hB5
  clear c0 c1 c2 b0 q0 h1 h2 m6 m7 hx hB5 hB hb HNORM hlt
  unfold St3 at HX
  go_wp2_with fail
  clear r0 r1 r2 f0 f1 f2
  generalize ((w3.setCell ⟨w.heap.size, 0, none⟩ (.bool (qS q))).setCell ⟨w.heap.size, 1, none⟩ (.slice A6 (lim (qN q)).length c6)).setCell ⟨w.heap.size, 2, none⟩ (.slice A7 (lim q.den).length c7) = w5 at *
  obtain ⟨F1, l1, F2, l2, hblk, n1, n2, _, _⟩ := HX.out
  have HBLK := Lib.hid hblk
  have HN1 := Lib.hid (n1.low (Nat.zero_le _))
  have HN2 := Lib.hid (n2.low (Nat.zero_le _))
  clear n1 n2 hblk HX
  have c0 := HBLK.out.cell 0
  have c1 := HBLK.out.cell 1
  have c2 := HBLK.out.cell 2
  have hg := HBLK.out.lt
  have hk5 : Below w5.heap.size w5 w5.drew := (Below.refl _ _).drew
  have ad1 := hadd1.out
  go_region_held3 (fun W => W.cell? ⟨w.heap.size, 0, none⟩ = some (.bool (qS q)) ∧ W.cell? ⟨w.heap.size, 1, none⟩ = some (.slice F1 (lim (qN q)).length l1) ∧ W.cell? ⟨w.heap.size, 2, none⟩ = some (.slice F2 (lim q.den).length l2))
    (first | exact s3_of hk7 c0 c1 c2 hg | exact s3_of hk6 c0 c1 c2 hg | exact s3_of hk5 c0 c1 c2 hg | fail)
    (first
      | (have hx9 := hk6; go_at_call 50; go_fit (HPN.out _ _ (HN1.out.after hk6)); rintro e w7 ⟨rfl, hb7⟩; have hk7 : Below w5.heap.size w5 w7 := hk6.trans (hb7.mono hk6.size))
      | (go_at_call 49; go_fit (HSG.out _ _ _); rintro e w6 ⟨rfl, hb6⟩; have hk6 : Below w5.heap.size w5 w6 := Below.trans hk5 hb6)
      | fail)
  have HBLK7 := Lib.hid (HBLK.out.below hk7 hg)
  have HN27 := Lib.hid (HN2.out.after hk7)
  have HB7 := Lib.hid (HB5.out.trans (hk7.mono HB5.out.size))
  clear hk5 hk6 hk7 hb6 hb7 c0 c1 c2 hg ad1 HBLK HN1 HN2 HB5 hx9 HSG HPN
  have c0 := HBLK7.out.cell 0
  have c1 := HBLK7.out.cell 1
  have c2 := HBLK7.out.cell 2
  have hg := HBLK7.out.lt
  have hk5 : Below w7.heap.size w7 w7.drew := (Below.refl _ _).drew
  by_cases hd1 : q.den = 1
  · have hcn := HC1.out hd1
    have HE := Lib.hid (HE1.out hd1)
    clear HC1 HC2 HE1 HE2 hd1 HPD
    go_wp2_with fail
    go_region_held3 (fun W => W.cell? ⟨w.heap.size, 0, none⟩ = some (.bool (qS q)) ∧ W.cell? ⟨w.heap.size, 1, none⟩ = some (.slice F1 (lim (qN q)).length l1) ∧ W.cell? ⟨w.heap.size, 2, none⟩ = some (.slice F2 (lim q.den).length l2))
      (first | exact s3_of hk9 c0 c1 c2 hg | exact s3_of hk8 c0 c1 c2 hg | exact s3_of hk5 c0 c1 c2 hg | fail)
      (first
        | (have hx9 := hk8; go_at_call 51; go_fit (HCMP.out _ _ _ (HN27.out.after hk8) h8); rintro e w9 ⟨rfl, hb9⟩; have hk9 : Below w7.heap.size w7 w9 := hk8.trans (hb9.mono hk8.size))
        | (go_at_call 52; go_fit (HO.out _); rintro e w8 ⟨v8, rfl, h8, hb8⟩; replace h8 := h8.low (Nat.zero_le _); have hk8 : Below w7.heap.size w7 w8 := Below.trans hk5 hb8)
        | fail)
    have HB9 := Lib.hid (HB7.out.trans (hk9.mono HB7.out.size))
    clear hk5 hk8 hk9 hb8 hb9 c0 c1 c2 h8
    go_wp2_with fail
    go_ret
    exact ⟨by rw [← HE.out]; rfl, HB9.out⟩
  · have hcn := HC2.out hd1
    have HE := Lib.hid (HE2.out hd1)
    clear HC1 HC2 HE1 HE2 hd1
    go_wp2_with fail
    go_region_held3 (fun W => W.cell? ⟨w.heap.size, 0, none⟩ = some (.bool (qS q)) ∧ W.cell? ⟨w.heap.size, 1, none⟩ = some (.slice F1 (lim (qN q)).length l1) ∧ W.cell? ⟨w.heap.size, 2, none⟩ = some (.slice F2 (lim q.den).length l2))
      (first | exact s3_of hk9 c0 c1 c2 hg | exact s3_of hk8 c0 c1 c2 hg | exact s3_of hk5 c0 c1 c2 hg | fail)
      (first
        | (have hx9 := hk8; go_at_call 51; go_fit (HCMP.out _ _ _ (HN27.out.after hk8) h8); rintro e w9 ⟨rfl, hb9⟩; have hk9 : Below w7.heap.size w7 w9 := hk8.trans (hb9.mono hk8.size))
        | (go_at_call 52; go_fit (HO.out _); rintro e w8 ⟨v8, rfl, h8, hb8⟩; replace h8 := h8.low (Nat.zero_le _); have hk8 : Below w7.heap.size w7 w8 := Below.trans hk5 hb8)
        | fail)
    have HB9 := Lib.hid (HB7.out.trans (hk9.mono HB7.out.size))
    have HBLK9 := HBLK7.out.below hk9 hg
    have HN9 := Lib.hid (HN27.out.after hk9)
    clear hk5 hk8 hk9 hb8 hb9 c0 c1 c2 h8 HBLK7 HN27 hg
    have c0 := HBLK9.cell 0
    have c1 := HBLK9.cell 1
    have c2 := HBLK9.cell 2
    have hg := HBLK9.lt
    have ad2 := hadd2.out
    have ad3 := hadd3.out
    have hk9 : Below w9.heap.size w9 w9.drew := (Below.refl _ _).drew
    go_wp2_with (go_at_call 50; go_fit (HPD.out _ _ HN9.out); rintro e w11 ⟨rfl, hb11⟩)
    go_ret
    exact ⟨by rw [← HE.out]; rfl, HB9.out.trans (hb11.mono HB9.out.size)⟩
end Go.Proofs.YtchokmhfgikglaaGreatDoor

namespace Go.Proofs.YtchokmhfgikglaaGreatDoor
set_option maxRecDepth 100000
open Go.RowKit Go.Shelf Go.Lib

set_option maxHeartbeats 6400000 in
theorem row_var (p : Nat) (D : Nat → Prop) (ns : List (List Nat)) (rs : List (List Rat)) (n : List Nat) (r : List Rat) (g : Nat) (m j : Nat) (w : World) (h : SessPr w p D ns rs) (hp : PureS ns rs) (hnb : Byt n)
    (hg0 : w.cell? ⟨g, 0, none⟩ = some (.string ⟨#[118, 97, 114]⟩)) (hg1 : w.cell? ⟨g, 1, none⟩ = some (.string (strN n))) (hgl : g < w.heap.size) (hh : hasG ns n = true) (hr : rs[atG ns n]? = some r)
    (hz : ∀ q ∈ r, Sz q m) (hj : m + (1 + r.length * (m + 1) + 1) + 1 ≤ j) (hlen : 1 + r.length * (j + j + 1) ≤ 390) (hm : j + j ≤ 390) (hl0 : 2 ≤ r.length) (hl1 : r.length ≤ 1000) (hsz : Sz (varQ r) 80) :
    Calls Tryz.prog 66 #[.agg #[.pointer (some ⟨p, 0, none⟩)], .slice (some ⟨g, 0, none⟩) 2 2] w fun e w' => e = .returned (.string (strN (prQ (varQ r)))) ∧ Below w.heap.size w w' := by
  have HROWS : Hid (∀ W, Below w.heap.size w W → Calls Tryz.prog 126 #[.agg #[.pointer (some ⟨p, 0, none⟩)], .slice (some ⟨g, 1, none⟩) 1 1] W fun e w' =>
      (∃ g' c' v, e = .returned (.tuple #[.slice (some ⟨g', 0, none⟩) 1 c', .int .i64 0]) ∧ w'.cell? ⟨g', 0, none⟩ = some v ∧ g' < w'.heap.size ∧ RowIn w' 0 w'.heap.size v r) ∧ Below W.heap.size W w') := fun W hb =>
    rows_one p D ns rs n r g 1 1 W (h.below hb) hp hnb ((hb.cell (p := ⟨g, 1, none⟩) hgl).trans hg1) (Nat.lt_of_lt_of_le hgl hb.size) hh hr
  have HAB : Hid (∀ W g' c' v, W.cell? ⟨g', 0, none⟩ = some v → g' < W.heap.size → RowIn W 0 W.heap.size v r → Calls Tryz.prog 128 #[.string ⟨#[118, 97, 114]⟩, .slice (some ⟨g', 0, none⟩) 1 c'] W (GivesC (varQ r) 0 W)) := fun W g' c' v h1 h2 h3 =>
    about_var g' c' v r m j W h1 h2 h3 hz hj hlen hm hl0 hl1
  generalize varQ r = M at *
  have HPR : Hid (∀ W v, RQ W 0 W.heap.size v M 80 → Calls Tryz.prog 26 #[v] W fun e w' => e = .returned (.string (strN (prQ M))) ∧ Below W.heap.size W w') := fun W v h => decPrint_q v M W h
  have HT : Hid (∀ W s, Calls Tryz.prog 109 #[.string s, .int .i64 0] W fun e w' => e = .returned (.string s) ∧ W = w') := fun W s => told_ok s W
  clear h hp hh hr hz hj hlen hm hl0 hl1 hnb
  generalize strN (prQ M) = T at *
  generalize strN n = tn at *
  have hal : Below w.heap.size w (w.alloc (.cells #[.pointer (some ⟨p, 0, none⟩)] 64)) := (Below.refl _ _).alloc (Nat.le_refl _) _
  have b0 := Blk.new w 64 #[.pointer (some ⟨p, 0, none⟩)]
  go_enter Tryz.func66, Tryz.ntmps66
  have hx0 := (hal.cell (p := ⟨g, 0, none⟩) hgl).trans hg0
  have HN : Hid (∀ W, Calls Tryz.prog 65 #[.string ⟨#[118, 97, 114]⟩] W fun e w' => e = .returned (.int .i64 1) ∧ W = w') := fun W => names_var W
  go_wp2_with fail
  generalize w.alloc (.cells #[.pointer (some ⟨p, 0, none⟩)] 64) = w2 at *
  go_fit (HN.out _)
  rintro e w3 ⟨rfl, rfl⟩
  have x0 : w2.cell? ⟨w.heap.size, 0, none⟩ = some (.pointer (some ⟨p, 0, none⟩)) := b0.cell 0
  have hgl2 := Nat.lt_of_lt_of_le hgl hal.size
  have hgb := b0.lt
  go_wp2_with fail
  go_region_held3 (fun W => W.cell? ⟨w.heap.size, 0, none⟩ = some (.pointer (some ⟨p, 0, none⟩)))
    (first | exact x0 | exact (HB4.out.cell (p := ⟨w.heap.size, 0, none⟩) hgb).trans x0 | fail)
    (first
      | (go_at_call 126; go_fit (HROWS.out _ hal.drew); rintro e w4 ⟨⟨g4, c4, v4, rfl, hc4, hg4, hr4⟩, hb4⟩; have HC4 := Lib.hid hc4; have HR4 := Lib.hid hr4; have HB4 := Lib.hid (show Below w2.heap.size w2 w4 from Below.trans (Below.drew (Below.refl _ _)) hb4); clear hc4 hr4 hb4)
      | fail)
  have hy0 := (HB4.out.cell (p := ⟨g, 0, none⟩) hgl2).trans hx0
  have hBw := hal.trans (HB4.out.mono hal.size)
  clear x0 hx0
  go_wp2_with fail
  go_fit (HAB.out _ _ _ _ HC4.out hg4 HR4.out)
  rintro e w5 ⟨v5, rfl, ⟨an, ad, rfl, han, had⟩, hb5⟩
  obtain ⟨A1, k1, rfl, m1⟩ := nt_len han
  obtain ⟨A2, k2, rfl, m2⟩ := nt_len had
  have hal6 : Below w5.heap.size w5 (w5.alloc (.cells #[.bool (qS M), .slice A1 (lim (qN M)).length k1, .slice A2 (lim M.den).length k2] 60)) := (Below.refl _ _).alloc (Nat.le_refl _) _
  have HRQ := Lib.hid (RQ.of ⟨_, _, rfl, (han.low (Nat.zero_le _)).after hal6, (had.low (Nat.zero_le _)).after hal6⟩ hsz)
  have hB5 := hBw.trans (hb5.mono hBw.size)
  have HB6 := Lib.hid (below_one hB5 : Below w.heap.size w (w5.alloc (.cells #[.bool (qS M), .slice A1 (lim (qN M)).length k1, .slice A2 (lim M.den).length k2] 60)))
  clear hal6 han had m1 m2 hb5 hB5 hBw
  go_wp2_with fail
  generalize w5.alloc (.cells #[.bool (qS M), .slice A1 (lim (qN M)).length k1, .slice A2 (lim M.den).length k2] 60) = w6 at *
  go_fit (HPR.out _ _ HRQ.out)
  rintro e w7 ⟨rfl, hb7⟩
  have HB7 := Lib.hid (HB6.out.trans (hb7.mono HB6.out.size))
  clear hb7 HB6 HRQ
  go_wp2_with fail
  go_fit (HT.out _ _)
  rintro e w8 ⟨rfl, rfl⟩
  go_wp2_with fail
  go_ret
  exact ⟨rfl, HB7.out⟩
end Go.Proofs.YtchokmhfgikglaaGreatDoor

namespace Go.Proofs.YtchokmhfgikglaaGreatDoor
set_option maxRecDepth 100000
open Go.RowKit Go.Shelf Go.Lib

/-- What lies behind the first word like that. -/
def aft (s x : ByteArray) : ByteArray := ⟨(Lib.cut s.data.toList x.data.toList).2.1.toArray⟩

theorem cut1_any (s x : ByteArray) (w : World) (hs : s.size ≤ 1000000) (hm : MaxAt w) :
    Calls Tryz.prog 69 #[.string s, .string x] w fun e w' => (∃ a b, e = .returned (.tuple #[.string a, .string (aft s x), .bool b])) ∧ Below w.heap.size w w' := by
  obtain ⟨m, hm⟩ := hm
  refine (Any.strings_Cut Tryz.lays145 s x m w (by omega) hm).mono ?_
  rintro e w' ⟨rfl, n, rfl⟩
  exact ⟨⟨_, _, rfl⟩, below_drewN (Below.refl _ _) _⟩

set_option maxHeartbeats 6400000 in
theorem let_any (p : Nat) (D : Nat → Prop) (ns : List (List Nat)) (rs : List (List Rat)) (n t : List Nat) (s : ByteArray) (g nw : Nat) (w : World) (h : SessPr w p D ns rs) (hp : PureS ns rs) (hm : MaxAt w)
    (hnb : Byt n) (hn9 : n.length ≤ 1000000) (htb : Byt t) (ht9 : t.length ≤ 1000000) (ht : (textV t).2.length ≤ 256)
    (hg0 : w.cell? ⟨g, 0, none⟩ = some (.string ⟨#[108, 101, 116]⟩)) (hg1 : w.cell? ⟨g, 1, none⟩ = some (.string (strN n))) (hg2 : w.cell? ⟨g, 2, none⟩ = some (.string ⟨#[61]⟩)) (hgl : g < w.heap.size) (hgD : ¬ D g) (hnw : 3 ≤ nw) (hnw2 : nw ≤ 1000000)
    (hs0 : s.size ≤ 1000000) (hs1 : (aft s ⟨#[108, 101, 116]⟩).size ≤ 1000000) (hs2 : (aft (aft s ⟨#[108, 101, 116]⟩) (strN n)).size ≤ 1000000) (hst : aft (aft (aft s ⟨#[108, 101, 116]⟩) (strN n)) ⟨#[61]⟩ = strN t) (hok : letE ns n t = 0) :
    Calls Tryz.prog 59 #[.agg #[.pointer (some ⟨p, 0, none⟩)], .string s, .slice (some ⟨g, 0, none⟩) nw nw] w fun e w' =>
      ∃ D', e = .returned (.string ⟨#[111, 107]⟩) ∧ SessPr w' p D' (letN ns n t) (letR ns rs n t) ∧ Turned D w w' ∧ (∀ k, D' k → D k ∨ w.heap.size ≤ k) := by
  have HLET : Hid (∀ W, Below w.heap.size w W → Calls Tryz.prog 8 #[.pointer (some ⟨p, 0, none⟩), .string (strN n), .string (strN t)] W (SetPost p D 0 (letN ns n t) (letR ns rs n t) W)) := fun W hb => by
    have := sessLet_any p D ns rs n t W (h.below hb) hp (hm.below hb) hnb hn9 htb ht9 ht
    rw [hok] at this
    exact this
  have hDl : ∀ k, D k → k < w.heap.size := by
    obtain ⟨_, _, _, _, _, _, _, _, h7, _⟩ := h
    exact h7
  have HDL := Lib.hid hDl
  have HT : Hid (∀ W s, Calls Tryz.prog 109 #[.string s, .int .i64 0] W fun e w' => e = .returned (.string s) ∧ W = w') := fun W s => told_ok s W
  obtain ⟨LN, hLN⟩ : ∃ LN : Nat → ByteArray, LN = fun k => if k = 0 then s else if k = 1 then aft s ⟨#[108, 101, 116]⟩ else if k = 2 then aft (aft s ⟨#[108, 101, 116]⟩) (strN n) else strN t := ⟨_, rfl⟩
  obtain ⟨WD, hWD⟩ : ∃ WD : Nat → ByteArray, WD = fun k => if k = 0 then ⟨#[108, 101, 116]⟩ else if k = 1 then strN n else ⟨#[61]⟩ := ⟨_, rfl⟩
  have HCUT : Hid (∀ k, k < 3 → ∀ W, Below w.heap.size w W → Calls Tryz.prog 69 #[.string (LN k), .string (WD k)] W fun e w' => (∃ a b, e = .returned (.tuple #[.string a, .string (LN (k + 1)), .bool b])) ∧ Below W.heap.size W w') := fun k hk W hb => by
    have hM := hm.below hb
    match k, hk with
    | 0, _ => rw [hLN, hWD]; exact cut1_any s _ W hs0 hM
    | 1, _ => rw [hLN, hWD]; exact cut1_any _ _ W hs1 hM
    | 2, _ => rw [hLN, hWD]; have := cut1_any _ ⟨#[61]⟩ W hs2 hM; rw [hst] at this; exact this
  have HWC : Hid (∀ k, k < 3 → w.cell? ⟨g, k, none⟩ = some (.string (WD k))) := fun k hk => by
    match k, hk with
    | 0, _ => rw [hWD]; exact hg0
    | 1, _ => rw [hWD]; exact hg1
    | 2, _ => rw [hWD]; exact hg2
  have hL0 : LN 0 = s := by rw [hLN]; rfl
  have HL3 : Hid (LN 3 = strN t) := by rw [hLN]; rfl
  rw [← hL0]
  have hp' := hp.1
  clear hLN hWD hL0 hs0 hs1 hs2 hst hok h hp hm hnb hn9 htb ht9 ht hp'
  generalize letN ns n t = ns' at *
  generalize letR ns rs n t = rs' at *
  generalize strN n = tn at *
  generalize strN t = tt at *
  have hal : Below w.heap.size w (w.alloc (.cells #[.pointer (some ⟨p, 0, none⟩)] 64)) := (Below.refl _ _).alloc (Nat.le_refl _) _
  have b0 := Blk.new w 64 #[.pointer (some ⟨p, 0, none⟩)]
  have hx2 := (hal.cell (p := ⟨g, 2, none⟩) hgl).trans hg2
  have y0 : ¬ (nw : Int) < 3 := by omega
  have y1 : (3 : Int) ≤ (nw : Int) := by omega
  have y2 : (2 : Int) < (nw : Int) := by omega
  go_enter Tryz.func59, Tryz.ntmps59
  go_wp2_with fail
  generalize w.alloc (.cells #[.pointer (some ⟨p, 0, none⟩)] 64) = w2 at *
  have HAL := Lib.hid hal
  have HB0 := Lib.hid b0
  clear hal b0 hx2
  go_loopw [1, 22] (fun v i wr => ∃ k : Nat, k ≤ 3 ∧ i = .int .i64 (k : Int) ∧ v = .string (LN k) ∧ Below w2.heap.size w2 wr) (fun _ i _ => 3 - (RowKit.intOf i).toNat)
  case atStart => exact ⟨0, Nat.zero_le _, rfl, rfl, Below.refl _ _⟩
  case round =>
    obtain ⟨k, hk, rfl, rfl, hB⟩ := hrel
    by_cases hkn : k < 3
    · have z0 : (k : Int) < 3 := by omega
      have z1 : (0 : Int) ≤ (k : Int) := by omega
      have hBw := HAL.out.trans (hB.mono HAL.out.size)
      have x0 := (hBw.cell (p := ⟨g, k, none⟩) hgl).trans (HWC.out k hkn)
      have HBw := Lib.hid hBw
      have HBr := Lib.hid hB
      clear hBw hB
      go_wp2_with fail
      go_fit (HCUT.out k hkn _ HBw.out)
      rintro e w3 ⟨⟨a3, b3, rfl⟩, hb3⟩
      have HB3 := Lib.hid (HBr.out.trans (hb3.mono HBr.out.size))
      clear hb3 x0 HBw HBr
      go_wp2_with fail
      go_roundw
      case rel => exact ⟨k + 1, by omega, by go_num, rfl, HB3.out⟩
      case measure => simp [RowKit.intOf]; omega
    · obtain rfl : k = 3 := by omega
      have z0 : ¬ ((3 : Nat) : Int) < 3 := by omega
      have hBw := HAL.out.trans (hB.mono HAL.out.size)
      have hgd : w.heap.size < wr.heap.size := Nat.lt_of_lt_of_le HB0.out.lt hB.size
      have x1 : wr.cell? ⟨w.heap.size, 0, none⟩ = some (.pointer (some ⟨p, 0, none⟩)) := (hB.cell (p := ⟨w.heap.size, 0, none⟩) HB0.out.lt).trans (HB0.out.cell 0)
      have x2 := (hBw.cell (p := ⟨g, 1, none⟩) hgl).trans hg1
      have hgl2 := Nat.lt_of_lt_of_le hgl hBw.size
      have hdw : ¬ D w.heap.size := fun hc => Nat.lt_irrefl _ (HDL.out _ hc)
      have z3 : (1 : Int) < (nw : Int) := by omega
      have HBw := Lib.hid hBw
      have hL := HL3.out
      clear hBw hB
      rw [hL]
      clear hL
      go_wp2_with fail
      go_region_held3 (fun W => W.cell? ⟨w.heap.size, 0, none⟩ = some (.pointer (some ⟨p, 0, none⟩)) ∧ W.cell? ⟨g, 1, none⟩ = some (.string tn))
        (first | exact ⟨x1, x2⟩ | exact ⟨y4, y5⟩ | fail)
        (first
          | (have hx9 := HTU; go_at_call 109; go_fit (HT.out _ _); rintro e w5 ⟨rfl, rfl⟩)
          | (go_at_call 8; go_fit (HLET.out _ HBw.out.drew); rintro e w4 ⟨D', rfl, hs4, ht4, hd4⟩; have y4 := (World.cell?_of_block (a := ⟨w.heap.size, 0, none⟩) (ht4.block w.heap.size hgd hdw)).trans x1; have y5 := (World.cell?_of_block (a := ⟨g, 1, none⟩) (ht4.block g hgl2 hgD)).trans x2; have HS4 := Lib.hid hs4; have HTU := Lib.hid ht4; have HD4 := Lib.hid hd4; clear hs4 ht4 hd4)
          | fail)
      go_wp2_with fail
      go_ret
      exact ⟨D', rfl, HS4.out, (Turned.of_below HBw.out.drew).trans HTU.out, fun k hk => (HD4.out k hk).imp id fun h => Nat.le_trans HBw.out.drew.size h⟩
end Go.Proofs.YtchokmhfgikglaaGreatDoor
