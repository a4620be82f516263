/- Several texts in one: ShowDec, ShowDec2, RefPrint, RefFix, RefFix2, RefBall, BallReg. Condition: each says its own. -/
import Derived.Laws.Concat
import Derived.Test.YtobmjcbjailclaaGreatDoorPk3
import Derived.Test.YtobmjcbjailclaaGreatDoorPk12
import Derived.Test.YtobmjcbjailclaaGreatDoorPk13
import Derived.Test.YtobmjcbjailclaaGreatDoorPk15
/- The program's 'Width', 'Is' of balls, 'last', 'Dec' of digits by their contracts. Condition: bounds on lengths. -/
namespace Go.Proofs.YtobmjcbjailclaaGreatDoor
set_option maxRecDepth 100000
open Go.RowKit

/-- A value that is a ball of these two numbers. -/
def BQ (w : World) (L B : Nat) (v : Value) (p q : Rat) (k : Nat) : Prop :=
  ∃ s vn vd t vm vc, v = .agg #[.bool s, vn, vd, .bool t, vm, vc] ∧ RQ w L B (.agg #[.bool s, vn, vd]) p k ∧ RQ w L B (.agg #[.bool t, vm, vc]) q k

theorem RQ.slices {w : World} {L B : Nat} {s : Bool} {vn vd : Value} {q : Rat} {k : Nat} (h : RQ w L B (.agg #[.bool s, vn, vd]) q k) :
    ∃ A1 n1 k1 A2 n2 k2, vn = .slice A1 n1 k1 ∧ vd = .slice A2 n2 k2 ∧ n1 ≤ k ∧ n2 ≤ k := by
  obtain ⟨s', n, d, ⟨un, ud, e, hn, hd⟩, _, _, ln, ld, _⟩ := h
  obtain ⟨A1, k1, rfl, _⟩ := nt_len hn
  obtain ⟨A2, k2, rfl, _⟩ := nt_len hd
  simp at e
  obtain ⟨rfl, rfl, rfl⟩ := e
  exact ⟨A1, _, k1, A2, _, k2, rfl, rfl, ln, ld⟩

set_option maxHeartbeats 3200000 in
theorem width_q (v : Value) (p q : Rat) (k : Nat) (w : World) (h : BQ w 0 w.heap.size v p q k) (hk : k ≤ 400) : Calls Tryz.prog 41 #[v] w (GivesF (q - p) w) := by
  obtain ⟨s, vn, vd, t, vm, vc, rfl, h1, h2⟩ := h
  have h1' := h1
  have h2' := h2
  obtain ⟨A1, n1, k1, A2, n2, k2, rfl, rfl, l1, l2⟩ := h1'.slices
  obtain ⟨A3, n3, k3, A4, n4, k4, rfl, rfl, l3, l4⟩ := h2'.slices
  have H1 := Lib.hid h1
  have H2 := Lib.hid h2
  clear h1 h2 h1' h2'
  go_enter Tryz.func41, Tryz.ntmps41
  go_wp2_with fail
  have b2 := Blk.new (w.alloc (.cells #[.bool s, .slice A1 n1 k1, .slice A2 n2 k2, .bool t, .slice A3 n3 k3, .slice A4 n4 k4] 36)) 25 #[.bool false, .slice none 0 0, .slice none 0 0]
  have hB : Below w.heap.size w ((w.alloc (.cells #[.bool s, .slice A1 n1 k1, .slice A2 n2 k2, .bool t, .slice A3 n3 k3, .slice A4 n4 k4] 36)).alloc (.cells #[.bool false, .slice none 0 0, .slice none 0 0] 25)) := ((Below.refl _ _).alloc (Nat.le_refl _) _).alloc (by simp) _
  have es : (w.alloc (.cells #[.bool s, .slice A1 n1 k1, .slice A2 n2 k2, .bool t, .slice A3 n3 k3, .slice A4 n4 k4] 36)).heap.size = w.heap.size + 1 := by simp
  rw [es] at b2
  clear es
  generalize ((w.alloc (.cells #[.bool s, .slice A1 n1 k1, .slice A2 n2 k2, .bool t, .slice A3 n3 k3, .slice A4 n4 k4] 36)).alloc (.cells #[.bool false, .slice none 0 0, .slice none 0 0] 25)) = w2 at *
  go_fit (prSub_q _ _ q p k k _ (H2.out.after hB) (H1.out.after hB) hk hk)
  rintro e w3 ⟨v3, rfl, ⟨xn, xd, rfl, hxn, hxd⟩, hb3⟩
  have q3 := b2.below hb3 b2.lt
  have hB3 := hB.trans (hb3.mono hB.size)
  replace hxn := hxn.low (show w.heap.size + 1 + 1 ≤ _ from b2.lt)
  replace hxd := hxd.low (show w.heap.size + 1 + 1 ≤ _ from b2.lt)
  obtain ⟨A5, k5, rfl, m5⟩ := nt_len hxn
  obtain ⟨A6, k6, rfl, m6⟩ := nt_len hxd
  have r0 := q3.cell 0
  have r1 := q3.cell 1
  have r2 := q3.cell 2
  have f0 := q3.free 0
  have f1 := q3.free 1
  have f2 := q3.free 2
  obtain ⟨e0, e1, e2, hR, hBf⟩ := store3 q3 hB3 (by omega) (qS (q - p)) (.slice A5 (lim (qN (q - p))).length k5) (.slice A6 (lim (q - p).den).length k6) hxn hxd
  have HR := Lib.hid hR
  have HBF := Lib.hid hBf
  clear q3 hB hB3 hb3 b2 hxn hxd hR hBf H1 H2
  unfold St3 at *
  go_wp2_with fail
  clear r0 r1 r2 f0 f1 f2
  generalize ((World.setCell w3 ⟨w.heap.size + 1, 0, none⟩ (.bool (qS (q - p)))).setCell ⟨w.heap.size + 1, 1, none⟩ (.slice A5 (lim (qN (q - p))).length k5)).setCell ⟨w.heap.size + 1, 2, none⟩ (.slice A6 (lim (q - p).den).length k6) = WW at *
  refine bodyPost_ret (v := .agg #[.bool (qS (q - p)), .slice A5 (lim (qN (q - p))).length k5, .slice A6 (lim (q - p).den).length k6]) ?_ rfl (by show GivesF _ _ _ _; exact ⟨_, rfl, HR.out, HBF.out⟩)
  simp [results, Tryz.results41, go_sem, e0, e1, e2]
set_option maxHeartbeats 3200000 in
theorem ballIs_any (s t : Bool) (vn vd vm vc : Value) (n d m c : List Nat) (p q : Rat) (w : World) (dn : Dig n) (dd : Dig d) (dm : Dig m) (dc : Dig c) (h1 : Rt w 0 w.heap.size (.agg #[.bool s, vn, vd]) s n d) (h2 : Rt w 0 w.heap.size (.agg #[.bool t, vm, vc]) t m c)
    (ln : n.length ≤ 400) (ld : d.length ≤ 400) (lm : m.length ≤ 400) (lc : c.length ≤ 400) (hp : qv s (val n) (val d) = p) (hq : qv t (val m) (val c) = q) :
    Calls Tryz.prog 39 #[.agg #[.bool s, vn, vd, .bool t, vm, vc]] w fun e w' => e = .returned (.bool (isR s n d && (isR t m c && decide (cmpQ p q ≤ 0)))) ∧ Below w.heap.size w w' := by
  have I1 : Hid (∀ W, Below w.heap.size w W → Calls Tryz.prog 85 #[.agg #[.bool s, vn, vd]] W fun e w' => e = .returned (.bool (isR s n d)) ∧ Below W.heap.size W w') := fun W hb => prIs_any _ s n d W dn dd (h1.after hb) (by omega) (by omega)
  have I2 : Hid (∀ W, Below w.heap.size w W → Calls Tryz.prog 85 #[.agg #[.bool t, vm, vc]] W fun e w' => e = .returned (.bool (isR t m c)) ∧ Below W.heap.size W w') := fun W hb => prIs_any _ t m c W dm dc (h2.after hb) (by omega) (by omega)
  have I3 : Hid (∀ W, Below w.heap.size w W → Calls Tryz.prog 40 #[.agg #[.bool s, vn, vd], .agg #[.bool t, vm, vc]] W fun e w' => e = .returned (.int .i64 (cmpQ p q)) ∧ Below W.heap.size W w') := fun W hb => prCmp_q _ _ p q 400 400 W ⟨s, n, d, h1.after hb, dn, dd, ln, ld, hp⟩ ⟨t, m, c, h2.after hb, dm, dc, lm, lc, hq⟩ (Nat.le_refl _) (Nat.le_refl _)
  have x1 : RQ w 0 w.heap.size (.agg #[.bool s, vn, vd]) p 400 := ⟨s, n, d, h1, dn, dd, ln, ld, hp⟩
  have x2 : RQ w 0 w.heap.size (.agg #[.bool t, vm, vc]) q 400 := ⟨t, m, c, h2, dm, dc, lm, lc, hq⟩
  obtain ⟨A1, n1, k1, A2, n2, k2, rfl, rfl, l1, l2⟩ := x1.slices
  obtain ⟨A3, n3, k3, A4, n4, k4, rfl, rfl, l3, l4⟩ := x2.slices
  generalize isR s n d = c1 at *
  generalize isR t m c = c2 at *
  have hB : Below w.heap.size w (w.alloc (.cells #[.bool s, .slice A1 n1 k1, .slice A2 n2 k2, .bool t, .slice A3 n3 k3, .slice A4 n4 k4] 36)) := (Below.refl _ _).alloc (Nat.le_refl _) _
  have b1 := Blk.new w 36 #[.bool s, .slice A1 n1 k1, .slice A2 n2 k2, .bool t, .slice A3 n3 k3, .slice A4 n4 k4]
  clear x1 x2 h1 h2 dn dd dm dc ln ld lm lc hp hq
  cases c1
  · go_enter Tryz.func39, Tryz.ntmps39
    go_wp2_with fail
    go_fit (I1.out _ hB)
    rintro e w2 ⟨rfl, hb2⟩
    have HBF := Lib.hid (hB.trans (hb2.mono hB.size))
    clear hB hb2 I1 I2 I3 b1
    go_wp2_with fail
    go_ret
    exact ⟨rfl, HBF.out⟩
  · cases c2
    · go_enter Tryz.func39, Tryz.ntmps39
      go_wp2_with fail
      go_fit (I1.out _ hB)
      rintro e w2 ⟨rfl, hb2⟩
      have HB2 := Lib.hid (hB.trans (hb2.mono hB.size))
      have b2 := b1.below hb2 b1.lt
      have r3 := b2.cell 3
      have r4 := b2.cell 4
      have r5 := b2.cell 5
      clear hB hb2 I1 I3 b1
      go_wp2_with fail
      go_fit (I2.out _ HB2.out)
      rintro e w3 ⟨rfl, hb3⟩
      have HBF := Lib.hid (HB2.out.trans (hb3.mono HB2.out.size))
      clear hb3 I2 r3 r4 r5 b2
      go_wp2_with fail
      go_ret
      exact ⟨rfl, HBF.out⟩
    · generalize cmpQ p q = cz at *
      go_enter Tryz.func39, Tryz.ntmps39
      go_wp2_with fail
      go_fit (I1.out _ hB)
      rintro e w2 ⟨rfl, hb2⟩
      have HB2 := Lib.hid (hB.trans (hb2.mono hB.size))
      have b2 := b1.below hb2 b1.lt
      have r3 := b2.cell 3
      have r4 := b2.cell 4
      have r5 := b2.cell 5
      clear hB hb2 I1 b1
      go_wp2_with fail
      go_fit (I2.out _ HB2.out)
      rintro e w3 ⟨rfl, hb3⟩
      have HB3 := Lib.hid (HB2.out.trans (hb3.mono HB2.out.size))
      have b3 := b2.below hb3 b2.lt
      clear r3 r4 r5
      have r0 := b3.cell 0
      have r1 := b3.cell 1
      have r2 := b3.cell 2
      have r3 := b3.cell 3
      have r4 := b3.cell 4
      have r5 := b3.cell 5
      clear hb3 I2 b2
      go_wp2_with fail
      go_fit (I3.out _ HB3.out)
      rintro e w4 ⟨rfl, hb4⟩
      have HBF := Lib.hid (HB3.out.trans (hb4.mono HB3.out.size))
      clear hb4 I3 r0 r1 r2 r3 r4 r5 b3
      go_wp2_with fail
      go_ret
      exact ⟨rfl, HBF.out⟩

set_option maxHeartbeats 3200000 in
theorem last_any (d : Nat) (w : World) (hd : d ≤ 30) : Calls Tryz.prog 42 #[.int .i64 (d : Int)] w (GivesT false 1 (10 ^ d) w) := by
  have lt := ten_len hd
  have dt := dig_lim (10 ^ d)
  have HV := Lib.hid (val_lim (10 ^ d))
  have HV1 : Hid (val (lim 1) = 1) := val_lim 1
  have d1 := dig_lim 1
  have l1 : (lim 1).length ≤ 1 := by rw [lim_one (by omega) (by omega)]; simp
  have hlow := nr_low (s := false) (n := 1) (d := 10 ^ d) (Nat.gcd_one_left _) (by omega) (Nat.ne_of_gt (Nat.pow_pos (by omega)))
  have HL := Lib.hid hlow
  clear hlow
  have HT := fun W => tens_any d W hd
  replace HT := Lib.hid HT
  generalize 10 ^ d = X at *
  have b0 := Blk.new w 25 #[.bool false, .slice none 0 0, .slice none 0 0]
  have hB : Below w.heap.size w (w.alloc (.cells #[.bool false, .slice none 0 0, .slice none 0 0] 25)) := (Below.refl _ _).alloc (Nat.le_refl _) _
  go_enter Tryz.func42, Tryz.ntmps42
  go_wp2_with fail
  go_fit (of_any' 1 _ rfl _ (by omega))
  rintro e w3 ⟨v3, rfl, h3, hb3⟩
  have q3 := b0.below hb3 b0.lt
  have hB3 := hB.trans (hb3.mono hB.size)
  replace h3 := h3.low (Nat.zero_le _)
  clear b0 hB hb3
  go_wp2_with fail
  go_fit (HT.out _)
  rintro e w4 ⟨v4, rfl, h4, hb4⟩
  have q4 := q3.below hb4 q3.lt
  have hB4 := hB3.trans (hb4.mono hB3.size)
  replace h4 := h4.low (Nat.zero_le _)
  replace h3 := h3.after hb4
  clear q3 hB3 hb4 HT
  go_wp2_with fail
  go_fit (prOf_any false _ _ (lim 1) (lim X) _ d1 dt h3 h4 (by omega) (by omega))
  rw [HV1.out, HV.out, HL.out.1, HL.out.2.1, HL.out.2.2]
  rintro e w5 ⟨v5, rfl, ⟨xn, xd, rfl, hxn, hxd⟩, hb5⟩
  have q5 := q4.below hb5 q4.lt
  have hB5 := hB4.trans (hb5.mono hB4.size)
  replace hxn := hxn.low (show w.heap.size + 1 ≤ _ from q4.lt)
  replace hxd := hxd.low (show w.heap.size + 1 ≤ _ from q4.lt)
  obtain ⟨A5, k5, rfl, m5⟩ := nt_len hxn
  obtain ⟨A6, k6, rfl, m6⟩ := nt_len hxd
  have r0 := q5.cell 0
  have r1 := q5.cell 1
  have r2 := q5.cell 2
  have f0 := q5.free 0
  have f1 := q5.free 1
  have f2 := q5.free 2
  obtain ⟨e0, e1, e2, hR, hBf⟩ := store3 q5 hB5 (Nat.le_refl _) false (.slice A5 (lim 1).length k5) (.slice A6 (lim X).length k6) hxn hxd
  have HR := Lib.hid hR
  have HBF := Lib.hid hBf
  clear q4 q5 hB4 hB5 hb5 hxn hxd h3 h4 hR hBf
  unfold St3 at *
  go_wp2_with fail
  clear r0 r1 r2 f0 f1 f2
  generalize ((World.setCell w5 ⟨w.heap.size, 0, none⟩ (.bool false)).setCell ⟨w.heap.size, 1, none⟩ (.slice A5 (lim 1).length k5)).setCell ⟨w.heap.size, 2, none⟩ (.slice A6 (lim X).length k6) = WW at *
  refine bodyPost_ret (v := .agg #[.bool false, .slice A5 (lim 1).length k5, .slice A6 (lim X).length k6]) ?_ rfl ⟨_, rfl, HR.out, HBF.out⟩
  simp [results, Tryz.results42, go_sem, e0, e1, e2]

/-- What a number is told by, with so many digits behind the point. -/
def fixT (q : Rat) (K : Nat) : List Nat := sgn (nrS (qS q) (rhe (qN q * 10 ^ K) q.den) (10 ^ K)) ++ pnt (prn (rhe (qN q * 10 ^ K) q.den)) K

theorem fixed_q (v : Value) (q : Rat) (k K : Nat) (w : World) (h : RQ w 0 w.heap.size v q k) (hk : k ≤ 70) (hK : K ≤ 60) :
    Calls Tryz.prog 30 #[v, .int .i64 (K : Int)] w fun e w' => e = .returned (.string (strN (fixT q K))) ∧ Below w.heap.size w w' := by
  obtain ⟨s, n, d, hR, dn, dd, ln, ld, rfl⟩ := h
  obtain ⟨e1, e2, e3⟩ := nr_q s (val n) (val d)
  exact fixed_any v s n d K w dn dd hR (by omega) (by omega) _ _ _ K _ e1 e2 e3 (by unfold hold60; omega) rfl

/-- A power of a tenth. -/
def tenth (d : Nat) : Rat := qv false 1 (10 ^ d)

theorem RQ.tenth {w w' : World} {v : Value} {d : Nat} (hd : d ≤ 30) (h : Rt w' w.heap.size w'.heap.size v false (lim 1) (lim (10 ^ d))) : RQ w' 0 w'.heap.size v (tenth d) 30 :=
  ⟨_, _, _, h.low (Nat.zero_le _), dig_lim _, dig_lim _, by rw [lim_one (by omega) (by omega)]; simp, ten_len hd, by rw [val_lim, val_lim]; rfl⟩
end Go.Proofs.YtobmjcbjailclaaGreatDoor

/- The program's 'Dec' of digits by its contracts. Condition: bounds on lengths. -/
namespace Go.Proofs.YtobmjcbjailclaaGreatDoor
set_option maxRecDepth 100000
open Go.RowKit

set_option maxHeartbeats 3200000 in
theorem showDec_no (s t : Bool) (A1 A2 A3 A4 : Option Addr) (n1 n2 n3 n4 k1 k2 k3 k4 : Nat) (d : Int) (w : World)
    (hIs : ∀ W, Below w.heap.size w W → Calls Tryz.prog 39 #[.agg #[.bool s, .slice A1 n1 k1, .slice A2 n2 k2, .bool t, .slice A3 n3 k3, .slice A4 n4 k4]] W fun e w' => e = .returned (.bool false) ∧ Below W.heap.size W w') :
    Calls Tryz.prog 12 #[.agg #[.bool s, .slice A1 n1 k1, .slice A2 n2 k2, .bool t, .slice A3 n3 k3, .slice A4 n4 k4], .int .i64 d] w fun e w' => e = .returned (.tuple #[.string ⟨#[]⟩, .bool false]) ∧ Below w.heap.size w w' := by
  have HIS := Lib.hid hIs
  have hB : Below w.heap.size w (w.alloc (.cells #[.bool s, .slice A1 n1 k1, .slice A2 n2 k2, .bool t, .slice A3 n3 k3, .slice A4 n4 k4] 36)) := (Below.refl _ _).alloc (Nat.le_refl _) _
  have HB := Lib.hid hB
  clear hIs hB
  go_enter Tryz.func12, Tryz.ntmps12
  go_wp2_with fail
  go_fit (held_any _ _)
  rintro e w2 ⟨rfl, rfl⟩
  go_wp2_with fail
  go_fit (HIS.out _ HB.out)
  rintro e w3 ⟨rfl, hb3⟩
  have HBF := Lib.hid (HB.out.trans (hb3.mono HB.out.size))
  clear hb3 HIS HB
  go_wp2_with fail
  go_ret2
  exact ⟨rfl, HBF.out⟩

/-- What a ball is told by: nothing if it is too wide, its middle if not. -/
def ShowPost (p q : Rat) (D : Nat) (w : World) (e : Ending) (w' : World) : Prop :=
  e = .returned (.tuple #[.string (if tenth D < q - p then ⟨#[]⟩ else strN (fixT ((p + q) / 2) D)), .bool (if tenth D < q - p then false else true)]) ∧ Below w.heap.size w w'

set_option maxHeartbeats 3200000 in
theorem showDec_yes (s t : Bool) (A1 A2 A3 A4 : Option Addr) (n1 n2 n3 n4 k1 k2 k3 k4 : Nat) (d : Int) (w : World) (p q : Rat) (k D : Nat) (hD : hold30 d = (D : Int))
    (hIs : ∀ W, Below w.heap.size w W → Calls Tryz.prog 39 #[.agg #[.bool s, .slice A1 n1 k1, .slice A2 n2 k2, .bool t, .slice A3 n3 k3, .slice A4 n4 k4]] W fun e w' => e = .returned (.bool true) ∧ Below W.heap.size W w')
    (h1 : RQ w 0 w.heap.size (.agg #[.bool s, .slice A1 n1 k1, .slice A2 n2 k2]) p k) (h2 : RQ w 0 w.heap.size (.agg #[.bool t, .slice A3 n3 k3, .slice A4 n4 k4]) q k) (hk : k ≤ 30) (hk1 : 1 ≤ k) :
    Calls Tryz.prog 12 #[.agg #[.bool s, .slice A1 n1 k1, .slice A2 n2 k2, .bool t, .slice A3 n3 k3, .slice A4 n4 k4], .int .i64 d] w (ShowPost p q D w) := by
  have hr := hold30_range d
  have hD30 : D ≤ 30 := by omega
  have hD60 : D ≤ 60 := by omega
  have z1 := h1.sz hk1
  have z2 := h2.sz hk1
  have zw := Sz.add z2 z1.neg
  rw [← Rat.sub_eq_add_neg] at zw
  have za := Sz.add z1 z2
  have e2 : Sz (2 : Rat) 1 := ⟨by show (lim 2).length ≤ 1; exact lim_length_le (by omega), by show (lim 1).length ≤ 1; exact lim_length_le (by omega)⟩
  have zd := Sz.div za e2 (by omega)
  have HH : Hid (∀ W, Calls Tryz.prog 38 #[.int .i64 d] W fun e w' => e = .returned (.int .i64 (D : Int)) ∧ W = w') := fun W => by
    have := held_any d W
    rw [hD] at this
    exact this
  have HIS := Lib.hid hIs
  have HL : Hid (∀ W, Calls Tryz.prog 42 #[.int .i64 (D : Int)] W (GivesT false 1 (10 ^ D) W)) := fun W => last_any D W hD30
  have HW : Hid (∀ W, Below w.heap.size w W → Calls Tryz.prog 41 #[.agg #[.bool s, .slice A1 n1 k1, .slice A2 n2 k2, .bool t, .slice A3 n3 k3, .slice A4 n4 k4]] W (GivesF (q - p) W)) := fun W hb =>
    width_q _ p q k W ⟨_, _, _, _, _, _, rfl, h1.after hb, h2.after hb⟩ (by omega)
  have HA : Hid (∀ W, Below w.heap.size w W → Calls Tryz.prog 44 #[.agg #[.bool s, .slice A1 n1 k1, .slice A2 n2 k2], .agg #[.bool t, .slice A3 n3 k3, .slice A4 n4 k4]] W (GivesF (p + q) W)) := fun W hb =>
    prAdd_q _ _ p q k k W (h1.after hb) (h2.after hb) (by omega) (by omega)
  have ZW : Sz (q - p) 61 := zw.mono (by omega)
  have ZA : Sz (p + q) 61 := za.mono (by omega)
  have ZD : Sz ((p + q) / 2) 62 := zd.mono (by omega)
  have HFX : Hid (∀ W v, RQ W 0 W.heap.size v ((p + q) / 2) 62 → Calls Tryz.prog 30 #[v, .int .i64 (D : Int)] W fun e w' => e = .returned (.string (strN (fixT ((p + q) / 2) D))) ∧ Below W.heap.size W w') := fun W v h => fixed_q v _ 62 D W h (by omega) hD60
  have e2' : Hid (((2 : Nat) : Rat) = 2) := rfl
  have hne2 : Hid ((2 : Rat) ≠ 0) := (by show (2 : Rat) ≠ 0; decide)
  have HZW := Lib.hid ZW
  have HZA := Lib.hid ZA
  have HZD := Lib.hid ZD
  have HE2 := Lib.hid e2
  have hB : Below w.heap.size w (w.alloc (.cells #[.bool s, .slice A1 n1 k1, .slice A2 n2 k2, .bool t, .slice A3 n3 k3, .slice A4 n4 k4] 36)) := (Below.refl _ _).alloc (Nat.le_refl _) _
  have b1 := Blk.new w 36 #[.bool s, .slice A1 n1 k1, .slice A2 n2 k2, .bool t, .slice A3 n3 k3, .slice A4 n4 k4]
  have HB := Lib.hid hB
  clear hIs hB h1 h2 z1 z2 zw za zd e2 ZW ZA ZD hD hr
  obtain ⟨W0, hW0⟩ : ∃ W0, w.alloc (.cells #[.bool s, .slice A1 n1 k1, .slice A2 n2 k2, .bool t, .slice A3 n3 k3, .slice A4 n4 k4] 36) = W0 := ⟨_, rfl⟩
  rw [hW0] at HB b1
  have c1 : Hid (tenth D < q - p ∨ ¬ tenth D < q - p) := Classical.em _
  go_enter Tryz.func12, Tryz.ntmps12
  go_wp2_with fail
  go_fit (HH.out _)
  rintro e w2 ⟨rfl, rfl⟩
  clear hW0 HH
  have r0 := b1.cell 0
  have r1 := b1.cell 1
  have r2 := b1.cell 2
  have r3 := b1.cell 3
  have r4 := b1.cell 4
  have r5 := b1.cell 5
  go_wp2_with fail
  go_fit (HIS.out _ HB.out)
  rintro e w3 ⟨rfl, hb3⟩
  replace b1 := b1.below hb3 b1.lt
  replace HB := Lib.hid (HB.out.trans (hb3.mono HB.out.size))
  clear r0 r1 r2 r3 r4 r5 hb3 HIS
  have r0 := b1.cell 0
  have r1 := b1.cell 1
  have r2 := b1.cell 2
  have r3 := b1.cell 3
  have r4 := b1.cell 4
  have r5 := b1.cell 5
  go_wp2_with fail
  go_fit (HW.out _ HB.out)
  rintro e w4 ⟨v4, rfl, h4, hb4⟩
  replace b1 := b1.below hb4 b1.lt
  replace HB := Lib.hid (HB.out.trans (hb4.mono HB.out.size))
  have h4' : RQ w4 0 w4.heap.size v4 (q - p) 61 := RQ.of (h4.low (Nat.zero_le _)) HZW.out
  clear r0 r1 r2 r3 r4 r5 hb4 HW h4
  go_wp2_with fail
  go_fit (HL.out _)
  rintro e w5 ⟨v5, rfl, h5, hb5⟩
  have h4'' := h4'.after hb5
  have h5' := RQ.tenth hD30 h5
  replace b1 := b1.below hb5 b1.lt
  replace HB := Lib.hid (HB.out.trans (hb5.mono HB.out.size))
  clear hb5 HL h5 h4'
  go_wp2_with fail
  go_fit (prCmp_q _ _ (q - p) (tenth D) 61 30 _ h4'' h5' (by omega) (by omega))
  rintro e w6 ⟨rfl, hb6⟩
  replace b1 := b1.below hb6 b1.lt
  replace HB := Lib.hid (HB.out.trans (hb6.mono HB.out.size))
  clear hb6 h4'' h5'
  rcases c1.out with hc | hc
  · have hcmp : (0 : Int) < cmpQ (q - p) (tenth D) := by rw [cmpQ_gt hc]; omega
    have HC := Lib.hid hc
    clear hc c1
    generalize cmpQ (q - p) (tenth D) = cz at *
    go_wp2_with fail
    go_ret2
    exact ⟨by rw [if_pos HC.out, if_pos HC.out]; rfl, HB.out⟩
  · have hcmp : ¬ (0 : Int) < cmpQ (q - p) (tenth D) := by
      unfold cmpQ
      rw [if_neg hc]
      split <;> omega
    have HC := Lib.hid hc
    clear hc c1
    generalize cmpQ (q - p) (tenth D) = cz at *
    have r0 := b1.cell 0
    have r1 := b1.cell 1
    have r2 := b1.cell 2
    have r3 := b1.cell 3
    have r4 := b1.cell 4
    have r5 := b1.cell 5
    clear b1
    go_wp2_with fail
    go_fit (HA.out _ HB.out)
    rintro e w7 ⟨v7, rfl, h7, hb7⟩
    have h7' : RQ w7 0 w7.heap.size v7 (p + q) 61 := RQ.of (h7.low (Nat.zero_le _)) HZA.out
    replace HB := Lib.hid (HB.out.trans (hb7.mono HB.out.size))
    clear r0 r1 r2 r3 r4 r5 hb7 HA h7
    go_wp2_with fail
    go_fit (prInt_any 2 _ (by omega))
    rintro e w8 ⟨v8, rfl, h8, hb8⟩
    have h7'' := h7'.after hb8
    rw [e2'.out] at h8
    have h8' : RQ w8 0 w8.heap.size v8 2 1 := RQ.of (h8.low (Nat.zero_le _)) HE2.out
    replace HB := Lib.hid (HB.out.trans (hb8.mono HB.out.size))
    clear hb8 h8 h7'
    go_wp2_with fail
    go_fit (prDiv_q _ _ (p + q) 2 61 1 _ h7'' h8' (by omega) (by omega) (by omega) hne2.out)
    rintro e w9 ⟨v9, rfl, ⟨xn, xd, rfl, hxn, hxd⟩, hb9⟩
    obtain ⟨A5, k5, rfl, m5⟩ := nt_len hxn
    obtain ⟨A6, k6, rfl, m6⟩ := nt_len hxd
    have h9 : RQ w9 0 w9.heap.size (.agg #[.bool (qS ((p + q) / 2)), .slice A5 (lim (qN ((p + q) / 2))).length k5, .slice A6 (lim ((p + q) / 2).den).length k6]) ((p + q) / 2) 62 := RQ.of ⟨_, _, rfl, hxn.low (Nat.zero_le _), hxd.low (Nat.zero_le _)⟩ HZD.out
    replace HB := Lib.hid (HB.out.trans (hb9.mono HB.out.size))
    have H9 := Lib.hid h9
    clear hb9 h7'' h8' hxn hxd h9
    go_wp2_with fail
    have hal : Below w9.heap.size w9 (w9.alloc (.cells #[.bool (qS ((p + q) / 2)), .slice A5 (lim (qN ((p + q) / 2))).length k5, .slice A6 (lim ((p + q) / 2).den).length k6] 25)) := (Below.refl _ _).alloc (Nat.le_refl _) _
    go_fit (HFX.out _ _ (H9.out.after hal))
    rintro e w10 ⟨rfl, hb10⟩
    have HBF := Lib.hid (HB.out.trans ((hal.trans (hb10.mono hal.size)).mono HB.out.size))
    clear hb10 hal HFX HB H9
    go_wp2_with fail
    go_ret2
    exact ⟨by rw [if_neg HC.out, if_neg HC.out]; rfl, HBF.out⟩
end Go.Proofs.YtobmjcbjailclaaGreatDoor

/- The reference's 'Print' of limbs by its contract: the number's digits. Condition: a bound on lengths. -/
namespace Go.Proofs.YtobmjcbjailclaaGreatDoor
set_option maxRecDepth 100000
open Go.RowKit

/-- One byte in a new block, as a string. -/
theorem one_str {P : Program} (w : World) (d : Nat) (hd : d < 256) (o : Obj) (e src dst t : TypeId) (ho : o = .cells #[.int .u8 (d : Int)] e) (hs : P.underlying src = some (.slice t)) (he : P.underlying t = some (.int .u8)) (hdst : P.underlying dst = some .string) :
    (convert src dst (.slice (some ⟨w.heap.size, 0, none⟩) 1 1)).run P (w.alloc o) = .ok (.string (strN [d])) (w.alloc o) := by
  subst ho
  refine OwnB.str (base := 0) (e := e) (cs := [d]) ?_ (by simp) (by simpa using hd) src dst t hs he hdst
  refine ⟨rfl, Or.inr ⟨w.heap.size, 1, #[.int .u8 (d : Int)], rfl, Nat.zero_le _, ?_, Nat.le_refl _, by unfold maxLen; omega, rfl, rfl⟩⟩
  show (w.heap.push _)[w.heap.size]? = _
  rw [Array.getElem?_push_size]

set_option maxHeartbeats 3200000 in
theorem refPrint_any (v : Value) (x : List Nat) (w : World) (hd : Dig x) (h : Nt w 0 w.heap.size v x) (hl : x.length ≤ 100) :
    Calls Tryz.prog 142 #[v] w fun e w' => e = .returned (.string (strN (prn (val x)))) ∧ Below w.heap.size w w' := by
  have lx := Nat.le_trans (limBd hd) hl
  have hnl := val_lt hd
  have hcon := refTrim_any _ x _ hd h (by omega)
  clear h
  generalize val x = n at *
  by_cases h0 : n = 0
  · subst h0
    go_enter Tryz.func142, Tryz.ntmps142
    go_wp2_with fail
    refine hcon.mono ?_
    rintro e w1 ⟨v1, rfl, h1, hb⟩
    rw [lim_zero] at h1
    obtain ⟨A', c', rfl, m'⟩ := nt_len h1
    clear h1
    go_wp2_with fail
    go_ret
    exact ⟨rfl, hb⟩
  · go_enter Tryz.func142, Tryz.ntmps142
    go_wp2_with fail
    refine hcon.mono ?_
    rintro e w1 ⟨v1, rfl, h1, hb⟩
    have hne : ¬ (lim n).length = 0 := fun h => h0 (lim_eq_nil.1 (List.eq_nil_of_length_eq_zero h))
    have z1 : ((((lim n).length : Nat) : Int) == 0) = false := beq_eq_false_iff_ne.2 (by omega)
    have H1 := Lib.hid (h1.low (Nat.zero_le _))
    have LX := Lib.hid lx
    have N0 := Lib.hid h0
    have DL : Hid ((dec n).length ≤ 2000) := by
      show _ ≤ _
      refine Nat.le_trans (dec_length_le (10 * x.length) n ?_) (by omega)
      rw [Nat.pow_mul]
      exact Nat.lt_of_lt_of_le hnl (Nat.pow_le_pow_left (by omega) _)
    obtain ⟨A, c, rfl, hm⟩ := nt_len h1
    clear hnl lx hne h0 h1
    go_wp2_with fail
    go_loopw [3, 4] (fun t s wr => ∃ (m : Nat) (cs : List Nat), Nt wr 0 wr.heap.size t (lim m) ∧ Hid (dec n = cs ++ dec m) ∧ s = .string (strN ((cs.map (48 + ·)).reverse)) ∧ Hid ((lim m).length ≤ 100) ∧ Below w.heap.size w wr)
      (fun a _ wr => rdM wr a)
    case atStart => exact ⟨n, [], H1.out, rfl, rfl, LX.out, hb⟩
    case round =>
      obtain ⟨m, cs, ha, HC, rfl, HL, hB⟩ := hrel
      by_cases hm0 : m = 0
      · subst hm0
        rw [lim_zero] at ha
        have HE : Hid (strN ((cs.map (48 + ·)).reverse) = strN (prn n)) := by
          have h1 := HC.out
          rw [dec_zero, List.append_nil] at h1
          show _ = _
          unfold prn digs
          rw [if_neg N0.out, h1]
        obtain ⟨A', c', rfl, m'⟩ := nt_len ha
        clear ha HC
        rw [HE.out]
        go_wp2_with fail
        go_ret
        exact ⟨rfl, hB⟩
      · have hml : (lim m).length ≠ 0 := fun h => hm0 (lim_eq_nil.1 (List.eq_nil_of_length_eq_zero h))
        have hl2 := HL.out
        have hd2 := dig_lim m
        have ha2 := ha
        obtain ⟨A', c', rfl, m'⟩ := nt_len ha
        have V := Lib.hid (val_lim m)
        have RM := Lib.hid (rdM_of ha)
        have hpos : (0 : Int) < ((lim m).length : Int) := by omega
        have HC2 : Hid (dec n = (cs ++ [m % 10]) ++ dec (m / 10)) := by
          show _ = _
          rw [HC.out, dec_pos hm0, List.append_assoc]
          rfl
        have hcl : Hid (cs.length ≤ 2000) := by
          have h1 := DL.out
          rw [HC.out, List.length_append] at h1
          show _ ≤ _
          omega
        go_wp2_with fail
        refine (refSmall_any _ (lim m) 10 _ hd2 (ha2.low (Nat.zero_le _)) (by omega) (by omega) (by omega)).mono ?_
        rw [V.out]
        rintro e w2 ⟨v2, rfl, h2, hb2⟩
        have hB2 := hB.trans (hb2.mono hB.size)
        have hr : m % 10 < 10 := Nat.mod_lt _ (by omega)
        have hvl := val_lt (dig_lim m)
        rw [V.out] at hvl
        have hl9 : Hid ((lim (m / 10)).length ≤ 100) := Nat.le_trans (lim_length_le (Nat.lt_of_le_of_lt (Nat.div_le_self _ _) hvl)) hl2
        have hm9 : Hid (m / 10 < m) := Nat.div_lt_self (Nat.pos_of_ne_zero hm0) (by omega)
        generalize m % 10 = r at *
        clear HC hB ha2 ha hvl
        obtain ⟨d, hd⟩ : ∃ d, 48 + r = d := ⟨_, rfl⟩
        have e1 : (48 : Int) + (r : Int) = (d : Int) := by omega
        have k1 : IntKind.u64.wrap (d : Int) = (d : Int) := IntWalk.u64_in _ (by omega)
        have k2 : IntKind.u8.wrap (d : Int) = (d : Int) := by unfold IntKind.wrap; simp [IntKind.bits, IntKind.signed]; omega
        have hone := one_str (P := Tryz.prog) w2 d (by omega) (.cells #[.int .u8 (d : Int)] 5) 5 22 9 5 rfl rfl rfl rfl
        have hadd : Hid (∀ W : World, (Op.stringOp .add (strN [d]) (strN ((cs.map (48 + ·)).reverse))).run Tryz.prog W = .ok (.string (strN ([d] ++ (cs.map (48 + ·)).reverse))) W) := fun W => add_str _ _ (by have := hcl.out; simp; omega) W
        have hadd1 := hadd.out (w2.alloc (.cells #[.int .u8 (d : Int)] 5))
        have HS : Hid (strN (d :: (cs.map (48 + ·)).reverse) = strN (((cs ++ [r]).map (48 + ·)).reverse)) := by
          show _ = _
          rw [← hd]
          simp
        have hsz : Hid (w.heap.size ≤ w2.heap.size) := hB2.size
        have H2 := Lib.hid ((h2.low (Nat.zero_le _)).alloc (Nat.le_refl _) (.cells #[.int .u8 (d : Int)] 5))
        have H3 := Lib.hid (H2.out.up (B' := (w2.alloc (.cells #[.int .u8 (d : Int)] 5)).heap.size) (by simp))
        have HB := Lib.hid (hB2.alloc hsz.out (.cells #[.int .u8 (d : Int)] 5))
        clear h2 hb2 hB2 hd
        go_wp2_with fail
        refine ⟨⟨m / 10, cs ++ [r], H3.out, HC2, by rw [HS.out], hl9, HB.out⟩, ?_⟩
        rw [rdM_of H3.out, RM.out, val_lim, V.out]
        exact hm9.out
end Go.Proofs.YtobmjcbjailclaaGreatDoor

/- The reference's 'sign', 'digits', 'point' of decimals by their contracts. Condition: bounds on lengths. -/
namespace Go.Proofs.YtobmjcbjailclaaGreatDoor
set_option maxRecDepth 100000
open Go.RowKit Go.Shelf Go.Lib

set_option maxHeartbeats 800000 in
theorem refSign_any (s : Bool) (w : World) : Calls Tryz.prog 121 #[.bool s] w fun e w' => e = .returned (.string (strN (sgn s))) ∧ w = w' := by
  cases s
  · go_enter Tryz.func121, Tryz.ntmps121
    go_wp2_with fail
    go_ret
    exact ⟨rfl, rfl⟩
  · go_enter Tryz.func121, Tryz.ntmps121
    go_wp2_with fail
    go_ret
    exact ⟨rfl, rfl⟩

/-- How long a string is. -/
def lenStr : Value → Nat
  | .string b => b.size
  | _ => 0

set_option maxHeartbeats 1600000 in
theorem refDigits_any (v : Value) (x : List Nat) (least : Nat) (w : World) (hd : Dig x) (h : Nt w 0 w.heap.size v x) (hl : x.length ≤ 100) (hm : least ≤ 1000) :
    Calls Tryz.prog 120 #[v, .int .i64 (least : Int)] w fun e w' => e = .returned (.string (strN (List.replicate (least - (prn (val x)).length) 48 ++ prn (val x)))) ∧ Below w.heap.size w w' := by
  have hcon := refPrint_any v x w hd h hl
  have hpl : (prn (val x)).length ≤ 10 * 100 + 1 := prn_len_of (Nat.le_trans (limBd hd) hl)
  generalize prn (val x) = cs at *
  have HC := Lib.hid hcon
  clear hcon h hd
  go_enter Tryz.func120, Tryz.ntmps120
  go_wp2_with fail
  refine HC.out.mono ?_
  rintro e w1 ⟨rfl, hb⟩
  clear HC
  go_wp2_with fail
  go_loopw [5] (fun s wr => ∃ j : Nat, (j = 0 ∨ j + cs.length ≤ least) ∧ s = .string (strN (List.replicate j 48 ++ cs)) ∧ Below w.heap.size w wr) (fun s _ => least - lenStr s)
  case atStart => exact ⟨0, Or.inl rfl, rfl, hb⟩
  case round =>
    obtain ⟨j, hj, rfl, hb⟩ := hrel
    have hsz : (strN (List.replicate j 48 ++ cs)).size = j + cs.length := by rw [strN_size]; simp
    have hls : lenStr (.string (strN (List.replicate j 48 ++ cs))) = j + cs.length := hsz
    have hls2 : lenStr (.string (strN (List.replicate (j + 1) 48 ++ cs))) = j + 1 + cs.length := by show (strN _).size = _; rw [strN_size]; simp
    have hszI : ((strN (List.replicate j 48 ++ cs)).size : Int) = (j : Int) + (cs.length : Int) := by omega
    have hbnd : j + cs.length ≤ 3000 := by omega
    have a1 : ∀ W : World, (Op.stringOp .add ⟨#[48]⟩ (strN (List.replicate j 48 ++ cs))).run Tryz.prog W = .ok (.string (strN (List.replicate (j + 1) 48 ++ cs))) W := fun W => by
      have := add_str (P := Tryz.prog) [48] (List.replicate j 48 ++ cs) (by simp; omega) W
      rw [List.replicate_succ]
      exact this
    by_cases hlt : j + cs.length < least
    · have hI : ((strN (List.replicate j 48 ++ cs)).size : Int) < (least : Int) := by omega
      have HLS := Lib.hid hls
      have HLS2 := Lib.hid hls2
      clear hls hls2 hszI hsz
      generalize strN (List.replicate j 48 ++ cs) = t1 at *
      obtain ⟨t2, ht2⟩ : ∃ t2, strN (List.replicate (j + 1) 48 ++ cs) = t2 := ⟨_, rfl⟩
      rw [ht2] at a1 HLS2
      go_wp2_with fail
      go_roundw
      case rel => exact ⟨j + 1, Or.inr (by omega), by rw [ht2], hb⟩
      case measure => rw [HLS.out, HLS2.out]; omega
    · have hI : ¬ ((strN (List.replicate j 48 ++ cs)).size : Int) < (least : Int) := by omega
      have hje : Hid (j = least - cs.length) := by show _ = _; omega
      clear a1 hls hls2 hszI hsz
      have HE : Hid (strN (List.replicate j 48 ++ cs) = strN (List.replicate (least - cs.length) 48 ++ cs)) := by show _ = _; rw [← hje.out]
      generalize strN (List.replicate j 48 ++ cs) = t1 at *
      go_wp2_with fail
      go_ret
      exact ⟨by rw [← HE.out]; rfl, hb⟩
end Go.Proofs.YtobmjcbjailclaaGreatDoor

/- The reference's 'point' and 'Fixed' of decimals by their contracts. Condition: bounds on lengths. -/
namespace Go.Proofs.YtobmjcbjailclaaGreatDoor
set_option maxRecDepth 100000
open Go.RowKit Go.Shelf Go.Lib

theorem prn_pos (n : Nat) : 0 < (prn n).length := by
  unfold prn
  split
  · simp
  · rename_i h
    unfold digs
    rw [List.length_reverse, List.length_map]
    unfold dec
    rw [dif_neg h]
    simp

set_option maxHeartbeats 1600000 in
theorem refPoint_any (neg : Bool) (v : Value) (x : List Nat) (K : Nat) (w : World) (hd : Dig x) (h : Nt w 0 w.heap.size v x) (hl : x.length ≤ 100) (hK : K ≤ 100) :
    Calls Tryz.prog 88 #[.bool neg, v, .int .i64 (K : Int)] w fun e w' => e = .returned (.string (strN (sgn (neg && decide (0 < x.length)) ++ pnt (prn (val x)) K))) ∧ Below w.heap.size w w' := by
  have hpl : (prn (val x)).length ≤ 10 * 100 + 1 := prn_len_of (Nat.le_trans (limBd hd) hl)
  have hpp := prn_pos (val x)
  have HDG := Lib.hid (refDigits_any v x (K + 1) w hd h hl (by omega))
  obtain ⟨cs, hcs⟩ : ∃ c, prn (val x) = c := ⟨_, rfl⟩
  rw [hcs] at HDG hpl hpp ⊢
  have h' := h
  obtain ⟨A1, k1, rfl, m1⟩ := nt_len h'
  clear h' h hcs hd
  have HSG : Hid (∀ W b, Calls Tryz.prog 121 #[.bool b] W fun e w' => e = .returned (.string (strN (sgn b))) ∧ W = w') := fun W b => refSign_any b W
  by_cases h0 : K = 0
  · subst h0
    have e1 : List.replicate (0 + 1 - cs.length) 48 ++ cs = cs := by rw [show 0 + 1 - cs.length = 0 by omega]; rfl
    rw [e1] at HDG
    have e2 : Hid (pnt cs 0 = cs) := if_pos rfl
    obtain ⟨B, hB⟩ : ∃ b, (neg && decide (0 < x.length)) = b := ⟨_, rfl⟩
    have hadd : ∀ W : World, (Op.stringOp .add (strN (sgn B)) (strN cs)).run Tryz.prog W = .ok (.string (strN (sgn B ++ cs))) W := fun W => add_str _ _ (by have := sgn_len B; omega) W
    have HBB := Lib.hid hB
    clear e1 hB
    obtain ⟨T1, hT1⟩ : ∃ t, strN cs = t := ⟨_, rfl⟩
    obtain ⟨T2, hT2⟩ : ∃ t, strN (sgn B) = t := ⟨_, rfl⟩
    obtain ⟨T3, hT3⟩ : ∃ t, strN (sgn B ++ cs) = t := ⟨_, rfl⟩
    rw [hT1] at HDG
    rw [hT1, hT2, hT3] at hadd
    have HS1 : Hid (∀ W, Calls Tryz.prog 121 #[.bool B] W fun e w' => e = .returned (.string T2) ∧ W = w') := fun W => by rw [← hT2]; exact HSG.out W B
    have HT3 := Lib.hid hT3
    clear hT1 hT2 hT3 HSG hpl hpp
    cases neg
    · have hb : B = false := by rw [← HBB.out]; rfl
      subst hb
      go_enter Tryz.func88, Tryz.ntmps88
      go_wp2_with fail
      go_fit (HDG.out)
      rintro e w2 ⟨rfl, hb2⟩
      go_wp2_with fail
      go_fit (HS1.out _)
      rintro e w3 ⟨rfl, rfl⟩
      go_wp2_with fail
      go_ret
      exact ⟨by rw [HBB.out, e2.out, HT3.out]; rfl, hb2⟩
    · have hb : decide (0 < x.length) = B := by rw [← HBB.out]; simp
      go_enter Tryz.func88, Tryz.ntmps88
      go_wp2_with fail
      go_fit (HDG.out)
      rintro e w2 ⟨rfl, hb2⟩
      go_wp2_with fail
      go_fit (HS1.out _)
      rintro e w3 ⟨rfl, rfl⟩
      go_wp2_with fail
      go_ret
      exact ⟨by rw [HBB.out, e2.out, HT3.out]; rfl, hb2⟩
  · have hkp : (0 : Int) < (K : Int) := by omega
    obtain ⟨cs2, hcs⟩ : ∃ c, List.replicate (K + 1 - cs.length) 48 ++ cs = c := ⟨_, rfl⟩
    have e2 : Hid (pnt cs K = cs2.take (cs2.length - K) ++ [46] ++ cs2.drop (cs2.length - K)) := by
      show _ = _
      unfold pnt
      rw [if_neg h0, hcs]
    have hl2 : K < cs2.length ∧ cs2.length ≤ 2000 := by rw [← hcs]; simp; omega
    rw [hcs] at HDG
    obtain ⟨B, hB⟩ : ∃ b, (neg && decide (0 < x.length)) = b := ⟨_, rfl⟩
    have HBB := Lib.hid hB
    obtain ⟨L, hL⟩ : ∃ L, cs2.length = L := ⟨_, rfl⟩
    obtain ⟨M, hM⟩ : ∃ M, L - K = M := ⟨_, rfl⟩
    rw [hL, hM] at e2
    rw [hL] at hl2
    have s2 : (strN cs2).size = L := by rw [strN_size, hL]
    have x1 : (strN cs2).extract 0 M = strN (cs2.take M) := strN_take _ _
    have x2 : (strN cs2).extract M L = strN (cs2.drop M) := strN_drop _ _ _ (Nat.le_of_eq hL)
    have w1' : IntKind.i64.wrap ((L : Int) - (K : Int)) = (M : Int) := by rw [IntWalk.i64_in _ (by omega)]; omega
    have hML : (M : Int) ≤ (L : Int) := by omega
    have a1 : ∀ W : World, (Op.stringOp .add (strN (cs2.take M)) ⟨#[46]⟩).run Tryz.prog W = .ok (.string (strN (cs2.take M ++ [46]))) W := fun W => add_str (cs2.take M) [46] (by rw [List.length_take]; simp; omega) W
    have a2 : ∀ W : World, (Op.stringOp .add (strN (cs2.take M ++ [46])) (strN (cs2.drop M))).run Tryz.prog W = .ok (.string (strN (cs2.take M ++ [46] ++ cs2.drop M))) W := fun W => add_str (cs2.take M ++ [46]) (cs2.drop M) (by simp; omega) W
    have a3 : ∀ W : World, (Op.stringOp .add (strN (sgn B)) (strN (cs2.take M ++ [46] ++ cs2.drop M))).run Tryz.prog W = .ok (.string (strN (sgn B ++ (cs2.take M ++ [46] ++ cs2.drop M)))) W := fun W => add_str (sgn B) (cs2.take M ++ [46] ++ cs2.drop M) (by have := sgn_len B; simp; omega) W
    obtain ⟨S2, hS2⟩ : ∃ z, strN (sgn B) = z := ⟨_, rfl⟩
    have HS1 : Hid (∀ W, Calls Tryz.prog 121 #[.bool B] W fun e w' => e = .returned (.string S2) ∧ W = w') := fun W => by rw [← hS2]; exact HSG.out W B
    rw [hS2] at a3
    generalize strN cs2 = t at *
    generalize strN (cs2.take M) = t1 at *
    generalize strN (cs2.drop M) = t2 at *
    generalize strN (cs2.take M ++ [46]) = t3 at *
    generalize strN (cs2.take M ++ [46] ++ cs2.drop M) = t4 at *
    obtain ⟨t5, ht5⟩ : ∃ z, strN (sgn B ++ (cs2.take M ++ [46] ++ cs2.drop M)) = z := ⟨_, rfl⟩
    rw [ht5] at a3
    have HT5 := Lib.hid ht5
    clear hL hM hB hcs hS2 ht5 HSG hpl hpp h0
    subst s2
    cases neg
    · have hb : B = false := by rw [← HBB.out]; rfl
      subst hb
      go_enter Tryz.func88, Tryz.ntmps88
      go_wp2_with fail
      go_fit (HDG.out)
      rintro e w2 ⟨rfl, hb2⟩
      have HB2 := Lib.hid hb2
      clear hb2 HDG
      go_wp2_with fail
      go_quiet (fail)
      go_wp2_with fail
      go_fit (HS1.out _)
      rintro e w3 ⟨rfl, rfl⟩
      go_wp2_with fail
      go_ret
      exact ⟨by rw [HBB.out, e2.out, HT5.out]; rfl, ⟨HB2.out.os, HB2.out.tape, HB2.out.output, HB2.out.size, HB2.out.block⟩⟩
    · have hb : decide (0 < x.length) = B := by rw [← HBB.out]; simp
      go_enter Tryz.func88, Tryz.ntmps88
      go_wp2_with fail
      go_fit (HDG.out)
      rintro e w2 ⟨rfl, hb2⟩
      have HB2 := Lib.hid hb2
      clear hb2 HDG
      go_wp2_with fail
      go_quiet (fail)
      go_wp2_with fail
      go_fit (HS1.out _)
      rintro e w3 ⟨rfl, rfl⟩
      go_wp2_with fail
      go_ret
      exact ⟨by rw [HBB.out, e2.out, HT5.out]; rfl, ⟨HB2.out.os, HB2.out.tape, HB2.out.output, HB2.out.size, HB2.out.block⟩⟩

theorem fix_sign (q : Rat) (U X : Nat) (hX : X ≠ 0) : (qS q && decide (0 < (lim U).length)) = nrS (qS q) U X := by
  unfold nrS
  by_cases h : U = 0
  · subst h
    rw [if_pos (Or.inl rfl), lim_zero]
    simp
  · rw [if_neg (by omega)]
    have : 0 < (lim U).length := Nat.pos_of_ne_zero fun hc => h (lim_eq_nil.1 (List.eq_nil_of_length_eq_zero hc))
    rw [decide_eq_true this, Bool.and_true]

set_option maxHeartbeats 3200000 in
theorem refFixed_q (v : Value) (q : Rat) (k K : Nat) (w : World) (h : RQ w 0 w.heap.size v q k) (hk : k ≤ 70) (hk1 : 1 ≤ k) (hK : K ≤ 60) :
    Calls Tryz.prog 51 #[v, .int .i64 (K : Int)] w fun e w' => e = .returned (.string (strN (fixT q K))) ∧ Below w.heap.size w w' := by
  have hz := h.sz hk1
  have HNO : Hid (∀ W, Below w.heap.size w W → Calls Tryz.prog 22 #[v] W (GivesF q W)) := fun W hb => ratNorm_q v q k W (h.after hb) (by omega)
  have HUN : Hid (∀ W, Below w.heap.size w W → Calls Tryz.prog 89 #[v, .int .i64 (K : Int)] W (Gives (lim (rhe (qN q * 10 ^ K) q.den)) W)) := fun W hb => refUnits_q v q k K W (h.after hb) hk hk1 hK
  obtain ⟨U, hU⟩ : ∃ U, rhe (qN q * 10 ^ K) q.den = U := ⟨_, rfl⟩
  have lU : (lim U).length ≤ 100 := by
    rw [← hU]
    refine Nat.le_trans (lim_len_mono (rhe_le _ _)) ?_
    have l1 : (lim (qN q * 10 ^ K)).length ≤ 80 := lim_mul_len (dig_lim (qN q)) (dig_lim (10 ^ K)) (val_lim _).symm (val_lim _).symm (Nat.le_trans hz.1 hk) (ten_len10 hK)
    exact Nat.le_trans (lim_add_len (dig_lim (qN q * 10 ^ K)) (dig_lim 1) (val_lim _).symm (val_lim _).symm l1 (lim_length_le (by omega) : (lim 1).length ≤ 80)) (by omega)
  have dU := dig_lim U
  have HPT : Hid (∀ W v, Nt W 0 W.heap.size v (lim U) → Calls Tryz.prog 88 #[.bool (qS q), v, .int .i64 (K : Int)] W fun e w' => e = .returned (.string (strN (fixT q K))) ∧ Below W.heap.size W w') := fun W v hv => by
    have := refPoint_any (qS q) v (lim U) K W dU hv lU (by omega)
    rw [val_lim, fix_sign q U (10 ^ K) (Nat.ne_of_gt (Nat.pow_pos (by omega)))] at this
    unfold fixT
    rw [hU]
    exact this
  rw [hU] at HUN
  obtain ⟨s0, n0, d0, ⟨un, ud, rfl, hn0, hd0⟩, rest0⟩ := h
  obtain ⟨A1, k1, rfl, m1⟩ := nt_len hn0
  obtain ⟨A2, k2, rfl, m2⟩ := nt_len hd0
  clear hn0 hd0 rest0 hU hz dU
  generalize strN (fixT q K) = TXT at *
  have hB : Below w.heap.size w (w.alloc (.cells #[.bool s0, .slice A1 n0.length k1, .slice A2 d0.length k2] 25)) := (Below.refl _ _).alloc (Nat.le_refl _) _
  have b0 := Blk.new w 25 #[.bool s0, .slice A1 n0.length k1, .slice A2 d0.length k2]
  have hmin : min (K : Int) 60 = (K : Int) := by omega
  go_enter Tryz.func51, Tryz.ntmps51
  go_wp2_with fail
  generalize w.alloc (.cells #[.bool s0, .slice A1 n0.length k1, .slice A2 d0.length k2] 25) = w2 at *
  have c0 : w2.cell? ⟨w.heap.size, 0, none⟩ = some (.bool s0) := b0.cell 0
  have c1 : w2.cell? ⟨w.heap.size, 1, none⟩ = some (.slice A1 n0.length k1) := b0.cell 1
  have c2 : w2.cell? ⟨w.heap.size, 2, none⟩ = some (.slice A2 d0.length k2) := b0.cell 2
  have hg := b0.lt
  have hk0 : Below w2.heap.size w2 w2.drew := (Below.refl _ _).drew
  have HB := Lib.hid hB
  clear b0 hB
  go_region_held3 (fun W => W.cell? ⟨w.heap.size, 0, none⟩ = some (.bool s0) ∧ W.cell? ⟨w.heap.size, 1, none⟩ = some (.slice A1 n0.length k1) ∧ W.cell? ⟨w.heap.size, 2, none⟩ = some (.slice A2 d0.length k2))
    (with_reducible (first | exact s3_of hk5 c0 c1 c2 hg | exact s3_of hk4 c0 c1 c2 hg | exact s3_of hk3 c0 c1 c2 hg | exact s3_of hk0 c0 c1 c2 hg | fail))
    (first
      | (go_at_call 22; go_fit (HNO.out _ (HB.out.drew)); rintro e w3 ⟨v3, rfl, ⟨xn, xd, rfl, hxn, hxd⟩, hb3⟩; have hk3 : Below w2.heap.size w2 w3 := Below.trans (Below.drew (Below.refl _ _)) hb3; obtain ⟨A5, k5, rfl, m5⟩ := nt_len hxn; obtain ⟨A6, k6, rfl, m6⟩ := nt_len hxd; have hfd : ∀ W, Sem.run Tryz.prog (Instr.field 25 (.agg #[.bool (qS q), .slice A5 (lim (qN q)).length k5, .slice A6 (lim q.den).length k6]) 0) W = .ok (.bool (qS q)) W := fun _ => by kernel_rfl)
      | (go_at_call 89; go_fit (HUN.out _ (HB.out.trans (hk3.mono HB.out.size))); rintro e w4 ⟨v4, rfl, h4, hb4⟩; have hk4 : Below w2.heap.size w2 w4 := hk3.trans (hb4.mono hk3.size))
      | (go_at_call 88; go_fit (HPT.out _ _ (h4.low (Nat.zero_le _))); rintro e w5 ⟨rfl, hb5⟩; have hk5 : Below w2.heap.size w2 w5 := hk4.trans (hb5.mono hk4.size))
      | fail)
  have HBF := Lib.hid (HB.out.trans (hk5.mono HB.out.size))
  clear hk5 hk4 hk3 hb3 hb4 hb5 h4 hxn hxd
  go_wp2_with fail
  go_ret
  exact ⟨rfl, HBF.out⟩
end Go.Proofs.YtobmjcbjailclaaGreatDoor

/- The reference's ball of one number by its contract; normal numbers are normal; ten to a power in few limbs. Condition: bounds on lengths. -/
namespace Go.Proofs.YtobmjcbjailclaaGreatDoor
set_option maxRecDepth 100000
open Go.RowKit

theorem cb_lim (n : Nat) : cb (lim n) = true := (cb_iff _).2 (canon_lim n)

theorem isR_norm (q : Rat) : isR (qS q) (lim (qN q)) (lim q.den) = true := by
  have h1 : 0 < (lim q.den).length := Nat.pos_of_ne_zero fun hc => q.den_nz (lim_eq_nil.1 (List.eq_nil_of_length_eq_zero hc))
  have h2 : (qS q && decide ((lim (qN q)).length = 0)) = false := by
    by_cases h : qN q = 0
    · have : q = 0 := qN_zero.1 h
      subst this
      rfl
    · have : (lim (qN q)).length ≠ 0 := fun hc => h (lim_eq_nil.1 (List.eq_nil_of_length_eq_zero hc))
      rw [decide_eq_false this, Bool.and_false]
  have h3 : Nat.gcd (qN q) q.den = 1 := q.reduced
  unfold isR
  rw [cb_lim, cb_lim, decide_eq_true h1, h2, val_lim, val_lim, h3]
  rfl

theorem ten_len4 {k : Nat} (h : k ≤ 30) : (lim (10 ^ k)).length ≤ 4 :=
  lim_length_le (Nat.lt_of_le_of_lt (Nat.pow_le_pow_right (by omega) h) (by decide))

theorem rq_tenth4 {w w' : World} {v : Value} {d : Nat} (hd : d ≤ 30) (h : Rt w' w.heap.size w'.heap.size v false (lim 1) (lim (10 ^ d))) : RQ w' 0 w'.heap.size v (tenth d) 4 :=
  ⟨_, _, _, h.low (Nat.zero_le _), dig_lim _, dig_lim _, by rw [lim_one (by omega) (by omega)]; simp, ten_len4 hd, by rw [val_lim, val_lim]; rfl⟩

theorem tenth_pos (d : Nat) : 0 < tenth d := by
  have h : tenth d = 1 / ((10 ^ d : Nat) : Rat) := by
    unfold tenth qv
    rw [Rat.mkRat_eq_div]
    rfl
  rw [h]
  rw [Rat.div_def, Rat.one_mul]
  exact Rat.inv_pos.2 (Rat.natCast_pos.2 (Nat.pow_pos (by omega)))

/-- What hands back a new ball, both ends in lowest terms. -/
def GivesBall (p q : Rat) (w : World) (e : Ending) (w' : World) : Prop :=
  ∃ vn vd vm vc, e = .returned (.agg #[.bool (qS p), vn, vd, .bool (qS q), vm, vc]) ∧ Nt w' w.heap.size w'.heap.size vn (lim (qN p)) ∧ Nt w' w.heap.size w'.heap.size vd (lim p.den) ∧
    Nt w' w.heap.size w'.heap.size vm (lim (qN q)) ∧ Nt w' w.heap.size w'.heap.size vc (lim q.den) ∧ Below w.heap.size w w'

/-- A result that is a ball, laid into its own block. -/
def St6 (w : World) (g : Nat) (s : Bool) (a b : Value) (t : Bool) (c d : Value) : World :=
  (((((w.setCell ⟨g, 0, none⟩ (.bool s)).setCell ⟨g, 1, none⟩ a).setCell ⟨g, 2, none⟩ b).setCell ⟨g, 3, none⟩ (.bool t)).setCell ⟨g, 4, none⟩ c).setCell ⟨g, 5, none⟩ d

theorem store6 {w w0 : World} {g : Nat} {t : TypeId} {z0 z1 z2 z3 z4 z5 : Value} (q : Blk w g t #[z0, z1, z2, z3, z4, z5]) (hB : Below w0.heap.size w0 w) (hg : w0.heap.size ≤ g) (s : Bool) (a b : Value) (r : Bool) (c d : Value) :
    Blk (St6 w g s a b r c d) g t #[.bool s, a, b, .bool r, c, d] ∧ Below w0.heap.size w0 (St6 w g s a b r c d) ∧ (St6 w g s a b r c d).heap.size = w.heap.size := by
  refine ⟨?_, ?_, ?_⟩
  · exact (((((q.put 0 (.bool s)).put 1 a).put 2 b).put 3 (.bool r)).put 4 c).put 5 d
  · exact (((((hB.setCell (p := ⟨g, 0, none⟩) hg (.bool s)).setCell (p := ⟨g, 1, none⟩) hg a).setCell (p := ⟨g, 2, none⟩) hg b).setCell (p := ⟨g, 3, none⟩) hg (.bool r)).setCell (p := ⟨g, 4, none⟩) hg c).setCell (p := ⟨g, 5, none⟩) hg d
  · simp [St6, World.setCell]

theorem Nt.out6 {w : World} {L B g : Nat} {v : Value} {x : List Nat} (h : Nt w L B v x) (hg : g < L ∨ B ≤ g) (s : Bool) (a b : Value) (r : Bool) (c d : Value) : Nt (St6 w g s a b r c d) L B v x := by
  have far : ∀ (W : World) (i : Nat) (u : Value), Nt W L B v x → Nt (W.setCell ⟨g, i, none⟩ u) L B v x := fun W i u hW =>
    hW.stay (Nat.le_refl _) (Nat.le_refl _) fun q h1 h2 => World.cell?_setCell_far _ _ _ _ (by show g ≠ q.block; omega)
  exact far _ _ _ (far _ _ _ (far _ _ _ (far _ _ _ (far _ _ _ (far _ _ _ h)))))

theorem s3_out6 {W : World} {g p : Nat} {v0 v1 v2 : Value} {s : Bool} {a b : Value} {r : Bool} {c d : Value} (h : W.cell? ⟨g, 0, none⟩ = some v0 ∧ W.cell? ⟨g, 1, none⟩ = some v1 ∧ W.cell? ⟨g, 2, none⟩ = some v2) (hp : p ≠ g) :
    ((((((W.setCell ⟨p, 0, none⟩ (.bool s)).setCell ⟨p, 1, none⟩ a).setCell ⟨p, 2, none⟩ b).setCell ⟨p, 3, none⟩ (.bool r)).setCell ⟨p, 4, none⟩ c).setCell ⟨p, 5, none⟩ d).cell? ⟨g, 0, none⟩ = some v0 ∧
    ((((((W.setCell ⟨p, 0, none⟩ (.bool s)).setCell ⟨p, 1, none⟩ a).setCell ⟨p, 2, none⟩ b).setCell ⟨p, 3, none⟩ (.bool r)).setCell ⟨p, 4, none⟩ c).setCell ⟨p, 5, none⟩ d).cell? ⟨g, 1, none⟩ = some v1 ∧
    ((((((W.setCell ⟨p, 0, none⟩ (.bool s)).setCell ⟨p, 1, none⟩ a).setCell ⟨p, 2, none⟩ b).setCell ⟨p, 3, none⟩ (.bool r)).setCell ⟨p, 4, none⟩ c).setCell ⟨p, 5, none⟩ d).cell? ⟨g, 2, none⟩ = some v2 := by
  have far : ∀ (V : World) (i j : Nat) (u : Value), (V.setCell ⟨p, i, none⟩ u).cell? ⟨g, j, none⟩ = V.cell? ⟨g, j, none⟩ := fun V i j u => World.cell?_setCell_far _ _ _ _ hp
  obtain ⟨h0, h1, h2⟩ := h
  refine ⟨?_, ?_, ?_⟩
  · rw [far, far, far, far, far, far]; exact h0
  · rw [far, far, far, far, far, far]; exact h1
  · rw [far, far, far, far, far, far]; exact h2
end Go.Proofs.YtobmjcbjailclaaGreatDoor

/- Regions that make a ball: what holds behind them; balls of normal numbers as they are told. Condition: bounds on lengths. -/
namespace Go.Proofs.YtobmjcbjailclaaGreatDoor
set_option maxRecDepth 100000
open Go.RowKit

theorem ratMul_q (u v : Value) (p q : Rat) (k j : Nat) (w : World) (h : RQ w 0 w.heap.size u p k) (h' : RQ w 0 w.heap.size v q j) (hk : k ≤ 400) (hj : j ≤ 400) : Calls Tryz.prog 19 #[u, v] w (GivesF (p * q) w) := by
  obtain ⟨s, n, d, hR, dn, dd, ln, ld, rfl⟩ := h
  obtain ⟨t, m, c, hR', dm, dc, lm, lc, rfl⟩ := h'
  obtain ⟨e1, e2, e3⟩ := nr_q s (val n) (val d)
  obtain ⟨f1, f2, f3⟩ := nr_q t (val m) (val c)
  have := ratMul_any u v s t n d m c w dn dd dm dc hR hR' (by omega) (by omega) (by omega) (by omega) _ _ _ _ _ _ e1 e2 e3 f1 f2 f3
  obtain ⟨g1, g2, g3⟩ := nr_q (qS (qv s (val n) (val d)) != qS (qv t (val m) (val c))) (qN (qv s (val n) (val d)) * qN (qv t (val m) (val c))) ((qv s (val n) (val d)).den * (qv t (val m) (val c)).den)
  rw [g1, g2, g3, qv_mul] at this
  exact this

theorem below_unalloc {W W' : World} {o : Obj} (h : Below (W.alloc o).heap.size (W.alloc o) W') : Below W.heap.size W W' := ((Below.refl _ _).alloc (Nat.le_refl _) o).trans (h.mono (by simp))

/-- Behind 'far := Ball{Norm(x), Add(x, ..)}'. -/
def R4 (w : World) (g0 : Nat) (s : Bool) (a b : Value) (p q : Rat) (r : Value) (wx : World) : Prop :=
  ∃ g A1 k1 A2 k2 A3 k3 A4 k4, r = .pointer (some ⟨g, 0, none⟩) ∧ Blk wx g 36 #[.bool (qS p), .slice A1 (lim (qN p)).length k1, .slice A2 (lim p.den).length k2, .bool (qS q), .slice A3 (lim (qN q)).length k3, .slice A4 (lim q.den).length k4] ∧
    Nt wx 0 wx.heap.size (.slice A1 (lim (qN p)).length k1) (lim (qN p)) ∧ Nt wx 0 wx.heap.size (.slice A2 (lim p.den).length k2) (lim p.den) ∧ Nt wx 0 wx.heap.size (.slice A3 (lim (qN q)).length k3) (lim (qN q)) ∧ Nt wx 0 wx.heap.size (.slice A4 (lim q.den).length k4) (lim q.den) ∧
    Below w.heap.size w wx ∧ (wx.cell? ⟨g0, 0, none⟩ = some (.bool s) ∧ wx.cell? ⟨g0, 1, none⟩ = some a ∧ wx.cell? ⟨g0, 2, none⟩ = some b) ∧ g0 < wx.heap.size

theorem r4_new {w W : World} {g0 L3 B3 L8 : Nat} {s : Bool} {a b : Value} {p q : Rat} {A1 A2 A3 A4 : Option Addr} {k1 k2 k3 k4 : Nat} (n1 : Nt W L3 B3 (.slice A1 (lim (qN p)).length k1) (lim (qN p))) (n2 : Nt W L3 B3 (.slice A2 (lim p.den).length k2) (lim p.den)) (hB3 : B3 ≤ W.heap.size)
    (n3 : Nt W L8 W.heap.size (.slice A3 (lim (qN q)).length k3) (lim (qN q))) (n4 : Nt W L8 W.heap.size (.slice A4 (lim q.den).length k4) (lim q.den)) (hB : Below w.heap.size w W) (hc : W.cell? ⟨g0, 0, none⟩ = some (.bool s) ∧ W.cell? ⟨g0, 1, none⟩ = some a ∧ W.cell? ⟨g0, 2, none⟩ = some b) (hg : g0 < W.heap.size) :
    R4 w g0 s a b p q (.pointer (some ⟨W.heap.size, 0, none⟩)) (W.alloc (.cells #[.bool (qS p), .slice A1 (lim (qN p)).length k1, .slice A2 (lim p.den).length k2, .bool (qS q), .slice A3 (lim (qN q)).length k3, .slice A4 (lim q.den).length k4] 36)) := by
  have hal := (Below.refl W.heap.size W).alloc (Nat.le_refl _) (.cells #[.bool (qS p), .slice A1 (lim (qN p)).length k1, .slice A2 (lim p.den).length k2, .bool (qS q), .slice A3 (lim (qN q)).length k3, .slice A4 (lim q.den).length k4] 36)
  refine ⟨_, A1, k1, A2, k2, A3, k3, A4, k4, rfl, Blk.new _ _ _, ?_, ?_, ?_, ?_, hB.trans (hal.mono hB.size), ?_, Nat.lt_of_lt_of_le hg hal.size⟩
  · exact ((n1.low (Nat.zero_le _)).up hB3).after hal
  · exact ((n2.low (Nat.zero_le _)).up hB3).after hal
  · exact (n3.low (Nat.zero_le _)).after hal
  · exact (n4.low (Nat.zero_le _)).after hal
  · exact s3_of hal hc.1 hc.2.1 hc.2.2 hg

theorem r4_set {w W : World} {g g0 L3 B3 L8 : Nat} {s : Bool} {a b z0 z1 z2 z3 z4 z5 : Value} {p q : Rat} {A1 A2 A3 A4 : Option Addr} {k1 k2 k3 k4 : Nat} (n1 : Nt W L3 B3 (.slice A1 (lim (qN p)).length k1) (lim (qN p))) (n2 : Nt W L3 B3 (.slice A2 (lim p.den).length k2) (lim p.den)) (hB3 : B3 ≤ W.heap.size)
    (n3 : Nt W L8 W.heap.size (.slice A3 (lim (qN q)).length k3) (lim (qN q))) (n4 : Nt W L8 W.heap.size (.slice A4 (lim q.den).length k4) (lim q.den)) (hB : Below w.heap.size w W) (hc : W.cell? ⟨g0, 0, none⟩ = some (.bool s) ∧ W.cell? ⟨g0, 1, none⟩ = some a ∧ W.cell? ⟨g0, 2, none⟩ = some b) (hg : g0 < W.heap.size)
    (z : Blk W g 36 #[z0, z1, z2, z3, z4, z5]) (h3 : g < L3 ∨ B3 ≤ g) (h8 : g < L8) (hgw : w.heap.size ≤ g) (hne : g ≠ g0) :
    R4 w g0 s a b p q (.pointer (some ⟨g, 0, none⟩)) ((((((W.setCell ⟨g, 0, none⟩ (.bool (qS p))).setCell ⟨g, 1, none⟩ (.slice A1 (lim (qN p)).length k1)).setCell ⟨g, 2, none⟩ (.slice A2 (lim p.den).length k2)).setCell ⟨g, 3, none⟩ (.bool (qS q))).setCell ⟨g, 4, none⟩ (.slice A3 (lim (qN q)).length k3)).setCell ⟨g, 5, none⟩ (.slice A4 (lim q.den).length k4)) := by
  obtain ⟨q6, hBf, hsz⟩ := store6 z hB hgw (qS p) (.slice A1 (lim (qN p)).length k1) (.slice A2 (lim p.den).length k2) (qS q) (.slice A3 (lim (qN q)).length k3) (.slice A4 (lim q.den).length k4)
  have hsz' := Nat.le_of_eq hsz.symm
  refine ⟨_, A1, k1, A2, k2, A3, k3, A4, k4, rfl, q6, ?_, ?_, ?_, ?_, hBf, s3_out6 hc hne, Nat.lt_of_lt_of_le hg hsz'⟩
  · exact ((n1.out6 h3 _ _ _ _ _ _).low (Nat.zero_le _)).up (Nat.le_trans hB3 hsz')
  · exact ((n2.out6 h3 _ _ _ _ _ _).low (Nat.zero_le _)).up (Nat.le_trans hB3 hsz')
  · exact ((n3.out6 (Or.inl h8) _ _ _ _ _ _).low (Nat.zero_le _)).up hsz'
  · exact ((n4.out6 (Or.inl h8) _ _ _ _ _ _).low (Nat.zero_le _)).up hsz'

theorem sk_call {w0 W W' : World} {g : Nat} {a b c : Value} (hS : Below w0.heap.size w0 W ∧ W.cell? ⟨g, 0, none⟩ = some a ∧ W.cell? ⟨g, 1, none⟩ = some b ∧ W.cell? ⟨g, 2, none⟩ = some c) (hb : Below W.heap.size W W') (hg : g < w0.heap.size) :
    Below w0.heap.size w0 W' ∧ W'.cell? ⟨g, 0, none⟩ = some a ∧ W'.cell? ⟨g, 1, none⟩ = some b ∧ W'.cell? ⟨g, 2, none⟩ = some c := by
  obtain ⟨h, x, y, z⟩ := hS
  have hz := h.size
  exact ⟨h.trans (hb.mono hz), (hb.cell (p := ⟨g, 0, none⟩) (by show g < _; omega)).trans x, (hb.cell (p := ⟨g, 1, none⟩) (by show g < _; omega)).trans y, (hb.cell (p := ⟨g, 2, none⟩) (by show g < _; omega)).trans z⟩
theorem sk_alloc {w0 W : World} {g : Nat} {a b c : Value} {o : Obj} (hS : Below w0.heap.size w0 W ∧ W.cell? ⟨g, 0, none⟩ = some a ∧ W.cell? ⟨g, 1, none⟩ = some b ∧ W.cell? ⟨g, 2, none⟩ = some c) (hg : g < w0.heap.size) :
    Below w0.heap.size w0 (W.alloc o) ∧ (W.alloc o).cell? ⟨g, 0, none⟩ = some a ∧ (W.alloc o).cell? ⟨g, 1, none⟩ = some b ∧ (W.alloc o).cell? ⟨g, 2, none⟩ = some c := sk_call hS ((Below.refl _ _).alloc (Nat.le_refl _) _) hg
theorem sk_allocd {w0 W : World} {g : Nat} {a b c : Value} {o : Obj} (hS : Below w0.heap.size w0 W ∧ W.cell? ⟨g, 0, none⟩ = some a ∧ W.cell? ⟨g, 1, none⟩ = some b ∧ W.cell? ⟨g, 2, none⟩ = some c) (hg : g < w0.heap.size) :
    Below w0.heap.size w0 (W.alloc o).drew ∧ (W.alloc o).drew.cell? ⟨g, 0, none⟩ = some a ∧ (W.alloc o).drew.cell? ⟨g, 1, none⟩ = some b ∧ (W.alloc o).drew.cell? ⟨g, 2, none⟩ = some c := sk_call hS (((Below.refl _ _).alloc (Nat.le_refl _) _).drew) hg
theorem sk_set6 {w0 W : World} {g p : Nat} {v0 v1 v2 : Value} {s : Bool} {a b : Value} {r : Bool} {c d : Value} (hS : Below w0.heap.size w0 W ∧ W.cell? ⟨g, 0, none⟩ = some v0 ∧ W.cell? ⟨g, 1, none⟩ = some v1 ∧ W.cell? ⟨g, 2, none⟩ = some v2) (hg : g < w0.heap.size) (hp : w0.heap.size ≤ p) :
    Below w0.heap.size w0 ((((((W.setCell ⟨p, 0, none⟩ (.bool s)).setCell ⟨p, 1, none⟩ a).setCell ⟨p, 2, none⟩ b).setCell ⟨p, 3, none⟩ (.bool r)).setCell ⟨p, 4, none⟩ c).setCell ⟨p, 5, none⟩ d) ∧
      ((((((W.setCell ⟨p, 0, none⟩ (.bool s)).setCell ⟨p, 1, none⟩ a).setCell ⟨p, 2, none⟩ b).setCell ⟨p, 3, none⟩ (.bool r)).setCell ⟨p, 4, none⟩ c).setCell ⟨p, 5, none⟩ d).cell? ⟨g, 0, none⟩ = some v0 ∧
      ((((((W.setCell ⟨p, 0, none⟩ (.bool s)).setCell ⟨p, 1, none⟩ a).setCell ⟨p, 2, none⟩ b).setCell ⟨p, 3, none⟩ (.bool r)).setCell ⟨p, 4, none⟩ c).setCell ⟨p, 5, none⟩ d).cell? ⟨g, 1, none⟩ = some v1 ∧
      ((((((W.setCell ⟨p, 0, none⟩ (.bool s)).setCell ⟨p, 1, none⟩ a).setCell ⟨p, 2, none⟩ b).setCell ⟨p, 3, none⟩ (.bool r)).setCell ⟨p, 4, none⟩ c).setCell ⟨p, 5, none⟩ d).cell? ⟨g, 2, none⟩ = some v2 := by
  obtain ⟨h, x⟩ := hS
  exact ⟨(((((h.setCell (p := ⟨p, 0, none⟩) hp _).setCell (p := ⟨p, 1, none⟩) hp _).setCell (p := ⟨p, 2, none⟩) hp _).setCell (p := ⟨p, 3, none⟩) hp _).setCell (p := ⟨p, 4, none⟩) hp _).setCell (p := ⟨p, 5, none⟩) hp _, s3_out6 x (by omega)⟩

theorem dec_norm (p q : Rat) (k D : Nat) (A1 A2 A3 A4 : Option Addr) (k1 k2 k3 k4 : Nat) (W : World) (hD : D ≤ 30) (hk : k ≤ 30) (hk1 : 1 ≤ k) (hp : Sz p k) (hq : Sz q k) (hle : cmpQ p q ≤ 0)
    (n1 : Nt W 0 W.heap.size (.slice A1 (lim (qN p)).length k1) (lim (qN p))) (n2 : Nt W 0 W.heap.size (.slice A2 (lim p.den).length k2) (lim p.den)) (n3 : Nt W 0 W.heap.size (.slice A3 (lim (qN q)).length k3) (lim (qN q))) (n4 : Nt W 0 W.heap.size (.slice A4 (lim q.den).length k4) (lim q.den)) :
    Calls Tryz.prog 12 #[.agg #[.bool (qS p), .slice A1 (lim (qN p)).length k1, .slice A2 (lim p.den).length k2, .bool (qS q), .slice A3 (lim (qN q)).length k3, .slice A4 (lim q.den).length k4], .int .i64 (D : Int)] W (ShowPost p q D W) := by
  refine showDec_yes _ _ _ _ _ _ _ _ _ _ _ _ _ _ (D : Int) W p q k D (by unfold hold30; omega) (fun V hb => ?_) (RQ.of ⟨_, _, rfl, n1, n2⟩ hp) (RQ.of ⟨_, _, rfl, n3, n4⟩ hq) hk hk1
  have := ballIs_any (qS p) (qS q) (.slice A1 (lim (qN p)).length k1) (.slice A2 (lim p.den).length k2) (.slice A3 (lim (qN q)).length k3) (.slice A4 (lim q.den).length k4) (lim (qN p)) (lim p.den) (lim (qN q)) (lim q.den) p q V (dig_lim _) (dig_lim _) (dig_lim _) (dig_lim _)
    ⟨_, _, rfl, n1.after hb, n2.after hb⟩ ⟨_, _, rfl, n3.after hb, n4.after hb⟩ (by have := hp.1; omega) (by have := hp.2; omega) (by have := hq.1; omega) (by have := hq.2; omega) (by rw [val_lim, val_lim]; exact qv_self p) (by rw [val_lim, val_lim]; exact qv_self q)
  rw [isR_norm, isR_norm, decide_eq_true hle] at this
  exact this

end Go.Proofs.YtobmjcbjailclaaGreatDoor
