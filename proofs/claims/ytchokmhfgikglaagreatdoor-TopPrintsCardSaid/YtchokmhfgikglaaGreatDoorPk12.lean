/- Several texts in one: TopBox, TenBig, TopTen, StatA, Limbs2. Condition: each says its own. -/
import Derived.Deep.CutRange
import Derived.Deep.DeepFit
import Derived.Maps.AppendAt
import Derived.WalkLawsBesides
import Derived.WalkSpells
import Derived.Deep.QuietTactic
import Derived.BigQuiet
import Derived.Test.YtchokmhfgikglaaGreatDoorPk2
import Derived.Test.YtchokmhfgikglaaGreatDoorPk8
import Derived.Test.YtchokmhfgikglaaGreatDoorPk9
import Derived.Test.YtchokmhfgikglaaGreatDoorPk10
import Derived.Test.YtchokmhfgikglaaGreatDoorPk11
namespace Go.Proofs.YtchokmhfgikglaaGreatDoor
set_option maxRecDepth 100000
open Go.RowKit

/-- Block g holds this rational, normal; its limbs lie elsewhere, from L on. -/
def RB (w : World) (L g : Nat) (t : TypeId) (q : Rat) : Prop := ∃ F1 l1 F2 l2, Blk w g t #[.bool (qS q), .slice F1 (lim (qN q)).length l1, .slice F2 (lim q.den).length l2] ∧
  Nt w L w.heap.size (.slice F1 (lim (qN q)).length l1) (lim (qN q)) ∧ Nt w L w.heap.size (.slice F2 (lim q.den).length l2) (lim q.den) ∧ OutOf (some g) F1 (lim (qN q)).length ∧ OutOf (some g) F2 (lim q.den).length

section
variable {w w' : World} {L g : Nat} {t : TypeId} {q : Rat}
theorem RB.lt (h : RB w L g t q) : g < w.heap.size := by
  obtain ⟨F1, l1, F2, l2, hb, _⟩ := h
  exact hb.lt
theorem RB.below (h : RB w L g t q) (hb : Below w.heap.size w w') : RB w' L g t q := by
  obtain ⟨F1, l1, F2, l2, h1, h2, h3, h4, h5⟩ := h
  exact ⟨F1, l1, F2, l2, h1.below hb h1.lt, h2.after hb, h3.after hb, h4, h5⟩
theorem RB.low {L' : Nat} (h : RB w L g t q) (hL : L' ≤ L) : RB w L' g t q := by
  obtain ⟨F1, l1, F2, l2, h1, h2, h3, h4, h5⟩ := h
  exact ⟨F1, l1, F2, l2, h1, h2.low hL, h3.low hL, h4, h5⟩
theorem RB.drew (h : RB w L g t q) : RB w.drew L g t q := h
/-- A store into another block, below its limbs. -/
theorem RB.far (h : RB w L g t q) {p : Addr} (hp : p.block ≠ g) (hL : p.block < L) (u : Value) : RB (w.setCell p u) L g t q := by
  obtain ⟨F1, l1, F2, l2, h1, h2, h3, h4, h5⟩ := h
  exact ⟨F1, l1, F2, l2, h1.far (Ne.symm hp) u, h2.stay (Nat.le_refl _) (by simp [World.setCell]) fun r hl _ => World.cell?_setCell_far _ _ _ _ (by omega), h3.stay (Nat.le_refl _) (by simp [World.setCell]) fun r hl _ => World.cell?_setCell_far _ _ _ _ (by omega), h4, h5⟩
/-- What it reads as. -/
theorem RB.rq (h : RB w L g t q) {k : Nat} (hz : Sz q k) : ∃ F1 l1 F2 l2, Blk w g t #[.bool (qS q), .slice F1 (lim (qN q)).length l1, .slice F2 (lim q.den).length l2] ∧ RQ w 0 w.heap.size (.agg #[.bool (qS q), .slice F1 (lim (qN q)).length l1, .slice F2 (lim q.den).length l2]) q k := by
  obtain ⟨F1, l1, F2, l2, h1, h2, h3, h4, h5⟩ := h
  exact ⟨F1, l1, F2, l2, h1, RQ.of ⟨_, _, rfl, h2.low (Nat.zero_le _), h3.low (Nat.zero_le _)⟩ hz⟩
/-- Laid new: the numbers' limbs lie below the new block. -/
theorem RB.new {F1 F2 : Option Addr} {l1 l2 : Nat} (h1 : Nt w L w.heap.size (.slice F1 (lim (qN q)).length l1) (lim (qN q))) (h2 : Nt w L w.heap.size (.slice F2 (lim q.den).length l2) (lim q.den)) :
    RB (w.alloc (.cells #[.bool (qS q), .slice F1 (lim (qN q)).length l1, .slice F2 (lim q.den).length l2] t)) L w.heap.size t q := by
  have hb : Below w.heap.size w (w.alloc (.cells #[.bool (qS q), .slice F1 (lim (qN q)).length l1, .slice F2 (lim q.den).length l2] t)) := (Below.refl _ w).alloc (Nat.le_refl _) _
  exact ⟨F1, l1, F2, l2, Blk.new _ _ _, h1.after hb, h2.after hb, OutOf.of_nt h1 fun k hk => by cases hk; exact Or.inr (Nat.le_refl _), OutOf.of_nt h2 fun k hk => by cases hk; exact Or.inr (Nat.le_refl _)⟩
/-- Laid anew by another number. -/
theorem RB.set {a b c : Value} {F1 F2 : Option Addr} {l1 l2 : Nat} (hk : Blk w g t #[a, b, c]) (h1 : Nt w L w.heap.size (.slice F1 (lim (qN q)).length l1) (lim (qN q))) (h2 : Nt w L w.heap.size (.slice F2 (lim q.den).length l2) (lim q.den)) (hg : g < L) :
    RB (St3 w g (qS q) (.slice F1 (lim (qN q)).length l1) (.slice F2 (lim q.den).length l2)) L g t q := by
  have p3 := ((hk.put 0 (.bool (qS q))).put 1 (.slice F1 (lim (qN q)).length l1)).put 2 (.slice F2 (lim q.den).length l2)
  exact ⟨F1, l1, F2, l2, p3, ((h1.put3 hg 0 _).put3 hg 1 _).put3 hg 2 _, ((h2.put3 hg 0 _).put3 hg 1 _).put3 hg 2 _, OutOf.of_nt h1 fun k hk => by cases hk; exact Or.inl hg, OutOf.of_nt h2 fun k hk => by cases hk; exact Or.inl hg⟩
end

section
variable {w0 W W' : World} {g : Nat} {a b c : Value}
theorem sk_call (hS : Below w0.heap.size w0 W ∧ W.cell? ⟨g, 0, none⟩ = some a ∧ W.cell? ⟨g, 1, none⟩ = some b ∧ W.cell? ⟨g, 2, none⟩ = some c) (hb : Below W.heap.size W W') (hg : g < w0.heap.size) :
    Below w0.heap.size w0 W' ∧ W'.cell? ⟨g, 0, none⟩ = some a ∧ W'.cell? ⟨g, 1, none⟩ = some b ∧ W'.cell? ⟨g, 2, none⟩ = some c := by
  obtain ⟨h, x, y, z⟩ := hS
  have hz := h.size
  exact ⟨h.trans (hb.mono hz), (hb.cell (p := ⟨g, 0, none⟩) (by show g < _; omega)).trans x, (hb.cell (p := ⟨g, 1, none⟩) (by show g < _; omega)).trans y, (hb.cell (p := ⟨g, 2, none⟩) (by show g < _; omega)).trans z⟩
theorem sk_alloc {o : Obj} (hS : Below w0.heap.size w0 W ∧ W.cell? ⟨g, 0, none⟩ = some a ∧ W.cell? ⟨g, 1, none⟩ = some b ∧ W.cell? ⟨g, 2, none⟩ = some c) (hg : g < w0.heap.size) :
    Below w0.heap.size w0 (W.alloc o) ∧ (W.alloc o).cell? ⟨g, 0, none⟩ = some a ∧ (W.alloc o).cell? ⟨g, 1, none⟩ = some b ∧ (W.alloc o).cell? ⟨g, 2, none⟩ = some c := sk_call hS ((Below.refl _ _).alloc (Nat.le_refl _) _) hg
theorem sk_allocd {o : Obj} (hS : Below w0.heap.size w0 W ∧ W.cell? ⟨g, 0, none⟩ = some a ∧ W.cell? ⟨g, 1, none⟩ = some b ∧ W.cell? ⟨g, 2, none⟩ = some c) (hg : g < w0.heap.size) :
    Below w0.heap.size w0 (W.alloc o).drew ∧ (W.alloc o).drew.cell? ⟨g, 0, none⟩ = some a ∧ (W.alloc o).drew.cell? ⟨g, 1, none⟩ = some b ∧ (W.alloc o).drew.cell? ⟨g, 2, none⟩ = some c := sk_call hS (((Below.refl _ _).alloc (Nat.le_refl _) _).drew) hg
theorem sk_set3 {p : Nat} {x y z : Value} (hS : Below w0.heap.size w0 W ∧ W.cell? ⟨g, 0, none⟩ = some a ∧ W.cell? ⟨g, 1, none⟩ = some b ∧ W.cell? ⟨g, 2, none⟩ = some c) (hg : g < w0.heap.size) (hp : w0.heap.size ≤ p) :
    Below w0.heap.size w0 (((W.setCell ⟨p, 0, none⟩ x).setCell ⟨p, 1, none⟩ y).setCell ⟨p, 2, none⟩ z) ∧ (((W.setCell ⟨p, 0, none⟩ x).setCell ⟨p, 1, none⟩ y).setCell ⟨p, 2, none⟩ z).cell? ⟨g, 0, none⟩ = some a ∧
      (((W.setCell ⟨p, 0, none⟩ x).setCell ⟨p, 1, none⟩ y).setCell ⟨p, 2, none⟩ z).cell? ⟨g, 1, none⟩ = some b ∧ (((W.setCell ⟨p, 0, none⟩ x).setCell ⟨p, 1, none⟩ y).setCell ⟨p, 2, none⟩ z).cell? ⟨g, 2, none⟩ = some c := by
  obtain ⟨i, h⟩ := hS
  exact ⟨((i.setCell (p := ⟨p, 0, none⟩) hp _).setCell (p := ⟨p, 1, none⟩) hp _).setCell (p := ⟨p, 2, none⟩) hp _, far_set3 h.1 (by omega), far_set3 h.2.1 (by omega), far_set3 h.2.2 (by omega)⟩
end

/-- A number in its new variable, behind a region. -/
def RV (t : TypeId) (w7 : World) (y : Rat) (r : Value) (wx : World) : Prop :=
  ∃ g F1 l1 F2 l2, r = .pointer (some ⟨g, 0, none⟩) ∧ Blk wx g t #[.bool (qS y), .slice F1 (lim (qN y)).length l1, .slice F2 (lim y.den).length l2] ∧
    Nt wx w7.heap.size wx.heap.size (.slice F1 (lim (qN y)).length l1) (lim (qN y)) ∧ Nt wx w7.heap.size wx.heap.size (.slice F2 (lim y.den).length l2) (lim y.den) ∧ Below w7.heap.size w7 wx

theorem rv_new {t : TypeId} {w7 W : World} {y : Rat} {L : Nat} {F1 F2 : Option Addr} {l1 l2 : Nat} (n1 : Nt W L W.heap.size (.slice F1 (lim (qN y)).length l1) (lim (qN y))) (n2 : Nt W L W.heap.size (.slice F2 (lim y.den).length l2) (lim y.den)) (hL : w7.heap.size ≤ L) (hB : Below w7.heap.size w7 W) :
    RV t w7 y (.pointer (some ⟨W.heap.size, 0, none⟩)) (W.alloc (.cells #[.bool (qS y), .slice F1 (lim (qN y)).length l1, .slice F2 (lim y.den).length l2] t)) := by
  have hal := (Below.refl W.heap.size W).alloc (Nat.le_refl _) (.cells #[.bool (qS y), .slice F1 (lim (qN y)).length l1, .slice F2 (lim y.den).length l2] t)
  exact ⟨_, F1, l1, F2, l2, rfl, Blk.new _ _ _, (n1.low hL).after hal, (n2.low hL).after hal, hB.trans (hal.mono hB.size)⟩

theorem rv_set {t : TypeId} {w7 W : World} {y : Rat} {g L : Nat} {F1 F2 : Option Addr} {l1 l2 : Nat} {z0 z1 z2 : Value} (n1 : Nt W L W.heap.size (.slice F1 (lim (qN y)).length l1) (lim (qN y))) (n2 : Nt W L W.heap.size (.slice F2 (lim y.den).length l2) (lim y.den)) (hL : w7.heap.size ≤ L) (hB : Below w7.heap.size w7 W)
    (z : Blk W g t #[z0, z1, z2]) (hg : g < L) (hgw : w7.heap.size ≤ g) :
    RV t w7 y (.pointer (some ⟨g, 0, none⟩)) (((W.setCell ⟨g, 0, none⟩ (.bool (qS y))).setCell ⟨g, 1, none⟩ (.slice F1 (lim (qN y)).length l1)).setCell ⟨g, 2, none⟩ (.slice F2 (lim y.den).length l2)) :=
  ⟨_, F1, l1, F2, l2, rfl, blk_put3 z, (nt_set3 n1 hg _ _ _).low hL, (nt_set3 n2 hg _ _ _).low hL, below_set3 hB hgw _ _ _⟩

theorem ratMul_q (u v : Value) (p q : Rat) (k j : Nat) (w : World) (h : RQ w 0 w.heap.size u p k) (h' : RQ w 0 w.heap.size v q j) (hk : k ≤ 400) (hj : j ≤ 400) : Calls Tryz.prog 91 #[u, v] w (GivesF (p * q) w) := by
  obtain ⟨s, n, d, hR, dn, dd, ln, ld, rfl⟩ := h
  obtain ⟨t, m, c, hR', dm, dc, lm, lc, rfl⟩ := h'
  obtain ⟨e1, e2, e3⟩ := nr_q s (val n) (val d)
  obtain ⟨f1, f2, f3⟩ := nr_q t (val m) (val c)
  have := ratMul_any u v s t n d m c w dn dd dm dc hR hR' (by omega) (by omega) (by omega) (by omega) _ _ _ _ _ _ e1 e2 e3 f1 f2 f3
  obtain ⟨g1, g2, g3⟩ := nr_q (qS (qv s (val n) (val d)) != qS (qv t (val m) (val c))) (qN (qv s (val n) (val d)) * qN (qv t (val m) (val c))) ((qv s (val n) (val d)).den * (qv t (val m) (val c)).den)
  rw [g1, g2, g3, qv_mul] at this
  exact this

theorem qv_int (n : Nat) : qv false n 1 = (n : Rat) := by
  obtain ⟨e1, e2, e3⟩ := rat_int n
  have h := qv_self (n : Rat)
  rw [e1, e2, e3] at h
  exact h

/-- Of a power of ten. -/
theorem sz_ten {n : Nat} (h : n ≤ 30) : Sz ((10 ^ n : Nat) : Rat) 5 := by
  obtain ⟨_, e2, e3⟩ := rat_int (10 ^ n)
  unfold Sz
  rw [e2, e3]
  exact ⟨lim_length_le (Nat.lt_of_le_of_lt (Nat.pow_le_pow_right (by decide) h) (by decide)), lim_length_le (by decide)⟩

theorem ten_step (n : Nat) : ((10 ^ n : Nat) : Rat) * ((10 : Nat) : Rat) = ((10 ^ (n + 1) : Nat) : Rat) := by
  rw [Nat.pow_succ]
  exact (Rat.natCast_mul _ _).symm

set_option maxHeartbeats 6400000 in
theorem ten16_any (n : Nat) (w : World) (hn : n ≤ 30) : Calls Tryz.prog 92 #[.int .i64 (n : Int)] w (GivesF ((10 ^ n : Nat) : Rat) w) := by
  have HI1 : Hid (∀ W, Calls Tryz.prog 87 #[.int .i64 1] W (GivesF ((10 ^ 0 : Nat) : Rat) W)) := fun W => by have := refInt_any 1 W (by omega); rw [qv_int] at this; exact this
  have HI10 : Hid (∀ W, Calls Tryz.prog 87 #[.int .i64 10] W (GivesF ((10 : Nat) : Rat) W)) := fun W => by have := refInt_any 10 W (by omega); rw [qv_int] at this; exact this
  obtain ⟨t10, ht10⟩ : ∃ q : Rat, ((10 : Nat) : Rat) = q := ⟨_, rfl⟩
  have hz10 : Sz t10 5 := by rw [← ht10]; exact sz_ten (n := 1) (by omega)
  have HST : Hid (∀ k : Nat, ((10 ^ k : Nat) : Rat) * t10 = ((10 ^ (k + 1) : Nat) : Rat)) := fun k => by rw [← ht10]; exact ten_step k
  rw [ht10] at HI10
  have HSZ : Hid (∀ k : Nat, k ≤ 30 → Sz ((10 ^ k : Nat) : Rat) 5) := fun k hk => sz_ten hk
  obtain ⟨p, hp⟩ : ∃ p : Nat → Rat, ∀ k, p k = ((10 ^ k : Nat) : Rat) := ⟨_, fun _ => rfl⟩
  rw [← hp] at HI1 ⊢
  simp only [← hp] at HST HSZ
  clear hp ht10
  have b0 := Blk.new w 60 #[.bool false, .slice none 0 0, .slice none 0 0]
  have hB : Below w.heap.size w (w.alloc (.cells #[.bool false, .slice none 0 0, .slice none 0 0] 60)) := (Below.refl _ _).alloc (Nat.le_refl _) _
  go_enter Tryz.func92, Tryz.ntmps92
  go_wp2_with fail
  generalize w.alloc (.cells #[.bool false, .slice none 0 0, .slice none 0 0] 60) = w2 at *
  go_fit (HI1.out _)
  rintro e w3 ⟨v3, rfl, ⟨an, ad, rfl, han, had⟩, hb3⟩
  replace hB := hB.trans (hb3.mono hB.size)
  have hlt2 := b0.lt
  replace b0 := b0.below hb3 b0.lt
  obtain ⟨A1, k1, rfl, m1⟩ := nt_len han
  obtain ⟨A2, k2, rfl, m2⟩ := nt_len had
  have hx := RB.new (t := 60) (han.low (show w.heap.size + 1 ≤ _ from hlt2)) (had.low (show w.heap.size + 1 ≤ _ from hlt2))
  have hlt3 := b0.lt
  have c0 := b0.alloc (.cells #[.bool (qS (p 0)), .slice A1 (lim (qN (p 0))).length k1, .slice A2 (lim (p 0).den).length k2] 60)
  have hB4 : Below w.heap.size w (w3.alloc (.cells #[.bool (qS (p 0)), .slice A1 (lim (qN (p 0))).length k1, .slice A2 (lim (p 0).den).length k2] 60)) := hB.alloc hB.size _
  clear han had hb3 m1 m2 HI1 b0 hB
  obtain ⟨g3, hg3⟩ : ∃ g, w3.heap.size = g := ⟨_, rfl⟩
  rw [hg3] at hx hlt3
  have HG3 := Lib.hid hg3
  go_wp2_with fail
  generalize w3.alloc (.cells #[.bool (qS (p 0)), .slice A1 (lim (qN (p 0))).length k1, .slice A2 (lim (p 0).den).length k2] 60) = w4 at *
  clear hg3 HG3
  go_loopw [4] (fun i wr => ∃ k : Nat, k ≤ n ∧ i = .int .i64 (k : Int) ∧ RB wr (w.heap.size + 1) g3 60 (p k) ∧ Blk wr w.heap.size 60 #[.bool false, .slice none 0 0, .slice none 0 0] ∧ Below w.heap.size w wr) (fun i _ => n - (RowKit.intOf i).toNat)
  case atStart => exact ⟨0, Nat.zero_le _, rfl, hx, c0, hB4⟩
  case round =>
    clear hx c0 hB4
    obtain ⟨k, hk, rfl, hx, c0, hB⟩ := hrel
    by_cases hkn : k < n
    · have y0 : (k : Int) < (n : Int) := by omega
      obtain ⟨F1, l1, F2, l2, hblk, hrq⟩ := hx.rq (HSZ.out k (by omega))
      have x0 := hblk.cell 0
      have x1 := hblk.cell 1
      have x2 := hblk.cell 2
      have HRQ := Lib.hid hrq
      have HBLK := Lib.hid hblk
      have HC0 := Lib.hid c0
      have HB := Lib.hid hB
      clear hrq hblk c0 hB hx
      go_wp2_with fail
      go_region_with
        (first
          | (have hx9 := HB5
             go_at_call 91
             go_fit (ratMul_q _ _ (p k) t10 5 5 _ (HRQ.out.after HB5.out) HQ5.out (by omega) (by omega))
             rw [HST.out]
             rintro e w6 ⟨v6, rfl, ⟨bn, bd, rfl, hbn, hbd⟩, hb6⟩
             obtain ⟨A3, k3, rfl, m3⟩ := nt_len hbn
             obtain ⟨A4, k4, rfl, m4⟩ := nt_len hbd
             clear m3 m4
             have f5 := HBLK.out.below HB5.out HBLK.out.lt
             have f6 := f5.below hb6 f5.lt
             have z0 := f6.free 0
             have z1 := f6.free 1
             have z2 := f6.free 2
             have d0 := f6.cell 0
             have d1 := f6.cell 1
             have d2 := f6.cell 2
             have c6 := (HC0.out.below HB5.out HC0.out.lt)
             have C6 := Lib.hid (c6.below hb6 c6.lt)
             have F6 := Lib.hid f6
             have hB5 := HB.out.trans (HB5.out.mono HB.out.size)
             have HB6 := Lib.hid (hB5.trans (hb6.mono hB5.size))
             have HBN := Lib.hid (hbn.low (show g3 + 1 ≤ _ from f5.lt))
             have HBD := Lib.hid (hbd.low (show g3 + 1 ≤ _ from f5.lt))
             clear f5 f6 c6 hB5 hbn hbd hb6 hx9)
          | (go_at_call 87
             go_fit (HI10.out _)
             rintro e w5 ⟨v5, rfl, ⟨cn, cd, rfl, hcn, hcd⟩, hb5⟩
             have HB5 := Lib.hid (Below.trans ((Below.refl _ _).drew) hb5)
             have HQ5 := Lib.hid (RQ.of ⟨_, _, rfl, hcn.low (Nat.zero_le _), hcd.low (Nat.zero_le _)⟩ hz10)
             have e5 := HBLK.out.below HB5.out HBLK.out.lt
             have x0_5 := e5.cell 0
             have x1_5 := e5.cell 1
             have x2_5 := e5.cell 2
             clear e5 hcn hcd hb5)
          | fail)
      all_goals
        have hset := RB.set F6.out HBN.out HBD.out (Nat.lt_succ_self g3)
        have hset2 := hset.low (show w.heap.size + 1 ≤ g3 + 1 by omega)
        have hc7 : Blk (St3 w6 g3 (qS (p (k + 1))) (.slice A3 (lim (qN (p (k + 1)))).length k3) (.slice A4 (lim (p (k + 1)).den).length k4)) w.heap.size 60 #[.bool false, .slice none 0 0, .slice none 0 0] :=
          ((C6.out.far (by show w.heap.size ≠ g3; omega) _).far (by show w.heap.size ≠ g3; omega) _).far (by show w.heap.size ≠ g3; omega) _
        have hB7 : Below w.heap.size w (St3 w6 g3 (qS (p (k + 1))) (.slice A3 (lim (qN (p (k + 1)))).length k3) (.slice A4 (lim (p (k + 1)).den).length k4)) :=
          ((HB6.out.setCell (p := ⟨g3, 0, none⟩) (by show w.heap.size ≤ g3; omega) _).setCell (p := ⟨g3, 1, none⟩) (by show w.heap.size ≤ g3; omega) _).setCell (p := ⟨g3, 2, none⟩) (by show w.heap.size ≤ g3; omega) _
        have HS2 := Lib.hid hset2
        have HC7 := Lib.hid hc7
        have HB7 := Lib.hid hB7
        clear hset hset2 hc7 hB7 d0 d1 d2 z0 z1 z2
        unfold St3 at *
        go_wp2_with fail
        go_roundw
        case rel => exact ⟨k + 1, by omega, by go_num, HS2.out, HC7.out, HB7.out⟩
        case measure => simp [RowKit.intOf]; omega
    · obtain rfl : k = n := by omega
      have y0 : ¬ (k : Int) < (k : Int) := by omega
      obtain ⟨F1, l1, F2, l2, hblk, n1, n2, o1, o2⟩ := hx
      have x0 := hblk.cell 0
      have x1 := hblk.cell 1
      have x2 := hblk.cell 2
      have f0 := c0.free 0
      have f1 := c0.free 1
      have f2 := c0.free 2
      have e0 := c0.cell 0
      have e1 := c0.cell 1
      have e2 := c0.cell 2
      obtain ⟨r0, r1, r2, hR, hBf⟩ := store3 c0 hB (Nat.le_refl _) (qS (p k)) (.slice F1 (lim (qN (p k))).length l1) (.slice F2 (lim (p k).den).length l2) n1 n2
      have HR := Lib.hid hR
      have HBF := Lib.hid hBf
      clear hblk n1 n2 o1 o2 hB c0 hR hBf
      unfold St3 at *
      go_wp2_with fail
      refine bodyPost_ret (v := .agg #[.bool (qS (p k)), .slice F1 (lim (qN (p k))).length l1, .slice F2 (lim (p k).den).length l2]) ?_ rfl ⟨_, rfl, HR.out, HBF.out⟩
      simp [results, Tryz.results92, go_sem, r0, r1, r2]
end Go.Proofs.YtchokmhfgikglaaGreatDoor

namespace Go.Proofs.YtchokmhfgikglaaGreatDoor
set_option maxRecDepth 100000
open Go.RowKit

set_option maxHeartbeats 3200000 in
theorem ten_big (d : Nat) (w : World) (hd : d ≤ 1000) : Calls Tryz.prog 137 #[.int .i64 (d : Int)] w (Gives (lim (10 ^ d)) w) := by
  go_enter Tryz.func137, Tryz.ntmps137
  go_wp2_with fail
  refine (of_any 1 _ (by omega)).mono ?_
  rintro e w1 ⟨v1, rfl, h1, hb1⟩
  go_wp2_with fail
  have l0 : lim 1 = lim (10 ^ 0) := rfl
  rw [l0] at h1
  clear l0
  go_loopw [3, 6] (fun a i wr => ∃ k : Nat, k ≤ d ∧ i = .int .i64 (k : Nat) ∧ Nt wr w.heap.size wr.heap.size a (lim (10 ^ k)) ∧ Below w.heap.size w wr)
    (fun _ i _ => d - (intOf i).toNat)
  case atStart => exact ⟨0, Nat.zero_le _, rfl, h1, hb1⟩
  case round =>
    obtain ⟨k, hk, rfl, ha, hb⟩ := hrel
    clear h1 hb1
    by_cases hlt : k < d
    · have hlI : (k : Int) < (d : Int) := by omega
      have hl : (lim (10 ^ k)).length ≤ 1001 := lim_ten (Nat.pow_lt_pow_right (by omega) (Nat.lt_succ_self k)) (by omega)
      have dk := dig_lim (10 ^ k)
      have dt := dig_lim 10
      have lt : (lim 10).length ≤ 1 := lim_length_le (by omega)
      have V := Lib.hid (val_lim (10 ^ k))
      have V2 := Lib.hid (val_lim 10)
      have P : Hid (10 ^ k * 10 = 10 ^ (k + 1)) := (Nat.pow_succ ..).symm
      go_wp2_with fail
      refine (of_any 10 _ (by omega)).mono ?_
      rintro e w2 ⟨v2, rfl, h2, hb2⟩
      have ha2 := (ha.low (Nat.zero_le _)).after hb2
      have h2' := h2.low (Nat.zero_le _)
      have hb02 := hb.trans (hb2.mono hb.size)
      clear ha h2 hb hb2
      go_wp2_with fail
      refine (mul_any _ _ (lim (10 ^ k)) (lim 10) _ dk dt ha2 h2' (by omega) (by omega)).mono ?_
      rw [V.out, V2.out, P.out]
      rintro e w4 ⟨v4, rfl, h4, hb4⟩
      have h4' := h4.low hb02.size
      have hb04 := hb02.trans (hb4.mono hb02.size)
      clear h4 hb4 ha2 h2' hb02
      go_wp2_with fail
      go_roundw
      case rel => exact ⟨k + 1, by omega, by go_num, h4', hb04⟩
      case measure => simp [intOf]; omega
    · obtain rfl : k = d := by omega
      go_wp2_with fail
      go_ret
      exact ⟨_, rfl, ha, hb⟩

end Go.Proofs.YtchokmhfgikglaaGreatDoor

namespace Go.Proofs.YtchokmhfgikglaaGreatDoor
set_option maxRecDepth 100000
open Go.RowKit

set_option maxHeartbeats 6400000 in
theorem dataTen_any (n : Nat) (w : World) (hn : n ≤ 30) : Calls Tryz.prog 76 #[.int .i64 (n : Int)] w (GivesF ((10 ^ n : Nat) : Rat) w) := by
  have HI1 : Hid (∀ W, Calls Tryz.prog 71 #[.int .i64 1] W (GivesF ((10 ^ 0 : Nat) : Rat) W)) := fun W => prInt_any 1 W (by omega)
  have HI10 : Hid (∀ W, Calls Tryz.prog 71 #[.int .i64 10] W (GivesF ((10 : Nat) : Rat) W)) := fun W => prInt_any 10 W (by omega)
  obtain ⟨t10, ht10⟩ : ∃ q : Rat, ((10 : Nat) : Rat) = q := ⟨_, rfl⟩
  have hz10 : Sz t10 5 := by rw [← ht10]; exact sz_ten (n := 1) (by omega)
  have HST : Hid (∀ k : Nat, ((10 ^ k : Nat) : Rat) * t10 = ((10 ^ (k + 1) : Nat) : Rat)) := fun k => by rw [← ht10]; exact ten_step k
  rw [ht10] at HI10
  have HSZ : Hid (∀ k : Nat, k ≤ 30 → Sz ((10 ^ k : Nat) : Rat) 5) := fun k hk => sz_ten hk
  obtain ⟨p, hp⟩ : ∃ p : Nat → Rat, ∀ k, p k = ((10 ^ k : Nat) : Rat) := ⟨_, fun _ => rfl⟩
  rw [← hp] at HI1 ⊢
  simp only [← hp] at HST HSZ
  clear hp ht10
  have b0 := Blk.new w 60 #[.bool false, .slice none 0 0, .slice none 0 0]
  have hB : Below w.heap.size w (w.alloc (.cells #[.bool false, .slice none 0 0, .slice none 0 0] 60)) := (Below.refl _ _).alloc (Nat.le_refl _) _
  go_enter Tryz.func76, Tryz.ntmps76
  go_wp2_with fail
  generalize w.alloc (.cells #[.bool false, .slice none 0 0, .slice none 0 0] 60) = w2 at *
  go_fit (HI1.out _)
  rintro e w3 ⟨v3, rfl, ⟨an, ad, rfl, han, had⟩, hb3⟩
  replace hB := hB.trans (hb3.mono hB.size)
  have hlt2 := b0.lt
  replace b0 := b0.below hb3 b0.lt
  obtain ⟨A1, k1, rfl, m1⟩ := nt_len han
  obtain ⟨A2, k2, rfl, m2⟩ := nt_len had
  have hx := RB.new (t := 60) (han.low (show w.heap.size + 1 ≤ _ from hlt2)) (had.low (show w.heap.size + 1 ≤ _ from hlt2))
  have hlt3 := b0.lt
  have c0 := b0.alloc (.cells #[.bool (qS (p 0)), .slice A1 (lim (qN (p 0))).length k1, .slice A2 (lim (p 0).den).length k2] 60)
  have hB4 : Below w.heap.size w (w3.alloc (.cells #[.bool (qS (p 0)), .slice A1 (lim (qN (p 0))).length k1, .slice A2 (lim (p 0).den).length k2] 60)) := hB.alloc hB.size _
  clear han had hb3 m1 m2 HI1 b0 hB
  obtain ⟨g3, hg3⟩ : ∃ g, w3.heap.size = g := ⟨_, rfl⟩
  rw [hg3] at hx hlt3
  have HG3 := Lib.hid hg3
  go_wp2_with fail
  generalize w3.alloc (.cells #[.bool (qS (p 0)), .slice A1 (lim (qN (p 0))).length k1, .slice A2 (lim (p 0).den).length k2] 60) = w4 at *
  clear hg3 HG3
  go_loopw [6] (fun i wr => ∃ k : Nat, k ≤ n ∧ i = .int .i64 (k : Int) ∧ RB wr (w.heap.size + 1) g3 60 (p k) ∧ Blk wr w.heap.size 60 #[.bool false, .slice none 0 0, .slice none 0 0] ∧ Below w.heap.size w wr) (fun i _ => n - (RowKit.intOf i).toNat)
  case atStart => exact ⟨0, Nat.zero_le _, rfl, hx, c0, hB4⟩
  case round =>
    clear hx c0 hB4
    obtain ⟨k, hk, rfl, hx, c0, hB⟩ := hrel
    by_cases hkn : k < n
    · have y0 : (k : Int) < (n : Int) := by omega
      obtain ⟨F1, l1, F2, l2, hblk, hrq⟩ := hx.rq (HSZ.out k (by omega))
      have x0 := hblk.cell 0
      have x1 := hblk.cell 1
      have x2 := hblk.cell 2
      have HRQ := Lib.hid hrq
      have HBLK := Lib.hid hblk
      have HC0 := Lib.hid c0
      have HB := Lib.hid hB
      clear hrq hblk c0 hB hx
      go_wp2_with fail
      go_region_with
        (first
          | (have hx9 := HB5
             go_at_call 77
             go_fit (prMul_q _ _ (p k) t10 5 5 _ (HRQ.out.after HB5.out) HQ5.out (by omega) (by omega))
             rw [HST.out]
             rintro e w6 ⟨v6, rfl, ⟨bn, bd, rfl, hbn, hbd⟩, hb6⟩
             obtain ⟨A3, k3, rfl, m3⟩ := nt_len hbn
             obtain ⟨A4, k4, rfl, m4⟩ := nt_len hbd
             clear m3 m4
             have f5 := HBLK.out.below HB5.out HBLK.out.lt
             have f6 := f5.below hb6 f5.lt
             have z0 := f6.free 0
             have z1 := f6.free 1
             have z2 := f6.free 2
             have d0 := f6.cell 0
             have d1 := f6.cell 1
             have d2 := f6.cell 2
             have c6 := (HC0.out.below HB5.out HC0.out.lt)
             have C6 := Lib.hid (c6.below hb6 c6.lt)
             have F6 := Lib.hid f6
             have hB5 := HB.out.trans (HB5.out.mono HB.out.size)
             have HB6 := Lib.hid (hB5.trans (hb6.mono hB5.size))
             have HBN := Lib.hid (hbn.low (show g3 + 1 ≤ _ from f5.lt))
             have HBD := Lib.hid (hbd.low (show g3 + 1 ≤ _ from f5.lt))
             clear f5 f6 c6 hB5 hbn hbd hb6 hx9)
          | (go_at_call 71
             go_fit (HI10.out _)
             rintro e w5 ⟨v5, rfl, ⟨cn, cd, rfl, hcn, hcd⟩, hb5⟩
             have HB5 := Lib.hid (Below.trans ((Below.refl _ _).drew) hb5)
             have HQ5 := Lib.hid (RQ.of ⟨_, _, rfl, hcn.low (Nat.zero_le _), hcd.low (Nat.zero_le _)⟩ hz10)
             have e5 := HBLK.out.below HB5.out HBLK.out.lt
             have x0_5 := e5.cell 0
             have x1_5 := e5.cell 1
             have x2_5 := e5.cell 2
             clear e5 hcn hcd hb5)
          | fail)
      all_goals
        have hset := RB.set F6.out HBN.out HBD.out (Nat.lt_succ_self g3)
        have hset2 := hset.low (show w.heap.size + 1 ≤ g3 + 1 by omega)
        have hc7 : Blk (St3 w6 g3 (qS (p (k + 1))) (.slice A3 (lim (qN (p (k + 1)))).length k3) (.slice A4 (lim (p (k + 1)).den).length k4)) w.heap.size 60 #[.bool false, .slice none 0 0, .slice none 0 0] :=
          ((C6.out.far (by show w.heap.size ≠ g3; omega) _).far (by show w.heap.size ≠ g3; omega) _).far (by show w.heap.size ≠ g3; omega) _
        have hB7 : Below w.heap.size w (St3 w6 g3 (qS (p (k + 1))) (.slice A3 (lim (qN (p (k + 1)))).length k3) (.slice A4 (lim (p (k + 1)).den).length k4)) :=
          ((HB6.out.setCell (p := ⟨g3, 0, none⟩) (by show w.heap.size ≤ g3; omega) _).setCell (p := ⟨g3, 1, none⟩) (by show w.heap.size ≤ g3; omega) _).setCell (p := ⟨g3, 2, none⟩) (by show w.heap.size ≤ g3; omega) _
        have HS2 := Lib.hid hset2
        have HC7 := Lib.hid hc7
        have HB7 := Lib.hid hB7
        clear hset hset2 hc7 hB7 d0 d1 d2 z0 z1 z2
        unfold St3 at *
        go_wp2_with fail
        go_roundw
        case rel => exact ⟨k + 1, by omega, by go_num, HS2.out, HC7.out, HB7.out⟩
        case measure => simp [RowKit.intOf]; omega
    · obtain rfl : k = n := by omega
      have y0 : ¬ (k : Int) < (k : Int) := by omega
      obtain ⟨F1, l1, F2, l2, hblk, n1, n2, o1, o2⟩ := hx
      have x0 := hblk.cell 0
      have x1 := hblk.cell 1
      have x2 := hblk.cell 2
      have f0 := c0.free 0
      have f1 := c0.free 1
      have f2 := c0.free 2
      have e0 := c0.cell 0
      have e1 := c0.cell 1
      have e2 := c0.cell 2
      obtain ⟨r0, r1, r2, hR, hBf⟩ := store3 c0 hB (Nat.le_refl _) (qS (p k)) (.slice F1 (lim (qN (p k))).length l1) (.slice F2 (lim (p k).den).length l2) n1 n2
      have HR := Lib.hid hR
      have HBF := Lib.hid hBf
      clear hblk n1 n2 o1 o2 hB c0 hR hBf
      unfold St3 at *
      go_wp2_with fail
      refine bodyPost_ret (v := .agg #[.bool (qS (p k)), .slice F1 (lim (qN (p k))).length l1, .slice F2 (lim (p k).den).length l2]) ?_ rfl ⟨_, rfl, HR.out, HBF.out⟩
      simp [results, Tryz.results76, go_sem, r0, r1, r2]
end Go.Proofs.YtchokmhfgikglaaGreatDoor

namespace Go.Proofs.YtchokmhfgikglaaGreatDoor
set_option maxRecDepth 100000
open Go.RowKit

theorem sz_nat {n : Nat} (h : n ≤ 1000000) : Sz (n : Rat) 1 := by
  obtain ⟨_, e2, e3⟩ := rat_int n
  unfold Sz
  rw [e2, e3]
  exact ⟨lim_length_le (by omega), lim_length_le (by decide)⟩

set_option maxHeartbeats 3200000 in
theorem by_q (v : Value) (p : Rat) (k n : Nat) (w : World) (h : RQ w 0 w.heap.size v p k) (hk : k ≤ 390) (hn : 1 ≤ n) (hn2 : n ≤ 1000000) :
    Calls Tryz.prog 254 #[v, .int .i64 (n : Int)] w (GivesF (p / (n : Rat)) w) := by
  have HT : Hid (∀ W, Calls Tryz.prog 71 #[.int .i64 (n : Int)] W (GivesF (n : Rat) W)) := fun W => prInt_any n W hn2
  have HTZ := Lib.hid (sz_nat hn2)
  have htn : (n : Rat) ≠ 0 := fun hc => by have := Rat.natCast_eq_zero_iff.1 hc; omega
  generalize (n : Rat) = tm at *
  obtain ⟨R, hR⟩ : ∃ R, p / tm = R := ⟨_, rfl⟩
  have HDIV : Hid (∀ W u v, RQ W 0 W.heap.size u p k → RQ W 0 W.heap.size v tm 1 → Calls Tryz.prog 75 #[u, v] W (GivesFB R W)) := fun W u v h1 h2 => by
    rw [← hR]
    exact prDiv_q u v p tm k 1 W h1 h2 (by omega) (by omega) (by omega) htn
  rw [hR]
  clear hR htn
  have hrq := h
  obtain ⟨s, x, d, ⟨xn, xd, rfl, hxn, hxd⟩, rest⟩ := h
  obtain ⟨G1, j1, rfl, m1⟩ := nt_len hxn
  obtain ⟨G2, j2, rfl, m2⟩ := nt_len hxd
  clear hxn hxd m1 m2 rest
  have a0 := (Blk.new w 60 #[.bool s, .slice G1 x.length j1, .slice G2 d.length j2]).alloc (.cells #[.bool false, .slice none 0 0, .slice none 0 0] 60)
  have b0 := blk_new1 w (.cells #[.bool s, .slice G1 x.length j1, .slice G2 d.length j2] 60) 60 #[.bool false, .slice none 0 0, .slice none 0 0]
  have hB : Below w.heap.size w ((w.alloc (.cells #[.bool s, .slice G1 x.length j1, .slice G2 d.length j2] 60)).alloc (.cells #[.bool false, .slice none 0 0, .slice none 0 0] 60)) := ((Below.refl _ _).alloc (Nat.le_refl _) _).alloc (by simp) _
  go_enter Tryz.func254, Tryz.ntmps254
  go_wp2_with fail
  obtain ⟨w7, hw7⟩ : ∃ w7, (w.alloc (.cells #[.bool s, .slice G1 x.length j1, .slice G2 d.length j2] 60)).alloc (.cells #[.bool false, .slice none 0 0, .slice none 0 0] 60) = w7 := ⟨_, rfl⟩
  rw [hw7] at a0 b0 hB ⊢
  have HRQ := Lib.hid (hrq.after hB)
  have HBLK := Lib.hid a0
  have HB0 := Lib.hid b0
  have HB := Lib.hid hB
  clear hw7 hrq a0 b0 hB
  obtain ⟨g8, hg8⟩ : ∃ g, w.heap.size = g := ⟨_, rfl⟩
  rw [hg8] at HBLK HB0
  have hg7 : g8 < w7.heap.size := HBLK.out.lt
  have HS00 : Hid (Below w7.heap.size w7 w7 ∧ w7.cell? ⟨g8, 0, none⟩ = some (.bool s) ∧ w7.cell? ⟨g8, 1, none⟩ = some (.slice G1 x.length j1) ∧ w7.cell? ⟨g8, 2, none⟩ = some (.slice G2 d.length j2)) := ⟨Below.refl _ _, HBLK.out.cell 0, HBLK.out.cell 1, HBLK.out.cell 2⟩
  have HS0 : Hid (Below w7.heap.size w7 w7.drew ∧ w7.drew.cell? ⟨g8, 0, none⟩ = some (.bool s) ∧ w7.drew.cell? ⟨g8, 1, none⟩ = some (.slice G1 x.length j1) ∧ w7.drew.cell? ⟨g8, 2, none⟩ = some (.slice G2 d.length j2)) := sk_call HS00.out (Below.refl _ _).drew hg7
  rw [hg8]
  have HG8 := Lib.hid hg8
  clear hg8
  go_cut [5, 6] from 7 to 13 (fun r _ wx => RV 60 w7 R r wx)
  case first =>
    clear HB0 HB
    go_region_held3 (fun W => Below w7.heap.size w7 W ∧ W.cell? ⟨g8, 0, none⟩ = some (.bool s) ∧ W.cell? ⟨g8, 1, none⟩ = some (.slice G1 x.length j1) ∧ W.cell? ⟨g8, 2, none⟩ = some (.slice G2 d.length j2))
      (with_reducible (first | exact HS0.out | exact sk_allocd HS00.out hg7 | exact sk_alloc (by assumption) hg7 | exact sk_call (by assumption) (by assumption) hg7 | exact sk_set3 (by assumption) hg7 ZG.out | exact sk_alloc S10.out hg7 | fail))
      (first
        | (have hx := hb9
           go_at_call 75
           go_fit (HDIV.out _ _ _ (HRQ.out.after (And.left (by assumption))) (by first | with_reducible exact t9 | with_reducible exact t9.after ((Below.refl _ _).alloc (Nat.le_refl _) _)))
           rintro e w10 ⟨v10, rfl, ⟨yn, yd, rfl, hyn, hyd⟩, hb10⟩
           obtain ⟨F1, l1, rfl, m7⟩ := nt_len hyn
           obtain ⟨F2, l2, rfl, m8⟩ := nt_len hyd
           have S10 := Lib.hid (sk_call (by assumption) hb10 hg7)
           (first
             | (have H8 := Lib.hid z.lt; replace z := z.below hb10 z.lt; have r0 := z.cell 0; have r1 := z.cell 1; have r2 := z.cell 2; have f0 := z.free 0; have f1 := z.free 1; have f2 := z.free 2)
             | (have z := (Blk.new w9 60 #[.bool false, .slice none 0 0, .slice none 0 0]).below hb10 (Blk.new w9 60 #[.bool false, .slice none 0 0, .slice none 0 0]).lt; have H8 := Lib.hid (Blk.new w9 60 #[.bool false, .slice none 0 0, .slice none 0 0]).lt; have ZG : Hid (w7.heap.size ≤ w9.heap.size) := (And.left S9.out).size; have r0 := z.cell 0; have r1 := z.cell 1; have r2 := z.cell 2; have f0 := z.free 0; have f1 := z.free 1; have f2 := z.free 2)
             | skip))
        | (go_at_call 71
           go_fit (HT.out _)
           rintro e w9 ⟨v9, rfl, h9, hb9⟩
           have t9 : RQ w9 0 w9.heap.size v9 tm 1 := RQ.of (h9.low (Nat.zero_le _)) HTZ.out
           have S9 := Lib.hid (sk_call (by assumption) hb9 hg7)
           (first
             | (have z := (Blk.new w7 60 #[.bool false, .slice none 0 0, .slice none 0 0]).drew.below hb9 (Blk.new w7 60 #[.bool false, .slice none 0 0, .slice none 0 0]).drew.lt; have ZG : Hid (w7.heap.size ≤ w7.heap.size) := Nat.le_refl _)
             | skip))
        | fail)
    all_goals (go_wp2_with fail; go_meet)
    all_goals first
      | with_reducible exact rv_new hyn hyd (And.left S9.out).size (And.left S10.out)
      | with_reducible exact rv_set hyn hyd (And.left S9.out).size (And.left S10.out) z H8.out ZG.out
      | with_reducible exact rv_set hyn hyd (Nat.le_trans (And.left S9.out).size (Nat.le_of_lt H8.out)) (And.left S10.out) z H8.out ZG.out
      | trace_state
  case rest =>
    obtain ⟨g12, D1, i1, D2, i2, rfl, hb12, n1, n2, hB12⟩ := hcut
    have b0 := HB0.out.below hB12 HB0.out.lt
    have hB := HB.out.trans (hB12.mono HB.out.size)
    have x0 := hb12.cell 0
    have x1 := hb12.cell 1
    have x2 := hb12.cell 2
    replace n1 := n1.low (show g8 + 1 + 1 ≤ _ from HB0.out.lt)
    replace n2 := n2.low (show g8 + 1 + 1 ≤ _ from HB0.out.lt)
    clear hb12 hB12 HS0 HS00 HRQ HBLK HB0 HB HT HDIV HTZ
    have f0 := b0.free 0
    have f1 := b0.free 1
    have f2 := b0.free 2
    have e0 := b0.cell 0
    have e1 := b0.cell 1
    have e2 := b0.cell 2
    obtain ⟨r0, r1, r2, hR, hBf⟩ := store3 b0 hB (show w.heap.size ≤ g8 + 1 by have := HG8.out; omega) (qS R) (.slice D1 (lim (qN R)).length i1) (.slice D2 (lim (R).den).length i2) n1 n2
    have HR := Lib.hid hR
    have HBF := Lib.hid hBf
    clear n1 n2 hB b0 hR hBf
    unfold St3 at *
    go_wp2_with fail
    refine bodyPost_ret (v := .agg #[.bool (qS R), .slice D1 (lim (qN R)).length i1, .slice D2 (lim (R).den).length i2]) ?_ rfl ⟨_, rfl, HR.out, HBF.out⟩
    simp [results, Tryz.results254, go_sem, r0, r1, r2]
end Go.Proofs.YtchokmhfgikglaaGreatDoor

namespace Go.Proofs.YtchokmhfgikglaaGreatDoor
set_option maxRecDepth 100000
open Go.RowKit

set_option maxHeartbeats 800000 in
theorem refLimbs_any (u v : Value) (x y : List Nat) (w : World) (h : Nt w 0 w.heap.size u x) (h' : Nt w 0 w.heap.size v y) :
    Calls Tryz.prog 48 #[u, v] w fun e w' => e = .returned (.bool (eqb x y)) ∧ Below w.heap.size w w' := by
  obtain ⟨A, c, rfl, hc, hm, hA0, hx⟩ := h
  obtain ⟨A', c', rfl, hc', hm', hA0', hx'⟩ := h'
  unfold maxLen at hm hm'
  by_cases hxy : x.length = y.length
  · have hne : ((x.length : Int) != (y.length : Int)) = false := bne_false (by omega)
    have hyx : y.length ≤ x.length ∧ x.length ≤ y.length := by omega
    clear hxy
    go_enter Tryz.func48, Tryz.ntmps48
    go_wp2_with fail
    go_loopw [5] (fun i wr => ∃ k, k ≤ x.length ∧ i = .int .i64 (k : Nat) ∧ x.take k = y.take k ∧ Below w.heap.size w wr) (fun i _ => x.length - (intOf i).toNat)
    case atStart => exact ⟨0, Nat.zero_le _, rfl, rfl, Below.refl _ _⟩
    case round =>
      obtain ⟨k, hk, rfl, hv, hb⟩ := hrel
      have V := Lib.hid hv
      clear hv
      by_cases hlt : k < x.length
      · have hlt' : k < y.length := by omega
        obtain ⟨b, off, rfl, _, hbl, hcell⟩ := hx (by omega)
        obtain ⟨b', off', rfl, _, hbl', hcell'⟩ := hx' (by omega)
        have hc1 := (hb.cell (p := ⟨b, off + k, none⟩) hbl).trans (hcell k hlt)
        have hc2 := (hb.cell (p := ⟨b', off' + k, none⟩) hbl').trans (hcell' k hlt')
        have hI : (k : Int) < (y.length : Int) := by omega
        have hJ : (k : Int) < (x.length : Int) := by omega
        have hK : (0 : Int) ≤ (k : Int) := by omega
        clear hcell hcell' hx hx'
        by_cases he : x[k] = y[k]
        · have hv2 : x.take (k + 1) = y.take (k + 1) := by
            rw [List.take_add_one, List.take_add_one, V.out, List.getElem?_eq_getElem hlt, List.getElem?_eq_getElem hlt', he]
          have V2 := Lib.hid hv2
          have ht : (((x[k] : Nat) : Int) != ((y[k] : Nat) : Int)) = false := bne_false (by omega)
          clear hv2 he V
          generalize x[k] = p at *
          generalize y[k] = q at *
          go_wp2_with fail
          go_quiet (fail)
          go_wp2
          go_roundw
          case rel => exact ⟨k + 1, by omega, by go_num, V2.out, below_drewN hb _⟩
          case measure => simp [intOf]; omega
        · have ht : (((x[k] : Nat) : Int) != ((y[k] : Nat) : Int)) = true := bne_true (by omega)
          have e : eqb x y = false := decide_eq_false (fun e => he (by subst e; rfl))
          have E := Lib.hid e
          clear he e V
          generalize x[k] = p at *
          generalize y[k] = q at *
          go_wp2_with fail
          go_quiet (fail)
          go_wp2
          go_ret
          exact ⟨by rw [E.out]; rfl, below_drewN hb _⟩
      · obtain rfl : k = x.length := by omega
        have e : eqb x y = true := decide_eq_true (by
          have := V.out
          rw [List.take_length, List.take_of_length_le (by omega)] at this
          exact this)
        have E := Lib.hid e
        clear e V hx hx'
        go_wp2
        go_ret
        exact ⟨by rw [E.out]; rfl, hb⟩
  · have hne : ((x.length : Int) != (y.length : Int)) = true := bne_true (by omega)
    have e : eqb x y = false := decide_eq_false (fun e => hxy (by rw [e]))
    have E := Lib.hid e
    clear e hxy
    go_enter Tryz.func48, Tryz.ntmps48
    go_wp2
    go_ret
    exact ⟨by rw [E.out]; rfl, Below.refl _ _⟩
end Go.Proofs.YtchokmhfgikglaaGreatDoor
