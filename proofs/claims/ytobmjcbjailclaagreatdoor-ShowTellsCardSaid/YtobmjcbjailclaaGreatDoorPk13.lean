/- Several texts in one: PrDiv, PrBall, ShowA, ShowB, RefUnits, TenBig, Limbs2. Condition: each says its own. -/
import Derived.Outline
import Derived.Maps.AppendAt
import Derived.WalkLawsBesides
import Derived.WalkSpells
import Derived.Deep.QuietTactic
import Derived.BigQuiet
import Derived.Test.YtobmjcbjailclaaGreatDoorPk2
import Derived.Test.YtobmjcbjailclaaGreatDoorPk3
import Derived.Test.YtobmjcbjailclaaGreatDoorPk4
import Derived.Test.YtobmjcbjailclaaGreatDoorPk5
import Derived.Test.YtobmjcbjailclaaGreatDoorPk6
import Derived.Test.YtobmjcbjailclaaGreatDoorPk7
import Derived.Test.YtobmjcbjailclaaGreatDoorPk8
import Derived.Test.YtobmjcbjailclaaGreatDoorPk11
import Derived.Test.YtobmjcbjailclaaGreatDoorPk12
/- The program's 'Is', 'Int', 'Div' of numbers with a divisor by their contracts. Condition: bounds on lengths. -/
namespace Go.Proofs.YtobmjcbjailclaaGreatDoor
set_option maxRecDepth 100000
open Go.RowKit

/-- Is it normal? -/
def isR (s : Bool) (n d : List Nat) : Bool := cb n && cb d && decide (0 < d.length) && !(s && decide (n.length = 0)) && (Nat.gcd (val n) (val d) == 1)

set_option maxHeartbeats 3200000 in
theorem prIs_any (v : Value) (s : Bool) (n d : List Nat) (w : World) (dn : Dig n) (dd : Dig d) (h : Rt w 0 w.heap.size v s n d) (ln : n.length ≤ 1000) (ld : d.length ≤ 1000) :
    Calls Tryz.prog 85 #[v] w fun e w' => e = .returned (.bool (isR s n d)) ∧ Below w.heap.size w w' := by
  obtain ⟨vn, vd, rfl, hn, hd⟩ := h
  have hn' := hn
  have hd' := hd
  obtain ⟨A1, k1, rfl, m1⟩ := nt_len hn'
  obtain ⟨A2, k2, rfl, m2⟩ := nt_len hd'
  have hB : Below w.heap.size w (w.alloc (.cells #[.bool s, .slice A1 n.length k1, .slice A2 d.length k2] 25)) := (Below.refl _ _).alloc (Nat.le_refl _) _
  have I1 := Lib.hid (is_any _ n 0 _ _ (hn.after hB))
  have I2 := Lib.hid (is_any _ d 0 _ _ (hd.after hB))
  have HN := Lib.hid (hn.after hB)
  have HD := Lib.hid (hd.after hB)
  have HB := Lib.hid hB
  clear hn hd hn' hd' hB
  cases c1 : cb n
  · have e : Hid (isR s n d = false) := by show _ = _; unfold isR; rw [c1]; rfl
    rw [c1] at I1
    clear c1
    go_enter Tryz.func85, Tryz.ntmps85
    go_wp2_with fail
    go_fit (I1.out)
    rintro e w2 ⟨rfl, rfl⟩
    go_wp2_with fail
    go_ret
    exact ⟨by rw [‹Hid (isR s n d = false)›.out]; rfl, HB.out⟩
  · cases c2 : cb d
    · have e : Hid (isR s n d = false) := by show _ = _; unfold isR; rw [c1, c2]; rfl
      rw [c1] at I1
      rw [c2] at I2
      clear c1 c2
      go_enter Tryz.func85, Tryz.ntmps85
      go_wp2_with fail
      go_fit (I1.out)
      rintro e w2 ⟨rfl, rfl⟩
      go_wp2_with fail
      go_fit (I2.out)
      rintro e w3 ⟨rfl, rfl⟩
      go_wp2_with fail
      go_ret
      exact ⟨by rw [‹Hid (isR s n d = false)›.out]; rfl, HB.out⟩
    · rw [c1] at I1
      rw [c2] at I2
      by_cases h0 : d.length = 0
      · have e : Hid (isR s n d = false) := by show _ = _; unfold isR; rw [c1, c2, h0]; rfl
        have hz : ((d.length : Int) == 0) = true := by simp [h0]
        clear c1 c2 h0
        go_enter Tryz.func85, Tryz.ntmps85
        go_wp2_with fail
        go_fit (I1.out)
        rintro e w2 ⟨rfl, rfl⟩
        go_wp2_with fail
        go_fit (I2.out)
        rintro e w3 ⟨rfl, rfl⟩
        go_wp2_with fail
        go_ret
        exact ⟨by rw [‹Hid (isR s n d = false)›.out]; rfl, HB.out⟩
      · have hz : ((d.length : Int) == 0) = false := by simp [h0]
        by_cases h1 : s = true ∧ n.length = 0
        · obtain ⟨rfl, h1⟩ := h1
          have e : Hid (isR true n d = false) := by show _ = _; unfold isR; rw [c1, c2, h1]; simp
          have hz1 : ((n.length : Int) == 0) = true := by simp [h1]
          clear c1 c2 h0 h1
          go_enter Tryz.func85, Tryz.ntmps85
          go_wp2_with fail
          go_fit (I1.out)
          rintro e w2 ⟨rfl, rfl⟩
          go_wp2_with fail
          go_fit (I2.out)
          rintro e w3 ⟨rfl, rfl⟩
          go_wp2_with fail
          go_ret
          exact ⟨by rw [‹Hid (isR true n d = false)›.out]; rfl, HB.out⟩
        · have e : Hid (isR s n d = (Nat.gcd (val n) (val d) == 1)) := by
            show _ = _
            unfold isR
            rw [c1, c2, decide_eq_true (by omega : 0 < d.length)]
            cases s
            · simp
            · rw [decide_eq_false (fun hc => h1 ⟨rfl, hc⟩)]; simp
          obtain ⟨GG, hGG⟩ : ∃ z, Nat.gcd (val n) (val d) = z := ⟨_, rfl⟩
          rw [hGG] at e
          have lG : (lim GG).length ≤ 1000 := by
            rw [← hGG]
            by_cases hv : val n = 0
            · rw [hv, Nat.gcd_zero_left]; exact Nat.le_trans (lim_val_length d dd) ld
            · exact Nat.le_trans (lim_len_mono (Nat.le_of_dvd (Nat.pos_of_ne_zero hv) (Nat.gcd_dvd_left _ _))) (Nat.le_trans (lim_val_length n dn) ln)
          have dG := dig_lim GG
          have HG : Hid (∀ W, Below w.heap.size w W → Nt W 0 W.heap.size (.slice A1 n.length k1) n → Nt W 0 W.heap.size (.slice A2 d.length k2) d → Calls Tryz.prog 74 #[.slice A1 n.length k1, .slice A2 d.length k2] W (Gives (lim GG) W)) := fun W _ hn hd => by
            have := gcd_any _ _ n d W dn dd hn hd ln ld
            rw [hGG] at this
            exact this
          have HV := Lib.hid (val_lim GG)
          have HV1 : Hid (val (lim 1) = 1) := val_lim 1
          have d1 := dig_lim 1
          have l1 : (lim 1).length ≤ 1000 := by rw [lim_one (by omega) (by omega)]; simp
          have HC : Hid ((cmpN GG 1 == 0) = (GG == 1)) := by
            show _ = _
            unfold cmpN
            by_cases hg : GG = 1
            · subst hg; rfl
            · rw [beq_eq_false_iff_ne.2 hg]
              by_cases h2 : GG < 1
              · rw [if_pos h2]; rfl
              · rw [if_neg h2, if_pos (by omega)]; rfl
          have E := e
          have HNZ : Hid (s = true → ((n.length : Int) == 0) = false) := fun hs => by
            have : n.length ≠ 0 := fun hc => h1 ⟨hs, hc⟩
            simp [this]
          clear e c1 c2 hGG dn dd ln ld h1 h0
          cases s
          · go_enter Tryz.func85, Tryz.ntmps85
            go_wp2_with fail
            go_fit (I1.out)
            rintro e w2 ⟨rfl, rfl⟩
            go_wp2_with fail
            go_fit (I2.out)
            rintro e w3 ⟨rfl, rfl⟩
            clear I1 I2
            go_wp2_with fail
            go_fit (HG.out _ HB.out HN.out HD.out)
            rintro e w4 ⟨v4, rfl, h4, hb4⟩
            go_wp2_with fail
            go_fit (of_any' 1 _ rfl _ (by omega))
            rintro e w5 ⟨v5, rfl, h5, hb5⟩
            go_wp2_with fail
            go_fit (cmp_any _ _ _ _ _ dG d1 ((h4.low (Nat.zero_le _)).after hb5) (h5.low (Nat.zero_le _)) (by omega) (by omega))
            rw [HV.out, HV1.out]
            rintro e w6 ⟨rfl, hb6⟩
            have HBF := Lib.hid (HB.out.trans ((hb4.trans ((hb5.mono hb4.size).trans (hb6.mono (Nat.le_trans hb4.size hb5.size)))).mono HB.out.size))
            clear HB h4 h5 hb4 hb5 hb6 HG HV HV1
            generalize cmpN GG 1 = cz at *
            go_wp2_with fail
            go_ret
            exact ⟨by rw [E.out, ← HC.out]; rfl, HBF.out⟩
          · have hz1 : ((n.length : Int) == 0) = false := HNZ.out rfl
            go_enter Tryz.func85, Tryz.ntmps85
            go_wp2_with fail
            go_fit (I1.out)
            rintro e w2 ⟨rfl, rfl⟩
            go_wp2_with fail
            go_fit (I2.out)
            rintro e w3 ⟨rfl, rfl⟩
            clear I1 I2
            go_wp2_with fail
            go_fit (HG.out _ HB.out HN.out HD.out)
            rintro e w4 ⟨v4, rfl, h4, hb4⟩
            go_wp2_with fail
            go_fit (of_any' 1 _ rfl _ (by omega))
            rintro e w5 ⟨v5, rfl, h5, hb5⟩
            go_wp2_with fail
            go_fit (cmp_any _ _ _ _ _ dG d1 ((h4.low (Nat.zero_le _)).after hb5) (h5.low (Nat.zero_le _)) (by omega) (by omega))
            rw [HV.out, HV1.out]
            rintro e w6 ⟨rfl, hb6⟩
            have HBF := Lib.hid (HB.out.trans ((hb4.trans ((hb5.mono hb4.size).trans (hb6.mono (Nat.le_trans hb4.size hb5.size)))).mono HB.out.size))
            clear HB h4 h5 hb4 hb5 hb6 HG HV HV1
            generalize cmpN GG 1 = cz at *
            go_wp2_with fail
            go_ret
            exact ⟨by rw [E.out, ← HC.out]; rfl, HBF.out⟩
end Go.Proofs.YtobmjcbjailclaaGreatDoor

/- The program's 'Int', 'Div' of numbers with a divisor by their contracts. Condition: bounds on lengths. -/
namespace Go.Proofs.YtobmjcbjailclaaGreatDoor
set_option maxRecDepth 100000
open Go.RowKit

theorem rat_int (n : Nat) : qS (n : Rat) = false ∧ qN (n : Rat) = n ∧ (n : Rat).den = 1 := by
  refine ⟨?_, ?_, rfl⟩
  · unfold qS
    show decide ((n : Int) < 0) = false
    exact decide_eq_false (by omega)
  · show (n : Int).natAbs = n
    omega

set_option maxHeartbeats 3200000 in
theorem prInt_any (n : Nat) (w : World) (hn : n ≤ 1000000) : Calls Tryz.prog 45 #[.int .i64 (n : Int)] w (GivesF (n : Rat) w) := by
  obtain ⟨e1, e2, e3⟩ := rat_int n
  unfold GivesF
  rw [e1, e2, e3]
  clear e1 e2 e3
  have hlt : ¬ (n : Int) < 0 := by omega
  have b0 := Blk.new w 25 #[.bool false, .slice none 0 0, .slice none 0 0]
  have hB : Below w.heap.size w (w.alloc (.cells #[.bool false, .slice none 0 0, .slice none 0 0] 25)) := (Below.refl _ _).alloc (Nat.le_refl _) _
  have HO := Lib.hid (of_any' n (n : Int) rfl (w.alloc (.cells #[.bool false, .slice none 0 0, .slice none 0 0] 25)) (by omega))
  go_enter Tryz.func45, Tryz.ntmps45
  go_wp2_with fail
  go_fit (HO.out)
  rintro e w3 ⟨v3, rfl, h3, hb3⟩
  clear HO
  have q3 := b0.below hb3 b0.lt
  have hB3 := hB.trans (hb3.mono hB.size)
  replace h3 := h3.low (show w.heap.size + 1 ≤ _ from b0.lt)
  clear b0 hB hb3
  go_wp2_with fail
  go_fit (of_any' 1 _ rfl _ (by omega))
  rintro e w4 ⟨v4, rfl, h4, hb4⟩
  have q4 := q3.below hb4 q3.lt
  have hB4 := hB3.trans (hb4.mono hB3.size)
  replace h4 := h4.low (show w.heap.size + 1 ≤ _ from q3.lt)
  replace h3 := h3.after hb4
  obtain ⟨A1, k1, rfl, m1⟩ := nt_len h3
  obtain ⟨A2, k2, rfl, m2⟩ := nt_len h4
  have r0 := q4.cell 0
  have r1 := q4.cell 1
  have r2 := q4.cell 2
  have f0 := q4.free 0
  have f1 := q4.free 1
  have f2 := q4.free 2
  obtain ⟨e0, e1, e2, hR, hBf⟩ := store3 q4 hB4 (Nat.le_refl _) false (.slice A1 (lim n).length k1) (.slice A2 (lim 1).length k2) h3 h4
  have HR := Lib.hid hR
  have HBF := Lib.hid hBf
  clear q3 q4 hB3 hB4 hb4 h3 h4 hR hBf
  unfold St3 at *
  go_wp2_with fail
  clear r0 r1 r2 f0 f1 f2
  generalize ((World.setCell w4 ⟨w.heap.size, 0, none⟩ (.bool false)).setCell ⟨w.heap.size, 1, none⟩ (.slice A1 (lim n).length k1)).setCell ⟨w.heap.size, 2, none⟩ (.slice A2 (lim 1).length k2) = WW at *
  refine bodyPost_ret (v := .agg #[.bool false, .slice A1 (lim n).length k1, .slice A2 (lim 1).length k2]) ?_ rfl ⟨_, rfl, HR.out, HBF.out⟩
  simp [results, Tryz.results45, go_sem, e0, e1, e2]

theorem qv_inv {q : Rat} (h : q ≠ 0) : qv (qS q) q.den (qN q) = q⁻¹ := by
  have := qv_div 1 q h
  have e1 : qS (1 : Rat) = false := rfl
  have e2 : qN (1 : Rat) = 1 := rfl
  have e3 : (1 : Rat).den = 1 := rfl
  rw [e1, e2, e3, Rat.div_def, Rat.one_mul, Nat.one_mul, Nat.one_mul] at this
  cases hq : qS q
  · rw [hq] at this; exact this
  · rw [hq] at this; exact this

/-- What hands back a new number in lowest terms, and yes. -/
def GivesFB (q : Rat) (w : World) (e : Ending) (w' : World) : Prop :=
  ∃ v', e = .returned (.tuple #[v', .bool true]) ∧ Rt w' w.heap.size w'.heap.size v' (qS q) (lim (qN q)) (lim q.den) ∧ Below w.heap.size w w'

set_option maxHeartbeats 3200000 in
theorem prDiv_q (u v : Value) (p q : Rat) (k j : Nat) (w : World) (h : RQ w 0 w.heap.size u p k) (h' : RQ w 0 w.heap.size v q j) (hk : k ≤ 400) (hj : j ≤ 400) (hj1 : 1 ≤ j) (hq : q ≠ 0) : Calls Tryz.prog 43 #[u, v] w (GivesFB (p / q) w) := by
  have hz := h'.sz hj1
  have HC2 : Hid (∀ W, Below w.heap.size w W → Calls Tryz.prog 76 #[v] W (GivesF q W)) := fun W hb => prNorm_q v q j W (h'.after hb) (by omega)
  have HU := Lib.hid h
  have hne : ¬ (lim (qN q)).length = 0 := fun hc => hq (qN_zero.1 (lim_eq_nil.1 (List.eq_nil_of_length_eq_zero hc)))
  have hne2 : (((lim (qN q)).length : Int) == 0) = false := by simp [hne]
  have HINV := Lib.hid (qv_inv hq)
  have dN := dig_lim (qN q)
  have dD := dig_lim q.den
  have lN : (lim (qN q)).length ≤ 400 := by have := hz.1; omega
  have lD : (lim q.den).length ≤ 400 := by have := hz.2; omega
  have HV1 := Lib.hid (val_lim (qN q))
  have HV2 := Lib.hid (val_lim q.den)
  have HDV := Lib.hid (Rat.div_def p q)
  obtain ⟨s, n, d, ⟨un, ud, rfl, hn, hd⟩, rest⟩ := h
  obtain ⟨t, m, c, ⟨vm, vc, rfl, hm, hc⟩, rest'⟩ := h'
  obtain ⟨A1, k1, rfl, m1⟩ := nt_len hn
  obtain ⟨A2, k2, rfl, m2⟩ := nt_len hd
  obtain ⟨A3, k3, rfl, m3⟩ := nt_len hm
  obtain ⟨A4, k4, rfl, m4⟩ := nt_len hc
  clear hn hd hm hc rest rest' hz hne hq
  go_enter Tryz.func43, Tryz.ntmps43
  go_wp2_with fail
  have b0 := ((Blk.new w 25 #[.bool s, .slice A1 n.length k1, .slice A2 d.length k2]).alloc (.cells #[.bool t, .slice A3 m.length k3, .slice A4 c.length k4] 25)).alloc (.cells #[.bool false, .slice none 0 0, .slice none 0 0] 25)
  have b1 := (Blk.new (w.alloc (.cells #[.bool s, .slice A1 n.length k1, .slice A2 d.length k2] 25)) 25 #[.bool t, .slice A3 m.length k3, .slice A4 c.length k4]).alloc (.cells #[.bool false, .slice none 0 0, .slice none 0 0] 25)
  have b2 := Blk.new ((w.alloc (.cells #[.bool s, .slice A1 n.length k1, .slice A2 d.length k2] 25)).alloc (.cells #[.bool t, .slice A3 m.length k3, .slice A4 c.length k4] 25)) 25 #[.bool false, .slice none 0 0, .slice none 0 0]
  have hB : Below w.heap.size w (((w.alloc (.cells #[.bool s, .slice A1 n.length k1, .slice A2 d.length k2] 25)).alloc (.cells #[.bool t, .slice A3 m.length k3, .slice A4 c.length k4] 25)).alloc (.cells #[.bool false, .slice none 0 0, .slice none 0 0] 25)) := (((Below.refl _ _).alloc (Nat.le_refl _) _).alloc (by simp) _).alloc (by simp; omega) _
  have es : (w.alloc (.cells #[.bool s, .slice A1 n.length k1, .slice A2 d.length k2] 25)).heap.size = w.heap.size + 1 := by simp
  have es2 : ((w.alloc (.cells #[.bool s, .slice A1 n.length k1, .slice A2 d.length k2] 25)).alloc (.cells #[.bool t, .slice A3 m.length k3, .slice A4 c.length k4] 25)).heap.size = w.heap.size + 1 + 1 := by simp
  rw [es] at b1
  rw [es2] at b2
  clear es es2
  generalize (((w.alloc (.cells #[.bool s, .slice A1 n.length k1, .slice A2 d.length k2] 25)).alloc (.cells #[.bool t, .slice A3 m.length k3, .slice A4 c.length k4] 25)).alloc (.cells #[.bool false, .slice none 0 0, .slice none 0 0] 25)) = w2 at *
  have e0 := b1.cell 0
  have e1 := b1.cell 1
  have e2 := b1.cell 2
  go_wp2_with fail
  go_fit (HC2.out _ hB)
  rintro e w3 ⟨v3, rfl, ⟨xn, xd, rfl, hxn, hxd⟩, hb3⟩
  clear e0 e1 e2 HC2
  replace b0 := b0.below hb3 b0.lt
  replace b1 := b1.below hb3 b1.lt
  have hL := b2.lt
  replace b2 := b2.below hb3 b2.lt
  replace hB := hB.trans (hb3.mono hB.size)
  replace hxn := hxn.low (show w.heap.size + 1 + 1 + 1 ≤ _ from hL)
  replace hxd := hxd.low (show w.heap.size + 1 + 1 + 1 ≤ _ from hL)
  obtain ⟨A5, k5, rfl, m5⟩ := nt_len hxn
  obtain ⟨A6, k6, rfl, m6⟩ := nt_len hxd
  have r0 := b1.cell 0
  have r1 := b1.cell 1
  have r2 := b1.cell 2
  have f0 := b1.free 0
  have f1 := b1.free 1
  have f2 := b1.free 2
  have c0 := blk_far3 (p := w.heap.size + 1) (a := .bool (qS q)) (b := .slice A5 (lim (qN q)).length k5) (c := .slice A6 (lim q.den).length k6) b0 (by omega)
  have c1 := blk_put3 (a := .bool (qS q)) (b := .slice A5 (lim (qN q)).length k5) (c := .slice A6 (lim q.den).length k6) b1
  have c2 := blk_far3 (p := w.heap.size + 1) (a := .bool (qS q)) (b := .slice A5 (lim (qN q)).length k5) (c := .slice A6 (lim q.den).length k6) b2 (by omega)
  have hB4 := below_set3 hB (Nat.le_succ w.heap.size) (.bool (qS q)) (.slice A5 (lim (qN q)).length k5) (.slice A6 (lim q.den).length k6)
  have x5 := nt_set3 hxn (show w.heap.size + 1 < w.heap.size + 1 + 1 + 1 by omega) (.bool (qS q)) (.slice A5 (lim (qN q)).length k5) (.slice A6 (lim q.den).length k6)
  have y5 := nt_set3 hxd (show w.heap.size + 1 < w.heap.size + 1 + 1 + 1 by omega) (.bool (qS q)) (.slice A5 (lim (qN q)).length k5) (.slice A6 (lim q.den).length k6)
  have C0 := Lib.hid c0
  have C1 := Lib.hid c1
  have C2 := Lib.hid c2
  have HB4 := Lib.hid hB4
  have X5 := Lib.hid x5
  have Y5 := Lib.hid y5
  clear b0 b1 b2 hB hb3 hxn hxd c0 c1 c2 hB4 x5 y5
  have z0 := C0.out.cell 0
  have z1 := C0.out.cell 1
  have z2 := C0.out.cell 2
  have z3 := C1.out.cell 0
  have z4 := C1.out.cell 1
  have z5 := C1.out.cell 2
  go_wp2_with fail
  clear r0 r1 r2 f0 f1 f2 z0 z1 z2 z3 z4 z5
  generalize ((World.setCell w3 ⟨w.heap.size + 1, 0, none⟩ (.bool (qS q))).setCell ⟨w.heap.size + 1, 1, none⟩ (.slice A5 (lim (qN q)).length k5)).setCell ⟨w.heap.size + 1, 2, none⟩ (.slice A6 (lim q.den).length k6) = w4 at *
  go_fit (prMul_q _ _ p q⁻¹ k 400 _ (HU.out.after HB4.out) ⟨_, _, _, ⟨_, _, rfl, Y5.out.low (Nat.zero_le _), X5.out.low (Nat.zero_le _)⟩, dD, dN, lD, lN, by rw [HV1.out, HV2.out]; exact HINV.out⟩ hk (Nat.le_refl _))
  rintro e w5 ⟨v5, rfl, ⟨yn, yd, rfl, hyn, hyd⟩, hb5⟩
  have HB5 := HB4.out.trans (hb5.mono HB4.out.size)
  have hL4 := C2.out.lt
  have q5 := C2.out.below hb5 C2.out.lt
  replace hyn := hyn.low (show w.heap.size + 1 + 1 + 1 ≤ _ from hL4)
  replace hyd := hyd.low (show w.heap.size + 1 + 1 + 1 ≤ _ from hL4)
  obtain ⟨A7, k7, rfl, m7⟩ := nt_len hyn
  obtain ⟨A8, k8, rfl, m8⟩ := nt_len hyd
  have r0 := q5.cell 0
  have r1 := q5.cell 1
  have r2 := q5.cell 2
  have f0 := q5.free 0
  have f1 := q5.free 1
  have f2 := q5.free 2
  obtain ⟨e0, e1, e2, hR, hBf⟩ := store3 q5 HB5 (by omega) (qS (p * q⁻¹)) (.slice A7 (lim (qN (p * q⁻¹))).length k7) (.slice A8 (lim (p * q⁻¹).den).length k8) hyn hyd
  have HR := Lib.hid hR
  have HBF := Lib.hid hBf
  clear q5 HB4 HB5 hb5 hyn hyd hR hBf C0 C1 C2 X5 Y5
  unfold St3 at *
  go_wp2_with fail
  clear r0 r1 r2 f0 f1 f2
  generalize ((World.setCell w5 ⟨w.heap.size + 1 + 1, 0, none⟩ (.bool (qS (p * q⁻¹)))).setCell ⟨w.heap.size + 1 + 1, 1, none⟩ (.slice A7 (lim (qN (p * q⁻¹))).length k7)).setCell ⟨w.heap.size + 1 + 1, 2, none⟩ (.slice A8 (lim (p * q⁻¹).den).length k8) = WW at *
  refine bodyPost_ret (v := .tuple #[.agg #[.bool (qS (p * q⁻¹)), .slice A7 (lim (qN (p * q⁻¹))).length k7, .slice A8 (lim (p * q⁻¹).den).length k8], .bool true]) ?_ rfl (by show GivesFB _ _ _ _; rw [HDV.out]; exact ⟨_, rfl, HR.out, HBF.out⟩)
  simp [results, Tryz.results43, go_sem, e0, e1, e2]
end Go.Proofs.YtobmjcbjailclaaGreatDoor

/- The program's 'tens', 'held', 'Bits' of package show by their contracts. No condition but small sizes. -/
namespace Go.Proofs.YtobmjcbjailclaaGreatDoor
set_option maxRecDepth 100000
open Go.RowKit

/-- A number held between 0 and 30. -/
def hold30 (d : Int) : Int := min (max d 0) 30
theorem hold30_range (d : Int) : 0 ≤ hold30 d ∧ hold30 d ≤ 30 := by unfold hold30; omega

theorem held_any (d : Int) (w : World) : Calls Tryz.prog 38 #[.int .i64 d] w fun e w' => e = .returned (.int .i64 (hold30 d)) ∧ w = w' := by
  by_cases h1 : d < 0
  · have e : hold30 d = 0 := by unfold hold30; omega
    rw [e]
    have h2 : ¬ 0 ≤ d := by omega
    have h3 : d ≤ 0 := by omega
    go_enter Tryz.func38, Tryz.ntmps38
    go_wp2
    go_ret
    exact ⟨rfl, rfl⟩
  · have h2 : 0 ≤ d := by omega
    by_cases h3 : d ≤ 30
    · have e : hold30 d = d := by unfold hold30; omega
      rw [e]
      have h4 : ¬ 30 < d := by omega
      go_enter Tryz.func38, Tryz.ntmps38
      go_wp2
      go_ret
      exact ⟨rfl, rfl⟩
    · have e : hold30 d = 30 := by unfold hold30; omega
      rw [e]
      have h4 : 30 < d := by omega
      go_enter Tryz.func38, Tryz.ntmps38
      go_wp2
      go_ret
      exact ⟨rfl, rfl⟩

theorem hold_any (d : Int) (w : World) : Calls Tryz.prog 46 #[.int .i64 d] w fun e w' => e = .returned (.int .i64 (hold30 d)) ∧ w = w' := by
  by_cases h1 : d < 0
  · have e : hold30 d = 0 := by unfold hold30; omega
    rw [e]
    have h2 : ¬ 0 ≤ d := by omega
    have h3 : d ≤ 0 := by omega
    go_enter Tryz.func46, Tryz.ntmps46
    go_wp2
    go_ret
    exact ⟨rfl, rfl⟩
  · have h2 : 0 ≤ d := by omega
    by_cases h3 : d ≤ 30
    · have e : hold30 d = d := by unfold hold30; omega
      rw [e]
      have h4 : ¬ 30 < d := by omega
      go_enter Tryz.func46, Tryz.ntmps46
      go_wp2
      go_ret
      exact ⟨rfl, rfl⟩
    · have e : hold30 d = 30 := by unfold hold30; omega
      rw [e]
      have h4 : 30 < d := by omega
      go_enter Tryz.func46, Tryz.ntmps46
      go_wp2
      go_ret
      exact ⟨rfl, rfl⟩

theorem ten_len {k : Nat} (h : k ≤ 30) : (lim (10 ^ k)).length ≤ 30 := by
  refine lim_length_le (Nat.lt_of_le_of_lt (Nat.pow_le_pow_right (by omega) h) ?_)
  exact Nat.pow_lt_pow_left (by omega) (by omega)

set_option maxHeartbeats 3200000 in
theorem tens_any (d : Nat) (w : World) (hd : d ≤ 30) : Calls Tryz.prog 53 #[.int .i64 (d : Int)] w (Gives (lim (10 ^ d)) w) := by
  go_enter Tryz.func53, Tryz.ntmps53
  go_wp2_with fail
  refine (of_any 1 _ (by omega)).mono ?_
  rintro e w1 ⟨v1, rfl, h1, hb1⟩
  go_wp2_with fail
  have l0 : lim 1 = lim (10 ^ 0) := rfl
  rw [l0] at h1
  clear l0
  go_loopw [3, 6] (fun a i wr => ∃ k : Nat, k ≤ d ∧ i = .int .i64 (k : Nat) ∧ Nt wr w.heap.size wr.heap.size a (lim (10 ^ k)) ∧ Below w.heap.size w wr)
    (fun _ i _ => d - (intOf i).toNat)
  case atStart => exact ⟨0, Nat.zero_le _, rfl, h1, hb1⟩
  case round =>
    obtain ⟨k, hk, rfl, ha, hb⟩ := hrel
    clear h1 hb1
    by_cases hlt : k < d
    · have hlI : (k : Int) < (d : Int) := by omega
      have hl := ten_len (Nat.le_of_lt (Nat.lt_of_lt_of_le hlt hd))
      have dk := dig_lim (10 ^ k)
      have dt := dig_lim 10
      have lt : (lim 10).length ≤ 1 := lim_length_le (by omega)
      have V := Lib.hid (val_lim (10 ^ k))
      have V2 := Lib.hid (val_lim 10)
      have P : Hid (10 ^ k * 10 = 10 ^ (k + 1)) := (Nat.pow_succ ..).symm
      go_wp2_with fail
      refine (of_any 10 _ (by omega)).mono ?_
      rintro e w2 ⟨v2, rfl, h2, hb2⟩
      have ha2 := (ha.low (Nat.zero_le _)).after hb2
      have h2' := h2.low (Nat.zero_le _)
      have hb02 := hb.trans (hb2.mono hb.size)
      clear ha h2 hb hb2
      go_wp2_with fail
      refine (mul_any _ _ (lim (10 ^ k)) (lim 10) _ dk dt ha2 h2' (by omega) (by omega)).mono ?_
      rw [V.out, V2.out, P.out]
      rintro e w4 ⟨v4, rfl, h4, hb4⟩
      have h4' := h4.low hb02.size
      have hb04 := hb02.trans (hb4.mono hb02.size)
      clear h4 hb4 ha2 h2' hb02
      go_wp2_with fail
      go_roundw
      case rel => exact ⟨k + 1, by omega, by go_num, h4', hb04⟩
      case measure => simp [intOf]; omega
    · obtain rfl : k = d := by omega
      go_wp2_with fail
      go_ret
      exact ⟨_, rfl, ha, hb⟩

theorem bits_ten {h : Nat} : bl (val (lim (10 ^ h - 1))) = bl (10 ^ h - 1) := by rw [val_lim]

set_option maxHeartbeats 3200000 in
theorem showBits_any (d : Int) (w : World) : Calls Tryz.prog 14 #[.int .i64 d] w fun e w' => e = .returned (.int .i64 ((bl (10 ^ (hold30 d).toNat - 1) : Nat) : Int)) ∧ Below w.heap.size w w' := by
  obtain ⟨h, hh⟩ : ∃ h : Nat, (hold30 d).toNat = h := ⟨_, rfl⟩
  have hr := hold30_range d
  have hI : hold30 d = (h : Int) := by omega
  have h30 : h ≤ 30 := by omega
  rw [hh]
  have HI := Lib.hid hI
  have l := ten_len h30
  have dk := dig_lim (10 ^ h)
  have dt := dig_lim 1
  have lt : (lim 1).length ≤ 1 := lim_length_le (by omega)
  have V : Hid (val (lim (10 ^ h)) - val (lim 1) = 10 ^ h - 1) := by show _ = _; rw [val_lim, val_lim]
  have V2 := Lib.hid (bits_ten (h := h))
  have d1 := dig_lim (10 ^ h - 1)
  have l1 : (lim (10 ^ h - 1)).length ≤ 30 := Nat.le_trans (by
    refine lim_length_le ?_
    have := val_lt dk
    rw [val_lim] at this
    have := pow_pos' (lim (10 ^ h)).length
    omega) l
  clear hh hr hI
  go_enter Tryz.func14, Tryz.ntmps14
  go_wp2_with fail
  refine (held_any d w).mono ?_
  rintro e w1 ⟨rfl, rfl⟩
  rw [HI.out]
  go_wp2_with fail
  refine (tens_any h _ h30).mono ?_
  rintro e w2 ⟨v2, rfl, h2, hb2⟩
  have h2' := h2.low (Nat.zero_le _)
  clear h2
  go_wp2_with fail
  refine (of_any 1 _ (by omega)).mono ?_
  rintro e w3 ⟨v3, rfl, h3, hb3⟩
  have h2'' := h2'.after hb3
  have h3' := h3.low (Nat.zero_le _)
  have hB3 := hb2.trans (hb3.mono hb2.size)
  clear h2' h3 hb3
  go_wp2_with fail
  refine (sub_any _ _ (lim (10 ^ h)) (lim 1) _ dk dt h2'' h3' (by omega) (by omega)).mono ?_
  rw [V.out]
  rintro e w4 ⟨v4, rfl, h4, hb4⟩
  have h4' := h4.low (Nat.zero_le _)
  have hB4 := hB3.trans (hb4.mono hB3.size)
  clear h2'' h3' h4 hb4
  go_wp2_with fail
  refine (bits_any _ (lim (10 ^ h - 1)) _ d1 h4' (by omega)).mono ?_
  rw [V2.out]
  rintro e w5 ⟨rfl, rfl⟩
  go_wp2
  go_ret
  exact ⟨rfl, hB4⟩

theorem known20_any (w : World) : Calls Tryz.prog 18 #[] w fun e w' => e = .returned (.bool true) ∧ Below w.heap.size w w' := by
  have hk : (bl (10 ^ (hold30 1).toNat - 1)) = 4 := by
    have e : (hold30 1).toNat = 1 := by decide
    rw [e, show 10 ^ 1 - 1 = 9 by rfl, bl_pos (by omega), bl_pos (by omega), bl_pos (by omega), bl_pos (by omega), bl_zero]
  have HK := Lib.hid hk
  clear hk
  go_enter Tryz.func18, Tryz.ntmps18
  go_wp2_with fail
  refine (showBits_any 1 w).mono ?_
  rintro e w1 ⟨rfl, hb⟩
  rw [HK.out]
  go_wp2
  go_ret
  exact ⟨rfl, hb⟩
end Go.Proofs.YtobmjcbjailclaaGreatDoor

/- The reference's 'Ten', 'Bit' and 'Bits' by their contracts. No condition but small sizes. -/
namespace Go.Proofs.YtobmjcbjailclaaGreatDoor
set_option maxRecDepth 100000
open Go.RowKit

theorem shiftN_on {v p : Nat} (hp : p ≤ 4096) : shiftN v (p : Int) = v * 2 ^ p := by
  have e : held12 (p : Int) = (p : Int) := by unfold held12; omega
  unfold shiftN
  rw [e, if_neg (by omega)]
  rfl

theorem two_len {p : Nat} (h : p ≤ 1000) : (lim (2 ^ p)).length ≤ 32 := by
  refine Nat.le_trans (lim_length_le (k := p / 32 + 1) ?_) (by omega)
  rw [base_pow]
  exact Nat.pow_lt_pow_right (by omega) (by omega)

/-- A literal row of one limb. -/
theorem lit_one (w : World) (t : TypeId) (x : Nat) : Nt (w.alloc (.cells #[.int .u32 (x : Int)] t)) w.heap.size (w.alloc (.cells #[.int .u32 (x : Int)] t)).heap.size (.slice (some ⟨w.heap.size, 0, none⟩) 1 1) [x] := by
  have h : Lb (w.alloc (.cells #[.int .u32 (x : Int)] t)) w.heap.size t [x] := Blk.new w t _
  exact h.reads (n := 1) (by simp) (by unfold maxLen; simp)

set_option maxHeartbeats 3200000 in
theorem refTen_any (d : Nat) (w : World) (hd : d ≤ 30) : Calls Tryz.prog 20 #[.int .i64 (d : Int)] w (GivesT false 1 (10 ^ d) w) := by
  go_enter Tryz.func20, Tryz.ntmps20
  go_wp2_with fail
  have b0 := (Blk.new w 25 #[.bool false, .slice none 0 0, .slice none 0 0]).alloc (.cells #[.int .u32 1] 43)
  have h1 := lit_one (w.alloc (.cells #[.bool false, .slice none 0 0, .slice none 0 0] 25)) 43 1
  have es : (w.alloc (.cells #[.bool false, .slice none 0 0, .slice none 0 0] 25)).heap.size = w.heap.size + 1 := by simp
  have hb1 : Below w.heap.size w ((w.alloc (.cells #[.bool false, .slice none 0 0, .slice none 0 0] 25)).alloc (.cells #[.int .u32 1] 43)) := ((Below.refl _ _).alloc (Nat.le_refl _) _).alloc (by simp) _
  rw [es] at h1
  clear es
  have l0 : ([1] : List Nat) = lim (10 ^ 0) := (lim_one (by omega) (by omega)).symm
  rw [l0] at h1
  clear l0
  go_loopw [3, 4] (fun a i wr => ∃ k : Nat, k ≤ d ∧ i = .int .i64 (k : Nat) ∧ Nt wr (w.heap.size + 1) wr.heap.size a (lim (10 ^ k)) ∧ Blk wr w.heap.size 25 #[.bool false, .slice none 0 0, .slice none 0 0] ∧ Below w.heap.size w wr)
    (fun _ i _ => d - (intOf i).toNat)
  case atStart => exact ⟨0, Nat.zero_le _, rfl, h1, b0, hb1⟩
  case round =>
    obtain ⟨k, hk, rfl, ha, hq, hb⟩ := hrel
    clear h1 b0 hb1
    have hl := ten_len (Nat.le_trans hk hd)
    have dk := dig_lim (10 ^ k)
    by_cases hlt : k < d
    · have hlI : (k : Int) < (d : Int) := by omega
      have P : Hid (val (lim (10 ^ k)) * val [10] = 10 ^ (k + 1)) := by
        show _ = _
        rw [val_lim, val_one, Nat.pow_succ]
      have dt : Dig [10] := dig_one (by omega)
      have h10 := lit_one wr 43 10
      have hbb : Below wr.heap.size wr (wr.alloc (.cells #[.int .u32 10] 43)) := (Below.refl _ _).alloc (Nat.le_refl _) _
      have ha2 := (ha.low (Nat.zero_le _)).after hbb
      have hq2 := hq.alloc (.cells #[.int .u32 10] 43)
      have hg := hq.lt
      have hs : Hid (w.heap.size + 1 ≤ (wr.alloc (.cells #[.int .u32 10] 43)).heap.size) := hq2.lt
      have hb2 := hb.trans (hbb.mono hb.size)
      have h10' := h10.low (Nat.zero_le _)
      clear ha hq hb hbb h10 hg
      go_wp2_with fail
      refine (refMul_any _ _ (lim (10 ^ k)) [10] _ dk dt ha2 h10' (by omega) (by simp)).mono ?_
      rw [P.out]
      rintro e w4 ⟨v4, rfl, h4, hb4⟩
      have h4' := h4.low hs.out
      have hq4 := hq2.below hb4 hq2.lt
      have hb04 := hb2.trans (hb4.mono hb2.size)
      clear h4 hb4 ha2 h10' hb2 hq2
      go_wp2_with fail
      go_roundw
      case rel => exact ⟨k + 1, by omega, by go_num, h4', hq4, hb04⟩
      case measure => simp [intOf]; omega
    · obtain rfl : k = d := by omega
      have h1 := lit_one wr 43 1
      have hbb : Below wr.heap.size wr (wr.alloc (.cells #[.int .u32 1] 43)) := (Below.refl _ _).alloc (Nat.le_refl _) _
      have ha2 := (ha.low (Nat.zero_le _)).after hbb
      have hq2 := hq.alloc (.cells #[.int .u32 1] 43)
      have hb2 := hb.trans (hbb.mono hb.size)
      have h1' := h1.low (Nat.zero_le _)
      have d1 : Dig [1] := dig_one (by omega)
      have N1 := Lib.hid (nr_one (s := false) (d := 10 ^ k) (Nat.ne_of_gt (Nat.pow_pos (by omega))))
      clear ha hq hb hbb h1
      go_wp2_with fail
      refine (ratOf_any false _ _ [1] (lim (10 ^ k)) _ d1 dk h1' ha2 (by simp) (by omega)).mono ?_
      rw [val_lim, val_one, N1.out.1, N1.out.2.1, N1.out.2.2]
      rintro e w2 ⟨v2, rfl, ⟨x, y, rfl, hx, hy⟩, hb3⟩
      have hx' := hx
      have hy' := hy
      obtain ⟨A3, c3, rfl, m3⟩ := nt_len hx'
      obtain ⟨A4, c4, rfl, m4⟩ := nt_len hy'
      have q0 := hq2.below hb3 hq2.lt
      have hx2 := hx.low (show w.heap.size + 1 ≤ _ from hq2.lt)
      have hy2 := hy.low (show w.heap.size + 1 ≤ _ from hq2.lt)
      have hB2 := hb2.trans (hb3.mono hb2.size)
      clear hx hy hb3 hb2 hq2 ha2 h1' hx' hy'
      have r0 := q0.cell 0
      have r1 := q0.cell 1
      have r2 := q0.cell 2
      have f0 := q0.free 0
      have f1 := q0.free 1
      have f2 := q0.free 2
      have p3 := ((q0.put 0 (.bool false)).put 1 (.slice A3 (lim 1).length c3)).put 2 (.slice A4 (lim (10 ^ k)).length c4)
      have hBB := ((hB2.setCell (p := ⟨w.heap.size, 0, none⟩) (by simp) (.bool false)).setCell (p := ⟨w.heap.size, 1, none⟩) (by simp) (.slice A3 (lim 1).length c3)).setCell (p := ⟨w.heap.size, 2, none⟩) (by simp) (.slice A4 (lim (10 ^ k)).length c4)
      have t6 := ((hx2.put3 (Nat.lt_succ_self _) 0 (.bool false)).put3 (Nat.lt_succ_self _) 1 (.slice A3 (lim 1).length c3)).put3 (Nat.lt_succ_self _) 2 (.slice A4 (lim (10 ^ k)).length c4)
      have t7 := ((hy2.put3 (Nat.lt_succ_self _) 0 (.bool false)).put3 (Nat.lt_succ_self _) 1 (.slice A3 (lim 1).length c3)).put3 (Nat.lt_succ_self _) 2 (.slice A4 (lim (10 ^ k)).length c4)
      clear hx2 hy2 
      go_wp2_with fail
      clear r0 r1 r2 f0 f1 f2 q0
      generalize ((World.setCell w2 ⟨w.heap.size, 0, none⟩ (.bool false)).setCell ⟨w.heap.size, 1, none⟩ (.slice A3 (lim 1).length c3)).setCell ⟨w.heap.size, 2, none⟩ (.slice A4 (lim (10 ^ k)).length c4) = WW at *
      have e0 : WW.cell? ⟨w.heap.size, 0, none⟩ = some (.bool false) := by rw [p3.cell]; rfl
      have e1 : WW.cell? ⟨w.heap.size, 1, none⟩ = some (.slice A3 (lim 1).length c3) := by rw [p3.cell]; rfl
      have e2 : WW.cell? ⟨w.heap.size, 2, none⟩ = some (.slice A4 (lim (10 ^ k)).length c4) := by rw [p3.cell]; rfl
      refine bodyPost_ret (v := .agg #[.bool false, .slice A3 (lim 1).length c3, .slice A4 (lim (10 ^ k)).length c4]) ?_ rfl ⟨_, rfl, ⟨_, _, rfl, t6.low (by omega), t7.low (by omega)⟩, hBB⟩
      simp [results, Tryz.results20, go_sem, e0, e1, e2]

set_option maxHeartbeats 3200000 in
theorem refBit_any (p : Nat) (w : World) (hp : p ≤ 1000) : Calls Tryz.prog 56 #[.int .i64 (p : Int)] w (GivesT false 1 (2 ^ p) w) := by
  have V : Hid (shiftN (val [1]) (p : Int) = 2 ^ p) := by
    show _ = _
    rw [shiftN_on (by omega), val_one, Nat.one_mul]
  have l2 := two_len hp
  have d2 := dig_lim (2 ^ p)
  have d1 : Dig [1] := dig_one (by omega)
  have N1 := Lib.hid (nr_one (s := false) (d := 2 ^ p) (Nat.ne_of_gt (Nat.two_pow_pos p)))
  go_enter Tryz.func56, Tryz.ntmps56
  go_wp2_with fail
  have b0 := ((Blk.new w 25 #[.bool false, .slice none 0 0, .slice none 0 0]).alloc (.cells #[.int .u32 1] 43)).alloc (.cells #[.int .u32 1] 43)
  have h1 := lit_one (w.alloc (.cells #[.bool false, .slice none 0 0, .slice none 0 0] 25)) 43 1
  have h2 := lit_one ((w.alloc (.cells #[.bool false, .slice none 0 0, .slice none 0 0] 25)).alloc (.cells #[.int .u32 1] 43)) 43 1
  have es : (w.alloc (.cells #[.bool false, .slice none 0 0, .slice none 0 0] 25)).heap.size = w.heap.size + 1 := by simp
  have es2 : ((w.alloc (.cells #[.bool false, .slice none 0 0, .slice none 0 0] 25)).alloc (.cells #[.int .u32 1] 43)).heap.size = w.heap.size + 1 + 1 := by simp
  have hbb : Below ((w.alloc (.cells #[.bool false, .slice none 0 0, .slice none 0 0] 25)).alloc (.cells #[.int .u32 1] 43)).heap.size ((w.alloc (.cells #[.bool false, .slice none 0 0, .slice none 0 0] 25)).alloc (.cells #[.int .u32 1] 43)) (((w.alloc (.cells #[.bool false, .slice none 0 0, .slice none 0 0] 25)).alloc (.cells #[.int .u32 1] 43)).alloc (.cells #[.int .u32 1] 43)) := (Below.refl _ _).alloc (Nat.le_refl _) _
  have h1' := (h1.after hbb).low (Nat.zero_le _)
  have h2' := h2.low (Nat.zero_le _)
  rw [es] at h1'
  rw [es2] at h2'
  have hb1 : Below w.heap.size w (((w.alloc (.cells #[.bool false, .slice none 0 0, .slice none 0 0] 25)).alloc (.cells #[.int .u32 1] 43)).alloc (.cells #[.int .u32 1] 43)) := (((Below.refl _ _).alloc (Nat.le_refl _) _).alloc (by simp) _).alloc (by simp; omega) _
  clear h1 h2 hbb es es2
  generalize ((w.alloc (.cells #[.bool false, .slice none 0 0, .slice none 0 0] 25)).alloc (.cells #[.int .u32 1] 43)).alloc (.cells #[.int .u32 1] 43) = w1 at *
  refine (refShift_any _ [1] _ _ d1 h2' (by simp)).mono ?_
  rw [V.out]
  rintro e w3 ⟨v3, rfl, h3, hb3⟩
  have h3' := h3.low (Nat.zero_le _)
  have h1'' := h1'.after hb3
  have q3 := b0.below hb3 b0.lt
  have hB3 := hb1.trans (hb3.mono hb1.size)
  clear h3 h1' h2' b0 hb1 hb3
  go_wp2_with fail
  refine (ratOf_any false _ _ [1] (lim (2 ^ p)) _ d1 d2 h1'' h3' (by simp) (by omega)).mono ?_
  rw [val_lim, val_one, N1.out.1, N1.out.2.1, N1.out.2.2]
  rintro e w2 ⟨v2, rfl, ⟨x, y, rfl, hx, hy⟩, hb3⟩
  have hx' := hx
  have hy' := hy
  obtain ⟨A3, c3, rfl, m3⟩ := nt_len hx'
  obtain ⟨A4, c4, rfl, m4⟩ := nt_len hy'
  have q0 := q3.below hb3 q3.lt
  have hx2 := hx.low (show w.heap.size + 1 ≤ _ from q3.lt)
  have hy2 := hy.low (show w.heap.size + 1 ≤ _ from q3.lt)
  have hB2 := hB3.trans (hb3.mono hB3.size)
  clear hx hy hb3 hB3 q3 h1'' h3' hx' hy'
  have r0 := q0.cell 0
  have r1 := q0.cell 1
  have r2 := q0.cell 2
  have f0 := q0.free 0
  have f1 := q0.free 1
  have f2 := q0.free 2
  have p3 := ((q0.put 0 (.bool false)).put 1 (.slice A3 (lim 1).length c3)).put 2 (.slice A4 (lim (2 ^ p)).length c4)
  have hBB := ((hB2.setCell (p := ⟨w.heap.size, 0, none⟩) (by simp) (.bool false)).setCell (p := ⟨w.heap.size, 1, none⟩) (by simp) (.slice A3 (lim 1).length c3)).setCell (p := ⟨w.heap.size, 2, none⟩) (by simp) (.slice A4 (lim (2 ^ p)).length c4)
  have t6 := ((hx2.put3 (Nat.lt_succ_self _) 0 (.bool false)).put3 (Nat.lt_succ_self _) 1 (.slice A3 (lim 1).length c3)).put3 (Nat.lt_succ_self _) 2 (.slice A4 (lim (2 ^ p)).length c4)
  have t7 := ((hy2.put3 (Nat.lt_succ_self _) 0 (.bool false)).put3 (Nat.lt_succ_self _) 1 (.slice A3 (lim 1).length c3)).put3 (Nat.lt_succ_self _) 2 (.slice A4 (lim (2 ^ p)).length c4)
  clear hx2 hy2 
  go_wp2_with fail
  clear r0 r1 r2 f0 f1 f2 q0
  generalize ((World.setCell w2 ⟨w.heap.size, 0, none⟩ (.bool false)).setCell ⟨w.heap.size, 1, none⟩ (.slice A3 (lim 1).length c3)).setCell ⟨w.heap.size, 2, none⟩ (.slice A4 (lim (2 ^ p)).length c4) = WW at *
  have e0 : WW.cell? ⟨w.heap.size, 0, none⟩ = some (.bool false) := by rw [p3.cell]; rfl
  have e1 : WW.cell? ⟨w.heap.size, 1, none⟩ = some (.slice A3 (lim 1).length c3) := by rw [p3.cell]; rfl
  have e2 : WW.cell? ⟨w.heap.size, 2, none⟩ = some (.slice A4 (lim (2 ^ p)).length c4) := by rw [p3.cell]; rfl
  refine bodyPost_ret (v := .agg #[.bool false, .slice A3 (lim 1).length c3, .slice A4 (lim (2 ^ p)).length c4]) ?_ rfl ⟨_, rfl, ⟨_, _, rfl, t6.low (by omega), t7.low (by omega)⟩, hBB⟩
  simp [results, Tryz.results56, go_sem, e0, e1, e2]

theorem cmp_ten (p d : Nat) : cmpI (sg false 1 * ((10 ^ d : Nat) : Int)) (sg false 1 * ((2 ^ p : Nat) : Int)) = cmpI ((10 ^ d : Nat) : Int) ((2 ^ p : Nat) : Int) := by
  unfold sg
  simp

/-- Half so often against a tenth so often: by their divisors, turned round. -/
theorem cmpBT_any (u v : Value) (p d : Nat) (w : World) (hp : p ≤ 1000) (hd : d ≤ 30) (h : Rt w 0 w.heap.size u false (lim 1) (lim (2 ^ p))) (h' : Rt w 0 w.heap.size v false (lim 1) (lim (10 ^ d))) :
    Calls Tryz.prog 48 #[u, v] w fun e w' => e = .returned (.int .i64 (cmpI ((10 ^ d : Nat) : Int) ((2 ^ p : Nat) : Int))) ∧ Below w.heap.size w w' := by
  have a := nr_one (s := false) (d := 2 ^ p) (Nat.ne_of_gt (Nat.two_pow_pos p))
  have b := nr_one (s := false) (d := 10 ^ d) (Nat.ne_of_gt (Nat.pow_pos (by omega)))
  have l1 : (lim 1).length ≤ 1 := lim_length_le (by omega)
  have l2 := two_len hp
  have l3 := ten_len hd
  have c := ratCmp_any u v false false (lim 1) (lim (2 ^ p)) (lim 1) (lim (10 ^ d)) w (dig_lim _) (dig_lim _) (dig_lim _) (dig_lim _) h h' (by omega) (by omega) (by omega) (by omega) false false 1 (2 ^ p) 1 (10 ^ d)
    (by rw [val_lim, val_lim]; exact a.1) (by rw [val_lim, val_lim]; exact a.2.1) (by rw [val_lim, val_lim]; exact a.2.2) (by rw [val_lim, val_lim]; exact b.1) (by rw [val_lim, val_lim]; exact b.2.1) (by rw [val_lim, val_lim]; exact b.2.2)
  rw [cmp_ten] at c
  exact c
end Go.Proofs.YtobmjcbjailclaaGreatDoor

/- The reference's 'units' of decimals by its contract. Condition: bounds on lengths. -/
namespace Go.Proofs.YtobmjcbjailclaaGreatDoor
set_option maxRecDepth 100000
open Go.RowKit

set_option maxHeartbeats 3200000 in
theorem refUnits_q (v : Value) (q : Rat) (kk k : Nat) (w : World) (h : RQ w 0 w.heap.size v q kk) (hkk : kk ≤ 70) (hkk1 : 1 ≤ kk) (hk : k ≤ 60) :
    Calls Tryz.prog 89 #[v, .int .i64 (k : Int)] w (Gives (lim (rhe (qN q * 10 ^ k) q.den)) w) := by
  have hz := h.sz hkk1
  have HNO : Hid (∀ W, Below w.heap.size w W → Calls Tryz.prog 22 #[v] W (GivesF q W)) := fun W hb => ratNorm_q v q kk W (h.after hb) (by omega)
  obtain ⟨n, hnn⟩ : ∃ n, lim (qN q) = n := ⟨_, rfl⟩
  obtain ⟨d, hdd⟩ : ∃ d, lim q.den = d := ⟨_, rfl⟩
  have dn : Dig n := by rw [← hnn]; exact dig_lim _
  have dd : Dig d := by rw [← hdd]; exact dig_lim _
  have vnq : qN q = val n := by rw [← hnn, val_lim]
  have vdq : q.den = val d := by rw [← hdd, val_lim]
  have hd0 : val d ≠ 0 := by rw [← vdq]; exact q.den_nz
  have ln : n.length ≤ 70 := by have := hz.1; rw [hnn] at this; omega
  have ld : d.length ≤ 70 := by have := hz.2; rw [hdd] at this; omega
  rw [vnq, vdq]
  unfold GivesF GivesT at HNO
  rw [hnn, hdd] at HNO
  clear vnq vdq hnn hdd hz
  obtain ⟨s0, n0, d0, ⟨un, ud, rfl, hn0, hd0'⟩, rest0⟩ := h
  obtain ⟨A1, k1, rfl, m1⟩ := nt_len hn0
  obtain ⟨A2, k2, rfl, m2⟩ := nt_len hd0'
  clear hn0 hd0' rest0
  have dt := dig_lim (10 ^ k)
  have lt := ten_len60 hk
  have dx := dig_lim (val n * val (lim (10 ^ k)))
  have lx : (lim (val n * val (lim (10 ^ k)))).length ≤ 131 := lim_mul_len dn dt rfl rfl ln lt
  obtain ⟨X, hX⟩ : ∃ X, val n * 10 ^ k = X := ⟨_, rfl⟩
  have VX : Hid (val (lim (val n * val (lim (10 ^ k)))) = X) := by show _ = _; rw [val_lim, val_lim, hX]
  obtain ⟨Q, hQ⟩ : ∃ Q, X / val d = Q := ⟨_, rfl⟩
  obtain ⟨R, hR⟩ : ∃ R, X % val d = R := ⟨_, rfl⟩
  have GR : Hid (remN X (val d) = R) := by show _ = _; unfold remN; rw [if_neg hd0, hR]
  have HQ := Lib.hid hQ
  rw [hX]
  have hrl : R < val d := by rw [← hR]; exact Nat.mod_lt _ (by omega)
  have HU : Hid (rhe X (val d) = if val d < 2 * R ∨ (2 * R = val d ∧ Q % 2 = 1) then Q + 1 else Q) := by show _ = _; unfold rhe; rw [hQ, hR]
  obtain ⟨U, hU⟩ : ∃ U, rhe X (val d) = U := ⟨_, rfl⟩
  rw [hU] at HU ⊢
  have lQ : (lim Q).length ≤ 2000 := by rw [← hQ]; exact Nat.le_trans (lim_len_mono (Nat.div_le_self _ _)) (by have := VX.out; rw [val_lim] at this; rw [← this]; omega)
  have lR : (lim R).length ≤ 1000 := Nat.le_trans (lim_len_mono (Nat.le_of_lt hrl)) (Nat.le_trans (lim_val_length d dd) (by omega))
  have dR := dig_lim R
  have VR := Lib.hid (val_lim R)
  have dS := dig_lim (R + R)
  have lS : (lim (R + R)).length ≤ 2000 := Nat.le_trans (lim_add_len dR dR (val_lim _).symm (val_lim _).symm lR lR) (by omega)
  have HSH : Hid (val (lim (R + R)) = 2 * R) := by show _ = _; rw [val_lim]; omega
  have HTEN : Hid (∀ W, Calls Tryz.prog 34 #[.int .i64 (k : Int)] W (Gives (lim (10 ^ k)) W)) := fun W => refTen3_any k W (by omega)
  have hB : Below w.heap.size w (w.alloc (.cells #[.bool s0, .slice A1 n0.length k1, .slice A2 d0.length k2] 25)) := (Below.refl _ _).alloc (Nat.le_refl _) _
  clear hQ hR hX hU
  go_enter Tryz.func89, Tryz.ntmps89
  go_wp2_with fail
  go_fit (HNO.out _ hB)
  rintro e w1 ⟨v1, rfl, ⟨vn, vd, rfl, hn, hd⟩, hb1⟩
  have hn' := hn
  have hd' := hd
  obtain ⟨A3, k3, rfl, m3⟩ := nt_len hn'
  obtain ⟨A4, k4, rfl, m4⟩ := nt_len hd'
  replace hB := hB.trans (hb1.mono hB.size)
  clear hn' hd' hb1 HNO
  replace hn := hn.low (Nat.zero_le _)
  replace hd := hd.low (Nat.zero_le _)
  have b0 := Blk.new w1 25 #[.bool (qS q), .slice A3 n.length k3, .slice A4 d.length k4]
  have hal : Below w1.heap.size w1 (w1.alloc (.cells #[.bool (qS q), .slice A3 n.length k3, .slice A4 d.length k4] 25)) := (Below.refl _ _).alloc (Nat.le_refl _) _
  have hsz0 : w.heap.size ≤ w1.heap.size := hB.size
  replace hn := hn.after hal
  replace hd := hd.after hal
  replace hB := hB.trans (hal.mono hB.size)
  have hg := b0.lt
  have cc1 := b0.cell 1
  have cc2 := b0.cell 2
  clear hal
  go_wp2_with fail
  generalize w1.alloc (.cells #[.bool (qS q), .slice A3 n.length k3, .slice A4 d.length k4] 25) = w2 at *
  go_region_held3 (fun W => Below w2.heap.size w2 W ∧ W.cell? ⟨w1.heap.size, 1, none⟩ = some (.slice A3 n.length k3) ∧ W.cell? ⟨w1.heap.size, 2, none⟩ = some (.slice A4 d.length k4))
    (first | assumption | exact keep2 (by assumption) (by assumption) hg | exact ⟨(Below.refl _ _).drew, cc1, cc2⟩)
    (first
      | (go_at_call 34; refine (HTEN.out _).mono ?_; rintro e w3 ⟨v3, rfl, h3, hb3⟩; have hbb3 := hb3; have hk3 : Below w2.heap.size w2 w3 := Below.trans (Below.drew (Below.refl _ _)) hb3)
      | (go_at_call 36; refine (refMul_any _ v3 n (lim (10 ^ k)) _ dn dt (hn.after hk3) (h3.low (Nat.zero_le _)) (by omega) (by omega)).mono ?_; rintro e w4 ⟨v4, rfl, h4, hb4⟩; have hbb4 := hb4; have hk4 : Below w2.heap.size w2 w4 := hk3.trans (hb4.mono hk3.size))
      | (go_at_call 65; refine (refDiv_any v4 _ (lim (val n * val (lim (10 ^ k)))) d _ dx dd (h4.low (Nat.zero_le _)) (hd.after hk4) (by omega) (by omega)).mono ?_; rintro e w5 ⟨v5, z5, rfl, h5, h5', hb5⟩; have hbb5 := hb5; have hk5 : Below w2.heap.size w2 w5 := hk4.trans (hb5.mono hk4.size))
      | fail)
  rw [VX.out, HQ.out] at h5
  rw [VX.out, GR.out] at h5'
  replace h5 := h5.low (show w2.heap.size ≤ _ from hk4.size)
  replace h5' := h5'.low (show w2.heap.size ≤ _ from hk4.size)
  have q0 := b0.below hk5 hg
  replace hd := hd.after hk5
  replace hB := hB.trans (hk5.mono hB.size)
  have hg5 : w1.heap.size < w5.heap.size := q0.lt
  have cd1 := q0.cell 1
  have cd2 := q0.cell 2
  have hsz : w.heap.size ≤ w2.heap.size := Nat.le_trans hsz0 (Nat.le_of_lt hg)
  clear hn h3 hb3 hbb3 hk3 h4 hb4 hbb4 hk4 hb5 hbb5 hk5 cc1 cc2 b0 dx lx dt lt
  go_wp2_with fail
  go_region_held3 (fun W => Below w5.heap.size w5 W ∧ W.cell? ⟨w1.heap.size, 1, none⟩ = some (.slice A3 n.length k3) ∧ W.cell? ⟨w1.heap.size, 2, none⟩ = some (.slice A4 d.length k4))
    (first | assumption | exact keep2 (by assumption) (by assumption) hg5 | exact ⟨(Below.refl _ _).drew, cd1, cd2⟩)
    (first
      | (go_at_call 35; refine (refAdd_any z5 z5 (lim R) (lim R) _ dR dR (h5'.drew.low (Nat.zero_le _)) (h5'.drew.low (Nat.zero_le _)) (by omega) (by omega)).mono ?_; rw [VR.out]; rintro e w6 ⟨v6, rfl, h6, hb6⟩; have hbb6 := hb6; have hk6 : Below w5.heap.size w5 w6 := Below.trans (Below.drew (Below.refl _ _)) hb6)
      | (go_at_call 66; refine (refCmp_any v6 _ (lim (R + R)) d _ (dig_lim _) dd (h6.low (Nat.zero_le _)) (hd.after hk6) (by omega) (by omega)).mono ?_; rintro e w7 ⟨rfl, hb7⟩; have hbb7 := hb7; have hk7 : Below w5.heap.size w5 w7 := hk6.trans (hb7.mono hk6.size))
      | fail)
  have HCM : Hid (cmpN (val (lim (R + R))) (val d) = cmpN (2 * R) (val d)) := by
    show _ = _
    rw [HSH.out]
  rw [HCM.out]
  replace h5 := h5.after hk7
  replace hB := hB.trans (hk7.mono hB.size)
  have hw7 : w.heap.size ≤ w7.heap.size := hB.size
  clear h6 hb6 hbb6 hk6 hb7 hbb7 hk7 q0 hd cd1 cd2 hg5 h5' dR lR VR HSH dS lS GR HCM hrl
  by_cases c1 : val d < 2 * R
  · rw [cmpN_gt c1]
    have hU : U = Q + 1 := by rw [HU.out, if_pos (Or.inl c1)]
    have HUU := Lib.hid hU
    clear c1 HU hU
    go_wp2_with fail
    have h8 := (lit_one w7 43 1).low (Nat.zero_le _)
    have hb : Below w7.heap.size w7 (w7.alloc (.cells #[.int .u32 1] 43)) := (Below.refl _ _).alloc (Nat.le_refl _) _
    replace h5 := (h5.low (Nat.zero_le _)).after hb
    replace hB := hB.trans (hb.mono hB.size)
    clear hb
    go_fit (refAdd_any _ _ (lim Q) [1] _ (dig_lim _) (dig_one (by omega)) h5 h8 (by omega) (by simp))
    rw [val_lim, val_one]
    rintro e w9 ⟨v9, rfl, h9, hb⟩
    replace h9 := h9.low hB.size
    replace hB := hB.trans (hb.mono hB.size)
    clear hb h5 h8
    go_wp2_with fail
    go_ret
    exact ⟨_, rfl, by rw [HUU.out]; exact h9, hB⟩
  · by_cases c2 : 2 * R = val d
    · rw [cmpN_eq c2]
      by_cases c3 : Q = 0
      · have hU : U = 0 := by rw [HU.out, if_neg (by omega), c3]
        have HUU := Lib.hid hU
        rw [c3, lim_zero] at h5
        have h50 := h5
        obtain ⟨A5, c5, rfl, m5⟩ := nt_len h50
        have L0 := Lib.hid lim_zero
        clear c1 c2 HU hU c3 h50
        go_wp2_with fail
        go_ret
        exact ⟨_, rfl, by rw [HUU.out, L0.out]; exact h5.low hsz, hB⟩
      · obtain ⟨y, r, hy, hym, hyl⟩ := lim_head c3
        have h50 := h5
        rw [hy] at h50
        obtain ⟨A5, c5, hv5, hc5, m5, _, hx5⟩ := h50
        obtain ⟨b5, o5, rfl, _, _, hcell⟩ := hx5 (by simp)
        have hce := hcell 0 (by simp)
        rw [Nat.add_zero, List.getElem_cons_zero] at hce
        have hln : (lim Q).length = r.length + 1 := by rw [hy]; rfl
        subst hv5
        have hle : (y :: r).length = r.length + 1 := rfl
        obtain ⟨L, hL⟩ : ∃ L, r.length + 1 = L := ⟨_, rfl⟩
        rw [hle, hL] at h5 hc5 ⊢
        have hLp : (0 : Int) < (L : Int) := by omega
        have hand : bits .and .u32 (y : Int) 1 = ((Q % 2 : Nat) : Int) := by
          rw [← hym, ← Nat.and_one_is_mod]
          exact u32_and_nat y 1 hyl (by omega)
        by_cases c4 : Q % 2 = 1
        · have hU : U = Q + 1 := by rw [HU.out, if_pos (Or.inr ⟨c2, c4⟩)]
          have HUU := Lib.hid hU
          rw [c4] at hand
          replace hand : bits .and .u32 (y : Int) 1 = 1 := hand
          clear c1 c2 HU hU c3 c4 hx5 hcell hy hym hyl hln hle hL
          go_wp2_with fail
          have h8 := (lit_one w7 43 1).low (Nat.zero_le _)
          have hb : Below w7.heap.size w7 (w7.alloc (.cells #[.int .u32 1] 43)) := (Below.refl _ _).alloc (Nat.le_refl _) _
          replace h5 := (h5.low (Nat.zero_le _)).after hb
          replace hB := hB.trans (hb.mono hB.size)
          clear hb
          go_fit (refAdd_any _ _ (lim Q) [1] _ (dig_lim _) (dig_one (by omega)) h5 h8 (by omega) (by simp))
          rw [val_lim, val_one]
          rintro e w9 ⟨v9, rfl, h9, hb⟩
          replace h9 := h9.low hB.size
          replace hB := hB.trans (hb.mono hB.size)
          clear hb h5 h8
          go_wp2_with fail
          go_ret
          exact ⟨_, rfl, by rw [HUU.out]; exact h9, hB⟩
        · have hU : U = Q := by rw [HU.out, if_neg (by omega)]
          have HUU := Lib.hid hU
          have c5' : Q % 2 = 0 := by omega
          rw [c5'] at hand
          replace hand : bits .and .u32 (y : Int) 1 = 0 := hand
          clear c1 c2 HU hU c3 c4 hx5 hcell hy hym hyl hln hle hL c5'
          go_wp2_with fail
          go_ret
          exact ⟨_, rfl, by rw [HUU.out]; exact h5.low hsz, hB⟩
    · have c6 : 2 * R < val d := by omega
      rw [cmpN_lt c6]
      have hU : U = Q := by rw [HU.out, if_neg (by omega)]
      have HUU := Lib.hid hU
      clear c1 c2 HU hU c6
      go_wp2_with fail
      go_ret
      exact ⟨_, rfl, by rw [HUU.out]; exact h5.low hsz, hB⟩
end Go.Proofs.YtobmjcbjailclaaGreatDoor

/- The program's powers of ten, up to the thousandth. Condition: that bound. -/
namespace Go.Proofs.YtobmjcbjailclaaGreatDoor
set_option maxRecDepth 100000
open Go.RowKit

set_option maxHeartbeats 3200000 in
theorem ten_big (d : Nat) (w : World) (hd : d ≤ 1000) : Calls Tryz.prog 29 #[.int .i64 (d : Int)] w (Gives (lim (10 ^ d)) w) := by
  go_enter Tryz.func29, Tryz.ntmps29
  go_wp2_with fail
  refine (of_any 1 _ (by omega)).mono ?_
  rintro e w1 ⟨v1, rfl, h1, hb1⟩
  go_wp2_with fail
  have l0 : lim 1 = lim (10 ^ 0) := rfl
  rw [l0] at h1
  clear l0
  go_loopw [3, 6] (fun a i wr => ∃ k : Nat, k ≤ d ∧ i = .int .i64 (k : Nat) ∧ Nt wr w.heap.size wr.heap.size a (lim (10 ^ k)) ∧ Below w.heap.size w wr)
    (fun _ i _ => d - (intOf i).toNat)
  case atStart => exact ⟨0, Nat.zero_le _, rfl, h1, hb1⟩
  case round =>
    obtain ⟨k, hk, rfl, ha, hb⟩ := hrel
    clear h1 hb1
    by_cases hlt : k < d
    · have hlI : (k : Int) < (d : Int) := by omega
      have hl : (lim (10 ^ k)).length ≤ 1001 := lim_ten (Nat.pow_lt_pow_right (by omega) (Nat.lt_succ_self k)) (by omega)
      have dk := dig_lim (10 ^ k)
      have dt := dig_lim 10
      have lt : (lim 10).length ≤ 1 := lim_length_le (by omega)
      have V := Lib.hid (val_lim (10 ^ k))
      have V2 := Lib.hid (val_lim 10)
      have P : Hid (10 ^ k * 10 = 10 ^ (k + 1)) := (Nat.pow_succ ..).symm
      go_wp2_with fail
      refine (of_any 10 _ (by omega)).mono ?_
      rintro e w2 ⟨v2, rfl, h2, hb2⟩
      have ha2 := (ha.low (Nat.zero_le _)).after hb2
      have h2' := h2.low (Nat.zero_le _)
      have hb02 := hb.trans (hb2.mono hb.size)
      clear ha h2 hb hb2
      go_wp2_with fail
      refine (mul_any _ _ (lim (10 ^ k)) (lim 10) _ dk dt ha2 h2' (by omega) (by omega)).mono ?_
      rw [V.out, V2.out, P.out]
      rintro e w4 ⟨v4, rfl, h4, hb4⟩
      have h4' := h4.low hb02.size
      have hb04 := hb02.trans (hb4.mono hb02.size)
      clear h4 hb4 ha2 h2' hb02
      go_wp2_with fail
      go_roundw
      case rel => exact ⟨k + 1, by omega, by go_num, h4', hb04⟩
      case measure => simp [intOf]; omega
    · obtain rfl : k = d := by omega
      go_wp2_with fail
      go_ret
      exact ⟨_, rfl, ha, hb⟩

end Go.Proofs.YtobmjcbjailclaaGreatDoor

/- The look of the reference at two rows of limbs. Condition: none. -/
namespace Go.Proofs.YtobmjcbjailclaaGreatDoor
set_option maxRecDepth 100000
open Go.RowKit

set_option maxHeartbeats 800000 in
theorem refLimbs_any (u v : Value) (x y : List Nat) (w : World) (h : Nt w 0 w.heap.size u x) (h' : Nt w 0 w.heap.size v y) :
    Calls Tryz.prog 119 #[u, v] w fun e w' => e = .returned (.bool (eqb x y)) ∧ Below w.heap.size w w' := by
  obtain ⟨A, c, rfl, hc, hm, hA0, hx⟩ := h
  obtain ⟨A', c', rfl, hc', hm', hA0', hx'⟩ := h'
  unfold maxLen at hm hm'
  by_cases hxy : x.length = y.length
  · have hne : ((x.length : Int) != (y.length : Int)) = false := bne_false (by omega)
    have hyx : y.length ≤ x.length ∧ x.length ≤ y.length := by omega
    clear hxy
    go_enter Tryz.func119, Tryz.ntmps119
    go_wp2_with fail
    go_loopw [5] (fun i wr => ∃ k, k ≤ x.length ∧ i = .int .i64 (k : Nat) ∧ x.take k = y.take k ∧ Below w.heap.size w wr) (fun i _ => x.length - (intOf i).toNat)
    case atStart => exact ⟨0, Nat.zero_le _, rfl, rfl, Below.refl _ _⟩
    case round =>
      obtain ⟨k, hk, rfl, hv, hb⟩ := hrel
      have V := Lib.hid hv
      clear hv
      by_cases hlt : k < x.length
      · have hlt' : k < y.length := by omega
        obtain ⟨b, off, rfl, _, hbl, hcell⟩ := hx (by omega)
        obtain ⟨b', off', rfl, _, hbl', hcell'⟩ := hx' (by omega)
        have hc1 := (hb.cell (p := ⟨b, off + k, none⟩) hbl).trans (hcell k hlt)
        have hc2 := (hb.cell (p := ⟨b', off' + k, none⟩) hbl').trans (hcell' k hlt')
        have hI : (k : Int) < (y.length : Int) := by omega
        have hJ : (k : Int) < (x.length : Int) := by omega
        have hK : (0 : Int) ≤ (k : Int) := by omega
        clear hcell hcell' hx hx'
        by_cases he : x[k] = y[k]
        · have hv2 : x.take (k + 1) = y.take (k + 1) := by
            rw [List.take_add_one, List.take_add_one, V.out, List.getElem?_eq_getElem hlt, List.getElem?_eq_getElem hlt', he]
          have V2 := Lib.hid hv2
          have ht : (((x[k] : Nat) : Int) != ((y[k] : Nat) : Int)) = false := bne_false (by omega)
          clear hv2 he V
          generalize x[k] = p at *
          generalize y[k] = q at *
          go_wp2_with fail
          go_quiet (fail)
          go_wp2
          go_roundw
          case rel => exact ⟨k + 1, by omega, by go_num, V2.out, below_drewN hb _⟩
          case measure => simp [intOf]; omega
        · have ht : (((x[k] : Nat) : Int) != ((y[k] : Nat) : Int)) = true := bne_true (by omega)
          have e : eqb x y = false := decide_eq_false (fun e => he (by subst e; rfl))
          have E := Lib.hid e
          clear he e V
          generalize x[k] = p at *
          generalize y[k] = q at *
          go_wp2_with fail
          go_quiet (fail)
          go_wp2
          go_ret
          exact ⟨by rw [E.out]; rfl, below_drewN hb _⟩
      · obtain rfl : k = x.length := by omega
        have e : eqb x y = true := decide_eq_true (by
          have := V.out
          rw [List.take_length, List.take_of_length_le (by omega)] at this
          exact this)
        have E := Lib.hid e
        clear e V hx hx'
        go_wp2
        go_ret
        exact ⟨by rw [E.out]; rfl, hb⟩
  · have hne : ((x.length : Int) != (y.length : Int)) = true := bne_true (by omega)
    have e : eqb x y = false := decide_eq_false (fun e => hxy (by rw [e]))
    have E := Lib.hid e
    clear e hxy
    go_enter Tryz.func119, Tryz.ntmps119
    go_wp2
    go_ret
    exact ⟨by rw [E.out]; rfl, Below.refl _ _⟩
end Go.Proofs.YtobmjcbjailclaaGreatDoor
