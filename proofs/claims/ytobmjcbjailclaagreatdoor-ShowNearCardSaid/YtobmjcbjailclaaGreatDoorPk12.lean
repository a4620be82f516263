/- Several texts in one: PrDiv, PrBall, LimTen, DecA, DecB, Bytes, ShowA. Condition: each says its own. -/
import Derived.Laws.BitsAllLaws
import Derived.Deep.AppendLies
import Derived.Outline
import Derived.Test.YtobmjcbjailclaaGreatDoorPk1
import Derived.Test.YtobmjcbjailclaaGreatDoorPk2
import Derived.Test.YtobmjcbjailclaaGreatDoorPk3
import Derived.Test.YtobmjcbjailclaaGreatDoorPk4
import Derived.Test.YtobmjcbjailclaaGreatDoorPk6
import Derived.Test.YtobmjcbjailclaaGreatDoorPk7
import Derived.Test.YtobmjcbjailclaaGreatDoorPk11
/- The program's 'Is', 'Int', 'Div' of numbers with a divisor by their contracts. Condition: bounds on lengths. -/
namespace Go.Proofs.YtobmjcbjailclaaGreatDoor
set_option maxRecDepth 100000
open Go.RowKit

/-- Is it normal? -/
def isR (s : Bool) (n d : List Nat) : Bool := cb n && cb d && decide (0 < d.length) && !(s && decide (n.length = 0)) && (Nat.gcd (val n) (val d) == 1)

set_option maxHeartbeats 3200000 in
theorem prIs_any (v : Value) (s : Bool) (n d : List Nat) (w : World) (dn : Dig n) (dd : Dig d) (h : Rt w 0 w.heap.size v s n d) (ln : n.length ≤ 1000) (ld : d.length ≤ 1000) :
    Calls Tryz.prog 85 #[v] w fun e w' => e = .returned (.bool (isR s n d)) ∧ Below w.heap.size w w' := by
  obtain ⟨vn, vd, rfl, hn, hd⟩ := h
  have hn' := hn
  have hd' := hd
  obtain ⟨A1, k1, rfl, m1⟩ := nt_len hn'
  obtain ⟨A2, k2, rfl, m2⟩ := nt_len hd'
  have hB : Below w.heap.size w (w.alloc (.cells #[.bool s, .slice A1 n.length k1, .slice A2 d.length k2] 25)) := (Below.refl _ _).alloc (Nat.le_refl _) _
  have I1 := Lib.hid (is_any _ n 0 _ _ (hn.after hB))
  have I2 := Lib.hid (is_any _ d 0 _ _ (hd.after hB))
  have HN := Lib.hid (hn.after hB)
  have HD := Lib.hid (hd.after hB)
  have HB := Lib.hid hB
  clear hn hd hn' hd' hB
  cases c1 : cb n
  · have e : Hid (isR s n d = false) := by show _ = _; unfold isR; rw [c1]; rfl
    rw [c1] at I1
    clear c1
    go_enter Tryz.func85, Tryz.ntmps85
    go_wp2_with fail
    go_fit (I1.out)
    rintro e w2 ⟨rfl, rfl⟩
    go_wp2_with fail
    go_ret
    exact ⟨by rw [‹Hid (isR s n d = false)›.out]; rfl, HB.out⟩
  · cases c2 : cb d
    · have e : Hid (isR s n d = false) := by show _ = _; unfold isR; rw [c1, c2]; rfl
      rw [c1] at I1
      rw [c2] at I2
      clear c1 c2
      go_enter Tryz.func85, Tryz.ntmps85
      go_wp2_with fail
      go_fit (I1.out)
      rintro e w2 ⟨rfl, rfl⟩
      go_wp2_with fail
      go_fit (I2.out)
      rintro e w3 ⟨rfl, rfl⟩
      go_wp2_with fail
      go_ret
      exact ⟨by rw [‹Hid (isR s n d = false)›.out]; rfl, HB.out⟩
    · rw [c1] at I1
      rw [c2] at I2
      by_cases h0 : d.length = 0
      · have e : Hid (isR s n d = false) := by show _ = _; unfold isR; rw [c1, c2, h0]; rfl
        have hz : ((d.length : Int) == 0) = true := by simp [h0]
        clear c1 c2 h0
        go_enter Tryz.func85, Tryz.ntmps85
        go_wp2_with fail
        go_fit (I1.out)
        rintro e w2 ⟨rfl, rfl⟩
        go_wp2_with fail
        go_fit (I2.out)
        rintro e w3 ⟨rfl, rfl⟩
        go_wp2_with fail
        go_ret
        exact ⟨by rw [‹Hid (isR s n d = false)›.out]; rfl, HB.out⟩
      · have hz : ((d.length : Int) == 0) = false := by simp [h0]
        by_cases h1 : s = true ∧ n.length = 0
        · obtain ⟨rfl, h1⟩ := h1
          have e : Hid (isR true n d = false) := by show _ = _; unfold isR; rw [c1, c2, h1]; simp
          have hz1 : ((n.length : Int) == 0) = true := by simp [h1]
          clear c1 c2 h0 h1
          go_enter Tryz.func85, Tryz.ntmps85
          go_wp2_with fail
          go_fit (I1.out)
          rintro e w2 ⟨rfl, rfl⟩
          go_wp2_with fail
          go_fit (I2.out)
          rintro e w3 ⟨rfl, rfl⟩
          go_wp2_with fail
          go_ret
          exact ⟨by rw [‹Hid (isR true n d = false)›.out]; rfl, HB.out⟩
        · have e : Hid (isR s n d = (Nat.gcd (val n) (val d) == 1)) := by
            show _ = _
            unfold isR
            rw [c1, c2, decide_eq_true (by omega : 0 < d.length)]
            cases s
            · simp
            · rw [decide_eq_false (fun hc => h1 ⟨rfl, hc⟩)]; simp
          obtain ⟨GG, hGG⟩ : ∃ z, Nat.gcd (val n) (val d) = z := ⟨_, rfl⟩
          rw [hGG] at e
          have lG : (lim GG).length ≤ 1000 := by
            rw [← hGG]
            by_cases hv : val n = 0
            · rw [hv, Nat.gcd_zero_left]; exact Nat.le_trans (lim_val_length d dd) ld
            · exact Nat.le_trans (lim_len_mono (Nat.le_of_dvd (Nat.pos_of_ne_zero hv) (Nat.gcd_dvd_left _ _))) (Nat.le_trans (lim_val_length n dn) ln)
          have dG := dig_lim GG
          have HG : Hid (∀ W, Below w.heap.size w W → Nt W 0 W.heap.size (.slice A1 n.length k1) n → Nt W 0 W.heap.size (.slice A2 d.length k2) d → Calls Tryz.prog 74 #[.slice A1 n.length k1, .slice A2 d.length k2] W (Gives (lim GG) W)) := fun W _ hn hd => by
            have := gcd_any _ _ n d W dn dd hn hd ln ld
            rw [hGG] at this
            exact this
          have HV := Lib.hid (val_lim GG)
          have HV1 : Hid (val (lim 1) = 1) := val_lim 1
          have d1 := dig_lim 1
          have l1 : (lim 1).length ≤ 1000 := by rw [lim_one (by omega) (by omega)]; simp
          have HC : Hid ((cmpN GG 1 == 0) = (GG == 1)) := by
            show _ = _
            unfold cmpN
            by_cases hg : GG = 1
            · subst hg; rfl
            · rw [beq_eq_false_iff_ne.2 hg]
              by_cases h2 : GG < 1
              · rw [if_pos h2]; rfl
              · rw [if_neg h2, if_pos (by omega)]; rfl
          have E := e
          have HNZ : Hid (s = true → ((n.length : Int) == 0) = false) := fun hs => by
            have : n.length ≠ 0 := fun hc => h1 ⟨hs, hc⟩
            simp [this]
          clear e c1 c2 hGG dn dd ln ld h1 h0
          cases s
          · go_enter Tryz.func85, Tryz.ntmps85
            go_wp2_with fail
            go_fit (I1.out)
            rintro e w2 ⟨rfl, rfl⟩
            go_wp2_with fail
            go_fit (I2.out)
            rintro e w3 ⟨rfl, rfl⟩
            clear I1 I2
            go_wp2_with fail
            go_fit (HG.out _ HB.out HN.out HD.out)
            rintro e w4 ⟨v4, rfl, h4, hb4⟩
            go_wp2_with fail
            go_fit (of_any' 1 _ rfl _ (by omega))
            rintro e w5 ⟨v5, rfl, h5, hb5⟩
            go_wp2_with fail
            go_fit (cmp_any _ _ _ _ _ dG d1 ((h4.low (Nat.zero_le _)).after hb5) (h5.low (Nat.zero_le _)) (by omega) (by omega))
            rw [HV.out, HV1.out]
            rintro e w6 ⟨rfl, hb6⟩
            have HBF := Lib.hid (HB.out.trans ((hb4.trans ((hb5.mono hb4.size).trans (hb6.mono (Nat.le_trans hb4.size hb5.size)))).mono HB.out.size))
            clear HB h4 h5 hb4 hb5 hb6 HG HV HV1
            generalize cmpN GG 1 = cz at *
            go_wp2_with fail
            go_ret
            exact ⟨by rw [E.out, ← HC.out]; rfl, HBF.out⟩
          · have hz1 : ((n.length : Int) == 0) = false := HNZ.out rfl
            go_enter Tryz.func85, Tryz.ntmps85
            go_wp2_with fail
            go_fit (I1.out)
            rintro e w2 ⟨rfl, rfl⟩
            go_wp2_with fail
            go_fit (I2.out)
            rintro e w3 ⟨rfl, rfl⟩
            clear I1 I2
            go_wp2_with fail
            go_fit (HG.out _ HB.out HN.out HD.out)
            rintro e w4 ⟨v4, rfl, h4, hb4⟩
            go_wp2_with fail
            go_fit (of_any' 1 _ rfl _ (by omega))
            rintro e w5 ⟨v5, rfl, h5, hb5⟩
            go_wp2_with fail
            go_fit (cmp_any _ _ _ _ _ dG d1 ((h4.low (Nat.zero_le _)).after hb5) (h5.low (Nat.zero_le _)) (by omega) (by omega))
            rw [HV.out, HV1.out]
            rintro e w6 ⟨rfl, hb6⟩
            have HBF := Lib.hid (HB.out.trans ((hb4.trans ((hb5.mono hb4.size).trans (hb6.mono (Nat.le_trans hb4.size hb5.size)))).mono HB.out.size))
            clear HB h4 h5 hb4 hb5 hb6 HG HV HV1
            generalize cmpN GG 1 = cz at *
            go_wp2_with fail
            go_ret
            exact ⟨by rw [E.out, ← HC.out]; rfl, HBF.out⟩
end Go.Proofs.YtobmjcbjailclaaGreatDoor

/- The program's 'Int', 'Div' of numbers with a divisor by their contracts. Condition: bounds on lengths. -/
namespace Go.Proofs.YtobmjcbjailclaaGreatDoor
set_option maxRecDepth 100000
open Go.RowKit

theorem rat_int (n : Nat) : qS (n : Rat) = false ∧ qN (n : Rat) = n ∧ (n : Rat).den = 1 := by
  refine ⟨?_, ?_, rfl⟩
  · unfold qS
    show decide ((n : Int) < 0) = false
    exact decide_eq_false (by omega)
  · show (n : Int).natAbs = n
    omega

set_option maxHeartbeats 3200000 in
theorem prInt_any (n : Nat) (w : World) (hn : n ≤ 1000000) : Calls Tryz.prog 45 #[.int .i64 (n : Int)] w (GivesF (n : Rat) w) := by
  obtain ⟨e1, e2, e3⟩ := rat_int n
  unfold GivesF
  rw [e1, e2, e3]
  clear e1 e2 e3
  have hlt : ¬ (n : Int) < 0 := by omega
  have b0 := Blk.new w 25 #[.bool false, .slice none 0 0, .slice none 0 0]
  have hB : Below w.heap.size w (w.alloc (.cells #[.bool false, .slice none 0 0, .slice none 0 0] 25)) := (Below.refl _ _).alloc (Nat.le_refl _) _
  have HO := Lib.hid (of_any' n (n : Int) rfl (w.alloc (.cells #[.bool false, .slice none 0 0, .slice none 0 0] 25)) (by omega))
  go_enter Tryz.func45, Tryz.ntmps45
  go_wp2_with fail
  go_fit (HO.out)
  rintro e w3 ⟨v3, rfl, h3, hb3⟩
  clear HO
  have q3 := b0.below hb3 b0.lt
  have hB3 := hB.trans (hb3.mono hB.size)
  replace h3 := h3.low (show w.heap.size + 1 ≤ _ from b0.lt)
  clear b0 hB hb3
  go_wp2_with fail
  go_fit (of_any' 1 _ rfl _ (by omega))
  rintro e w4 ⟨v4, rfl, h4, hb4⟩
  have q4 := q3.below hb4 q3.lt
  have hB4 := hB3.trans (hb4.mono hB3.size)
  replace h4 := h4.low (show w.heap.size + 1 ≤ _ from q3.lt)
  replace h3 := h3.after hb4
  obtain ⟨A1, k1, rfl, m1⟩ := nt_len h3
  obtain ⟨A2, k2, rfl, m2⟩ := nt_len h4
  have r0 := q4.cell 0
  have r1 := q4.cell 1
  have r2 := q4.cell 2
  have f0 := q4.free 0
  have f1 := q4.free 1
  have f2 := q4.free 2
  obtain ⟨e0, e1, e2, hR, hBf⟩ := store3 q4 hB4 (Nat.le_refl _) false (.slice A1 (lim n).length k1) (.slice A2 (lim 1).length k2) h3 h4
  have HR := Lib.hid hR
  have HBF := Lib.hid hBf
  clear q3 q4 hB3 hB4 hb4 h3 h4 hR hBf
  unfold St3 at *
  go_wp2_with fail
  clear r0 r1 r2 f0 f1 f2
  generalize ((World.setCell w4 ⟨w.heap.size, 0, none⟩ (.bool false)).setCell ⟨w.heap.size, 1, none⟩ (.slice A1 (lim n).length k1)).setCell ⟨w.heap.size, 2, none⟩ (.slice A2 (lim 1).length k2) = WW at *
  refine bodyPost_ret (v := .agg #[.bool false, .slice A1 (lim n).length k1, .slice A2 (lim 1).length k2]) ?_ rfl ⟨_, rfl, HR.out, HBF.out⟩
  simp [results, Tryz.results45, go_sem, e0, e1, e2]

theorem qv_inv {q : Rat} (h : q ≠ 0) : qv (qS q) q.den (qN q) = q⁻¹ := by
  have := qv_div 1 q h
  have e1 : qS (1 : Rat) = false := rfl
  have e2 : qN (1 : Rat) = 1 := rfl
  have e3 : (1 : Rat).den = 1 := rfl
  rw [e1, e2, e3, Rat.div_def, Rat.one_mul, Nat.one_mul, Nat.one_mul] at this
  cases hq : qS q
  · rw [hq] at this; exact this
  · rw [hq] at this; exact this

/-- What hands back a new number in lowest terms, and yes. -/
def GivesFB (q : Rat) (w : World) (e : Ending) (w' : World) : Prop :=
  ∃ v', e = .returned (.tuple #[v', .bool true]) ∧ Rt w' w.heap.size w'.heap.size v' (qS q) (lim (qN q)) (lim q.den) ∧ Below w.heap.size w w'

set_option maxHeartbeats 3200000 in
theorem prDiv_q (u v : Value) (p q : Rat) (k j : Nat) (w : World) (h : RQ w 0 w.heap.size u p k) (h' : RQ w 0 w.heap.size v q j) (hk : k ≤ 400) (hj : j ≤ 400) (hj1 : 1 ≤ j) (hq : q ≠ 0) : Calls Tryz.prog 43 #[u, v] w (GivesFB (p / q) w) := by
  have hz := h'.sz hj1
  have HC2 : Hid (∀ W, Below w.heap.size w W → Calls Tryz.prog 76 #[v] W (GivesF q W)) := fun W hb => prNorm_q v q j W (h'.after hb) (by omega)
  have HU := Lib.hid h
  have hne : ¬ (lim (qN q)).length = 0 := fun hc => hq (qN_zero.1 (lim_eq_nil.1 (List.eq_nil_of_length_eq_zero hc)))
  have hne2 : (((lim (qN q)).length : Int) == 0) = false := by simp [hne]
  have HINV := Lib.hid (qv_inv hq)
  have dN := dig_lim (qN q)
  have dD := dig_lim q.den
  have lN : (lim (qN q)).length ≤ 400 := by have := hz.1; omega
  have lD : (lim q.den).length ≤ 400 := by have := hz.2; omega
  have HV1 := Lib.hid (val_lim (qN q))
  have HV2 := Lib.hid (val_lim q.den)
  have HDV := Lib.hid (Rat.div_def p q)
  obtain ⟨s, n, d, ⟨un, ud, rfl, hn, hd⟩, rest⟩ := h
  obtain ⟨t, m, c, ⟨vm, vc, rfl, hm, hc⟩, rest'⟩ := h'
  obtain ⟨A1, k1, rfl, m1⟩ := nt_len hn
  obtain ⟨A2, k2, rfl, m2⟩ := nt_len hd
  obtain ⟨A3, k3, rfl, m3⟩ := nt_len hm
  obtain ⟨A4, k4, rfl, m4⟩ := nt_len hc
  clear hn hd hm hc rest rest' hz hne hq
  go_enter Tryz.func43, Tryz.ntmps43
  go_wp2_with fail
  have b0 := ((Blk.new w 25 #[.bool s, .slice A1 n.length k1, .slice A2 d.length k2]).alloc (.cells #[.bool t, .slice A3 m.length k3, .slice A4 c.length k4] 25)).alloc (.cells #[.bool false, .slice none 0 0, .slice none 0 0] 25)
  have b1 := (Blk.new (w.alloc (.cells #[.bool s, .slice A1 n.length k1, .slice A2 d.length k2] 25)) 25 #[.bool t, .slice A3 m.length k3, .slice A4 c.length k4]).alloc (.cells #[.bool false, .slice none 0 0, .slice none 0 0] 25)
  have b2 := Blk.new ((w.alloc (.cells #[.bool s, .slice A1 n.length k1, .slice A2 d.length k2] 25)).alloc (.cells #[.bool t, .slice A3 m.length k3, .slice A4 c.length k4] 25)) 25 #[.bool false, .slice none 0 0, .slice none 0 0]
  have hB : Below w.heap.size w (((w.alloc (.cells #[.bool s, .slice A1 n.length k1, .slice A2 d.length k2] 25)).alloc (.cells #[.bool t, .slice A3 m.length k3, .slice A4 c.length k4] 25)).alloc (.cells #[.bool false, .slice none 0 0, .slice none 0 0] 25)) := (((Below.refl _ _).alloc (Nat.le_refl _) _).alloc (by simp) _).alloc (by simp; omega) _
  have es : (w.alloc (.cells #[.bool s, .slice A1 n.length k1, .slice A2 d.length k2] 25)).heap.size = w.heap.size + 1 := by simp
  have es2 : ((w.alloc (.cells #[.bool s, .slice A1 n.length k1, .slice A2 d.length k2] 25)).alloc (.cells #[.bool t, .slice A3 m.length k3, .slice A4 c.length k4] 25)).heap.size = w.heap.size + 1 + 1 := by simp
  rw [es] at b1
  rw [es2] at b2
  clear es es2
  generalize (((w.alloc (.cells #[.bool s, .slice A1 n.length k1, .slice A2 d.length k2] 25)).alloc (.cells #[.bool t, .slice A3 m.length k3, .slice A4 c.length k4] 25)).alloc (.cells #[.bool false, .slice none 0 0, .slice none 0 0] 25)) = w2 at *
  have e0 := b1.cell 0
  have e1 := b1.cell 1
  have e2 := b1.cell 2
  go_wp2_with fail
  go_fit (HC2.out _ hB)
  rintro e w3 ⟨v3, rfl, ⟨xn, xd, rfl, hxn, hxd⟩, hb3⟩
  clear e0 e1 e2 HC2
  replace b0 := b0.below hb3 b0.lt
  replace b1 := b1.below hb3 b1.lt
  have hL := b2.lt
  replace b2 := b2.below hb3 b2.lt
  replace hB := hB.trans (hb3.mono hB.size)
  replace hxn := hxn.low (show w.heap.size + 1 + 1 + 1 ≤ _ from hL)
  replace hxd := hxd.low (show w.heap.size + 1 + 1 + 1 ≤ _ from hL)
  obtain ⟨A5, k5, rfl, m5⟩ := nt_len hxn
  obtain ⟨A6, k6, rfl, m6⟩ := nt_len hxd
  have r0 := b1.cell 0
  have r1 := b1.cell 1
  have r2 := b1.cell 2
  have f0 := b1.free 0
  have f1 := b1.free 1
  have f2 := b1.free 2
  have c0 := blk_far3 (p := w.heap.size + 1) (a := .bool (qS q)) (b := .slice A5 (lim (qN q)).length k5) (c := .slice A6 (lim q.den).length k6) b0 (by omega)
  have c1 := blk_put3 (a := .bool (qS q)) (b := .slice A5 (lim (qN q)).length k5) (c := .slice A6 (lim q.den).length k6) b1
  have c2 := blk_far3 (p := w.heap.size + 1) (a := .bool (qS q)) (b := .slice A5 (lim (qN q)).length k5) (c := .slice A6 (lim q.den).length k6) b2 (by omega)
  have hB4 := below_set3 hB (Nat.le_succ w.heap.size) (.bool (qS q)) (.slice A5 (lim (qN q)).length k5) (.slice A6 (lim q.den).length k6)
  have x5 := nt_set3 hxn (show w.heap.size + 1 < w.heap.size + 1 + 1 + 1 by omega) (.bool (qS q)) (.slice A5 (lim (qN q)).length k5) (.slice A6 (lim q.den).length k6)
  have y5 := nt_set3 hxd (show w.heap.size + 1 < w.heap.size + 1 + 1 + 1 by omega) (.bool (qS q)) (.slice A5 (lim (qN q)).length k5) (.slice A6 (lim q.den).length k6)
  have C0 := Lib.hid c0
  have C1 := Lib.hid c1
  have C2 := Lib.hid c2
  have HB4 := Lib.hid hB4
  have X5 := Lib.hid x5
  have Y5 := Lib.hid y5
  clear b0 b1 b2 hB hb3 hxn hxd c0 c1 c2 hB4 x5 y5
  have z0 := C0.out.cell 0
  have z1 := C0.out.cell 1
  have z2 := C0.out.cell 2
  have z3 := C1.out.cell 0
  have z4 := C1.out.cell 1
  have z5 := C1.out.cell 2
  go_wp2_with fail
  clear r0 r1 r2 f0 f1 f2 z0 z1 z2 z3 z4 z5
  generalize ((World.setCell w3 ⟨w.heap.size + 1, 0, none⟩ (.bool (qS q))).setCell ⟨w.heap.size + 1, 1, none⟩ (.slice A5 (lim (qN q)).length k5)).setCell ⟨w.heap.size + 1, 2, none⟩ (.slice A6 (lim q.den).length k6) = w4 at *
  go_fit (prMul_q _ _ p q⁻¹ k 400 _ (HU.out.after HB4.out) ⟨_, _, _, ⟨_, _, rfl, Y5.out.low (Nat.zero_le _), X5.out.low (Nat.zero_le _)⟩, dD, dN, lD, lN, by rw [HV1.out, HV2.out]; exact HINV.out⟩ hk (Nat.le_refl _))
  rintro e w5 ⟨v5, rfl, ⟨yn, yd, rfl, hyn, hyd⟩, hb5⟩
  have HB5 := HB4.out.trans (hb5.mono HB4.out.size)
  have hL4 := C2.out.lt
  have q5 := C2.out.below hb5 C2.out.lt
  replace hyn := hyn.low (show w.heap.size + 1 + 1 + 1 ≤ _ from hL4)
  replace hyd := hyd.low (show w.heap.size + 1 + 1 + 1 ≤ _ from hL4)
  obtain ⟨A7, k7, rfl, m7⟩ := nt_len hyn
  obtain ⟨A8, k8, rfl, m8⟩ := nt_len hyd
  have r0 := q5.cell 0
  have r1 := q5.cell 1
  have r2 := q5.cell 2
  have f0 := q5.free 0
  have f1 := q5.free 1
  have f2 := q5.free 2
  obtain ⟨e0, e1, e2, hR, hBf⟩ := store3 q5 HB5 (by omega) (qS (p * q⁻¹)) (.slice A7 (lim (qN (p * q⁻¹))).length k7) (.slice A8 (lim (p * q⁻¹).den).length k8) hyn hyd
  have HR := Lib.hid hR
  have HBF := Lib.hid hBf
  clear q5 HB4 HB5 hb5 hyn hyd hR hBf C0 C1 C2 X5 Y5
  unfold St3 at *
  go_wp2_with fail
  clear r0 r1 r2 f0 f1 f2
  generalize ((World.setCell w5 ⟨w.heap.size + 1 + 1, 0, none⟩ (.bool (qS (p * q⁻¹)))).setCell ⟨w.heap.size + 1 + 1, 1, none⟩ (.slice A7 (lim (qN (p * q⁻¹))).length k7)).setCell ⟨w.heap.size + 1 + 1, 2, none⟩ (.slice A8 (lim (p * q⁻¹).den).length k8) = WW at *
  refine bodyPost_ret (v := .tuple #[.agg #[.bool (qS (p * q⁻¹)), .slice A7 (lim (qN (p * q⁻¹))).length k7, .slice A8 (lim (p * q⁻¹).den).length k8], .bool true]) ?_ rfl (by show GivesFB _ _ _ _; rw [HDV.out]; exact ⟨_, rfl, HR.out, HBF.out⟩)
  simp [results, Tryz.results43, go_sem, e0, e1, e2]
end Go.Proofs.YtobmjcbjailclaaGreatDoor

/- Limbs of a number below a power of ten. No condition. -/
namespace Go.Proofs.YtobmjcbjailclaaGreatDoor
set_option maxRecDepth 100000
theorem lim_ten {n l m : Nat} (h : n < 10 ^ l) (hl : l ≤ m) : (lim n).length ≤ m :=
  lim_length_le (Nat.lt_of_lt_of_le h (Nat.le_trans (Nat.pow_le_pow_left (by omega : 10 ≤ 4294967296) _) (Nat.pow_le_pow_right (by decide) hl)))
end Go.Proofs.YtobmjcbjailclaaGreatDoor

/- The program's powers of ten and rounded units by their contracts. Condition: bounds on lengths. -/
namespace Go.Proofs.YtobmjcbjailclaaGreatDoor
set_option maxRecDepth 100000
open Go.RowKit

theorem ten_len60 {k : Nat} (h : k ≤ 60) : (lim (10 ^ k)).length ≤ 61 := lim_ten (Nat.pow_lt_pow_right (by omega) (Nat.lt_succ_self k)) (by omega)

set_option maxHeartbeats 3200000 in
theorem ten_any (d : Nat) (w : World) (hd : d ≤ 60) : Calls Tryz.prog 29 #[.int .i64 (d : Int)] w (Gives (lim (10 ^ d)) w) := by
  go_enter Tryz.func29, Tryz.ntmps29
  go_wp2_with fail
  refine (of_any 1 _ (by omega)).mono ?_
  rintro e w1 ⟨v1, rfl, h1, hb1⟩
  go_wp2_with fail
  have l0 : lim 1 = lim (10 ^ 0) := rfl
  rw [l0] at h1
  clear l0
  go_loopw [3, 6] (fun a i wr => ∃ k : Nat, k ≤ d ∧ i = .int .i64 (k : Nat) ∧ Nt wr w.heap.size wr.heap.size a (lim (10 ^ k)) ∧ Below w.heap.size w wr)
    (fun _ i _ => d - (intOf i).toNat)
  case atStart => exact ⟨0, Nat.zero_le _, rfl, h1, hb1⟩
  case round =>
    obtain ⟨k, hk, rfl, ha, hb⟩ := hrel
    clear h1 hb1
    by_cases hlt : k < d
    · have hlI : (k : Int) < (d : Int) := by omega
      have hl := ten_len60 (Nat.le_of_lt (Nat.lt_of_lt_of_le hlt hd))
      have dk := dig_lim (10 ^ k)
      have dt := dig_lim 10
      have lt : (lim 10).length ≤ 1 := lim_length_le (by omega)
      have V := Lib.hid (val_lim (10 ^ k))
      have V2 := Lib.hid (val_lim 10)
      have P : Hid (10 ^ k * 10 = 10 ^ (k + 1)) := (Nat.pow_succ ..).symm
      go_wp2_with fail
      refine (of_any 10 _ (by omega)).mono ?_
      rintro e w2 ⟨v2, rfl, h2, hb2⟩
      have ha2 := (ha.low (Nat.zero_le _)).after hb2
      have h2' := h2.low (Nat.zero_le _)
      have hb02 := hb.trans (hb2.mono hb.size)
      clear ha h2 hb hb2
      go_wp2_with fail
      refine (mul_any _ _ (lim (10 ^ k)) (lim 10) _ dk dt ha2 h2' (by omega) (by omega)).mono ?_
      rw [V.out, V2.out, P.out]
      rintro e w4 ⟨v4, rfl, h4, hb4⟩
      have h4' := h4.low hb02.size
      have hb04 := hb02.trans (hb4.mono hb02.size)
      clear h4 hb4 ha2 h2' hb02
      go_wp2_with fail
      go_roundw
      case rel => exact ⟨k + 1, by omega, by go_num, h4', hb04⟩
      case measure => simp [intOf]; omega
    · obtain rfl : k = d := by omega
      go_wp2_with fail
      go_ret
      exact ⟨_, rfl, ha, hb⟩

/-- A number held between 0 and 60. -/
def hold60 (d : Int) : Int := min (max d 0) 60
theorem hold60_range (d : Int) : 0 ≤ hold60 d ∧ hold60 d ≤ 60 := by unfold hold60; omega

theorem dheld_any (d : Int) (w : World) : Calls Tryz.prog 77 #[.int .i64 d] w fun e w' => e = .returned (.int .i64 (hold60 d)) ∧ w = w' := by
  by_cases h1 : d < 0
  · have e : hold60 d = 0 := by unfold hold60; omega
    rw [e]
    have h2 : ¬ 0 ≤ d := by omega
    have h3 : d ≤ 0 := by omega
    go_enter Tryz.func77, Tryz.ntmps77
    go_wp2
    go_ret
    exact ⟨rfl, rfl⟩
  · have h2 : 0 ≤ d := by omega
    by_cases h3 : d ≤ 60
    · have e : hold60 d = d := by unfold hold60; omega
      rw [e]
      have h4 : ¬ 60 < d := by omega
      go_enter Tryz.func77, Tryz.ntmps77
      go_wp2
      go_ret
      exact ⟨rfl, rfl⟩
    · have e : hold60 d = 60 := by unfold hold60; omega
      rw [e]
      have h4 : 60 < d := by omega
      go_enter Tryz.func77, Tryz.ntmps77
      go_wp2
      go_ret
      exact ⟨rfl, rfl⟩

/-- A number of units, to the even one at halves. -/
def rhe (x d : Nat) : Nat := if d < 2 * (x % d) ∨ (2 * (x % d) = d ∧ x / d % 2 = 1) then x / d + 1 else x / d

theorem lim_head {Q : Nat} (h : Q ≠ 0) : ∃ y r, lim Q = y :: r ∧ y % 2 = Q % 2 ∧ y < 4294967296 := by
  refine ⟨_, _, lim_pos h, ?_, ?_⟩ <;> omega

set_option maxHeartbeats 3200000 in
theorem units_any (v : Value) (s : Bool) (n d : List Nat) (k : Nat) (w : World) (dn : Dig n) (dd : Dig d) (h : Rt w 0 w.heap.size v s n d) (ln : n.length ≤ 1000) (ld : d.length ≤ 1000) (hk : k ≤ 60) (hd0 : val d ≠ 0) :
    Calls Tryz.prog 82 #[v, .int .i64 (k : Int)] w (Gives (lim (rhe (val n * 10 ^ k) (val d))) w) := by
  obtain ⟨vn, vd, rfl, hn, hd⟩ := h
  have dt := dig_lim (10 ^ k)
  have lt := ten_len60 hk
  have dx := dig_lim (val n * val (lim (10 ^ k)))
  have lx : (lim (val n * val (lim (10 ^ k)))).length ≤ 1061 := lim_mul_len dn dt rfl rfl ln lt
  obtain ⟨X, hX⟩ : ∃ X, val n * 10 ^ k = X := ⟨_, rfl⟩
  have VX : Hid (val (lim (val n * val (lim (10 ^ k)))) = X) := by show _ = _; rw [val_lim, val_lim, hX]
  obtain ⟨Q, hQ⟩ : ∃ Q, X / val d = Q := ⟨_, rfl⟩
  obtain ⟨R, hR⟩ : ∃ R, X % val d = R := ⟨_, rfl⟩
  have GR : Hid (remN X (val d) = R) := by show _ = _; unfold remN; rw [if_neg hd0, hR]
  have HQ := Lib.hid hQ
  rw [hX]
  have hrl : R < val d := by rw [← hR]; exact Nat.mod_lt _ (by omega)
  have HU : Hid (rhe X (val d) = if val d < 2 * R ∨ (2 * R = val d ∧ Q % 2 = 1) then Q + 1 else Q) := by show _ = _; unfold rhe; rw [hQ, hR]
  obtain ⟨U, hU⟩ : ∃ U, rhe X (val d) = U := ⟨_, rfl⟩
  rw [hU] at HU ⊢
  have lQ : (lim Q).length ≤ 2000 := by rw [← hQ]; exact Nat.le_trans (lim_len_mono (Nat.div_le_self _ _)) (by have := VX.out; rw [val_lim] at this; rw [← this]; omega)
  have lR : (lim R).length ≤ 1000 := Nat.le_trans (lim_len_mono (Nat.le_of_lt hrl)) (Nat.le_trans (lim_val_length d dd) ld)
  have dR := dig_lim R
  have VR := Lib.hid (val_lim R)
  have HSH : Hid (val (lim (shiftN R 1)) = 2 * R) := by
    show _ = _
    rw [val_lim]
    have : held12 1 = 1 := by decide
    unfold shiftN
    rw [this]
    show (if (1 : Int) < 0 then _ else _) = _
    rw [if_neg (by omega), show ((1 : Int)).toNat = 1 from rfl, Nat.pow_one, Nat.mul_comm]
  have dS := dig_lim (shiftN R 1)
  have lS : (lim (shiftN R 1)).length ≤ 2000 := by
    have h2 : shiftN R 1 = R * 2 := by have := HSH.out; rw [val_lim] at this; omega
    rw [h2]
    exact Nat.le_trans (lim_mul_len (x := lim R) (y := lim 2) (dig_lim _) (dig_lim _) (val_lim _).symm (val_lim _).symm lR (lim_length_le (by omega) : (lim 2).length ≤ 1)) (by omega)
  have hten := fun w => ten_any k w hk
  have HTEN := Lib.hid hten
  clear hten hQ hR hX hU
  go_enter Tryz.func82, Tryz.ntmps82
  go_wp2_with fail
  have b0 := Blk.new w 25 #[.bool s, vn, vd]
  have hB : Below w.heap.size w (w.alloc (.cells #[.bool s, vn, vd] 25)) := (Below.refl _ _).alloc (Nat.le_refl _) _
  generalize w.alloc (.cells #[.bool s, vn, vd] 25) = w2 at *
  replace hn := (hn.below hB (Nat.le_refl _)).up hB.size
  replace hd := (hd.below hB (Nat.le_refl _)).up hB.size
  have hg := b0.lt
  have cc1 := b0.cell 1
  have cc2 := b0.cell 2
  go_region_held3 (fun W => Below w2.heap.size w2 W ∧ W.cell? ⟨w.heap.size, 1, none⟩ = some vn ∧ W.cell? ⟨w.heap.size, 2, none⟩ = some vd)
    (first | assumption | exact keep2 (by assumption) (by assumption) hg | exact ⟨(Below.refl _ _).drew, cc1, cc2⟩)
    (first
      | (go_at_call 29; refine (HTEN.out _).mono ?_; rintro e w3 ⟨v3, rfl, h3, hb3⟩; have hbb3 := hb3; have hk3 : Below w2.heap.size w2 w3 := Below.trans (Below.drew (Below.refl _ _)) hb3)
      | (go_at_call 72; refine (mul_any vn v3 n (lim (10 ^ k)) _ dn dt (hn.after hk3) (h3.low (Nat.zero_le _)) (by omega) (by omega)).mono ?_; rintro e w4 ⟨v4, rfl, h4, hb4⟩; have hbb4 := hb4; have hk4 : Below w2.heap.size w2 w4 := hk3.trans (hb4.mono hk3.size))
      | (go_at_call 75; refine (div_any v4 vd (lim (val n * val (lim (10 ^ k)))) d _ dx dd (h4.low (Nat.zero_le _)) (hd.after hk4) (by omega) (by omega)).mono ?_; rintro e w5 ⟨v5, z5, rfl, h5, h5', hb5⟩; have hbb5 := hb5; have hk5 : Below w2.heap.size w2 w5 := hk4.trans (hb5.mono hk4.size))
      | fail)
  rw [VX.out, HQ.out] at h5
  rw [VX.out, GR.out] at h5'
  replace h5 := h5.low (show w2.heap.size ≤ _ from hk4.size)
  replace h5' := h5'.low (show w2.heap.size ≤ _ from hk4.size)
  have q0 := b0.below hk5 hg
  replace hd := hd.after hk5
  replace hB := hB.trans (hk5.mono hB.size)
  have hg5 : w.heap.size < w5.heap.size := q0.lt
  have cd1 := q0.cell 1
  have cd2 := q0.cell 2
  have hsz : w.heap.size ≤ w2.heap.size := Nat.le_of_lt hg
  clear hn h3 hb3 hbb3 hk3 h4 hb4 hbb4 hk4 hb5 hbb5 hk5 cc1 cc2 b0 dx lx dt lt
  go_wp2_with fail
  go_region_held3 (fun W => Below w5.heap.size w5 W ∧ W.cell? ⟨w.heap.size, 1, none⟩ = some vn ∧ W.cell? ⟨w.heap.size, 2, none⟩ = some vd)
    (first | assumption | exact keep2 (by assumption) (by assumption) hg5 | exact ⟨(Below.refl _ _).drew, cd1, cd2⟩)
    (first
      | (go_at_call 117; refine (shift_any z5 (lim R) 1 _ dR (h5'.drew.low (Nat.zero_le _)) (by omega)).mono ?_; rintro e w6 ⟨v6, rfl, h6, hb6⟩; have hbb6 := hb6; have hk6 : Below w5.heap.size w5 w6 := Below.trans (Below.drew (Below.refl _ _)) hb6)
      | (go_at_call 90; refine (cmp_any v6 vd (lim (shiftN (val (lim R)) 1)) d _ (dig_lim _) dd (h6.low (Nat.zero_le _)) (hd.after hk6) (by rw [VR.out]; omega) (by omega)).mono ?_; rintro e w7 ⟨rfl, hb7⟩; have hbb7 := hb7; have hk7 : Below w5.heap.size w5 w7 := hk6.trans (hb7.mono hk6.size))
      | fail)
  have HCM : Hid (cmpN (val (lim (shiftN (val (lim R)) 1))) (val d) = cmpN (2 * R) (val d)) := by
    show _ = _
    rw [VR.out, HSH.out]
  rw [HCM.out]
  replace h5 := h5.after hk7
  replace hB := hB.trans (hk7.mono hB.size)
  have hw7 : w.heap.size ≤ w7.heap.size := hB.size
  clear h6 hb6 hbb6 hk6 hb7 hbb7 hk7 q0 hd cd1 cd2 hg5 h5' dR lR VR HSH dS lS GR HCM hrl
  by_cases c1 : val d < 2 * R
  · rw [cmpN_gt c1]
    have hU : U = Q + 1 := by rw [HU.out, if_pos (Or.inl c1)]
    have HUU := Lib.hid hU
    clear c1 HU hU
    go_wp2_with fail
    refine (of_any 1 w7 (by omega)).mono ?_
    rintro e w8 ⟨v8, rfl, h8, hb⟩
    replace h5 := (h5.low (Nat.zero_le _)).after hb
    replace h8 := h8.low (Nat.zero_le _)
    replace hB := hB.trans (hb.mono hB.size)
    clear hb
    go_wp2_with fail
    refine (add_any _ _ (lim Q) (lim 1) w8 (dig_lim _) (dig_lim _) h5 h8 (by omega) (lim_length_le (by omega))).mono ?_
    rw [val_lim, val_lim]
    rintro e w9 ⟨v9, rfl, h9, hb⟩
    replace h9 := h9.low hB.size
    replace hB := hB.trans (hb.mono hB.size)
    clear hb h5 h8
    go_wp2_with fail
    go_ret
    exact ⟨_, rfl, by rw [HUU.out]; exact h9, hB⟩
  · by_cases c2 : 2 * R = val d
    · rw [cmpN_eq c2]
      by_cases c3 : Q = 0
      · have hU : U = 0 := by rw [HU.out, if_neg (by omega), c3]
        have HUU := Lib.hid hU
        rw [c3, lim_zero] at h5
        have h50 := h5
        obtain ⟨A5, c5, rfl, m5⟩ := nt_len h50
        have L0 := Lib.hid lim_zero
        clear c1 c2 HU hU c3 h50
        go_wp2_with fail
        go_ret
        exact ⟨_, rfl, by rw [HUU.out, L0.out]; exact h5.low hsz, hB⟩
      · obtain ⟨y, r, hy, hym, hyl⟩ := lim_head c3
        have h50 := h5
        rw [hy] at h50
        obtain ⟨A5, c5, hv5, hc5, m5, _, hx5⟩ := h50
        obtain ⟨b5, o5, rfl, _, _, hcell⟩ := hx5 (by simp)
        have hce := hcell 0 (by simp)
        rw [Nat.add_zero, List.getElem_cons_zero] at hce
        have hln : (lim Q).length = r.length + 1 := by rw [hy]; rfl
        subst hv5
        have hle : (y :: r).length = r.length + 1 := rfl
        obtain ⟨L, hL⟩ : ∃ L, r.length + 1 = L := ⟨_, rfl⟩
        rw [hle, hL] at h5 hc5 ⊢
        have hLp : (0 : Int) < (L : Int) := by omega
        have hand : bits .and .u32 (y : Int) 1 = ((Q % 2 : Nat) : Int) := by
          rw [← hym, ← Nat.and_one_is_mod]
          exact u32_and_nat y 1 hyl (by omega)
        by_cases c4 : Q % 2 = 1
        · have hU : U = Q + 1 := by rw [HU.out, if_pos (Or.inr ⟨c2, c4⟩)]
          have HUU := Lib.hid hU
          rw [c4] at hand
          replace hand : bits .and .u32 (y : Int) 1 = 1 := hand
          clear c1 c2 HU hU c3 c4 hx5 hcell hy hym hyl hln hle hL
          go_wp2_with fail
          refine (of_any 1 w7 (by omega)).mono ?_
          rintro e w8 ⟨v8, rfl, h8, hb⟩
          replace h5 := (h5.low (Nat.zero_le _)).after hb
          replace h8 := h8.low (Nat.zero_le _)
          replace hB := hB.trans (hb.mono hB.size)
          clear hb
          go_wp2_with fail
          refine (add_any _ _ (lim Q) (lim 1) w8 (dig_lim _) (dig_lim _) h5 h8 (by omega) (lim_length_le (by omega))).mono ?_
          rw [val_lim, val_lim]
          rintro e w9 ⟨v9, rfl, h9, hb⟩
          replace h9 := h9.low hB.size
          replace hB := hB.trans (hb.mono hB.size)
          clear hb h5 h8
          go_wp2_with fail
          go_ret
          exact ⟨_, rfl, by rw [HUU.out]; exact h9, hB⟩
        · have hU : U = Q := by rw [HU.out, if_neg (by omega)]
          have HUU := Lib.hid hU
          have c5' : Q % 2 = 0 := by omega
          rw [c5'] at hand
          replace hand : bits .and .u32 (y : Int) 1 = 0 := hand
          clear c1 c2 HU hU c3 c4 hx5 hcell hy hym hyl hln hle hL c5'
          go_wp2_with fail
          go_ret
          exact ⟨_, rfl, by rw [HUU.out]; exact h5.low hsz, hB⟩
    · have c6 : 2 * R < val d := by omega
      rw [cmpN_lt c6]
      have hU : U = Q := by rw [HU.out, if_neg (by omega)]
      have HUU := Lib.hid hU
      clear c1 c2 HU hU c6
      go_wp2_with fail
      go_ret
      exact ⟨_, rfl, by rw [HUU.out]; exact h5.low hsz, hB⟩
end Go.Proofs.YtobmjcbjailclaaGreatDoor

/- The program's 'Round' of numbers with a divisor by its contract. Condition: bounds on lengths. -/
namespace Go.Proofs.YtobmjcbjailclaaGreatDoor
set_option maxRecDepth 100000
open Go.RowKit

theorem s3_of {w W : World} {g : Nat} {v0 v1 v2 : Value} (hb : Below w.heap.size w W) (c0 : w.cell? ⟨g, 0, none⟩ = some v0) (c1 : w.cell? ⟨g, 1, none⟩ = some v1) (c2 : w.cell? ⟨g, 2, none⟩ = some v2) (hg : g < w.heap.size) :
    W.cell? ⟨g, 0, none⟩ = some v0 ∧ W.cell? ⟨g, 1, none⟩ = some v1 ∧ W.cell? ⟨g, 2, none⟩ = some v2 :=
  ⟨(hb.cell (p := ⟨g, 0, none⟩) hg).trans c0, (hb.cell (p := ⟨g, 1, none⟩) hg).trans c1, (hb.cell (p := ⟨g, 2, none⟩) hg).trans c2⟩

theorem s3_set {W : World} {g b : Nat} {v0 v1 v2 u0 u1 u2 : Value} (hs : W.cell? ⟨g, 0, none⟩ = some v0 ∧ W.cell? ⟨g, 1, none⟩ = some v1 ∧ W.cell? ⟨g, 2, none⟩ = some v2) (hgb : b ≠ g) :
    (((W.setCell ⟨b, 0, none⟩ u0).setCell ⟨b, 1, none⟩ u1).setCell ⟨b, 2, none⟩ u2).cell? ⟨g, 0, none⟩ = some v0 ∧ (((W.setCell ⟨b, 0, none⟩ u0).setCell ⟨b, 1, none⟩ u1).setCell ⟨b, 2, none⟩ u2).cell? ⟨g, 1, none⟩ = some v1 ∧ (((W.setCell ⟨b, 0, none⟩ u0).setCell ⟨b, 1, none⟩ u1).setCell ⟨b, 2, none⟩ u2).cell? ⟨g, 2, none⟩ = some v2 := by
  have far : ∀ (W : World) (i j : Nat) (u : Value), (W.setCell ⟨b, i, none⟩ u).cell? ⟨g, j, none⟩ = W.cell? ⟨g, j, none⟩ := fun W i j u => World.cell?_setCell_far _ _ _ _ (by show b ≠ g; omega)
  simp only [far]
  exact hs

theorem nrD_len2 {d : List Nat} {n k : Nat} (hd : Dig d) (hl : d.length ≤ k) (hk : k ≠ 0) : (lim (nrD n (val d))).length ≤ k := by
  have h1 := Nat.lt_of_lt_of_le (val_lt hd) (Nat.pow_le_pow_right (by omega : 0 < 4294967296) hl)
  have h2 : 1 < 4294967296 ^ k := Nat.one_lt_pow hk (by omega)
  refine lim_length_le ?_
  have h3 : nrD n (val d) ≤ 4294967296 ^ k - 1 := nrD_le (Nat.le_sub_one_of_lt h1) (Nat.le_sub_one_of_lt h2)
  generalize 4294967296 ^ k = P at *
  omega

theorem rhe_le (x d : Nat) : rhe x d ≤ x + 1 := by
  have := Nat.div_le_self x d
  unfold rhe
  split <;> omega

set_option maxHeartbeats 3200000 in
theorem round_any (v : Value) (s : Bool) (n d : List Nat) (k : Int) (w : World) (dn : Dig n) (dd : Dig d) (h : Rt w 0 w.heap.size v s n d) (ln : n.length ≤ 900) (ld : d.length ≤ 900)
    (S : Bool) (N D K U : Nat) (hS : nrS s (val n) (val d) = S) (hN : nrN (val n) (val d) = N) (hD : nrD (val n) (val d) = D) (hK : hold60 k = (K : Int)) (hU : rhe (N * 10 ^ K) D = U) :
    Calls Tryz.prog 79 #[v, .int .i64 k] w (GivesT (nrS S U (10 ^ K)) (nrN U (10 ^ K)) (nrD U (10 ^ K)) w) := by
  obtain ⟨vn, vd, rfl, hn, hd⟩ := h
  have hr := hold60_range k
  have hK60 : K ≤ 60 := by omega
  have hD0 : D ≠ 0 := by have := nrD_pos (val n) (val d); omega
  have lN : (lim N).length ≤ 900 := by rw [← hN]; exact Nat.le_trans (lim_len_mono (nrN_le _ _)) (Nat.le_trans (lim_val_length n dn) ln)
  have lD : (lim D).length ≤ 901 := by rw [← hD]; exact nrD_len2 dd (by omega) (by omega)
  have dN := dig_lim N
  have dD := dig_lim D
  have VN := Lib.hid (val_lim N)
  have VD := Lib.hid (val_lim D)
  have dU := dig_lim U
  have dT := dig_lim (10 ^ K)
  have lT := ten_len60 hK60
  have lU : (lim U).length ≤ 1000 := by
    rw [← hU]
    refine Nat.le_trans (lim_len_mono (rhe_le _ _)) ?_
    have l1 : (lim (N * 10 ^ K)).length ≤ 961 := lim_mul_len (dig_lim N) dT (val_lim _).symm (val_lim _).symm lN lT
    exact Nat.le_trans (lim_add_len (dig_lim (N * 10 ^ K)) (dig_lim 1) (val_lim _).symm (val_lim _).symm l1 (lim_length_le (by omega) : (lim 1).length ≤ 961)) (by omega)
  have VU := Lib.hid (val_lim U)
  have VT := Lib.hid (val_lim (10 ^ K))
  have HU := Lib.hid hU
  have hnorm := fun w (hR : Rt w 0 w.heap.size (.agg #[.bool s, vn, vd]) s n d) => prNorm_any (.agg #[.bool s, vn, vd]) s n d w dn dd hR (by omega) (by omega)
  rw [hS, hN, hD] at hnorm
  have HNORM := Lib.hid hnorm
  have hheld := fun w => dheld_any k w
  rw [hK] at hheld
  have HHELD := Lib.hid hheld
  clear hnorm hheld hS hN hD hK hr hU
  obtain ⟨FS, hFS⟩ : ∃ z, nrS S U (10 ^ K) = z := ⟨_, rfl⟩
  obtain ⟨FN, hFN⟩ : ∃ z, nrN U (10 ^ K) = z := ⟨_, rfl⟩
  obtain ⟨FD, hFD⟩ : ∃ z, nrD U (10 ^ K) = z := ⟨_, rfl⟩
  rw [hFS, hFN, hFD]
  have HFS := Lib.hid hFS
  have HFN := Lib.hid hFN
  have HFD := Lib.hid hFD
  clear hFS hFN hFD
  go_enter Tryz.func79, Tryz.ntmps79
  go_wp2_with fail
  have b0 := (Blk.new w 25 #[.bool s, vn, vd]).alloc (.cells #[.bool false, .slice none 0 0, .slice none 0 0] 25)
  have b1 := Blk.new (w.alloc (.cells #[.bool s, vn, vd] 25)) 25 #[.bool false, .slice none 0 0, .slice none 0 0]
  have hB : Below w.heap.size w ((w.alloc (.cells #[.bool s, vn, vd] 25)).alloc (.cells #[.bool false, .slice none 0 0, .slice none 0 0] 25)) := ((Below.refl _ _).alloc (Nat.le_refl _) _).alloc (by simp) _
  have es : (w.alloc (.cells #[.bool s, vn, vd] 25)).heap.size = w.heap.size + 1 := by simp
  rw [es] at b1
  clear es
  generalize (w.alloc (.cells #[.bool s, vn, vd] 25)).alloc (.cells #[.bool false, .slice none 0 0, .slice none 0 0] 25) = w2 at *
  replace hn := (hn.below hB (Nat.le_refl _)).up hB.size
  replace hd := (hd.below hB (Nat.le_refl _)).up hB.size
  have c0 := b0.cell 0
  have c1 := b0.cell 1
  have c2 := b0.cell 2
  go_wp2_with fail
  refine (HNORM.out _ ⟨vn, vd, rfl, hn, hd⟩).mono ?_
  rintro e w3 ⟨v3, rfl, ⟨an, ad, rfl, h1, h2⟩, hb⟩
  have q0 := b0.below hb b0.lt
  have q1 := b1.below hb b1.lt
  replace h1 := h1.low (show w.heap.size + 1 + 1 ≤ _ from b1.lt)
  replace h2 := h2.low (show w.heap.size + 1 + 1 ≤ _ from b1.lt)
  replace hB := hB.trans (hb.mono hB.size)
  have hl1 := h1
  have hl2 := h2
  obtain ⟨A6, c6, rfl, m6⟩ := nt_len hl1
  obtain ⟨A7, c7, rfl, m7⟩ := nt_len hl2
  have r0 := q0.cell 0
  have r1 := q0.cell 1
  have r2 := q0.cell 2
  have f0 := q0.free 0
  have f1 := q0.free 1
  have f2 := q0.free 2
  clear hl1 hl2 hb b0 b1 c0 c1 c2 hn hd HNORM
  go_wp2_with fail
  refine (HHELD.out _).mono ?_
  rintro e w4 ⟨rfl, rfl⟩
  clear HHELD
  have p3 := ((q0.put 0 (.bool S)).put 1 (.slice A6 (lim N).length c6)).put 2 (.slice A7 (lim D).length c7)
  have p1 := ((q1.far (p := ⟨w.heap.size, 0, none⟩) (by simp) (.bool S)).far (p := ⟨w.heap.size, 1, none⟩) (by simp) (.slice A6 (lim N).length c6)).far (p := ⟨w.heap.size, 2, none⟩) (by simp) (.slice A7 (lim D).length c7)
  have hBB := ((hB.setCell (p := ⟨w.heap.size, 0, none⟩) (Nat.le_refl _) (.bool S)).setCell (p := ⟨w.heap.size, 1, none⟩) (Nat.le_refl _) (.slice A6 (lim N).length c6)).setCell (p := ⟨w.heap.size, 2, none⟩) (Nat.le_refl _) (.slice A7 (lim D).length c7)
  have t1 := ((h1.put3 (g := w.heap.size) (by omega) 0 (.bool S)).put3 (g := w.heap.size) (by omega) 1 (.slice A6 (lim N).length c6)).put3 (g := w.heap.size) (by omega) 2 (.slice A7 (lim D).length c7)
  have t2 := ((h2.put3 (g := w.heap.size) (by omega) 0 (.bool S)).put3 (g := w.heap.size) (by omega) 1 (.slice A6 (lim N).length c6)).put3 (g := w.heap.size) (by omega) 2 (.slice A7 (lim D).length c7)
  have P3 := Lib.hid p3
  have P1 := Lib.hid p1
  have HBB := Lib.hid hBB
  have T1 := Lib.hid t1
  have T2 := Lib.hid t2
  clear p3 p1 hBB t1 t2 h1 h2 hB q0 q1
  go_wp2_with fail
  clear r0 r1 r2 f0 f1 f2
  replace P3 := P3.out
  replace P1 := P1.out
  replace HBB := HBB.out
  replace T1 := T1.out
  replace T2 := T2.out
  generalize ((World.setCell w3 ⟨w.heap.size, 0, none⟩ (.bool S)).setCell ⟨w.heap.size, 1, none⟩ (.slice A6 (lim N).length c6)).setCell ⟨w.heap.size, 2, none⟩ (.slice A7 (lim D).length c7) = w5 at *
  have c0 : w5.cell? ⟨w.heap.size, 0, none⟩ = some (.bool S) := by rw [P3.cell]; rfl
  have c1 : w5.cell? ⟨w.heap.size, 1, none⟩ = some (.slice A6 (lim N).length c6) := by rw [P3.cell]; rfl
  have c2 : w5.cell? ⟨w.heap.size, 2, none⟩ = some (.slice A7 (lim D).length c7) := by rw [P3.cell]; rfl
  have hg := P3.lt
  have hk5 : Below w5.heap.size w5 w5.drew := (Below.refl _ _).drew
  have hun := fun w (hR : Rt w 0 w.heap.size (.agg #[.bool S, .slice A6 (lim N).length c6, .slice A7 (lim D).length c7]) S (lim N) (lim D)) => units_any (.agg #[.bool S, .slice A6 (lim N).length c6, .slice A7 (lim D).length c7]) S (lim N) (lim D) K w dN dD hR (by omega) (by omega) hK60 (by rw [VD.out]; exact hD0)
  rw [VN.out, VD.out, HU.out] at hun
  have HUN := Lib.hid hun
  have HTEN : Hid (∀ w, Calls Tryz.prog 29 #[.int .i64 (K : Int)] w (Gives (lim (10 ^ K)) w)) := fun w => ten_any K w hK60
  have hz : w.heap.size + 1 + 1 ≤ w5.heap.size := P1.lt
  clear hun P3
  go_region_held3 (fun W => W.cell? ⟨w.heap.size, 0, none⟩ = some (.bool S) ∧ W.cell? ⟨w.heap.size, 1, none⟩ = some (.slice A6 (lim N).length c6) ∧ W.cell? ⟨w.heap.size, 2, none⟩ = some (.slice A7 (lim D).length c7))
    (first | exact s3_set (s3_of hk8 c0 c1 c2 hg) (Nat.succ_ne_self _) | exact s3_of hk8 c0 c1 c2 hg | exact s3_of hk7 c0 c1 c2 hg | exact s3_of hk6 c0 c1 c2 hg | exact s3_of hk5 c0 c1 c2 hg | fail)
    (first
      | (go_at_call 28; refine (prOf_any S v6 v7 (lim U) (lim (10 ^ K)) _ dU dT (h6.after hb7) (h7.low (Nat.zero_le _)) lU (by omega)).mono ?_; rw [VU.out, VT.out, HFS.out, HFN.out, HFD.out]; rintro e w8 ⟨v8, rfl, ⟨an, ad, rfl, han, had⟩, hb8⟩; have han' := han; have had' := had; obtain ⟨A8, c8, rfl, m8⟩ := nt_len han'; obtain ⟨A9, c9, rfl, m9⟩ := nt_len had'; clear han' had'; have hk8 : Below w5.heap.size w5 w8 := hk7.trans (hb8.mono hk7.size); have q8 := P1.below hk8 P1.lt; have r0 := q8.cell 0; have r1 := q8.cell 1; have r2 := q8.cell 2; have f0 := q8.free 0; have f1 := q8.free 1; have f2 := q8.free 2)
      | (go_at_call 82; refine (HUN.out _ ⟨_, _, rfl, (T1.low (Nat.zero_le _)).drew, (T2.low (Nat.zero_le _)).drew⟩).mono ?_; rintro e w6 ⟨v6, rfl, h6, hb6⟩; replace h6 := h6.low (Nat.zero_le _); have hk6 : Below w5.heap.size w5 w6 := Below.trans hk5 hb6)
      | (have hx := hk6; go_at_call 29; refine (HTEN.out _).mono ?_; rintro e w7 ⟨v7, rfl, h7, hb7⟩; have hbb7 := hb7; have hk7 : Below w5.heap.size w5 w7 := hk6.trans (hb7.mono hk6.size))
      | fail)
  obtain ⟨e0, e1, e2, hR, hBf⟩ := store3 q8 (HBB.trans (hk8.mono HBB.size)) (Nat.le_succ _) FS (.slice A8 (lim FN).length c8) (.slice A9 (lim FD).length c9) (han.low (Nat.le_trans hz hk7.size)) (had.low (Nat.le_trans hz hk7.size))
  have HR := Lib.hid hR
  have HBF := Lib.hid hBf
  clear r0 r1 r2 f0 f1 f2 q8 han had hR hBf h6 h7 hb7 hb8
  unfold St3 at *
  go_wp2_with fail
  generalize ((World.setCell w8 ⟨w.heap.size + 1, 0, none⟩ (.bool FS)).setCell ⟨w.heap.size + 1, 1, none⟩ (.slice A8 (lim FN).length c8)).setCell ⟨w.heap.size + 1, 2, none⟩ (.slice A9 (lim FD).length c9) = W at *
  refine bodyPost_ret (v := .agg #[.bool FS, .slice A8 (lim FN).length c8, .slice A9 (lim FD).length c9]) ?_ rfl ⟨_, rfl, HR.out, HBF.out⟩
  simp [results, Tryz.results79, go_sem, e0, e1, e2]
end Go.Proofs.YtobmjcbjailclaaGreatDoor

/- Rows of bytes of a call's own. Condition: a bound on lengths. -/
namespace Go.Proofs.YtobmjcbjailclaaGreatDoor
set_option maxRecDepth 100000
open Go.RowKit

theorem Tryz.info8 : (Tryz.prog.info? 5).map (fun i => (i.zero, i.size, i.bytes)) = some (some (.int .u8 0), 1, 1) := by kernel_rfl

/-- Numbers as bytes. -/
def bv (l : List Nat) : List Value := l.map fun n : Nat => Value.int .u8 (n : Int)
theorem bv_snoc (cs : List Nat) (d : Nat) : bv (cs ++ [d]) = bv cs ++ [.int .u8 (d : Int)] := by unfold bv; rw [List.map_append]; rfl

/-- The call's own row v holds these bytes. -/
def OwnB (w : World) (base : Nat) (e : TypeId) (v : Value) (cs : List Nat) : Prop := w.ownsRow base e 1 v cs.length (bv cs)
theorem OwnB.nil (w : World) (base : Nat) (e : TypeId) : OwnB w base e (.slice none 0 0) [] := World.ownsRow_nil _ _ _ _

theorem OwnB.after {w w' : World} {base : Nat} {e : TypeId} {v : Value} {cs : List Nat} (h : OwnB w base e v cs) (hb : Below w.heap.size w w') : OwnB w' base e v cs := by
  obtain ⟨hl, h | ⟨g, cap, cur, hv, hg, hc, rest⟩⟩ := h
  · exact ⟨hl, Or.inl h⟩
  · exact ⟨hl, Or.inr ⟨g, cap, cur, hv, hg, (hb.block g (Array.getElem?_eq_some_iff.1 hc).1).trans hc, rest⟩⟩

theorem OwnB.own_lt {w : World} {base : Nat} {e : TypeId} {v : Value} {cs : List Nat} (h : OwnB w base e v cs) {g : Nat} (hg : v.ownBlock = some g) : g < w.heap.size := (World.ownsRow.lt h g hg).2

/-- One byte more onto a row of the call's own. -/
theorem wpList_append_byte {P : Program} {w : World} {ops : Array Oper} {rest : List Oper} {o : Oper} {a : Act} {Q : Exit → Act → World → Prop} (hgd : o.guard = none) (s x : Operand) (t : TypeId)
    (ho : o.op = .call { callee := .builtin .append, args := #[s, x], argTypes := #[t, t] })
    (base : Nat) (e : TypeId) (i : TypeInfo) (ht : P.underlying t = some (.slice e)) (hi : P.info? e = some i) (hz : i.zero = some (.int .u8 0)) (hsize : i.size = 1) (hby : i.bytes = 1)
    (v : Value) (cs : List Nat) (hs : a.eval s = v) (hown : OwnB w base e v cs) (y : Value) (d : Nat) (hy : y = .int .u8 (d : Int)) (hx : a.eval x = .slice (some ⟨w.heap.size, 0, none⟩) 1 1)
    (hlen : cs.length ≤ 1000000) (hbase : base ≤ w.heap.size)
    (h : ∀ v' w', OwnB w' base e v' (cs ++ [d]) → Below base w w' → wpList P ops Q rest (a.put o.dst v') w') : wpList P ops Q (o :: rest) a (w.alloc (.cells #[y] e)) := by
  refine wpList_append_own _ hgd s x t ho base e i (.int .u8 0) 1 1 ht hi hz hsize hby rfl (by decide) v cs.length (bv cs) hs (World.ownsRow.alloc hown _) ⟨w.heap.size, 0, none⟩ 1 1 [y] hx rfl (cell_one_new _ _ _) ?_ ?_ ?_ ?_ ?_
  · intro u hu
    rw [List.mem_singleton] at hu
    subst hu
    rw [hy]; rfl
  · unfold maxLen; omega
  · omega
  · simp; omega
  · intro v' w' h1 h2 _
    refine h v' w' ?_ ?_
    · show w'.ownsRow base e 1 v' (cs ++ [d]).length (bv (cs ++ [d]))
      rw [bv_snoc, List.length_append, ← hy]; exact h1
    · exact ((Below.refl base w).alloc hbase _).grown h2 (by simp; omega) (fun j hj => (World.ownsRow.lt hown j hj).1)

/-- The same, and all other blocks are as they were. -/
theorem wpList_append_byte2 {P : Program} {w : World} {ops : Array Oper} {rest : List Oper} {o : Oper} {a : Act} {Q : Exit → Act → World → Prop} (hgd : o.guard = none) (s x : Operand) (t : TypeId)
    (ho : o.op = .call { callee := .builtin .append, args := #[s, x], argTypes := #[t, t] })
    (base : Nat) (e : TypeId) (i : TypeInfo) (ht : P.underlying t = some (.slice e)) (hi : P.info? e = some i) (hz : i.zero = some (.int .u8 0)) (hsize : i.size = 1) (hby : i.bytes = 1)
    (v : Value) (cs : List Nat) (hs : a.eval s = v) (hown : OwnB w base e v cs) (y : Value) (d : Nat) (hy : y = .int .u8 (d : Int)) (hx : a.eval x = .slice (some ⟨w.heap.size, 0, none⟩) 1 1)
    (hlen : cs.length ≤ 1000000) (hbase : base ≤ w.heap.size)
    (h : ∀ v' w', OwnB w' base e v' (cs ++ [d]) → Below base w w' → (∀ k, v.ownBlock ≠ some k → k < w.heap.size → w'.heap[k]? = w.heap[k]?) → wpList P ops Q rest (a.put o.dst v') w') : wpList P ops Q (o :: rest) a (w.alloc (.cells #[y] e)) := by
  refine wpList_append_own _ hgd s x t ho base e i (.int .u8 0) 1 1 ht hi hz hsize hby rfl (by decide) v cs.length (bv cs) hs (World.ownsRow.alloc hown _) ⟨w.heap.size, 0, none⟩ 1 1 [y] hx rfl (cell_one_new _ _ _) ?_ ?_ ?_ ?_ ?_
  · intro u hu
    rw [List.mem_singleton] at hu
    subst hu
    rw [hy]; rfl
  · unfold maxLen; omega
  · omega
  · simp; omega
  · intro v' w' h1 h2 _
    refine h v' w' ?_ ?_ (fun k hk hl => (h2.block k (by simp; omega) (fun e => hk e.symm)).trans (Below.heap_alloc _ _ _ hl))
    · show w'.ownsRow base e 1 v' (cs ++ [d]).length (bv (cs ++ [d]))
      rw [bv_snoc, List.length_append, ← hy]; exact h1
    · exact ((Below.refl base w).alloc hbase _).grown h2 (by simp; omega) (fun j hj => (World.ownsRow.lt hown j hj).1)

/-- The same, and where the row lies then: where it lay, or in a new block. -/
theorem wpList_append_byte3 {P : Program} {w : World} {ops : Array Oper} {rest : List Oper} {o : Oper} {a : Act} {Q : Exit → Act → World → Prop} (hgd : o.guard = none) (s x : Operand) (t : TypeId)
    (ho : o.op = .call { callee := .builtin .append, args := #[s, x], argTypes := #[t, t] })
    (base : Nat) (e : TypeId) (i : TypeInfo) (ht : P.underlying t = some (.slice e)) (hi : P.info? e = some i) (hz : i.zero = some (.int .u8 0)) (hsize : i.size = 1) (hby : i.bytes = 1)
    (v : Value) (cs : List Nat) (hs : a.eval s = v) (hown : OwnB w base e v cs) (y : Value) (d : Nat) (hy : y = .int .u8 (d : Int)) (hx : a.eval x = .slice (some ⟨w.heap.size, 0, none⟩) 1 1)
    (hlen : cs.length ≤ 1000000) (hbase : base ≤ w.heap.size)
    (h : ∀ g cap w', OwnB w' base e (.slice (some ⟨g, 0, none⟩) (cs.length + 1) cap) (cs ++ [d]) → Below base w w' → (∀ k, v.ownBlock ≠ some k → k < w.heap.size → w'.heap[k]? = w.heap[k]?) → (v.ownBlock = some g ∨ w.heap.size ≤ g) → g < w'.heap.size →
      wpList P ops Q rest (a.put o.dst (.slice (some ⟨g, 0, none⟩) (cs.length + 1) cap)) w') : wpList P ops Q (o :: rest) a (w.alloc (.cells #[y] e)) := by
  refine wpList_append_lies _ hgd s x t ho base e i (.int .u8 0) 1 1 ht hi hz hsize hby rfl (by decide) v cs.length (bv cs) hs (World.ownsRow.alloc hown _) ⟨w.heap.size, 0, none⟩ 1 1 [y] hx rfl (cell_one_new _ _ _) ?_ (by decide) ?_ ?_ ?_ _ rfl ?_
  · intro u hu
    rw [List.mem_singleton] at hu
    subst hu
    rw [hy]; rfl
  · unfold maxLen; omega
  · omega
  · simp; omega
  · intro g cap w' h1 h2 h3 h4
    refine h g cap w' ?_ ?_ (fun k hk hl => (h2.block k (by simp; omega) (fun e => hk e.symm)).trans (Below.heap_alloc _ _ _ hl)) ?_ h4
    · show w'.ownsRow base e 1 _ (cs ++ [d]).length (bv (cs ++ [d]))
      rw [bv_snoc, List.length_append, ← hy]; exact h1
    · exact ((Below.refl base w).alloc hbase _).grown h2 (by simp; omega) (fun j hj => (World.ownsRow.lt hown j hj).1)
    · rcases h3 with h3 | h3
      · exact Or.inl h3
      · right; rw [h3]; simp
end Go.Proofs.YtobmjcbjailclaaGreatDoor

/- The program's 'tens', 'held', 'Bits' of package show by their contracts. No condition but small sizes. -/
namespace Go.Proofs.YtobmjcbjailclaaGreatDoor
set_option maxRecDepth 100000
open Go.RowKit

/-- A number held between 0 and 30. -/
def hold30 (d : Int) : Int := min (max d 0) 30
theorem hold30_range (d : Int) : 0 ≤ hold30 d ∧ hold30 d ≤ 30 := by unfold hold30; omega

theorem held_any (d : Int) (w : World) : Calls Tryz.prog 38 #[.int .i64 d] w fun e w' => e = .returned (.int .i64 (hold30 d)) ∧ w = w' := by
  by_cases h1 : d < 0
  · have e : hold30 d = 0 := by unfold hold30; omega
    rw [e]
    have h2 : ¬ 0 ≤ d := by omega
    have h3 : d ≤ 0 := by omega
    go_enter Tryz.func38, Tryz.ntmps38
    go_wp2
    go_ret
    exact ⟨rfl, rfl⟩
  · have h2 : 0 ≤ d := by omega
    by_cases h3 : d ≤ 30
    · have e : hold30 d = d := by unfold hold30; omega
      rw [e]
      have h4 : ¬ 30 < d := by omega
      go_enter Tryz.func38, Tryz.ntmps38
      go_wp2
      go_ret
      exact ⟨rfl, rfl⟩
    · have e : hold30 d = 30 := by unfold hold30; omega
      rw [e]
      have h4 : 30 < d := by omega
      go_enter Tryz.func38, Tryz.ntmps38
      go_wp2
      go_ret
      exact ⟨rfl, rfl⟩

theorem hold_any (d : Int) (w : World) : Calls Tryz.prog 46 #[.int .i64 d] w fun e w' => e = .returned (.int .i64 (hold30 d)) ∧ w = w' := by
  by_cases h1 : d < 0
  · have e : hold30 d = 0 := by unfold hold30; omega
    rw [e]
    have h2 : ¬ 0 ≤ d := by omega
    have h3 : d ≤ 0 := by omega
    go_enter Tryz.func46, Tryz.ntmps46
    go_wp2
    go_ret
    exact ⟨rfl, rfl⟩
  · have h2 : 0 ≤ d := by omega
    by_cases h3 : d ≤ 30
    · have e : hold30 d = d := by unfold hold30; omega
      rw [e]
      have h4 : ¬ 30 < d := by omega
      go_enter Tryz.func46, Tryz.ntmps46
      go_wp2
      go_ret
      exact ⟨rfl, rfl⟩
    · have e : hold30 d = 30 := by unfold hold30; omega
      rw [e]
      have h4 : 30 < d := by omega
      go_enter Tryz.func46, Tryz.ntmps46
      go_wp2
      go_ret
      exact ⟨rfl, rfl⟩

theorem ten_len {k : Nat} (h : k ≤ 30) : (lim (10 ^ k)).length ≤ 30 := by
  refine lim_length_le (Nat.lt_of_le_of_lt (Nat.pow_le_pow_right (by omega) h) ?_)
  exact Nat.pow_lt_pow_left (by omega) (by omega)

set_option maxHeartbeats 3200000 in
theorem tens_any (d : Nat) (w : World) (hd : d ≤ 30) : Calls Tryz.prog 53 #[.int .i64 (d : Int)] w (Gives (lim (10 ^ d)) w) := by
  go_enter Tryz.func53, Tryz.ntmps53
  go_wp2_with fail
  refine (of_any 1 _ (by omega)).mono ?_
  rintro e w1 ⟨v1, rfl, h1, hb1⟩
  go_wp2_with fail
  have l0 : lim 1 = lim (10 ^ 0) := rfl
  rw [l0] at h1
  clear l0
  go_loopw [3, 6] (fun a i wr => ∃ k : Nat, k ≤ d ∧ i = .int .i64 (k : Nat) ∧ Nt wr w.heap.size wr.heap.size a (lim (10 ^ k)) ∧ Below w.heap.size w wr)
    (fun _ i _ => d - (intOf i).toNat)
  case atStart => exact ⟨0, Nat.zero_le _, rfl, h1, hb1⟩
  case round =>
    obtain ⟨k, hk, rfl, ha, hb⟩ := hrel
    clear h1 hb1
    by_cases hlt : k < d
    · have hlI : (k : Int) < (d : Int) := by omega
      have hl := ten_len (Nat.le_of_lt (Nat.lt_of_lt_of_le hlt hd))
      have dk := dig_lim (10 ^ k)
      have dt := dig_lim 10
      have lt : (lim 10).length ≤ 1 := lim_length_le (by omega)
      have V := Lib.hid (val_lim (10 ^ k))
      have V2 := Lib.hid (val_lim 10)
      have P : Hid (10 ^ k * 10 = 10 ^ (k + 1)) := (Nat.pow_succ ..).symm
      go_wp2_with fail
      refine (of_any 10 _ (by omega)).mono ?_
      rintro e w2 ⟨v2, rfl, h2, hb2⟩
      have ha2 := (ha.low (Nat.zero_le _)).after hb2
      have h2' := h2.low (Nat.zero_le _)
      have hb02 := hb.trans (hb2.mono hb.size)
      clear ha h2 hb hb2
      go_wp2_with fail
      refine (mul_any _ _ (lim (10 ^ k)) (lim 10) _ dk dt ha2 h2' (by omega) (by omega)).mono ?_
      rw [V.out, V2.out, P.out]
      rintro e w4 ⟨v4, rfl, h4, hb4⟩
      have h4' := h4.low hb02.size
      have hb04 := hb02.trans (hb4.mono hb02.size)
      clear h4 hb4 ha2 h2' hb02
      go_wp2_with fail
      go_roundw
      case rel => exact ⟨k + 1, by omega, by go_num, h4', hb04⟩
      case measure => simp [intOf]; omega
    · obtain rfl : k = d := by omega
      go_wp2_with fail
      go_ret
      exact ⟨_, rfl, ha, hb⟩

theorem bits_ten {h : Nat} : bl (val (lim (10 ^ h - 1))) = bl (10 ^ h - 1) := by rw [val_lim]

set_option maxHeartbeats 3200000 in
theorem showBits_any (d : Int) (w : World) : Calls Tryz.prog 14 #[.int .i64 d] w fun e w' => e = .returned (.int .i64 ((bl (10 ^ (hold30 d).toNat - 1) : Nat) : Int)) ∧ Below w.heap.size w w' := by
  obtain ⟨h, hh⟩ : ∃ h : Nat, (hold30 d).toNat = h := ⟨_, rfl⟩
  have hr := hold30_range d
  have hI : hold30 d = (h : Int) := by omega
  have h30 : h ≤ 30 := by omega
  rw [hh]
  have HI := Lib.hid hI
  have l := ten_len h30
  have dk := dig_lim (10 ^ h)
  have dt := dig_lim 1
  have lt : (lim 1).length ≤ 1 := lim_length_le (by omega)
  have V : Hid (val (lim (10 ^ h)) - val (lim 1) = 10 ^ h - 1) := by show _ = _; rw [val_lim, val_lim]
  have V2 := Lib.hid (bits_ten (h := h))
  have d1 := dig_lim (10 ^ h - 1)
  have l1 : (lim (10 ^ h - 1)).length ≤ 30 := Nat.le_trans (by
    refine lim_length_le ?_
    have := val_lt dk
    rw [val_lim] at this
    have := pow_pos' (lim (10 ^ h)).length
    omega) l
  clear hh hr hI
  go_enter Tryz.func14, Tryz.ntmps14
  go_wp2_with fail
  refine (held_any d w).mono ?_
  rintro e w1 ⟨rfl, rfl⟩
  rw [HI.out]
  go_wp2_with fail
  refine (tens_any h _ h30).mono ?_
  rintro e w2 ⟨v2, rfl, h2, hb2⟩
  have h2' := h2.low (Nat.zero_le _)
  clear h2
  go_wp2_with fail
  refine (of_any 1 _ (by omega)).mono ?_
  rintro e w3 ⟨v3, rfl, h3, hb3⟩
  have h2'' := h2'.after hb3
  have h3' := h3.low (Nat.zero_le _)
  have hB3 := hb2.trans (hb3.mono hb2.size)
  clear h2' h3 hb3
  go_wp2_with fail
  refine (sub_any _ _ (lim (10 ^ h)) (lim 1) _ dk dt h2'' h3' (by omega) (by omega)).mono ?_
  rw [V.out]
  rintro e w4 ⟨v4, rfl, h4, hb4⟩
  have h4' := h4.low (Nat.zero_le _)
  have hB4 := hB3.trans (hb4.mono hB3.size)
  clear h2'' h3' h4 hb4
  go_wp2_with fail
  refine (bits_any _ (lim (10 ^ h - 1)) _ d1 h4' (by omega)).mono ?_
  rw [V2.out]
  rintro e w5 ⟨rfl, rfl⟩
  go_wp2
  go_ret
  exact ⟨rfl, hB4⟩

theorem known20_any (w : World) : Calls Tryz.prog 18 #[] w fun e w' => e = .returned (.bool true) ∧ Below w.heap.size w w' := by
  have hk : (bl (10 ^ (hold30 1).toNat - 1)) = 4 := by
    have e : (hold30 1).toNat = 1 := by decide
    rw [e, show 10 ^ 1 - 1 = 9 by rfl, bl_pos (by omega), bl_pos (by omega), bl_pos (by omega), bl_pos (by omega), bl_zero]
  have HK := Lib.hid hk
  clear hk
  go_enter Tryz.func18, Tryz.ntmps18
  go_wp2_with fail
  refine (showBits_any 1 w).mono ?_
  rintro e w1 ⟨rfl, hb⟩
  rw [HK.out]
  go_wp2
  go_ret
  exact ⟨rfl, hb⟩
end Go.Proofs.YtobmjcbjailclaaGreatDoor
