/- Several texts in one: NearE, RefIs, RefShowDec, NearF. Condition: each says its own. -/
import Derived.Test.YtobmjcbjailclaaGreatDoorPk13
import Derived.Test.YtobmjcbjailclaaGreatDoorPk14
import Derived.Test.YtobmjcbjailclaaGreatDoorPk16
import Derived.Test.YtobmjcbjailclaaGreatDoorPk19
import Derived.Test.YtobmjcbjailclaaGreatDoorPk20
/- The program's 'Near' by its contract. Condition: bounds on lengths. -/
namespace Go.Proofs.YtobmjcbjailclaaGreatDoor
set_option maxRecDepth 100000
open Go.RowKit Go.Shelf

/-- Is a text of so many digits near a number? -/
def nearB (l : List Nat) (x : Rat) (D : Nat) : Bool := match wayB (strp l).1 (strp l).2 with
  | some (neg, n, d) => digA l D && decide (absQ (qv neg n d - x) ≤ tenth D)
  | none => false

theorem numD_lt {b : List Nat} (h : ∀ x ∈ b, isD x = true) : numD b < 10 ^ b.length := by
  unfold numD
  have h1 : undec (b.map (· - 48)) < 10 ^ (b.map (· - 48)).length := undec_lt fun x hx => by
    obtain ⟨y, hy, rfl⟩ := List.mem_map.1 hx
    have := h y hy
    unfold isD at this
    have := of_decide_eq_true this
    omega
  rw [List.length_map] at h1
  exact h1

theorem len_hundred {n m : Nat} (h : n < 10 ^ m) (hm : m ≤ 101) : (lim n).length ≤ 34 := by
  refine lim_length_le (Nat.lt_of_lt_of_le h (Nat.le_trans (Nat.pow_le_pow_right (by omega) (by omega : m ≤ 3 * 34)) ?_))
  rw [Nat.pow_mul]
  exact Nat.pow_le_pow_left (by omega) _

theorem wayB_small {neg s : Bool} {r : List Nat} {n d : Nat} (h : wayB neg r = some (s, n, d)) (hr : r.length ≤ 100) : s = neg ∧ (lim n).length ≤ 34 ∧ (lim d).length ≤ 34 := by
  have hw : ∀ x ∈ r.takeWhile isD, isD x = true := fun x hx => mem_tw r hx
  have hsp := congrArg List.length (List.takeWhile_append_dropWhile (p := isD) (l := r))
  rw [List.length_append] at hsp
  unfold wayB at h
  split at h
  · cases h
  · split at h
    · rename_i hd
      simp only [Option.some.injEq, Prod.mk.injEq] at h
      obtain ⟨rfl, rfl, rfl⟩ := h
      exact ⟨rfl, len_hundred (numD_lt hw) (by omega), by rw [lim_one (by omega) (by omega)]; simp⟩
    · rename_i c t hd
      rw [hd, List.length_cons] at hsp
      split at h
      · cases h
      · rename_i hc
        have ht : ∀ x ∈ t, isD x = true := fun x hx => List.all_eq_true.1 ((tw_all t).1 (by omega)) x hx
        split at h
        · split at h
          · cases h
          · simp only [Option.some.injEq, Prod.mk.injEq] at h
            obtain ⟨rfl, rfl, rfl⟩ := h
            exact ⟨rfl, len_hundred (numD_lt hw) (by omega), len_hundred (numD_lt ht) (by omega)⟩
        · simp only [Option.some.injEq, Prod.mk.injEq] at h
          obtain ⟨rfl, rfl, rfl⟩ := h
          refine ⟨rfl, ?_, len_hundred (m := t.length + 1) (Nat.pow_lt_pow_right (by omega) (by omega)) (by omega)⟩
          rw [← numD_append]
          refine len_hundred (m := (r.takeWhile isD ++ t).length) (numD_lt fun x hx => ?_) (by rw [List.length_append]; omega)
          rcases List.mem_append.1 hx with h | h
          · exact hw x h
          · exact ht x h

theorem near_none {l : List Nat} {x : Rat} {D : Nat} (h : wayB (strp l).1 (strp l).2 = none) : nearB l x D = false := by unfold nearB; rw [h]
theorem near_some {l : List Nat} {x : Rat} {D : Nat} {neg : Bool} {n d : Nat} (h : wayB (strp l).1 (strp l).2 = some (neg, n, d)) : nearB l x D = (digA l D && decide (absQ (qv neg n d - x) ≤ tenth D)) := by unfold nearB; rw [h]

theorem cmp_le {a b : Rat} : decide (cmpQ a b ≤ 0) = decide (a ≤ b) := by
  refine decide_eq_decide.2 ⟨fun h => ?_, fun h => ?_⟩
  · rcases (Rat.le_total : a ≤ b ∨ b ≤ a) with h1 | h1
    · exact h1
    · by_cases e : a = b
      · rw [e]; exact Rat.le_refl
      · exfalso
        have h2 : b < a := Rat.lt_of_le_of_ne h1 (Ne.symm e)
        rw [cmpQ_gt h2] at h
        omega
  · by_cases e : a = b
    · rw [cmpQ_eq e]; omega
    · rw [cmpQ_lt (Rat.lt_of_le_of_ne h e)]; omega

set_option maxHeartbeats 3200000 in
theorem showNear_any (l : List Nat) (hl : Byt l) (h1 : l.length ≤ 100) (s : Bool) (A1 A2 : Option Addr) (n1 n2 k1 k2 : Nat) (q : Rat) (k : Nat) (d : Int) (D : Nat) (hD : hold30 d = (D : Int)) (w : World) (hq : RQ w 0 w.heap.size (.agg #[.bool s, .slice A1 n1 k1, .slice A2 n2 k2]) q k) (hk : k ≤ 60) (hk1 : 1 ≤ k) :
    Calls Tryz.prog 16 #[.string (strN l), .agg #[.bool s, .slice A1 n1 k1, .slice A2 n2 k2], .int .i64 d] w fun e w' => e = .returned (.bool (nearB l q D)) ∧ Below w.heap.size w w' := by
  have hr := hold30_range d
  have hD30 : D ≤ 30 := by omega
  have HH : Hid (∀ W, Calls Tryz.prog 38 #[.int .i64 d] W fun e w' => e = .returned (.int .i64 (D : Int)) ∧ W = w') := fun W => by
    have := held_any d W
    rw [hD] at this
    exact this
  have HCUT : Hid (∀ W, Calls Tryz.prog 26 #[.string (strN l), .string ⟨#[46]⟩] W fun e w' => e = .returned (.tuple #[.string (strN (l.takeWhile (· != 46))), .string (strN ((l.dropWhile (· != 46)).drop 1)), .bool (l.contains 46)]) ∧ Below W.heap.size W w') := fun W => cut_any l hl 46 (by omega) (by omega) W
  have HCON : Hid (∀ W, Calls Tryz.prog 57 #[.string (strN l), .string ⟨#[47]⟩] W fun e w' => e = .returned (.bool (l.contains 47)) ∧ W = w') := fun W => contains_any l hl 47 (by omega) W
  obtain ⟨o, ho⟩ : ∃ o, wayB (strp l).1 (strp l).2 = o := ⟨_, rfl⟩
  have hway := ways_same (strp l).1 (strp l).2 (by have := strp_len l; omega)
  have HPA : Hid (∀ W, Calls Tryz.prog 6 #[.string (strN l)] W (PostP o W)) := fun W => decParse_any l hl (by omega) o (by rw [hway, ho]) W
  have HL : Hid (∀ W, Calls Tryz.prog 42 #[.int .i64 (D : Int)] W (GivesT false 1 (10 ^ D) W)) := fun W => last_any D W hD30
  have hds := strN_size ((l.dropWhile (· != 46)).drop 1)
  have hB : Below w.heap.size w (w.alloc (.cells #[.bool s, .slice A1 n1 k1, .slice A2 n2 k2] 25)) := (Below.refl _ _).alloc (Nat.le_refl _) _
  have b0 := Blk.new w 25 #[.bool s, .slice A1 n1 k1, .slice A2 n2 k2]
  obtain ⟨w2, hw2⟩ : ∃ z, w.alloc (.cells #[.bool s, .slice A1 n1 k1, .slice A2 n2 k2] 25) = z := ⟨_, rfl⟩
  rw [hw2] at hB b0
  have HB := Lib.hid hB
  have B0 := Lib.hid b0
  have HO := Lib.hid ho
  have HQQ := Lib.hid hq
  have HDS := Lib.hid hds
  have hsl := strp_len l
  clear hB b0 hway ho hq hds hD hr
  rcases o with _ | ⟨neg, n, dd⟩
  · -- no number
    have E : Hid (nearB l q D = false) := near_none HO.out
    generalize strN (l.takeWhile (· != 46)) = t1 at *
    generalize strN ((l.dropWhile (· != 46)).drop 1) = t2 at *
    generalize l.contains 46 = b46 at *
    generalize strN l = tl at *
    unfold PostP at HPA
    go_enter Tryz.func16, Tryz.ntmps16
    go_wp2_with fail
    go_fit (HH.out _)
    rintro e w3 ⟨rfl, rfl⟩
    clear hw2 HH
    go_wp2_with fail
    go_fit (HPA.out _)
    rintro e w4 ⟨rfl, hb4⟩
    replace HB := Lib.hid (HB.out.trans (hb4.mono HB.out.size))
    clear hb4 HPA
    go_wp2_with fail
    have hal : Below w4.heap.size w4 (w4.alloc (.cells #[.bool false, .slice none 0 0, .slice none 0 0] 25)) := (Below.refl _ _).alloc (Nat.le_refl _) _
    replace HB := Lib.hid (HB.out.trans (hal.mono HB.out.size))
    clear hal
    go_fit (HCUT.out _)
    rintro e w5 ⟨rfl, hb5⟩
    replace HB := Lib.hid (HB.out.trans (hb5.mono HB.out.size))
    clear hb5 HCUT
    go_wp2_with fail
    go_ret
    exact ⟨by rw [E.out]; rfl, HB.out⟩
  · obtain ⟨hs1, hs2, hs3⟩ := wayB_small HO.out (by omega)
    have ZV : Sz (qv neg n dd) 34 := Sz.qv hs2 hs3 (by omega)
    have E0 : Hid (nearB l q D = (digA l D && decide (absQ (qv neg n dd - q) ≤ tenth D))) := near_some HO.out
    replace HPA : Hid (∀ W, Calls Tryz.prog 6 #[.string (strN l)] W (GivesP (qv neg n dd) W)) := HPA.out
    generalize qv neg n dd = v at *
    obtain ⟨DL, hDL⟩ : ∃ z, ((l.dropWhile (· != 46)).drop 1).length = z := ⟨_, rfl⟩
    rw [hDL] at HDS
    have E1 : Hid (digA l D = (!l.contains 47 && (decide (DL = D) && (l.contains 46 == decide (0 < D))))) := by show _ = _; unfold digA; rw [hDL]
    obtain ⟨c47, h47⟩ : ∃ b, l.contains 47 = b := ⟨_, rfl⟩
    obtain ⟨b46, h46⟩ : ∃ b, l.contains 46 = b := ⟨_, rfl⟩
    rw [h47] at HCON E1
    rw [h46] at HCUT E1
    have hsz2 : ((strN ((l.dropWhile (· != 46)).drop 1)).size : Int) = (DL : Int) := by have := HDS.out; omega
    clear HO hs1 hs2 hs3 hDL h47 h46 HDS
    generalize strN (l.takeWhile (· != 46)) = t1 at *
    generalize strN ((l.dropWhile (· != 46)).drop 1) = t2 at *
    obtain ⟨NB, hNB⟩ : ∃ b, nearB l q D = b := ⟨_, rfl⟩
    obtain ⟨DA, hDA⟩ : ∃ b, digA l D = b := ⟨_, rfl⟩
    rw [hNB, hDA] at E0
    rw [hDA] at E1
    rw [hNB]
    clear hNB hDA hl hsl h1
    generalize strN l = tl at *
    have HZV := Lib.hid ZV
    have HS : Hid (∀ W u x, RQ W 0 W.heap.size u v 34 → RQ W 0 W.heap.size x q k → Calls Tryz.prog 60 #[u, x] W (GivesF (v - q) W)) := fun W u x h1 h2 => prSub_q u x v q 34 k W h1 h2 (by omega) (by omega)
    have ZS : Hid (Sz (v - q) 95) := by
      have zq := HQQ.out.sz hk1
      have := Sz.add ZV zq.neg
      rw [← Rat.sub_eq_add_neg] at this
      exact this.mono (by omega)
    have ZA : Hid (Sz (absQ (v - q)) 95) := by
      show Sz _ _
      unfold absQ
      split
      · exact ZS.out.neg
      · exact ZS.out
    have HOF : Hid (∀ W u, RQ W 0 W.heap.size u (v - q) 95 → Calls Tryz.prog 59 #[u] W (GivesBall (v - q) (v - q) W)) := fun W u h => ballOf_q u (v - q) 95 W h (by omega)
    have HAB : Hid (∀ (W : World) (A1 A2 A3 A4 : Option Addr) (k1 k2 k3 k4 : Nat), Nt W 0 W.heap.size (.slice A1 (lim (qN (v - q))).length k1) (lim (qN (v - q))) → Nt W 0 W.heap.size (.slice A2 (lim (v - q).den).length k2) (lim (v - q).den) → Nt W 0 W.heap.size (.slice A3 (lim (qN (v - q))).length k3) (lim (qN (v - q))) → Nt W 0 W.heap.size (.slice A4 (lim (v - q).den).length k4) (lim (v - q).den) →
        Calls Tryz.prog 58 #[.agg #[.bool (qS (v - q)), .slice A1 (lim (qN (v - q))).length k1, .slice A2 (lim (v - q).den).length k2, .bool (qS (v - q)), .slice A3 (lim (qN (v - q))).length k3, .slice A4 (lim (v - q).den).length k4]] W (GivesBall (absQ (v - q)) (absQ (v - q)) W)) := fun W A1 A2 A3 A4 k1 k2 k3 k4 x1 x2 x3 x4 =>
      ballAbs_q _ _ _ _ _ _ _ _ _ _ _ _ _ _ (v - q) 95 W (RQ.of ⟨_, _, rfl, x1, x2⟩ ZS.out) (RQ.of ⟨_, _, rfl, x3, x4⟩ ZS.out) (by omega) (by omega)
    have HCMP : Hid (∀ W u x, RQ W 0 W.heap.size u (absQ (v - q)) 95 → RQ W 0 W.heap.size x (tenth D) 4 → Calls Tryz.prog 40 #[u, x] W fun e w' => e = .returned (.int .i64 (cmpQ (absQ (v - q)) (tenth D))) ∧ Below W.heap.size W w') := fun W u x h1 h2 => prCmp_q u x _ _ 95 4 W h1 h2 (by omega) (by omega)
    have HCL : Hid (decide (cmpQ (absQ (v - q)) (tenth D) ≤ 0) = decide (absQ (v - q) ≤ tenth D)) := cmp_le
    have HT4 : Hid (∀ (w w' : World) x, Rt w' w.heap.size w'.heap.size x false (lim 1) (lim (10 ^ D)) → RQ w' 0 w'.heap.size x (tenth D) 4) := fun w w' x h => rq_tenth4 hD30 h
    clear ZV
    generalize absQ (v - q) = aq at *
    generalize v - q = dq at *
    generalize tenth D = tD at *
    generalize 10 ^ D = X at *
    cases c47
    · by_cases hdl : DL = D
      · have hne : ((DL : Int) != (D : Int)) = false := bne_false (by omega)
        by_cases hp : b46 = decide (0 < D)
        · have E : Hid (NB = decide (aq ≤ tD)) := by
            show _ = _
            rw [E0.out, E1.out, decide_eq_true hdl, hp]
            simp
          have hpp : (!(b46 == decide (0 < D))) = false := by rw [hp]; simp
          subst hdl
          clear hp E0 E1
          generalize cmpQ aq tD = cz at *
          go_enter Tryz.func16, Tryz.ntmps16
          go_wp2_with fail
          go_fit (HH.out _)
          rintro e w3 ⟨rfl, rfl⟩
          clear hw2 HH
          go_wp2_with fail
          go_fit (HPA.out _)
          rintro e w4 ⟨v4, rfl, ⟨xn, xd, rfl, x1, x2⟩, hb4⟩
          obtain ⟨A5, k5, rfl, m5⟩ := nt_len x1
          obtain ⟨A6, k6, rfl, m6⟩ := nt_len x2
          replace HB := Lib.hid (HB.out.trans (hb4.mono HB.out.size))
          have B4 := Lib.hid (B0.out.below hb4 B0.out.lt)
          clear hb4 HPA
          go_wp2_with fail
          have hal : Below w4.heap.size w4 (w4.alloc (.cells #[.bool (qS v), .slice A5 (lim (qN v)).length k5, .slice A6 (lim v.den).length k6] 25)) := (Below.refl _ _).alloc (Nat.le_refl _) _
          replace HB := Lib.hid (HB.out.trans (hal.mono HB.out.size))
          have B5 := Lib.hid (B4.out.below hal B4.out.lt)
          have V5 := Lib.hid (Blk.new w4 25 #[.bool (qS v), .slice A5 (lim (qN v)).length k5, .slice A6 (lim v.den).length k6])
          have RV5 := Lib.hid (RQ.of ⟨_, _, rfl, (x1.low (Nat.zero_le _)).after hal, (x2.low (Nat.zero_le _)).after hal⟩ HZV.out)
          clear hal
          go_fit (HCUT.out _)
          rintro e w5 ⟨rfl, hb5⟩
          replace HB := Lib.hid (HB.out.trans (hb5.mono HB.out.size))
          have B6 := Lib.hid (B5.out.below hb5 B5.out.lt)
          have V6 := Lib.hid (V5.out.below hb5 V5.out.lt)
          have RV6 := Lib.hid (RV5.out.after hb5)
          clear hb5 HCUT
          go_wp2_with fail
          go_fit (HCON.out _)
          rintro e w6 ⟨rfl, rfl⟩
          clear HCON
          have c0 := B6.out.cell 0
          have c1 := B6.out.cell 1
          have c2 := B6.out.cell 2
          have d0 := V6.out.cell 0
          have d1 := V6.out.cell 1
          have d2 := V6.out.cell 2
          clear x1 x2 B0 B4 B5 V5 RV5
          go_wp2_with fail
          go_fit (HS.out _ _ _ RV6.out (HQQ.out.after HB.out))
          rintro e w7 ⟨v7, rfl, x7, hb7⟩
          replace HB := Lib.hid (HB.out.trans (hb7.mono HB.out.size))
          have R7 : RQ w7 0 w7.heap.size v7 dq 95 := RQ.of (x7.low (Nat.zero_le _)) ZS.out
          clear hb7 x7 HS c0 c1 c2 d0 d1 d2 B6 V6 RV6
          go_wp2_with fail
          go_fit (HOF.out _ _ R7)
          rintro e w8 ⟨v1, v2, v3, v4, rfl, x1, x2, x3, x4, hb8⟩
          obtain ⟨C1, j1, rfl, q1⟩ := nt_len x1
          obtain ⟨C2, j2, rfl, q2⟩ := nt_len x2
          obtain ⟨C3, j3, rfl, q3⟩ := nt_len x3
          obtain ⟨C4, j4, rfl, q4⟩ := nt_len x4
          replace HB := Lib.hid (HB.out.trans (hb8.mono HB.out.size))
          clear hb8 R7 HOF
          go_wp2_with fail
          go_fit (HAB.out _ _ _ _ _ _ _ _ _ (x1.low (Nat.zero_le _)) (x2.low (Nat.zero_le _)) (x3.low (Nat.zero_le _)) (x4.low (Nat.zero_le _)))
          clear x1 x2 x3 x4 q1 q2 q3 q4
          rintro e w9 ⟨v1, v2, v3, v4, rfl, x1, x2, x3, x4, hb9⟩
          obtain ⟨D1, i1, rfl, q1⟩ := nt_len x1
          obtain ⟨D2, i2, rfl, q2⟩ := nt_len x2
          obtain ⟨D3, i3, rfl, q3⟩ := nt_len x3
          obtain ⟨D4, i4, rfl, q4⟩ := nt_len x4
          replace HB := Lib.hid (HB.out.trans (hb9.mono HB.out.size))
          have b9 := Blk.new w9 36 #[.bool (qS aq), .slice D1 (lim (qN aq)).length i1, .slice D2 (lim aq.den).length i2, .bool (qS aq), .slice D3 (lim (qN aq)).length i3, .slice D4 (lim aq.den).length i4]
          have hal : Below w9.heap.size w9 (w9.alloc (.cells #[.bool (qS aq), .slice D1 (lim (qN aq)).length i1, .slice D2 (lim aq.den).length i2, .bool (qS aq), .slice D3 (lim (qN aq)).length i3, .slice D4 (lim aq.den).length i4] 36)) := (Below.refl _ _).alloc (Nat.le_refl _) _
          replace HB := Lib.hid (HB.out.trans (hal.mono HB.out.size))
          have R9 := Lib.hid (RQ.of ⟨_, _, rfl, (x3.low (Nat.zero_le _)).after hal, (x4.low (Nat.zero_le _)).after hal⟩ ZA.out)
          clear hb9 HAB x1 x2 x3 x4 q1 q2 q3 q4 hal
          go_wp2_with fail
          generalize w9.alloc (.cells #[.bool (qS aq), .slice D1 (lim (qN aq)).length i1, .slice D2 (lim aq.den).length i2, .bool (qS aq), .slice D3 (lim (qN aq)).length i3, .slice D4 (lim aq.den).length i4] 36) = w10 at *
          generalize w9.heap.size = g9 at *
          have c3 : w10.cell? ⟨g9, 3, none⟩ = some (.bool (qS aq)) := b9.cell 3
          have c4 : w10.cell? ⟨g9, 4, none⟩ = some (.slice D3 (lim (qN aq)).length i3) := b9.cell 4
          have c5 : w10.cell? ⟨g9, 5, none⟩ = some (.slice D4 (lim aq.den).length i4) := b9.cell 5
          have hg4 := b9.lt
          have hk5 : Below w10.heap.size w10 w10.drew := (Below.refl _ _).drew
          clear b9
          go_region_held3 (fun W => W.cell? ⟨g9, 3, none⟩ = some (.bool (qS aq)) ∧ W.cell? ⟨g9, 4, none⟩ = some (.slice D3 (lim (qN aq)).length i3) ∧ W.cell? ⟨g9, 5, none⟩ = some (.slice D4 (lim aq.den).length i4))
            (with_reducible (first | exact t3_of hk7 c3 c4 c5 hg4 | exact t3_of hk6 c3 c4 c5 hg4 | exact t3_of hk5 c3 c4 c5 hg4 | fail))
            (first
              | (go_at_call 42; go_fit (HL.out _); rintro e w11 ⟨v11, rfl, x11, hb11⟩; have hk6 : Below w10.heap.size w10 w11 := Below.trans (Below.drew (Below.refl _ _)) hb11; have z11 := HT4.out _ _ _ x11)
              | (go_at_call 40; go_fit (HCMP.out _ _ _ (R9.out.after hk6) z11); rintro e w12 ⟨rfl, hb12⟩; have hk7 : Below w10.heap.size w10 w12 := hk6.trans (hb12.mono hk6.size))
              | fail)
          replace HB := Lib.hid (HB.out.trans (hk7.mono HB.out.size))
          clear hk5 hk6 hk7 hb11 hb12 z11 x11 c3 c4 c5
          go_wp2_with fail
          go_ret
          exact ⟨by rw [E.out, ← HCL.out]; rfl, HB.out⟩
        · have E : Hid (NB = false) := by
            show _ = _
            have : (b46 == decide (0 < D)) = false := beq_eq_false_iff_ne.2 hp
            rw [E0.out, E1.out, this]
            simp
          have hpp : (!(b46 == decide (0 < D))) = true := by rw [beq_eq_false_iff_ne.2 hp]; rfl
          subst hdl
          clear hp E0 E1
          go_enter Tryz.func16, Tryz.ntmps16
          go_wp2_with fail
          go_fit (HH.out _)
          rintro e w3 ⟨rfl, rfl⟩
          clear hw2 HH
          go_wp2_with fail
          go_fit (HPA.out _)
          rintro e w4 ⟨v4, rfl, ⟨xn, xd, rfl, x1, x2⟩, hb4⟩
          obtain ⟨A5, k5, rfl, m5⟩ := nt_len x1
          obtain ⟨A6, k6, rfl, m6⟩ := nt_len x2
          replace HB := Lib.hid (HB.out.trans (hb4.mono HB.out.size))
          clear hb4 HPA
          go_wp2_with fail
          have hal : Below w4.heap.size w4 (w4.alloc (.cells #[.bool (qS v), .slice A5 (lim (qN v)).length k5, .slice A6 (lim v.den).length k6] 25)) := (Below.refl _ _).alloc (Nat.le_refl _) _
          replace HB := Lib.hid (HB.out.trans (hal.mono HB.out.size))
          clear hal
          go_fit (HCUT.out _)
          rintro e w5 ⟨rfl, hb5⟩
          replace HB := Lib.hid (HB.out.trans (hb5.mono HB.out.size))
          clear hb5 HCUT
          go_wp2_with fail
          go_fit (HCON.out _)
          rintro e w6 ⟨rfl, rfl⟩
          clear HCON
          go_wp2_with fail
          go_ret
          exact ⟨by rw [E.out]; rfl, HB.out⟩
      · have E : Hid (NB = false) := by
          show _ = _
          rw [E0.out, E1.out, decide_eq_false hdl]
          simp
        have hne : ((DL : Int) != (D : Int)) = true := bne_true (by omega)
        have hneq : ¬ (DL : Int) = (D : Int) := by omega
        have hneb : ((DL : Int) == (D : Int)) = false := beq_eq_false_iff_ne.2 (by omega)
        have hnen : (DL == D) = false := beq_eq_false_iff_ne.2 hdl
        clear E0 E1
        go_enter Tryz.func16, Tryz.ntmps16
        go_wp2_with fail
        go_fit (HH.out _)
        rintro e w3 ⟨rfl, rfl⟩
        clear hw2 HH
        go_wp2_with fail
        go_fit (HPA.out _)
        rintro e w4 ⟨v4, rfl, ⟨xn, xd, rfl, x1, x2⟩, hb4⟩
        obtain ⟨A5, k5, rfl, m5⟩ := nt_len x1
        obtain ⟨A6, k6, rfl, m6⟩ := nt_len x2
        replace HB := Lib.hid (HB.out.trans (hb4.mono HB.out.size))
        clear hb4 HPA
        go_wp2_with fail
        have hal : Below w4.heap.size w4 (w4.alloc (.cells #[.bool (qS v), .slice A5 (lim (qN v)).length k5, .slice A6 (lim v.den).length k6] 25)) := (Below.refl _ _).alloc (Nat.le_refl _) _
        replace HB := Lib.hid (HB.out.trans (hal.mono HB.out.size))
        clear hal
        go_fit (HCUT.out _)
        rintro e w5 ⟨rfl, hb5⟩
        replace HB := Lib.hid (HB.out.trans (hb5.mono HB.out.size))
        clear hb5 HCUT
        go_wp2_with fail
        go_fit (HCON.out _)
        rintro e w6 ⟨rfl, rfl⟩
        clear HCON
        go_wp2_with fail
        go_ret
        exact ⟨by rw [E.out]; rfl, HB.out⟩
    · have E : Hid (NB = false) := by
        show _ = _
        rw [E0.out, E1.out]
        simp
      clear E0 E1
      go_enter Tryz.func16, Tryz.ntmps16
      go_wp2_with fail
      go_fit (HH.out _)
      rintro e w3 ⟨rfl, rfl⟩
      clear hw2 HH
      go_wp2_with fail
      go_fit (HPA.out _)
      rintro e w4 ⟨v4, rfl, ⟨xn, xd, rfl, x1, x2⟩, hb4⟩
      obtain ⟨A5, k5, rfl, m5⟩ := nt_len x1
      obtain ⟨A6, k6, rfl, m6⟩ := nt_len x2
      replace HB := Lib.hid (HB.out.trans (hb4.mono HB.out.size))
      clear hb4 HPA
      go_wp2_with fail
      have hal : Below w4.heap.size w4 (w4.alloc (.cells #[.bool (qS v), .slice A5 (lim (qN v)).length k5, .slice A6 (lim v.den).length k6] 25)) := (Below.refl _ _).alloc (Nat.le_refl _) _
      replace HB := Lib.hid (HB.out.trans (hal.mono HB.out.size))
      clear hal
      go_fit (HCUT.out _)
      rintro e w5 ⟨rfl, hb5⟩
      replace HB := Lib.hid (HB.out.trans (hb5.mono HB.out.size))
      clear hb5 HCUT
      go_wp2_with fail
      go_fit (HCON.out _)
      rintro e w6 ⟨rfl, rfl⟩
      clear HCON
      go_wp2_with fail
      go_ret
      exact ⟨by rw [E.out]; rfl, HB.out⟩
end Go.Proofs.YtobmjcbjailclaaGreatDoor

/- The reference's 'Is' of numbers and balls, 'Width' of balls by their contracts; both ways to ask agree. Condition: bounds on lengths. -/
namespace Go.Proofs.YtobmjcbjailclaaGreatDoor
set_option maxRecDepth 100000
open Go.RowKit

/-- Is it normal, as the reference asks? -/
def isQ (s : Bool) (n d : List Nat) : Bool := (s == nrS s (val n) (val d)) && (eqb n (lim (nrN (val n) (val d))) && eqb d (lim (nrD (val n) (val d))))

theorem isR_true {s : Bool} {n d : List Nat} (dn : Dig n) (dd : Dig d) (h : isR s n d = true) : s = nrS s (val n) (val d) ∧ n = lim (nrN (val n) (val d)) ∧ d = lim (nrD (val n) (val d)) := by
  unfold isR at h
  simp only [Bool.and_eq_true, Bool.not_eq_true', decide_eq_true_eq, beq_iff_eq] at h
  obtain ⟨⟨⟨⟨c1, c2⟩, h3⟩, h4⟩, h5⟩ := h
  have en : n = lim (val n) := (lim_val dn ((cb_iff _).1 c1)).symm
  have ed : d = lim (val d) := (lim_val dd ((cb_iff _).1 c2)).symm
  have hd0 : val d ≠ 0 := fun hc => by
    rw [ed, hc, lim_zero] at h3
    simp at h3
  by_cases hn0 : val n = 0
  · rw [hn0, Nat.gcd_zero_left] at h5
    have e0 : n.length = 0 := by rw [en, hn0, lim_zero]; rfl
    have hs : s = false := by
      rw [e0] at h4
      simpa using h4
    obtain ⟨z1, z2, z3⟩ := nr_zero (s := s) (Or.inl hn0 : val n = 0 ∨ val d = 0)
    rw [z1, z2, z3]
    exact ⟨hs, by rw [en, hn0], by rw [ed, h5]⟩
  · obtain ⟨z1, z2, z3⟩ := nr_low (s := s) h5 hn0 hd0
    rw [z1, z2, z3]
    exact ⟨rfl, en, ed⟩

theorem isR_isQ (s : Bool) (n d : List Nat) (dn : Dig n) (dd : Dig d) : isR s n d = isQ s n d := by
  cases h : isR s n d
  · cases h2 : isQ s n d
    · rfl
    · exfalso
      unfold isQ at h2
      simp only [Bool.and_eq_true, beq_iff_eq] at h2
      obtain ⟨h3, h4, h5⟩ := h2
      obtain ⟨e1, e2, e3⟩ := nr_q s (val n) (val d)
      have h6 := isR_norm (qv s (val n) (val d))
      rw [← e1, ← e2, ← e3, ← h3, ← of_decide_eq_true h4, ← of_decide_eq_true h5, h] at h6
      cases h6
  · obtain ⟨h1, h2, h3⟩ := isR_true dn dd h
    unfold isQ
    have e2 : eqb n (lim (nrN (val n) (val d))) = true := decide_eq_true h2
    have e3 : eqb d (lim (nrD (val n) (val d))) = true := decide_eq_true h3
    rw [e2, e3, ← h1]
    simp

set_option maxHeartbeats 3200000 in
theorem refIs_any (v : Value) (s : Bool) (n d : List Nat) (w : World) (dn : Dig n) (dd : Dig d) (h : Rt w 0 w.heap.size v s n d) (ln : n.length ≤ 1000) (ld : d.length ≤ 1000) :
    Calls Tryz.prog 87 #[v] w fun e w' => e = .returned (.bool (isQ s n d)) ∧ Below w.heap.size w w' := by
  have HNO : Hid (∀ W, Below w.heap.size w W → Calls Tryz.prog 22 #[v] W (GivesT (nrS s (val n) (val d)) (nrN (val n) (val d)) (nrD (val n) (val d)) W)) := fun W hb => ratNorm_any v s n d W dn dd (h.after hb) ln ld
  obtain ⟨S, hS⟩ : ∃ z, nrS s (val n) (val d) = z := ⟨_, rfl⟩
  obtain ⟨N, hN⟩ : ∃ z, nrN (val n) (val d) = z := ⟨_, rfl⟩
  obtain ⟨D, hD⟩ : ∃ z, nrD (val n) (val d) = z := ⟨_, rfl⟩
  have HE : Hid (isQ s n d = ((s == S) && (eqb n (lim N) && eqb d (lim D)))) := by show _ = _; unfold isQ; rw [hS, hN, hD]
  rw [hS, hN, hD] at HNO
  obtain ⟨vn, vd, rfl, hn, hd⟩ := h
  have hn' := hn
  have hd' := hd
  obtain ⟨A1, k1, rfl, m1⟩ := nt_len hn'
  obtain ⟨A2, k2, rfl, m2⟩ := nt_len hd'
  have b0 := Blk.new w 25 #[.bool s, .slice A1 n.length k1, .slice A2 d.length k2]
  have hB : Below w.heap.size w (w.alloc (.cells #[.bool s, .slice A1 n.length k1, .slice A2 d.length k2] 25)) := (Below.refl _ _).alloc (Nat.le_refl _) _
  have NN := Lib.hid hn
  have ND := Lib.hid hd
  have B0 := Lib.hid b0
  clear hn hd hn' hd' hS hN hD b0
  go_enter Tryz.func87, Tryz.ntmps87
  go_wp2_with fail
  go_fit (HNO.out _ hB)
  rintro e w2 ⟨v2, rfl, ⟨xn, xd, rfl, hxn, hxd⟩, hb2⟩
  have hxn' := hxn
  have hxd' := hxd
  obtain ⟨A5, k5, rfl, m5⟩ := nt_len hxn'
  obtain ⟨A6, k6, rfl, m6⟩ := nt_len hxd'
  have hB2 := hB.trans (hb2.mono hB.size)
  have b2 := (B0.out.below hb2 B0.out.lt).alloc (.cells #[.bool S, .slice A5 (lim N).length k5, .slice A6 (lim D).length k6] 25)
  have b3 := Blk.new w2 25 #[.bool S, .slice A5 (lim N).length k5, .slice A6 (lim D).length k6]
  have hal : Below w2.heap.size w2 (w2.alloc (.cells #[.bool S, .slice A5 (lim N).length k5, .slice A6 (lim D).length k6] 25)) := (Below.refl _ _).alloc (Nat.le_refl _) _
  have HB3 := Lib.hid (hB2.trans (hal.mono hB2.size))
  have x3 := Lib.hid ((hxn.low (Nat.zero_le _)).after hal)
  have y3 := Lib.hid ((hxd.low (Nat.zero_le _)).after hal)
  obtain ⟨w3, hw3⟩ : ∃ z, w2.alloc (.cells #[.bool S, .slice A5 (lim N).length k5, .slice A6 (lim D).length k6] 25) = z := ⟨_, rfl⟩
  rw [hw3] at b2 b3 HB3 x3 y3
  clear hxn hxd hxn' hxd' hb2 hB hB2 hal HNO B0
  have r0 := b2.cell 0
  have r1 := b2.cell 1
  have r2 := b2.cell 2
  have s0 := b3.cell 0
  have s1 := b3.cell 1
  have s2 := b3.cell 2
  have X3 := Lib.hid (refLimbs_any _ _ n (lim N) w3 (NN.out.after HB3.out) x3.out)
  have Y3 : Hid (∀ W, Below w3.heap.size w3 W → Calls Tryz.prog 119 #[.slice A2 d.length k2, .slice A6 (lim D).length k6] W fun e w' => e = .returned (.bool (eqb d (lim D))) ∧ Below W.heap.size W w') := fun W hb => refLimbs_any _ _ d (lim D) W ((ND.out.after HB3.out).after hb) (y3.out.after hb)
  clear x3 y3 NN ND
  have B2 := Lib.hid b2
  have B3 := Lib.hid b3
  clear b2 b3
  cases hs : (s == S)
  · have E : Hid (isQ s n d = false) := by show _ = _; rw [HE.out, hs]; rfl
    go_wp2_with fail
    go_ret
    exact ⟨by rw [E.out]; rfl, HB3.out⟩
  · cases h1 : eqb n (lim N)
    · have E : Hid (isQ s n d = false) := by show _ = _; rw [HE.out, hs, h1]; rfl
      rw [h1] at X3
      clear h1
      go_wp2_with fail
      go_fit (X3.out)
      rintro e w4 ⟨rfl, hb4⟩
      have HBF := Lib.hid (HB3.out.trans (hb4.mono HB3.out.size))
      clear hb4 X3 Y3 r0 r1 r2 s0 s1 s2
      go_wp2_with fail
      go_ret
      exact ⟨by rw [E.out]; rfl, HBF.out⟩
    · have E : Hid (isQ s n d = eqb d (lim D)) := by show _ = _; rw [HE.out, hs, h1]; rfl
      rw [h1] at X3
      clear h1
      generalize eqb d (lim D) = cc at *
      go_wp2_with fail
      go_fit (X3.out)
      rintro e w4 ⟨rfl, hb4⟩
      replace B2 := Lib.hid (B2.out.below hb4 B2.out.lt)
      replace B3 := Lib.hid (B3.out.below hb4 B3.out.lt)
      have HB4 := Lib.hid hb4
      have HBF := Lib.hid (HB3.out.trans (hb4.mono HB3.out.size))
      clear hb4 X3 r0 r1 r2 s0 s1 s2 hw3
      have r2 := B2.out.cell 2
      have s2 := B3.out.cell 2
      go_wp2_with fail
      go_fit (Y3.out _ HB4.out)
      rintro e w5 ⟨rfl, hb5⟩
      have HBG := Lib.hid (HBF.out.trans (hb5.mono HBF.out.size))
      clear hb5 Y3 r2 s2
      go_wp2_with fail
      go_ret
      exact ⟨by rw [E.out]; rfl, HBG.out⟩
end Go.Proofs.YtobmjcbjailclaaGreatDoor

/- The reference's 'Width', 'Is' of balls, 'Dec' of digits by their contracts. Condition: bounds on lengths. -/
namespace Go.Proofs.YtobmjcbjailclaaGreatDoor
set_option maxRecDepth 100000
open Go.RowKit

set_option maxHeartbeats 3200000 in
theorem refWidth_q (v : Value) (p q : Rat) (k : Nat) (w : World) (h : BQ w 0 w.heap.size v p q k) (hk : k ≤ 400) : Calls Tryz.prog 49 #[v] w (GivesF (q - p) w) := by
  obtain ⟨s, vn, vd, t, vm, vc, rfl, h1, h2⟩ := h
  have h1' := h1
  have h2' := h2
  obtain ⟨A1, n1, k1, A2, n2, k2, rfl, rfl, l1, l2⟩ := h1'.slices
  obtain ⟨A3, n3, k3, A4, n4, k4, rfl, rfl, l3, l4⟩ := h2'.slices
  have H1 := Lib.hid h1
  have H2 := Lib.hid h2
  clear h1 h2 h1' h2'
  go_enter Tryz.func49, Tryz.ntmps49
  go_wp2_with fail
  have b2 := Blk.new (w.alloc (.cells #[.bool s, .slice A1 n1 k1, .slice A2 n2 k2, .bool t, .slice A3 n3 k3, .slice A4 n4 k4] 36)) 25 #[.bool false, .slice none 0 0, .slice none 0 0]
  have hB : Below w.heap.size w ((w.alloc (.cells #[.bool s, .slice A1 n1 k1, .slice A2 n2 k2, .bool t, .slice A3 n3 k3, .slice A4 n4 k4] 36)).alloc (.cells #[.bool false, .slice none 0 0, .slice none 0 0] 25)) := ((Below.refl _ _).alloc (Nat.le_refl _) _).alloc (by simp) _
  have es : (w.alloc (.cells #[.bool s, .slice A1 n1 k1, .slice A2 n2 k2, .bool t, .slice A3 n3 k3, .slice A4 n4 k4] 36)).heap.size = w.heap.size + 1 := by simp
  rw [es] at b2
  clear es
  generalize ((w.alloc (.cells #[.bool s, .slice A1 n1 k1, .slice A2 n2 k2, .bool t, .slice A3 n3 k3, .slice A4 n4 k4] 36)).alloc (.cells #[.bool false, .slice none 0 0, .slice none 0 0] 25)) = w2 at *
  go_fit (ratSub_q _ _ q p k k _ (H2.out.after hB) (H1.out.after hB) hk hk)
  rintro e w3 ⟨v3, rfl, ⟨xn, xd, rfl, hxn, hxd⟩, hb3⟩
  have q3 := b2.below hb3 b2.lt
  have hB3 := hB.trans (hb3.mono hB.size)
  replace hxn := hxn.low (show w.heap.size + 1 + 1 ≤ _ from b2.lt)
  replace hxd := hxd.low (show w.heap.size + 1 + 1 ≤ _ from b2.lt)
  obtain ⟨A5, k5, rfl, m5⟩ := nt_len hxn
  obtain ⟨A6, k6, rfl, m6⟩ := nt_len hxd
  have r0 := q3.cell 0
  have r1 := q3.cell 1
  have r2 := q3.cell 2
  have f0 := q3.free 0
  have f1 := q3.free 1
  have f2 := q3.free 2
  obtain ⟨e0, e1, e2, hR, hBf⟩ := store3 q3 hB3 (by omega) (qS (q - p)) (.slice A5 (lim (qN (q - p))).length k5) (.slice A6 (lim (q - p).den).length k6) hxn hxd
  have HR := Lib.hid hR
  have HBF := Lib.hid hBf
  clear q3 hB hB3 hb3 b2 hxn hxd hR hBf H1 H2
  unfold St3 at *
  go_wp2_with fail
  clear r0 r1 r2 f0 f1 f2
  generalize ((World.setCell w3 ⟨w.heap.size + 1, 0, none⟩ (.bool (qS (q - p)))).setCell ⟨w.heap.size + 1, 1, none⟩ (.slice A5 (lim (qN (q - p))).length k5)).setCell ⟨w.heap.size + 1, 2, none⟩ (.slice A6 (lim (q - p).den).length k6) = WW at *
  refine bodyPost_ret (v := .agg #[.bool (qS (q - p)), .slice A5 (lim (qN (q - p))).length k5, .slice A6 (lim (q - p).den).length k6]) ?_ rfl (by show GivesF _ _ _ _; exact ⟨_, rfl, HR.out, HBF.out⟩)
  simp [results, Tryz.results49, go_sem, e0, e1, e2]

set_option maxHeartbeats 3200000 in
theorem refBallIs_any (s t : Bool) (vn vd vm vc : Value) (n d m c : List Nat) (p q : Rat) (w : World) (dn : Dig n) (dd : Dig d) (dm : Dig m) (dc : Dig c) (h1 : Rt w 0 w.heap.size (.agg #[.bool s, vn, vd]) s n d) (h2 : Rt w 0 w.heap.size (.agg #[.bool t, vm, vc]) t m c)
    (ln : n.length ≤ 400) (ld : d.length ≤ 400) (lm : m.length ≤ 400) (lc : c.length ≤ 400) (hp : qv s (val n) (val d) = p) (hq : qv t (val m) (val c) = q) :
    Calls Tryz.prog 47 #[.agg #[.bool s, vn, vd, .bool t, vm, vc]] w fun e w' => e = .returned (.bool (isQ s n d && (isQ t m c && decide (cmpQ p q ≤ 0)))) ∧ Below w.heap.size w w' := by
  have I1 : Hid (∀ W, Below w.heap.size w W → Calls Tryz.prog 87 #[.agg #[.bool s, vn, vd]] W fun e w' => e = .returned (.bool (isQ s n d)) ∧ Below W.heap.size W w') := fun W hb => refIs_any _ s n d W dn dd (h1.after hb) (by omega) (by omega)
  have I2 : Hid (∀ W, Below w.heap.size w W → Calls Tryz.prog 87 #[.agg #[.bool t, vm, vc]] W fun e w' => e = .returned (.bool (isQ t m c)) ∧ Below W.heap.size W w') := fun W hb => refIs_any _ t m c W dm dc (h2.after hb) (by omega) (by omega)
  have I3 : Hid (∀ W, Below w.heap.size w W → Calls Tryz.prog 48 #[.agg #[.bool s, vn, vd], .agg #[.bool t, vm, vc]] W fun e w' => e = .returned (.int .i64 (cmpQ p q)) ∧ Below W.heap.size W w') := fun W hb => ratCmp_q _ _ p q 400 400 W ⟨s, n, d, h1.after hb, dn, dd, ln, ld, hp⟩ ⟨t, m, c, h2.after hb, dm, dc, lm, lc, hq⟩ (Nat.le_refl _) (Nat.le_refl _)
  have x1 : RQ w 0 w.heap.size (.agg #[.bool s, vn, vd]) p 400 := ⟨s, n, d, h1, dn, dd, ln, ld, hp⟩
  have x2 : RQ w 0 w.heap.size (.agg #[.bool t, vm, vc]) q 400 := ⟨t, m, c, h2, dm, dc, lm, lc, hq⟩
  obtain ⟨A1, n1, k1, A2, n2, k2, rfl, rfl, l1, l2⟩ := x1.slices
  obtain ⟨A3, n3, k3, A4, n4, k4, rfl, rfl, l3, l4⟩ := x2.slices
  generalize isQ s n d = c1 at *
  generalize isQ t m c = c2 at *
  have hB : Below w.heap.size w (w.alloc (.cells #[.bool s, .slice A1 n1 k1, .slice A2 n2 k2, .bool t, .slice A3 n3 k3, .slice A4 n4 k4] 36)) := (Below.refl _ _).alloc (Nat.le_refl _) _
  have b1 := Blk.new w 36 #[.bool s, .slice A1 n1 k1, .slice A2 n2 k2, .bool t, .slice A3 n3 k3, .slice A4 n4 k4]
  clear x1 x2 h1 h2 dn dd dm dc ln ld lm lc hp hq
  cases c1
  · go_enter Tryz.func47, Tryz.ntmps47
    go_wp2_with fail
    go_fit (I1.out _ hB)
    rintro e w2 ⟨rfl, hb2⟩
    have HBF := Lib.hid (hB.trans (hb2.mono hB.size))
    clear hB hb2 I1 I2 I3 b1
    go_wp2_with fail
    go_ret
    exact ⟨rfl, HBF.out⟩
  · cases c2
    · go_enter Tryz.func47, Tryz.ntmps47
      go_wp2_with fail
      go_fit (I1.out _ hB)
      rintro e w2 ⟨rfl, hb2⟩
      have HB2 := Lib.hid (hB.trans (hb2.mono hB.size))
      have b2 := b1.below hb2 b1.lt
      have r3 := b2.cell 3
      have r4 := b2.cell 4
      have r5 := b2.cell 5
      clear hB hb2 I1 I3 b1
      go_wp2_with fail
      go_fit (I2.out _ HB2.out)
      rintro e w3 ⟨rfl, hb3⟩
      have HBF := Lib.hid (HB2.out.trans (hb3.mono HB2.out.size))
      clear hb3 I2 r3 r4 r5 b2
      go_wp2_with fail
      go_ret
      exact ⟨rfl, HBF.out⟩
    · generalize cmpQ p q = cz at *
      go_enter Tryz.func47, Tryz.ntmps47
      go_wp2_with fail
      go_fit (I1.out _ hB)
      rintro e w2 ⟨rfl, hb2⟩
      have HB2 := Lib.hid (hB.trans (hb2.mono hB.size))
      have b2 := b1.below hb2 b1.lt
      have r3 := b2.cell 3
      have r4 := b2.cell 4
      have r5 := b2.cell 5
      clear hB hb2 I1 b1
      go_wp2_with fail
      go_fit (I2.out _ HB2.out)
      rintro e w3 ⟨rfl, hb3⟩
      have HB3 := Lib.hid (HB2.out.trans (hb3.mono HB2.out.size))
      have b3 := b2.below hb3 b2.lt
      clear r3 r4 r5
      have r0 := b3.cell 0
      have r1 := b3.cell 1
      have r2 := b3.cell 2
      have r3 := b3.cell 3
      have r4 := b3.cell 4
      have r5 := b3.cell 5
      clear hb3 I2 b2
      go_wp2_with fail
      go_fit (I3.out _ HB3.out)
      rintro e w4 ⟨rfl, hb4⟩
      have HBF := Lib.hid (HB3.out.trans (hb4.mono HB3.out.size))
      clear hb4 I3 r0 r1 r2 r3 r4 r5 b3
      go_wp2_with fail
      go_ret
      exact ⟨rfl, HBF.out⟩


set_option maxHeartbeats 3200000 in
theorem refShowDec_no (s t : Bool) (A1 A2 A3 A4 : Option Addr) (n1 n2 n3 n4 k1 k2 k3 k4 : Nat) (d : Int) (w : World)
    (hIs : ∀ W, Below w.heap.size w W → Calls Tryz.prog 47 #[.agg #[.bool s, .slice A1 n1 k1, .slice A2 n2 k2, .bool t, .slice A3 n3 k3, .slice A4 n4 k4]] W fun e w' => e = .returned (.bool false) ∧ Below W.heap.size W w') :
    Calls Tryz.prog 13 #[.agg #[.bool s, .slice A1 n1 k1, .slice A2 n2 k2, .bool t, .slice A3 n3 k3, .slice A4 n4 k4], .int .i64 d] w fun e w' => e = .returned (.tuple #[.string ⟨#[]⟩, .bool false]) ∧ Below w.heap.size w w' := by
  have HIS := Lib.hid hIs
  have hB : Below w.heap.size w (w.alloc (.cells #[.bool s, .slice A1 n1 k1, .slice A2 n2 k2, .bool t, .slice A3 n3 k3, .slice A4 n4 k4] 36)) := (Below.refl _ _).alloc (Nat.le_refl _) _
  have HB := Lib.hid hB
  clear hIs hB
  go_enter Tryz.func13, Tryz.ntmps13
  go_wp2_with fail
  go_fit (hold_any _ _)
  rintro e w2 ⟨rfl, rfl⟩
  go_wp2_with fail
  go_fit (HIS.out _ HB.out)
  rintro e w3 ⟨rfl, hb3⟩
  have HBF := Lib.hid (HB.out.trans (hb3.mono HB.out.size))
  clear hb3 HIS HB
  go_wp2_with fail
  go_ret2
  exact ⟨rfl, HBF.out⟩


set_option maxHeartbeats 3200000 in
theorem refShowDec_yes (s t : Bool) (A1 A2 A3 A4 : Option Addr) (n1 n2 n3 n4 k1 k2 k3 k4 : Nat) (d : Int) (w : World) (p q : Rat) (k D : Nat) (hD : hold30 d = (D : Int))
    (hIs : ∀ W, Below w.heap.size w W → Calls Tryz.prog 47 #[.agg #[.bool s, .slice A1 n1 k1, .slice A2 n2 k2, .bool t, .slice A3 n3 k3, .slice A4 n4 k4]] W fun e w' => e = .returned (.bool true) ∧ Below W.heap.size W w')
    (h1 : RQ w 0 w.heap.size (.agg #[.bool s, .slice A1 n1 k1, .slice A2 n2 k2]) p k) (h2 : RQ w 0 w.heap.size (.agg #[.bool t, .slice A3 n3 k3, .slice A4 n4 k4]) q k) (hk : k ≤ 30) (hk1 : 1 ≤ k) :
    Calls Tryz.prog 13 #[.agg #[.bool s, .slice A1 n1 k1, .slice A2 n2 k2, .bool t, .slice A3 n3 k3, .slice A4 n4 k4], .int .i64 d] w (ShowPost p q D w) := by
  have hr := hold30_range d
  have hD30 : D ≤ 30 := by omega
  have hD60 : D ≤ 60 := by omega
  have z1 := h1.sz hk1
  have z2 := h2.sz hk1
  have zw := Sz.add z2 z1.neg
  rw [← Rat.sub_eq_add_neg] at zw
  have za := Sz.add z1 z2
  have e2 : Sz (2 : Rat) 1 := ⟨by show (lim 2).length ≤ 1; exact lim_length_le (by omega), by show (lim 1).length ≤ 1; exact lim_length_le (by omega)⟩
  have zd := Sz.div za e2 (by omega)
  have HH : Hid (∀ W, Calls Tryz.prog 46 #[.int .i64 d] W fun e w' => e = .returned (.int .i64 (D : Int)) ∧ W = w') := fun W => by
    have := hold_any d W
    rw [hD] at this
    exact this
  have HIS := Lib.hid hIs
  have HL : Hid (∀ W, Calls Tryz.prog 20 #[.int .i64 (D : Int)] W (GivesT false 1 (10 ^ D) W)) := fun W => refTen_any D W hD30
  have HW : Hid (∀ W, Below w.heap.size w W → Calls Tryz.prog 49 #[.agg #[.bool s, .slice A1 n1 k1, .slice A2 n2 k2, .bool t, .slice A3 n3 k3, .slice A4 n4 k4]] W (GivesF (q - p) W)) := fun W hb =>
    refWidth_q _ p q k W ⟨_, _, _, _, _, _, rfl, h1.after hb, h2.after hb⟩ (by omega)
  have HA : Hid (∀ W, Below w.heap.size w W → Calls Tryz.prog 23 #[.agg #[.bool s, .slice A1 n1 k1, .slice A2 n2 k2], .agg #[.bool t, .slice A3 n3 k3, .slice A4 n4 k4]] W (GivesF (p + q) W)) := fun W hb =>
    ratAdd_q _ _ p q k k W (h1.after hb) (h2.after hb) (by omega) (by omega)
  have ZW : Sz (q - p) 61 := zw.mono (by omega)
  have ZA : Sz (p + q) 61 := za.mono (by omega)
  have ZD : Sz ((p + q) / 2) 62 := zd.mono (by omega)
  have HFX : Hid (∀ W v, RQ W 0 W.heap.size v ((p + q) / 2) 62 → Calls Tryz.prog 51 #[v, .int .i64 (D : Int)] W fun e w' => e = .returned (.string (strN (fixT ((p + q) / 2) D))) ∧ Below W.heap.size W w') := fun W v h => refFixed_q v _ 62 D W h (by omega) (by omega) hD60
  have e2' : Hid (qv false 2 1 = 2) := (by show qv false 2 1 = 2; unfold qv sg; decide)
  have hne2 : Hid ((2 : Rat) ≠ 0) := (by show (2 : Rat) ≠ 0; decide)
  have HZW := Lib.hid ZW
  have HZA := Lib.hid ZA
  have HZD := Lib.hid ZD
  have HE2 := Lib.hid e2
  have hB : Below w.heap.size w (w.alloc (.cells #[.bool s, .slice A1 n1 k1, .slice A2 n2 k2, .bool t, .slice A3 n3 k3, .slice A4 n4 k4] 36)) := (Below.refl _ _).alloc (Nat.le_refl _) _
  have b1 := Blk.new w 36 #[.bool s, .slice A1 n1 k1, .slice A2 n2 k2, .bool t, .slice A3 n3 k3, .slice A4 n4 k4]
  have HB := Lib.hid hB
  clear hIs hB h1 h2 z1 z2 zw za zd e2 ZW ZA ZD hD hr
  obtain ⟨W0, hW0⟩ : ∃ W0, w.alloc (.cells #[.bool s, .slice A1 n1 k1, .slice A2 n2 k2, .bool t, .slice A3 n3 k3, .slice A4 n4 k4] 36) = W0 := ⟨_, rfl⟩
  rw [hW0] at HB b1
  have c1 : Hid (tenth D < q - p ∨ ¬ tenth D < q - p) := Classical.em _
  go_enter Tryz.func13, Tryz.ntmps13
  go_wp2_with fail
  go_fit (HH.out _)
  rintro e w2 ⟨rfl, rfl⟩
  clear hW0 HH
  have r0 := b1.cell 0
  have r1 := b1.cell 1
  have r2 := b1.cell 2
  have r3 := b1.cell 3
  have r4 := b1.cell 4
  have r5 := b1.cell 5
  go_wp2_with fail
  go_fit (HIS.out _ HB.out)
  rintro e w3 ⟨rfl, hb3⟩
  replace b1 := b1.below hb3 b1.lt
  replace HB := Lib.hid (HB.out.trans (hb3.mono HB.out.size))
  clear r0 r1 r2 r3 r4 r5 hb3 HIS
  have r0 := b1.cell 0
  have r1 := b1.cell 1
  have r2 := b1.cell 2
  have r3 := b1.cell 3
  have r4 := b1.cell 4
  have r5 := b1.cell 5
  go_wp2_with fail
  go_fit (HW.out _ HB.out)
  rintro e w4 ⟨v4, rfl, h4, hb4⟩
  replace b1 := b1.below hb4 b1.lt
  replace HB := Lib.hid (HB.out.trans (hb4.mono HB.out.size))
  have h4' : RQ w4 0 w4.heap.size v4 (q - p) 61 := RQ.of (h4.low (Nat.zero_le _)) HZW.out
  clear r0 r1 r2 r3 r4 r5 hb4 HW h4
  go_wp2_with fail
  go_fit (HL.out _)
  rintro e w5 ⟨v5, rfl, h5, hb5⟩
  have h4'' := h4'.after hb5
  have h5' := RQ.tenth hD30 h5
  replace b1 := b1.below hb5 b1.lt
  replace HB := Lib.hid (HB.out.trans (hb5.mono HB.out.size))
  clear hb5 HL h5 h4'
  go_wp2_with fail
  go_fit (ratCmp_q _ _ (q - p) (tenth D) 61 30 _ h4'' h5' (by omega) (by omega))
  rintro e w6 ⟨rfl, hb6⟩
  replace b1 := b1.below hb6 b1.lt
  replace HB := Lib.hid (HB.out.trans (hb6.mono HB.out.size))
  clear hb6 h4'' h5'
  rcases c1.out with hc | hc
  · have hcmp : (0 : Int) < cmpQ (q - p) (tenth D) := by rw [cmpQ_gt hc]; omega
    have HC := Lib.hid hc
    clear hc c1
    generalize cmpQ (q - p) (tenth D) = cz at *
    go_wp2_with fail
    go_ret2
    exact ⟨by rw [if_pos HC.out, if_pos HC.out]; rfl, HB.out⟩
  · have hcmp : ¬ (0 : Int) < cmpQ (q - p) (tenth D) := by
      unfold cmpQ
      rw [if_neg hc]
      split <;> omega
    have HC := Lib.hid hc
    clear hc c1
    generalize cmpQ (q - p) (tenth D) = cz at *
    have r0 := b1.cell 0
    have r1 := b1.cell 1
    have r2 := b1.cell 2
    have r3 := b1.cell 3
    have r4 := b1.cell 4
    have r5 := b1.cell 5
    clear b1
    go_wp2_with fail
    go_fit (HA.out _ HB.out)
    rintro e w7 ⟨v7, rfl, h7, hb7⟩
    have h7' : RQ w7 0 w7.heap.size v7 (p + q) 61 := RQ.of (h7.low (Nat.zero_le _)) HZA.out
    replace HB := Lib.hid (HB.out.trans (hb7.mono HB.out.size))
    clear r0 r1 r2 r3 r4 r5 hb7 HA h7
    go_wp2_with fail
    go_fit (refInt_any 2 _ (by omega))
    rintro e w8 ⟨v8, rfl, h8, hb8⟩
    have h7'' := h7'.after hb8
    rw [e2'.out] at h8
    have h8' : RQ w8 0 w8.heap.size v8 2 1 := RQ.of (h8.low (Nat.zero_le _)) HE2.out
    replace HB := Lib.hid (HB.out.trans (hb8.mono HB.out.size))
    clear hb8 h8 h7'
    go_wp2_with fail
    go_fit (ratDiv_q _ _ (p + q) 2 61 1 _ h7'' h8' (by omega) (by omega) hne2.out)
    rintro e w9 ⟨v9, rfl, ⟨xn, xd, rfl, hxn, hxd⟩, hb9⟩
    obtain ⟨A5, k5, rfl, m5⟩ := nt_len hxn
    obtain ⟨A6, k6, rfl, m6⟩ := nt_len hxd
    have h9 : RQ w9 0 w9.heap.size (.agg #[.bool (qS ((p + q) / 2)), .slice A5 (lim (qN ((p + q) / 2))).length k5, .slice A6 (lim ((p + q) / 2).den).length k6]) ((p + q) / 2) 62 := RQ.of ⟨_, _, rfl, hxn.low (Nat.zero_le _), hxd.low (Nat.zero_le _)⟩ HZD.out
    replace HB := Lib.hid (HB.out.trans (hb9.mono HB.out.size))
    have H9 := Lib.hid h9
    clear hb9 h7'' h8' hxn hxd h9
    go_wp2_with fail
    have hal : Below w9.heap.size w9 (w9.alloc (.cells #[.bool (qS ((p + q) / 2)), .slice A5 (lim (qN ((p + q) / 2))).length k5, .slice A6 (lim ((p + q) / 2).den).length k6] 25)) := (Below.refl _ _).alloc (Nat.le_refl _) _
    go_fit (HFX.out _ _ (H9.out.after hal))
    rintro e w10 ⟨rfl, hb10⟩
    have HBF := Lib.hid (HB.out.trans ((hal.trans (hb10.mono hal.size)).mono HB.out.size))
    clear hb10 hal HFX HB H9
    go_wp2_with fail
    go_ret2
    exact ⟨by rw [if_neg HC.out, if_neg HC.out]; rfl, HBF.out⟩
end Go.Proofs.YtobmjcbjailclaaGreatDoor

/- The reference's 'Near' by its contract. Condition: bounds on lengths. -/
namespace Go.Proofs.YtobmjcbjailclaaGreatDoor
set_option maxRecDepth 100000
open Go.RowKit Go.Shelf

theorem wayB_point {neg : Bool} {r : List Nat} {o : Bool × Nat × Nat} (h : wayB neg r = some o) : 46 ∉ r ∨ ∃ a b, r = a ++ 46 :: b ∧ 46 ∉ a ∧ 46 ∉ b := by
  have d46 : isD 46 = false := by decide
  have hw : 46 ∉ r.takeWhile isD := fun hm => by have := mem_tw r hm; rw [d46] at this; cases this
  have hsp : r.takeWhile isD ++ r.dropWhile isD = r := List.takeWhile_append_dropWhile
  unfold wayB at h
  split at h
  · cases h
  · split at h
    · rename_i hd
      rw [hd, List.append_nil] at hsp
      rw [hsp] at hw
      exact Or.inl hw
    · rename_i c t hd
      rw [hd] at hsp
      split at h
      · cases h
      · rename_i hc
        have ht : 46 ∉ t := fun hm => by
          have := List.all_eq_true.1 ((tw_all (p := isD) t).1 (by omega)) 46 hm
          rw [d46] at this
          cases this
        by_cases h46 : c = 46
        · subst h46
          exact Or.inr ⟨_, _, hsp.symm, hw, ht⟩
        · left
          rw [← hsp]
          intro hm
          rcases List.mem_append.1 hm with h1 | h1
          · exact hw h1
          · rcases List.mem_cons.1 h1 with h2 | h2
            · exact h46 h2.symm
            · exact ht h2

theorem strp_point {l : List Nat} (h : 46 ∉ (strp l).2 ∨ ∃ a b, (strp l).2 = a ++ 46 :: b ∧ 46 ∉ a ∧ 46 ∉ b) : 46 ∉ l ∨ ∃ a b, l = a ++ 46 :: b ∧ 46 ∉ a ∧ 46 ∉ b := by
  cases l with
  | nil => exact h
  | cons x r =>
    unfold strp at h
    simp only at h
    by_cases hx : x = 45
    · subst hx
      rw [if_pos rfl] at h
      rcases h with h | ⟨a, b, e, ha, hb⟩
      · left
        intro hm
        rcases List.mem_cons.1 hm with h1 | h1
        · omega
        · exact h h1
      · refine Or.inr ⟨45 :: a, b, by rw [show r = a ++ 46 :: b from e]; rfl, ?_, hb⟩
        intro hm
        rcases List.mem_cons.1 hm with h1 | h1
        · omega
        · exact ha h1
    · rw [if_neg hx] at h
      exact h

theorem qv_abs (q : Rat) : qv false (qN q) q.den = absQ q := by
  unfold absQ
  by_cases h : q < 0
  · rw [if_pos h]
    have e := qv_self (-q)
    have hs : qS (-q) = false := by
      unfold qS
      refine decide_eq_false ?_
      rw [Rat.neg_num]
      have : q.num < 0 := by
        rcases Int.lt_or_le q.num 0 with h1 | h1
        · exact h1
        · exfalso
          have := Rat.num_nonneg.1 h1
          exact absurd h (Rat.not_lt.2 this)
      omega
    rw [hs, qN_neg, Rat.neg_den] at e
    exact e
  · rw [if_neg h]
    have e := qv_self q
    have hs : qS q = false := by
      unfold qS
      refine decide_eq_false ?_
      have := Rat.num_nonneg.2 (Rat.not_lt.1 h)
      omega
    rw [hs] at e
    exact e

set_option maxHeartbeats 3200000 in
theorem refNear_any (l : List Nat) (hl : Byt l) (h1 : l.length ≤ 100) (s : Bool) (A1 A2 : Option Addr) (n1 n2 k1 k2 : Nat) (q : Rat) (k : Nat) (d : Int) (D : Nat) (hD : hold30 d = (D : Int)) (w : World) (hq : RQ w 0 w.heap.size (.agg #[.bool s, .slice A1 n1 k1, .slice A2 n2 k2]) q k) (hk : k ≤ 60) (hk1 : 1 ≤ k) :
    Calls Tryz.prog 17 #[.string (strN l), .agg #[.bool s, .slice A1 n1 k1, .slice A2 n2 k2], .int .i64 d] w fun e w' => e = .returned (.bool (nearB l q D)) ∧ Below w.heap.size w w' := by
  have hr := hold30_range d
  have hD30 : D ≤ 30 := by omega
  have HH : Hid (∀ W, Calls Tryz.prog 46 #[.int .i64 d] W fun e w' => e = .returned (.int .i64 (D : Int)) ∧ W = w') := fun W => by
    have := hold_any d W
    rw [hD] at this
    exact this
  have HDI : Hid (∀ W, Calls Tryz.prog 61 #[.string (strN l), .int .i64 (D : Int)] W fun e w' => e = .returned (.bool (digR l D)) ∧ W = w') := fun W => refDigits20_any l hl (by omega) D W
  obtain ⟨o, ho⟩ : ∃ o, wayB (strp l).1 (strp l).2 = o := ⟨_, rfl⟩
  have HPA : Hid (∀ W, Calls Tryz.prog 9 #[.string (strN l)] W (PostR o W)) := fun W => by rw [← ho]; exact refParse3_any l hl (by omega) W
  have HL : Hid (∀ W, Calls Tryz.prog 20 #[.int .i64 (D : Int)] W (GivesT false 1 (10 ^ D) W)) := fun W => refTen_any D W hD30
  have hB : Below w.heap.size w (w.alloc (.cells #[.bool s, .slice A1 n1 k1, .slice A2 n2 k2] 25)) := (Below.refl _ _).alloc (Nat.le_refl _) _
  have b0 := Blk.new w 25 #[.bool s, .slice A1 n1 k1, .slice A2 n2 k2]
  obtain ⟨w2, hw2⟩ : ∃ z, w.alloc (.cells #[.bool s, .slice A1 n1 k1, .slice A2 n2 k2] 25) = z := ⟨_, rfl⟩
  rw [hw2] at hB b0
  have HB := Lib.hid hB
  have B0 := Lib.hid b0
  have HO := Lib.hid ho
  have HQQ := Lib.hid hq
  have hsl := strp_len l
  clear hB b0 ho hq hD hr
  rcases o with _ | ⟨neg, n, dd⟩
  · have E : Hid (nearB l q D = false) := near_none HO.out
    obtain ⟨v, hv⟩ : ∃ v : Rat, (0 : Rat) = v := ⟨_, rfl⟩
    replace HPA : Hid (∀ W, Calls Tryz.prog 9 #[.string (strN l)] W (GivesC v 2 W)) := fun W => by rw [← hv]; exact HPA.out W
    clear hv
    generalize strN l = tl at *
    go_enter Tryz.func17, Tryz.ntmps17
    go_wp2_with fail
    go_fit (HH.out _)
    rintro e w3 ⟨rfl, rfl⟩
    clear hw2 HH
    go_wp2_with fail
    go_fit (HPA.out _)
    rintro e w4 ⟨v4, rfl, ⟨xn, xd, rfl, x1, x2⟩, hb4⟩
    obtain ⟨A5, k5, rfl, m5⟩ := nt_len x1
    obtain ⟨A6, k6, rfl, m6⟩ := nt_len x2
    replace HB := Lib.hid (HB.out.trans (hb4.mono HB.out.size))
    clear hb4 HPA x1 x2
    go_wp2_with fail
    have hal : Below w4.heap.size w4 (w4.alloc (.cells #[.bool (qS v), .slice A5 (lim (qN v)).length k5, .slice A6 (lim v.den).length k6] 25)) := (Below.refl _ _).alloc (Nat.le_refl _) _
    replace HB := Lib.hid (HB.out.trans (hal.mono HB.out.size))
    clear hal
    go_ret
    exact ⟨by rw [E.out]; rfl, HB.out⟩
  · obtain ⟨hs1, hs2, hs3⟩ := wayB_small HO.out (by omega)
    have ZV : Sz (qv neg n dd) 34 := Sz.qv hs2 hs3 (by omega)
    have E0 : Hid (nearB l q D = (digA l D && decide (absQ (qv neg n dd - q) ≤ tenth D))) := near_some HO.out
    have hds := dig_same l D (strp_point (wayB_point HO.out))
    rw [hds] at HDI
    replace HPA : Hid (∀ W, Calls Tryz.prog 9 #[.string (strN l)] W (GivesC (qv neg n dd) 0 W)) := HPA.out
    generalize qv neg n dd = v at *
    clear HO hs1 hs2 hs3 hds
    obtain ⟨NB, hNB⟩ : ∃ b, nearB l q D = b := ⟨_, rfl⟩
    obtain ⟨DA, hDA⟩ : ∃ b, digA l D = b := ⟨_, rfl⟩
    rw [hNB, hDA] at E0
    rw [hDA] at HDI
    rw [hNB]
    clear hNB hDA hl hsl h1
    generalize strN l = tl at *
    have HZV := Lib.hid ZV
    have HS : Hid (∀ W u x, RQ W 0 W.heap.size u v 34 → RQ W 0 W.heap.size x q k → Calls Tryz.prog 62 #[u, x] W (GivesF (v - q) W)) := fun W u x h1 h2 => ratSub_q u x v q 34 k W h1 h2 (by omega) (by omega)
    have ZS : Hid (Sz (v - q) 95) := by
      have zq := HQQ.out.sz hk1
      have := Sz.add ZV zq.neg
      rw [← Rat.sub_eq_add_neg] at this
      exact this.mono (by omega)
    have HCMP : Hid (∀ W u x, RQ W 0 W.heap.size u (absQ (v - q)) 95 → RQ W 0 W.heap.size x (tenth D) 4 → Calls Tryz.prog 48 #[u, x] W fun e w' => e = .returned (.int .i64 (cmpQ (absQ (v - q)) (tenth D))) ∧ Below W.heap.size W w') := fun W u x h1 h2 => ratCmp_q u x _ _ 95 4 W h1 h2 (by omega) (by omega)
    have HCL : Hid (decide (cmpQ (absQ (v - q)) (tenth D) ≤ 0) = decide (absQ (v - q) ≤ tenth D)) := cmp_le
    have HT4 : Hid (∀ (w w' : World) x, Rt w' w.heap.size w'.heap.size x false (lim 1) (lim (10 ^ D)) → RQ w' 0 w'.heap.size x (tenth D) 4) := fun w w' x h => rq_tenth4 hD30 h
    have HRA : Hid (∀ (W : World) (a b : Value), Nt W 0 W.heap.size a (lim (qN (v - q))) → Nt W 0 W.heap.size b (lim (v - q).den) → RQ W 0 W.heap.size (.agg #[.bool false, a, b]) (absQ (v - q)) 95) := fun W a b h1 h2 => ⟨false, _, _, ⟨_, _, rfl, h1, h2⟩, dig_lim _, dig_lim _, ZS.out.1, ZS.out.2, by rw [val_lim, val_lim]; exact qv_abs _⟩
    clear ZV ZS
    generalize absQ (v - q) = aq at *
    generalize v - q = dq at *
    generalize tenth D = tD at *
    generalize 10 ^ D = X at *
    cases DA
    · have E : Hid (NB = false) := by
        show _ = _
        rw [E0.out]
        rfl
      clear E0
      go_enter Tryz.func17, Tryz.ntmps17
      go_wp2_with fail
      go_fit (HH.out _)
      rintro e w3 ⟨rfl, rfl⟩
      clear hw2 HH
      go_wp2_with fail
      go_fit (HPA.out _)
      rintro e w4 ⟨v4, rfl, ⟨xn, xd, rfl, x1, x2⟩, hb4⟩
      obtain ⟨A5, k5, rfl, m5⟩ := nt_len x1
      obtain ⟨A6, k6, rfl, m6⟩ := nt_len x2
      replace HB := Lib.hid (HB.out.trans (hb4.mono HB.out.size))
      clear hb4 HPA x1 x2
      go_wp2_with fail
      have hal : Below w4.heap.size w4 (w4.alloc (.cells #[.bool (qS v), .slice A5 (lim (qN v)).length k5, .slice A6 (lim v.den).length k6] 25)) := (Below.refl _ _).alloc (Nat.le_refl _) _
      replace HB := Lib.hid (HB.out.trans (hal.mono HB.out.size))
      clear hal
      go_fit (HDI.out _)
      rintro e w5 ⟨rfl, rfl⟩
      clear HDI
      go_wp2_with fail
      go_ret
      exact ⟨by rw [E.out]; rfl, HB.out⟩
    · have E : Hid (NB = decide (aq ≤ tD)) := by
        show _ = _
        rw [E0.out]
        rfl
      clear E0
      generalize cmpQ aq tD = cz at *
      go_enter Tryz.func17, Tryz.ntmps17
      go_wp2_with fail
      go_fit (HH.out _)
      rintro e w3 ⟨rfl, rfl⟩
      clear hw2 HH
      go_wp2_with fail
      go_fit (HPA.out _)
      rintro e w4 ⟨v4, rfl, ⟨xn, xd, rfl, x1, x2⟩, hb4⟩
      obtain ⟨A5, k5, rfl, m5⟩ := nt_len x1
      obtain ⟨A6, k6, rfl, m6⟩ := nt_len x2
      replace HB := Lib.hid (HB.out.trans (hb4.mono HB.out.size))
      have B4 := Lib.hid (B0.out.below hb4 B0.out.lt)
      clear hb4 HPA B0
      go_wp2_with fail
      have hal : Below w4.heap.size w4 (w4.alloc (.cells #[.bool (qS v), .slice A5 (lim (qN v)).length k5, .slice A6 (lim v.den).length k6] 25)) := (Below.refl _ _).alloc (Nat.le_refl _) _
      replace HB := Lib.hid (HB.out.trans (hal.mono HB.out.size))
      have B5 := Lib.hid (B4.out.below hal B4.out.lt)
      have V5 := Lib.hid (Blk.new w4 25 #[.bool (qS v), .slice A5 (lim (qN v)).length k5, .slice A6 (lim v.den).length k6])
      have RV5 := Lib.hid (RQ.of ⟨_, _, rfl, (x1.low (Nat.zero_le _)).after hal, (x2.low (Nat.zero_le _)).after hal⟩ HZV.out)
      clear hal x1 x2 B4
      have c0 := B5.out.cell 0
      have c1 := B5.out.cell 1
      have c2 := B5.out.cell 2
      have d0 := V5.out.cell 0
      have d1 := V5.out.cell 1
      have d2 := V5.out.cell 2
      go_fit (HDI.out _)
      rintro e w5 ⟨rfl, rfl⟩
      clear HDI
      go_wp2_with fail
      go_fit (HS.out _ _ _ RV5.out (HQQ.out.after HB.out))
      rintro e w7 ⟨v7, rfl, ⟨yn, yd, rfl, y1, y2⟩, hb7⟩
      obtain ⟨A7, k7, rfl, m7⟩ := nt_len y1
      obtain ⟨A8, k8, rfl, m8⟩ := nt_len y2
      replace HB := Lib.hid (HB.out.trans (hb7.mono HB.out.size))
      clear hb7 HS c0 c1 c2 d0 d1 d2 B5 V5 RV5
      have b9 := Blk.new w7 25 #[.bool (qS dq), .slice A7 (lim (qN dq)).length k7, .slice A8 (lim dq.den).length k8]
      have hal : Below w7.heap.size w7 (w7.alloc (.cells #[.bool (qS dq), .slice A7 (lim (qN dq)).length k7, .slice A8 (lim dq.den).length k8] 25)) := (Below.refl _ _).alloc (Nat.le_refl _) _
      have hst : Below w7.heap.size w7 ((w7.alloc (.cells #[.bool (qS dq), .slice A7 (lim (qN dq)).length k7, .slice A8 (lim dq.den).length k8] 25)).setCell ⟨w7.heap.size, 0, none⟩ (.bool false)) := hal.setCell (p := ⟨w7.heap.size, 0, none⟩) (Nat.le_refl _) _
      have b10 : Blk ((w7.alloc (.cells #[.bool (qS dq), .slice A7 (lim (qN dq)).length k7, .slice A8 (lim dq.den).length k8] 25)).setCell ⟨w7.heap.size, 0, none⟩ (.bool false)) w7.heap.size 25 #[.bool false, .slice A7 (lim (qN dq)).length k7, .slice A8 (lim dq.den).length k8] := b9.put 0 _
      have R10 := Lib.hid (HRA.out _ _ _ ((y1.low (Nat.zero_le _)).after hst) ((y2.low (Nat.zero_le _)).after hst))
      replace HB := Lib.hid (HB.out.trans (hst.mono HB.out.size))
      have B10 := Lib.hid b10
      have r0 := b9.cell 0
      have f0 := b9.free 0
      clear y1 y2 hal hst b9 b10 HRA
      obtain ⟨w8, hw8⟩ : ∃ z, w7.alloc (.cells #[.bool (qS dq), .slice A7 (lim (qN dq)).length k7, .slice A8 (lim dq.den).length k8] 25) = z := ⟨_, rfl⟩
      rw [hw8] at HB B10 r0 f0 R10
      go_wp2_with fail
      generalize w8.setCell ⟨w7.heap.size, 0, none⟩ (.bool false) = w10 at *
      generalize w7.heap.size = g9 at *
      clear hw8 r0 f0
      have hg4 := B10.out.lt
      have hk5 : Below w10.heap.size w10 w10.drew := (Below.refl _ _).drew
      have c0 : w10.cell? ⟨g9, 0, none⟩ = some (.bool false) := B10.out.cell 0
      have c1 : w10.cell? ⟨g9, 1, none⟩ = some (.slice A7 (lim (qN dq)).length k7) := B10.out.cell 1
      have c2 : w10.cell? ⟨g9, 2, none⟩ = some (.slice A8 (lim dq.den).length k8) := B10.out.cell 2
      clear B10
      go_region_held3 (fun W => W.cell? ⟨g9, 0, none⟩ = some (.bool false) ∧ W.cell? ⟨g9, 1, none⟩ = some (.slice A7 (lim (qN dq)).length k7) ∧ W.cell? ⟨g9, 2, none⟩ = some (.slice A8 (lim dq.den).length k8))
        (with_reducible (first | exact s3_of hk7 c0 c1 c2 hg4 | exact s3_of hk6 c0 c1 c2 hg4 | exact s3_of hk5 c0 c1 c2 hg4 | fail))
        (first
          | (go_at_call 20; go_fit (HL.out _); rintro e w11 ⟨v11, rfl, x11, hb11⟩; have hk6 : Below w10.heap.size w10 w11 := Below.trans (Below.drew (Below.refl _ _)) hb11; have z11 := HT4.out _ _ _ x11)
          | (go_at_call 48; go_fit (HCMP.out _ _ _ (R10.out.after hk6) z11); rintro e w12 ⟨rfl, hb12⟩; have hk7 : Below w10.heap.size w10 w12 := hk6.trans (hb12.mono hk6.size))
          | fail)
      replace HB := Lib.hid (HB.out.trans (hk7.mono HB.out.size))
      clear hk5 hk6 hk7 hb11 hb12 z11 x11 c0 c1 c2
      go_wp2_with fail
      go_ret
      exact ⟨by rw [E.out, ← HCL.out]; rfl, HB.out⟩
end Go.Proofs.YtobmjcbjailclaaGreatDoor
