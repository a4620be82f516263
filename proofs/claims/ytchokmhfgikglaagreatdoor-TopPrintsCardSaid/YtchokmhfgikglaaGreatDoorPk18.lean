/- Several texts in one: RefParse3. Condition: each says its own. -/
import Derived.Test.YtchokmhfgikglaaGreatDoorPk5
import Derived.Test.YtchokmhfgikglaaGreatDoorPk16
import Derived.Test.YtchokmhfgikglaaGreatDoorPk17
namespace Go.Proofs.YtchokmhfgikglaaGreatDoor
set_option maxRecDepth 100000
open Go.RowKit Go.Lib

/-- What hands back a new number and a code. -/
def GivesC (q : Rat) (c : Int) (w : World) (e : Ending) (w' : World) : Prop :=
  ∃ v', e = .returned (.tuple #[v', .int .i64 c]) ∧ Rt w' w.heap.size w'.heap.size v' (qS q) (lim (qN q)) (lim q.den) ∧ Below w.heap.size w w'

/-- What the reference's Parse hands back. -/
def PostR (o : Option (Bool × Nat × Nat)) (w : World) (e : Ending) (w' : World) : Prop := match o with
  | some (neg, n, d) => GivesC (qv neg n d) 0 w e w'
  | none => GivesC 0 2 w e w'

theorem wb_zero {neg : Bool} {r : List Nat} (h : r.takeWhile isD = []) : wayB neg r = none := by unfold wayB; rw [if_pos h]
theorem wb_whole {neg : Bool} {r : List Nat} (h : r.takeWhile isD ≠ []) (h2 : r.dropWhile isD = []) : wayB neg r = some (neg, numD (r.takeWhile isD), 1) := by
  unfold wayB
  rw [if_neg h, h2]
theorem wb_bad {neg : Bool} {r t : List Nat} {c : Nat} (h2 : r.dropWhile isD = c :: t) (hc : (t.takeWhile isD).length = 0 ∨ (t.takeWhile isD).length ≠ t.length ∨ (c ≠ 46 ∧ c ≠ 47)) : wayB neg r = none := by
  unfold wayB
  by_cases h : r.takeWhile isD = []
  · rw [if_pos h]
  · rw [if_neg h, h2]
    simp only
    rw [if_pos hc]
theorem wb_div0 {neg : Bool} {r t : List Nat} (h2 : r.dropWhile isD = 47 :: t) (h0 : numD t = 0) : wayB neg r = none := by
  unfold wayB
  by_cases h : r.takeWhile isD = []
  · rw [if_pos h]
  · rw [if_neg h, h2]
    simp only
    by_cases hc : (t.takeWhile isD).length = 0 ∨ (t.takeWhile isD).length ≠ t.length ∨ ((47 : Nat) ≠ 46 ∧ (47 : Nat) ≠ 47)
    · rw [if_pos hc]
    · rw [if_neg hc]
      simp [h0]
theorem wb_div {neg : Bool} {r t : List Nat} (h : r.takeWhile isD ≠ []) (h2 : r.dropWhile isD = 47 :: t) (h3 : (t.takeWhile isD).length ≠ 0) (h4 : (t.takeWhile isD).length = t.length) (h0 : numD t ≠ 0) : wayB neg r = some (neg, numD (r.takeWhile isD), numD t) := by
  unfold wayB
  rw [if_neg h, h2]
  simp only
  rw [if_neg (by omega)]
  simp [h0]
theorem wb_dec {neg : Bool} {r t : List Nat} (h : r.takeWhile isD ≠ []) (h2 : r.dropWhile isD = 46 :: t) (h3 : (t.takeWhile isD).length ≠ 0) (h4 : (t.takeWhile isD).length = t.length) : wayB neg r = some (neg, numD (r.takeWhile isD) * 10 ^ t.length + numD t, 10 ^ t.length) := by
  unfold wayB
  rw [if_neg h, h2]
  simp only
  rw [if_neg (by omega)]
  simp

theorem okD_mk {l : List Nat} (h1 : 1 ≤ l.length) (h2 : l.length ≤ 400) (h3 : ∀ x ∈ l, isD x = true) : okD l = true := by
  unfold okD
  rw [decide_eq_true h1, decide_eq_true h2, List.all_eq_true.2 h3]
  rfl

theorem int_zero : qv false 0 1 = 0 := by unfold qv sg; decide


set_option maxHeartbeats 6400000 in
theorem refParse3_any (l : List Nat) (hl : Byt l) (h4 : l.length ≤ 400) (w : World) :
    Calls Tryz.prog 89 #[.string (strN l)] w (PostR (wayB (strp l).1 (strp l).2) w) := by
  obtain ⟨q0, hq0⟩ : ∃ q, (0 : Rat) = q := ⟨_, rfl⟩
  have HI0 : Hid (∀ W, Calls Tryz.prog 87 #[.int .i64 0] W (GivesF q0 W)) := fun W => by
    have := refInt_any 0 W (by omega)
    rw [int_zero, hq0] at this
    exact this
  have HQ := Lib.hid hq0
  clear hq0
  have b0 := Blk.new w 60 #[.bool false, .slice none 0 0, .slice none 0 0]
  have hB : Below w.heap.size w (w.alloc (.cells #[.bool false, .slice none 0 0, .slice none 0 0] 60)) := (Below.refl _ _).alloc (Nat.le_refl _) _
  obtain ⟨w2, hw2⟩ : ∃ z, w.alloc (.cells #[.bool false, .slice none 0 0, .slice none 0 0] 60) = z := ⟨_, rfl⟩
  rw [hw2] at b0 hB
  have hs := strN_size l
  have hbig : ¬ (400 : Int) < ((strN l).size : Int) := by omega
  have hrb := strp_byt hl
  have hr4 := Nat.le_trans (strp_len l) h4
  obtain ⟨neg, hneg⟩ : ∃ b, (strp l).1 = b := ⟨_, rfl⟩
  obtain ⟨r, hr⟩ : ∃ r, (strp l).2 = r := ⟨_, rfl⟩
  rw [hr] at hrb hr4
  rw [hneg, hr]
  obtain ⟨K, hK⟩ : ∃ K, (r.takeWhile isD).length = K := ⟨_, rfl⟩
  have HRUN : Hid (∀ W, Calls Tryz.prog 147 #[.string (strN r)] W fun e w' => e = .returned (.int .i64 (K : Int)) ∧ W = w') := fun W => by
    have := run_any r hrb (by omega) W
    rw [hK] at this
    exact this
  have hKr : K ≤ r.length := by rw [← hK]; exact tw_le _ _
  have htk : r.take K = r.takeWhile isD := by rw [← hK]; exact take_tw _ _
  have hdk : r.drop K = r.dropWhile isD := by rw [← hK]; exact drop_tw _ _
  have x1 : (strN r).extract 0 K = strN (r.takeWhile isD) := by rw [← htk]; exact strN_take _ _
  have x2 : (strN r).extract K (strN r).size = strN (r.dropWhile isD) := by rw [← hdk]; exact strN_drop _ _ _ (by rw [strN_size]; omega)
  have hsr := strN_size r
  clear htk hdk
  -- what the walk needs of the text that is handed in
  have hstart : l = [] ∧ neg = false ∧ r = [] ∨ (∃ h0 : 0 < (strN l).size, neg = true ∧ ((strN l)[0]'h0).toNat = 45 ∧ (strN l).extract 1 (strN l).size = strN r) ∨ (∃ h0 : 0 < (strN l).size, neg = false ∧ ((strN l)[0]'h0).toNat ≠ 45 ∧ r = l) := by
    cases l with
    | nil => exact Or.inl ⟨rfl, by rw [← hneg]; rfl, by rw [← hr]; rfl⟩
    | cons c t =>
      have h0 : 0 < (strN (c :: t)).size := by rw [hs]; simp
      have hg := strN_get (c :: t) hl 0 h0 (by simp)
      by_cases hc : c = 45
      · subst hc
        refine Or.inr (Or.inl ⟨h0, by rw [← hneg]; rfl, by rw [hg]; rfl, ?_⟩)
        have e : r = t := by rw [← hr]; rfl
        rw [e]
        exact strN_drop (45 :: t) 1 _ (by rw [hs]; exact Nat.le_refl _)
      · refine Or.inr (Or.inr ⟨h0, by rw [← hneg]; unfold strp; simp only; rw [if_neg hc], by rw [hg]; exact hc, by rw [← hr]; unfold strp; simp only; rw [if_neg hc]⟩)
  have hempty : ∀ h0 : 0 < (strN l).size, (strN l).toList.isEmpty = false ∧ ¬ (strN l).toList = [] := fun h0 => by
    have hem : (strN l).toList.isEmpty = false := by rw [isEmpty_size, decide_eq_false (by omega)]
    exact ⟨hem, fun h => by rw [h] at hem; cases hem⟩
  have HEMP := Lib.hid hempty
  clear hempty hl hs hneg hr
  by_cases hK0 : K = 0
  · have HW : Hid (wayB neg r = none) := wb_zero (List.eq_nil_of_length_eq_zero (by omega))
    subst hK0
    clear hrb hr4 hK h4
    generalize strN (r.takeWhile isD) = t6 at *
    generalize strN (r.dropWhile isD) = t7 at *
    rcases hstart with ⟨rfl, rfl, rfl⟩ | ⟨h0, rfl, h45, hx⟩ | ⟨h0, rfl, h45, rfl⟩
    · have e : strN [] = ⟨#[]⟩ := rfl
      rw [e] at *
      clear HEMP hsr e
      go_enter Tryz.func89, Tryz.ntmps89
      go_wp2_with fail
      clear hw2
      go_fit (HRUN.out _)
      rintro e w3 ⟨rfl, rfl⟩
      clear HRUN
      go_wp2_with fail
      go_quiet (fail)
      replace hB : Below w.heap.size w (w2.drewN nq) := below_drewN hB _
      replace b0 : Blk (w2.drewN nq) w.heap.size 60 #[.bool false, .slice none 0 0, .slice none 0 0] := b0
      generalize w2.drewN nq = w3 at *
      go_wp2_with fail
      go_fit (HI0.out _)
      rintro e w8 ⟨v8, rfl, ⟨an, ad, rfl, han, had⟩, hb⟩
      have lw := b0.lt
      replace hB := hB.trans (hb.mono hB.size)
      replace b0 := b0.below hb b0.lt
      replace han := han.low (show w.heap.size + 1 ≤ _ from lw)
      replace had := had.low (show w.heap.size + 1 ≤ _ from lw)
      obtain ⟨A8, c8, rfl, m8⟩ := nt_len han
      obtain ⟨A9, c9, rfl, m9⟩ := nt_len had
      obtain ⟨e0, e1, e2, hR, hBf⟩ := store3 b0 hB (Nat.le_refl _) (qS (q0)) (.slice A8 (lim (qN (q0))).length c8) (.slice A9 (lim (Rat.den (q0))).length c9) han had
      have r0 := b0.cell 0
      have r1 := b0.cell 1
      have r2 := b0.cell 2
      have f0 := b0.free 0
      have f1 := b0.free 1
      have f2 := b0.free 2
      have HRR := Lib.hid hR
      have HBF := Lib.hid hBf
      clear han had hR hBf hb hB b0 lw
      unfold St3 at *
      go_wp2_with fail
      clear r0 r1 r2 f0 f1 f2
      generalize ((World.setCell w8 ⟨w.heap.size, 0, none⟩ (.bool (qS (q0)))).setCell ⟨w.heap.size, 1, none⟩ (.slice A8 (lim (qN (q0))).length c8)).setCell ⟨w.heap.size, 2, none⟩ (.slice A9 (lim (Rat.den (q0))).length c9) = wz at *
      refine bodyPost_ret (v := .tuple #[.agg #[.bool (qS (q0)), .slice A8 (lim (qN (q0))).length c8, .slice A9 (lim (Rat.den (q0))).length c9], .int .i64 2]) ?_ rfl (by show PostR _ _ _ _; rw [HW.out]; show GivesC _ _ _ _ _; rw [HQ.out]; exact ⟨_, rfl, HRR.out, HBF.out⟩)
      simp [results, Tryz.results89, go_sem, e0, e1, e2]
    · obtain ⟨hem, hnl⟩ := HEMP.out h0
      have hb45 : ((((strN l)[0]'h0).toNat : Int) == 45) = true := beq_iff_eq.2 (by omega)
      have hle : (1 : Int) ≤ ((strN l).size : Int) := by omega
      clear HEMP h45 hsr
      generalize strN r = tr at *
      generalize strN l = tl at *
      go_enter Tryz.func89, Tryz.ntmps89
      go_wp2_with fail
      clear hw2
      go_fit (HRUN.out _)
      rintro e w3 ⟨rfl, rfl⟩
      clear HRUN
      go_wp2_with fail
      go_quiet (fail)
      replace hB : Below w.heap.size w (w2.drewN nq) := below_drewN hB _
      replace b0 : Blk (w2.drewN nq) w.heap.size 60 #[.bool false, .slice none 0 0, .slice none 0 0] := b0
      generalize w2.drewN nq = w3 at *
      go_wp2_with fail
      go_fit (HI0.out _)
      rintro e w8 ⟨v8, rfl, ⟨an, ad, rfl, han, had⟩, hb⟩
      have lw := b0.lt
      replace hB := hB.trans (hb.mono hB.size)
      replace b0 := b0.below hb b0.lt
      replace han := han.low (show w.heap.size + 1 ≤ _ from lw)
      replace had := had.low (show w.heap.size + 1 ≤ _ from lw)
      obtain ⟨A8, c8, rfl, m8⟩ := nt_len han
      obtain ⟨A9, c9, rfl, m9⟩ := nt_len had
      obtain ⟨e0, e1, e2, hR, hBf⟩ := store3 b0 hB (Nat.le_refl _) (qS (q0)) (.slice A8 (lim (qN (q0))).length c8) (.slice A9 (lim (Rat.den (q0))).length c9) han had
      have r0 := b0.cell 0
      have r1 := b0.cell 1
      have r2 := b0.cell 2
      have f0 := b0.free 0
      have f1 := b0.free 1
      have f2 := b0.free 2
      have HRR := Lib.hid hR
      have HBF := Lib.hid hBf
      clear han had hR hBf hb hB b0 lw
      unfold St3 at *
      go_wp2_with fail
      clear r0 r1 r2 f0 f1 f2
      generalize ((World.setCell w8 ⟨w.heap.size, 0, none⟩ (.bool (qS (q0)))).setCell ⟨w.heap.size, 1, none⟩ (.slice A8 (lim (qN (q0))).length c8)).setCell ⟨w.heap.size, 2, none⟩ (.slice A9 (lim (Rat.den (q0))).length c9) = wz at *
      refine bodyPost_ret (v := .tuple #[.agg #[.bool (qS (q0)), .slice A8 (lim (qN (q0))).length c8, .slice A9 (lim (Rat.den (q0))).length c9], .int .i64 2]) ?_ rfl (by show PostR _ _ _ _; rw [HW.out]; show GivesC _ _ _ _ _; rw [HQ.out]; exact ⟨_, rfl, HRR.out, HBF.out⟩)
      simp [results, Tryz.results89, go_sem, e0, e1, e2]
    · obtain ⟨hem, hnl⟩ := HEMP.out h0
      have hb45 : ((((strN r)[0]'h0).toNat : Int) == 45) = false := beq_eq_false_iff_ne.2 (by omega)
      clear HEMP h45 hsr
      generalize strN r = tr at *
      go_enter Tryz.func89, Tryz.ntmps89
      go_wp2_with fail
      clear hw2
      go_fit (HRUN.out _)
      rintro e w3 ⟨rfl, rfl⟩
      clear HRUN
      go_wp2_with fail
      go_quiet (fail)
      replace hB : Below w.heap.size w (w2.drewN nq) := below_drewN hB _
      replace b0 : Blk (w2.drewN nq) w.heap.size 60 #[.bool false, .slice none 0 0, .slice none 0 0] := b0
      generalize w2.drewN nq = w3 at *
      go_wp2_with fail
      go_fit (HI0.out _)
      rintro e w8 ⟨v8, rfl, ⟨an, ad, rfl, han, had⟩, hb⟩
      have lw := b0.lt
      replace hB := hB.trans (hb.mono hB.size)
      replace b0 := b0.below hb b0.lt
      replace han := han.low (show w.heap.size + 1 ≤ _ from lw)
      replace had := had.low (show w.heap.size + 1 ≤ _ from lw)
      obtain ⟨A8, c8, rfl, m8⟩ := nt_len han
      obtain ⟨A9, c9, rfl, m9⟩ := nt_len had
      obtain ⟨e0, e1, e2, hR, hBf⟩ := store3 b0 hB (Nat.le_refl _) (qS (q0)) (.slice A8 (lim (qN (q0))).length c8) (.slice A9 (lim (Rat.den (q0))).length c9) han had
      have r0 := b0.cell 0
      have r1 := b0.cell 1
      have r2 := b0.cell 2
      have f0 := b0.free 0
      have f1 := b0.free 1
      have f2 := b0.free 2
      have HRR := Lib.hid hR
      have HBF := Lib.hid hBf
      clear han had hR hBf hb hB b0 lw
      unfold St3 at *
      go_wp2_with fail
      clear r0 r1 r2 f0 f1 f2
      generalize ((World.setCell w8 ⟨w.heap.size, 0, none⟩ (.bool (qS (q0)))).setCell ⟨w.heap.size, 1, none⟩ (.slice A8 (lim (qN (q0))).length c8)).setCell ⟨w.heap.size, 2, none⟩ (.slice A9 (lim (Rat.den (q0))).length c9) = wz at *
      refine bodyPost_ret (v := .tuple #[.agg #[.bool (qS (q0)), .slice A8 (lim (qN (q0))).length c8, .slice A9 (lim (Rat.den (q0))).length c9], .int .i64 2]) ?_ rfl (by show PostR _ _ _ _; rw [HW.out]; show GivesC _ _ _ _ _; rw [HQ.out]; exact ⟨_, rfl, HRR.out, HBF.out⟩)
      simp [results, Tryz.results89, go_sem, e0, e1, e2]
  · have hKI : ((K : Int) == 0) = false := beq_eq_false_iff_ne.2 (by omega)
    have hKs : (K : Int) ≤ ((strN r).size : Int) := by omega
    have hK00 : (0 : Int) ≤ (K : Int) := by omega
    obtain ⟨wh, hwh⟩ : ∃ z, r.takeWhile isD = z := ⟨_, rfl⟩
    obtain ⟨re, hre⟩ : ∃ z, r.dropWhile isD = z := ⟨_, rfl⟩
    have hwl : wh.length = K := by rw [← hwh]; exact hK
    have hwr : wh.length + re.length = r.length := by
      have := congrArg List.length (List.takeWhile_append_dropWhile (p := isD) (l := r))
      rw [List.length_append, hwh, hre] at this
      exact this
    have hwb : Byt wh := fun x hx => hrb x (by rw [← hwh] at hx; exact tw_mem r hx)
    have hrb2 : Byt re := fun x hx => hrb x (by rw [← hre] at hx; exact (List.dropWhile_sublist isD (l := r)).subset hx)
    have hwok : okD wh = true := okD_mk (by omega) (by omega) fun x hx => by rw [← hwh] at hx; exact mem_tw r hx
    have hwne : r.takeWhile isD ≠ [] := fun hc => by
      rw [hwh] at hc
      rw [hc] at hwl
      simp at hwl
      omega
    have HPW : Hid (∀ W, Calls Tryz.prog 148 #[.string (strN wh)] W (GivesB (lim (numD wh)) true W)) := fun W => by
      have := refParse_l wh hwb W
      rw [hwok, if_pos rfl] at this
      exact this
    have lwh := numD_len hwok
    rw [hwh] at x1
    rw [hre] at x2
    have hne : 0 < (strN l).size ∧ (∀ h0 : 0 < (strN l).size, neg = true ∧ ((strN l)[0]'h0).toNat = 45 ∧ (strN l).extract 1 (strN l).size = strN r ∨ neg = false ∧ ((strN l)[0]'h0).toNat ≠ 45 ∧ r = l) := by
      rcases hstart with ⟨_, _, rfl⟩ | ⟨h0, h1⟩ | ⟨h0, h1⟩
      · exfalso
        have : K ≤ ([] : List Nat).length := hKr
        simp at this
        omega
      · exact ⟨h0, fun _ => Or.inl h1⟩
      · exact ⟨h0, fun _ => Or.inr h1⟩
    obtain ⟨h0, hst⟩ := hne
    replace hst := hst h0
    obtain ⟨hem, hnl⟩ := HEMP.out h0
    clear hstart HEMP hKr hK hrb hsr h4
    rcases hre2 : re with _ | ⟨c, t⟩
    · -- nothing behind the digits
      have HW : Hid (wayB neg r = some (neg, numD wh, 1)) := by
        have := wb_whole (neg := neg) hwne (by rw [hre, hre2])
        rw [hwh] at this
        exact this
      rw [hre2] at x2
      have x2' : (strN r).extract K (strN r).size = ⟨#[]⟩ := x2
      obtain ⟨q1, hq1⟩ : ∃ q, qv neg (numD wh) 1 = q := ⟨_, rfl⟩
      have HOF : Hid (∀ (vn vd : Value) (W : World), Nt W 0 W.heap.size vn (lim (numD wh)) → Nt W 0 W.heap.size vd [1] → Calls Tryz.prog 145 #[.bool neg, vn, vd] W (GivesF q1 W)) := fun vn vd W h1 h2 => by
        have := ratOf_q neg vn vd (lim (numD wh)) [1] W (dig_lim _) (by intro x hx; simp at hx; omega) h1 h2 (Nat.le_trans lwh (by omega)) (by simp)
        rw [val_lim, show val [1] = 1 from rfl, hq1] at this
        exact this
      replace HQ := Lib.hid hq1
      clear hq1 x2 HI0 hr4 hwr hwb hrb2 hwok hwne hwl hre hre2 hwh
      generalize numD wh = nw at *
      generalize strN wh = t6 at *
      rcases hst with ⟨rfl, h45, hx⟩ | ⟨rfl, h45, rfl⟩
      · have hb45 : ((((strN l)[0]'h0).toNat : Int) == 45) = true := beq_iff_eq.2 (by omega)
        have hle : (1 : Int) ≤ ((strN l).size : Int) := by omega
        clear h45
        generalize strN r = tr at *
        generalize strN l = tl at *
        go_enter Tryz.func89, Tryz.ntmps89
        go_wp2_with fail
        clear hw2
        go_fit (HRUN.out _)
        rintro e w3 ⟨rfl, rfl⟩
        clear HRUN
        go_wp2_with fail
        go_quiet (fail)
        replace hB : Below w.heap.size w (w2.drewN nq) := below_drewN hB _
        replace b0 : Blk (w2.drewN nq) w.heap.size 60 #[.bool false, .slice none 0 0, .slice none 0 0] := b0
        generalize w2.drewN nq = w3 at *
        go_wp2_with fail
        go_fit (HPW.out _)
        rintro e w4 ⟨v4, rfl, h4, hb⟩
        replace h4 := h4.low (Nat.zero_le _)
        replace hB := hB.trans (hb.mono hB.size)
        replace b0 := b0.below hb b0.lt
        clear hb HPW
        obtain ⟨h5, hb5⟩ := nt_laid w4 122 [1] (by simp)
        have h4' := (h4.alloc (Nat.le_refl _) (.cells #[.int .u32 1] 122)).up (B' := (w4.alloc (.cells #[.int .u32 1] 122)).heap.size) (by simp)
        replace b0 := b0.alloc (.cells #[.int .u32 1] 122)
        replace hB := hB.trans (hb5.mono hB.size)
        clear h4 hb5
        go_wp2_with fail
        go_fit (HOF.out _ _ _ h4' h5)
        rintro e w8 ⟨v8, rfl, ⟨an, ad, rfl, han, had⟩, hb⟩
        have lw := b0.lt
        replace hB := hB.trans (hb.mono hB.size)
        replace b0 := b0.below hb b0.lt
        replace han := han.low (show w.heap.size + 1 ≤ _ from lw)
        replace had := had.low (show w.heap.size + 1 ≤ _ from lw)
        obtain ⟨A8, c8, rfl, m8⟩ := nt_len han
        obtain ⟨A9, c9, rfl, m9⟩ := nt_len had
        obtain ⟨e0, e1, e2, hR, hBf⟩ := store3 b0 hB (Nat.le_refl _) (qS (q1)) (.slice A8 (lim (qN (q1))).length c8) (.slice A9 (lim (Rat.den (q1))).length c9) han had
        have r0 := b0.cell 0
        have r1 := b0.cell 1
        have r2 := b0.cell 2
        have f0 := b0.free 0
        have f1 := b0.free 1
        have f2 := b0.free 2
        have HRR := Lib.hid hR
        have HBF := Lib.hid hBf
        clear han had hR hBf hb hB b0 lw
        unfold St3 at *
        go_wp2_with fail
        clear r0 r1 r2 f0 f1 f2
        generalize ((World.setCell w8 ⟨w.heap.size, 0, none⟩ (.bool (qS (q1)))).setCell ⟨w.heap.size, 1, none⟩ (.slice A8 (lim (qN (q1))).length c8)).setCell ⟨w.heap.size, 2, none⟩ (.slice A9 (lim (Rat.den (q1))).length c9) = wz at *
        refine bodyPost_ret (v := .tuple #[.agg #[.bool (qS (q1)), .slice A8 (lim (qN (q1))).length c8, .slice A9 (lim (Rat.den (q1))).length c9], .int .i64 0]) ?_ rfl (by show PostR _ _ _ _; rw [HW.out]; show GivesC _ _ _ _ _; rw [HQ.out]; exact ⟨_, rfl, HRR.out, HBF.out⟩)
        simp [results, Tryz.results89, go_sem, e0, e1, e2]
      · have hb45 : ((((strN r)[0]'h0).toNat : Int) == 45) = false := beq_eq_false_iff_ne.2 (by omega)
        clear h45
        generalize strN r = tr at *
        go_enter Tryz.func89, Tryz.ntmps89
        go_wp2_with fail
        clear hw2
        go_fit (HRUN.out _)
        rintro e w3 ⟨rfl, rfl⟩
        clear HRUN
        go_wp2_with fail
        go_quiet (fail)
        replace hB : Below w.heap.size w (w2.drewN nq) := below_drewN hB _
        replace b0 : Blk (w2.drewN nq) w.heap.size 60 #[.bool false, .slice none 0 0, .slice none 0 0] := b0
        generalize w2.drewN nq = w3 at *
        go_wp2_with fail
        go_fit (HPW.out _)
        rintro e w4 ⟨v4, rfl, h4, hb⟩
        replace h4 := h4.low (Nat.zero_le _)
        replace hB := hB.trans (hb.mono hB.size)
        replace b0 := b0.below hb b0.lt
        clear hb HPW
        obtain ⟨h5, hb5⟩ := nt_laid w4 122 [1] (by simp)
        have h4' := (h4.alloc (Nat.le_refl _) (.cells #[.int .u32 1] 122)).up (B' := (w4.alloc (.cells #[.int .u32 1] 122)).heap.size) (by simp)
        replace b0 := b0.alloc (.cells #[.int .u32 1] 122)
        replace hB := hB.trans (hb5.mono hB.size)
        clear h4 hb5
        go_wp2_with fail
        go_fit (HOF.out _ _ _ h4' h5)
        rintro e w8 ⟨v8, rfl, ⟨an, ad, rfl, han, had⟩, hb⟩
        have lw := b0.lt
        replace hB := hB.trans (hb.mono hB.size)
        replace b0 := b0.below hb b0.lt
        replace han := han.low (show w.heap.size + 1 ≤ _ from lw)
        replace had := had.low (show w.heap.size + 1 ≤ _ from lw)
        obtain ⟨A8, c8, rfl, m8⟩ := nt_len han
        obtain ⟨A9, c9, rfl, m9⟩ := nt_len had
        obtain ⟨e0, e1, e2, hR, hBf⟩ := store3 b0 hB (Nat.le_refl _) (qS (q1)) (.slice A8 (lim (qN (q1))).length c8) (.slice A9 (lim (Rat.den (q1))).length c9) han had
        have r0 := b0.cell 0
        have r1 := b0.cell 1
        have r2 := b0.cell 2
        have f0 := b0.free 0
        have f1 := b0.free 1
        have f2 := b0.free 2
        have HRR := Lib.hid hR
        have HBF := Lib.hid hBf
        clear han had hR hBf hb hB b0 lw
        unfold St3 at *
        go_wp2_with fail
        clear r0 r1 r2 f0 f1 f2
        generalize ((World.setCell w8 ⟨w.heap.size, 0, none⟩ (.bool (qS (q1)))).setCell ⟨w.heap.size, 1, none⟩ (.slice A8 (lim (qN (q1))).length c8)).setCell ⟨w.heap.size, 2, none⟩ (.slice A9 (lim (Rat.den (q1))).length c9) = wz at *
        refine bodyPost_ret (v := .tuple #[.agg #[.bool (qS (q1)), .slice A8 (lim (qN (q1))).length c8, .slice A9 (lim (Rat.den (q1))).length c9], .int .i64 0]) ?_ rfl (by show PostR _ _ _ _; rw [HW.out]; show GivesC _ _ _ _ _; rw [HQ.out]; exact ⟨_, rfl, HRR.out, HBF.out⟩)
        simp [results, Tryz.results89, go_sem, e0, e1, e2]
    · have hre3 : (c :: t).length = t.length + 1 := rfl
      have hcb : c < 256 := hrb2 c (by rw [hre2]; simp)
      have htb : Byt t := fun x hx => hrb2 x (by rw [hre2]; simp [hx])
      have ht4 : t.length + 1 ≤ 400 := by rw [hre2] at hwr; simp at hwr; omega
      have hs7 := strN_size (c :: t)
      have h07 : 0 < (strN (c :: t)).size := by rw [hs7]; simp
      have hg7 : ((strN (c :: t))[0]'h07).toNat = c := strN_get (c :: t) (fun x hx => hrb2 x (by rw [hre2]; exact hx)) 0 h07 (by simp)
      have hem7 : (strN (c :: t)).toList.isEmpty = false := by rw [isEmpty_size, decide_eq_false (by omega)]
      have hnl7 : ¬ (strN (c :: t)).toList = [] := fun h => by rw [h] at hem7; cases hem7
      have hle7 : (1 : Int) ≤ ((strN (c :: t)).size : Int) := by omega
      have hx7 : (strN (c :: t)).extract 1 (strN (c :: t)).size = strN t := strN_drop (c :: t) 1 _ (by rw [hs7]; exact Nat.le_refl _)
      have hz7 : ((strN (c :: t)).size : Int) = (t.length : Int) + 1 := by rw [hs7, hre3]; omega
      obtain ⟨m, hm⟩ : ∃ m, (t.takeWhile isD).length = m := ⟨_, rfl⟩
      have HRUN2 : Hid (∀ W, Calls Tryz.prog 147 #[.string (strN t)] W fun e w' => e = .returned (.int .i64 (m : Int)) ∧ W = w') := fun W => by
        have := run_any t htb (by omega) W
        rw [hm] at this
        exact this
      have hml : m ≤ t.length := by rw [← hm]; exact tw_le _ _
      have hdw : r.dropWhile isD = c :: t := by rw [hre, hre2]
      rw [hre2] at x2
      have HG7 := Lib.hid hg7
      have HZ7 := Lib.hid hz7
      clear hg7 hs7 hz7 hre3 hre2 hwr hwb hrb2
      by_cases m0 : m = 0
      · have HW : Hid (wayB neg r = none) := wb_bad hdw (Or.inl (by omega))
        have hm0 : ((m : Int) == 0) = true := beq_iff_eq.2 (by omega)
        clear hdw hwok hwne hre hwh hm m0 hml lwh hwl htb ht4 hcb HZ7 HG7 hr4
        generalize numD wh = nw at *
        generalize strN wh = t6 at *
        generalize strN (c :: t) = t7 at *
        generalize strN t = t8 at *
        rcases hst with ⟨rfl, h45, hx⟩ | ⟨rfl, h45, rfl⟩
        · have hb45 : ((((strN l)[0]'h0).toNat : Int) == 45) = true := beq_iff_eq.2 (by omega)
          have hle : (1 : Int) ≤ ((strN l).size : Int) := by omega
          clear h45
          generalize strN r = tr at *
          generalize strN l = tl at *
          go_enter Tryz.func89, Tryz.ntmps89
          go_wp2_with fail
          clear hw2
          go_fit (HRUN.out _)
          rintro e w3 ⟨rfl, rfl⟩
          clear HRUN
          go_wp2_with fail
          go_quiet (fail)
          replace hB : Below w.heap.size w (w2.drewN nq) := below_drewN hB _
          replace b0 : Blk (w2.drewN nq) w.heap.size 60 #[.bool false, .slice none 0 0, .slice none 0 0] := b0
          generalize w2.drewN nq = w3 at *
          go_wp2_with fail
          go_fit (HPW.out _)
          rintro e w4 ⟨v4, rfl, h4, hb⟩
          replace h4 := h4.low (Nat.zero_le _)
          replace hB := hB.trans (hb.mono hB.size)
          replace b0 := b0.below hb b0.lt
          clear hb HPW
          go_wp2_with fail
          go_fit (HRUN2.out _)
          rintro e w5 ⟨rfl, rfl⟩
          clear HRUN2
          go_wp2_with fail
          go_fit (HI0.out _)
          rintro e w8 ⟨v8, rfl, ⟨an, ad, rfl, han, had⟩, hb⟩
          have lw := b0.lt
          replace hB := hB.trans (hb.mono hB.size)
          replace b0 := b0.below hb b0.lt
          replace han := han.low (show w.heap.size + 1 ≤ _ from lw)
          replace had := had.low (show w.heap.size + 1 ≤ _ from lw)
          obtain ⟨A8, c8, rfl, m8⟩ := nt_len han
          obtain ⟨A9, c9, rfl, m9⟩ := nt_len had
          obtain ⟨e0, e1, e2, hR, hBf⟩ := store3 b0 hB (Nat.le_refl _) (qS (q0)) (.slice A8 (lim (qN (q0))).length c8) (.slice A9 (lim (Rat.den (q0))).length c9) han had
          have r0 := b0.cell 0
          have r1 := b0.cell 1
          have r2 := b0.cell 2
          have f0 := b0.free 0
          have f1 := b0.free 1
          have f2 := b0.free 2
          have HRR := Lib.hid hR
          have HBF := Lib.hid hBf
          clear han had hR hBf hb hB b0 lw
          unfold St3 at *
          go_wp2_with fail
          clear r0 r1 r2 f0 f1 f2
          generalize ((World.setCell w8 ⟨w.heap.size, 0, none⟩ (.bool (qS (q0)))).setCell ⟨w.heap.size, 1, none⟩ (.slice A8 (lim (qN (q0))).length c8)).setCell ⟨w.heap.size, 2, none⟩ (.slice A9 (lim (Rat.den (q0))).length c9) = wz at *
          refine bodyPost_ret (v := .tuple #[.agg #[.bool (qS (q0)), .slice A8 (lim (qN (q0))).length c8, .slice A9 (lim (Rat.den (q0))).length c9], .int .i64 2]) ?_ rfl (by show PostR _ _ _ _; rw [HW.out]; show GivesC _ _ _ _ _; rw [HQ.out]; exact ⟨_, rfl, HRR.out, HBF.out⟩)
          simp [results, Tryz.results89, go_sem, e0, e1, e2]
        · have hb45 : ((((strN r)[0]'h0).toNat : Int) == 45) = false := beq_eq_false_iff_ne.2 (by omega)
          clear h45
          generalize strN r = tr at *
          go_enter Tryz.func89, Tryz.ntmps89
          go_wp2_with fail
          clear hw2
          go_fit (HRUN.out _)
          rintro e w3 ⟨rfl, rfl⟩
          clear HRUN
          go_wp2_with fail
          go_quiet (fail)
          replace hB : Below w.heap.size w (w2.drewN nq) := below_drewN hB _
          replace b0 : Blk (w2.drewN nq) w.heap.size 60 #[.bool false, .slice none 0 0, .slice none 0 0] := b0
          generalize w2.drewN nq = w3 at *
          go_wp2_with fail
          go_fit (HPW.out _)
          rintro e w4 ⟨v4, rfl, h4, hb⟩
          replace h4 := h4.low (Nat.zero_le _)
          replace hB := hB.trans (hb.mono hB.size)
          replace b0 := b0.below hb b0.lt
          clear hb HPW
          go_wp2_with fail
          go_fit (HRUN2.out _)
          rintro e w5 ⟨rfl, rfl⟩
          clear HRUN2
          go_wp2_with fail
          go_fit (HI0.out _)
          rintro e w8 ⟨v8, rfl, ⟨an, ad, rfl, han, had⟩, hb⟩
          have lw := b0.lt
          replace hB := hB.trans (hb.mono hB.size)
          replace b0 := b0.below hb b0.lt
          replace han := han.low (show w.heap.size + 1 ≤ _ from lw)
          replace had := had.low (show w.heap.size + 1 ≤ _ from lw)
          obtain ⟨A8, c8, rfl, m8⟩ := nt_len han
          obtain ⟨A9, c9, rfl, m9⟩ := nt_len had
          obtain ⟨e0, e1, e2, hR, hBf⟩ := store3 b0 hB (Nat.le_refl _) (qS (q0)) (.slice A8 (lim (qN (q0))).length c8) (.slice A9 (lim (Rat.den (q0))).length c9) han had
          have r0 := b0.cell 0
          have r1 := b0.cell 1
          have r2 := b0.cell 2
          have f0 := b0.free 0
          have f1 := b0.free 1
          have f2 := b0.free 2
          have HRR := Lib.hid hR
          have HBF := Lib.hid hBf
          clear han had hR hBf hb hB b0 lw
          unfold St3 at *
          go_wp2_with fail
          clear r0 r1 r2 f0 f1 f2
          generalize ((World.setCell w8 ⟨w.heap.size, 0, none⟩ (.bool (qS (q0)))).setCell ⟨w.heap.size, 1, none⟩ (.slice A8 (lim (qN (q0))).length c8)).setCell ⟨w.heap.size, 2, none⟩ (.slice A9 (lim (Rat.den (q0))).length c9) = wz at *
          refine bodyPost_ret (v := .tuple #[.agg #[.bool (qS (q0)), .slice A8 (lim (qN (q0))).length c8, .slice A9 (lim (Rat.den (q0))).length c9], .int .i64 2]) ?_ rfl (by show PostR _ _ _ _; rw [HW.out]; show GivesC _ _ _ _ _; rw [HQ.out]; exact ⟨_, rfl, HRR.out, HBF.out⟩)
          simp [results, Tryz.results89, go_sem, e0, e1, e2]
      · have hm0 : ((m : Int) == 0) = false := beq_eq_false_iff_ne.2 (by omega)
        by_cases m1 : m = t.length
        · have hmne : ((m : Int) != ((strN (c :: t)).size : Int) - 1) = false := bne_false (by have := HZ7.out; omega)
          have hmneq : ((strN (c :: t)).size : Int) - 1 = (m : Int) := by have := HZ7.out; omega
          have hup7 : ((strN (c :: t)).size : Int) ≤ 400 := by have := HZ7.out; omega
          have hmt : (t.takeWhile isD).length ≠ 0 := by omega
          have hmt2 : (t.takeWhile isD).length = t.length := by omega
          have htok : okD t = true := okD_mk (by omega) (by omega) fun x hx => List.all_eq_true.1 ((tw_all t).1 hmt2) x hx
          have hgi : ((((strN (c :: t))[0]'h07).toNat : Nat) : Int) = (c : Int) := by rw [HG7.out]
          by_cases c46 : c = 46
          · subst c46
            have i46 : (((((strN (46 :: t))[0]'h07).toNat : Nat) : Int) != 46) = false := bne_false (by omega)
            have i46' : ((((strN (46 :: t))[0]'h07).toNat : Nat) : Int) = 46 := by omega
            have i47 : (((((strN (46 :: t))[0]'h07).toNat : Nat) : Int) == 47) = false := beq_eq_false_iff_ne.2 (by omega)
            have HW : Hid (wayB neg r = some (neg, numD wh * 10 ^ t.length + numD t, 10 ^ t.length)) := by
              have := wb_dec (neg := neg) hwne hdw hmt hmt2
              rw [hwh] at this
              exact this
            have hwr2 : wh.length + t.length + 1 ≤ 400 := by
              have := congrArg List.length (List.takeWhile_append_dropWhile (p := isD) (l := r))
              rw [List.length_append, hwh, hdw, List.length_cons] at this
              omega
            have hnt : (lim (numD wh * 10 ^ t.length + numD t)).length ≤ 400 := by
              rw [← numD_append]
              refine numD_len (okD_mk (by rw [List.length_append]; omega) (by rw [List.length_append]; omega) fun x hx => ?_)
              rcases List.mem_append.1 hx with h | h
              · rw [← hwh] at h; exact mem_tw r h
              · exact List.all_eq_true.1 ((tw_all t).1 hmt2) x h
            have hnm : (lim (numD wh * 10 ^ t.length)).length ≤ 400 := Nat.le_trans (lim_len_mono (Nat.le_add_right _ _)) hnt
            have lte : (lim (10 ^ t.length)).length ≤ 400 := lim_ten (l := t.length + 1) (Nat.pow_lt_pow_right (by omega) (by omega)) (by omega)
            have lnt := numD_len htok
            have HPT : Hid (∀ W, Calls Tryz.prog 148 #[.string (strN t)] W (GivesB (lim (numD t)) true W)) := fun W => by
              have := refParse_l t htb W
              rw [htok, if_pos rfl] at this
              exact this
            have HTEN : Hid (∀ W, Calls Tryz.prog 149 #[.int .i64 (m : Int)] W (Gives (lim (10 ^ t.length)) W)) := fun W => by rw [m1]; exact refTen3_any t.length W (by omega)
            obtain ⟨q1, hq1⟩ : ∃ q, qv neg (numD wh * 10 ^ t.length + numD t) (10 ^ t.length) = q := ⟨_, rfl⟩
            have HMU : Hid (∀ (u v : Value) (W : World), Nt W 0 W.heap.size u (lim (numD wh)) → Nt W 0 W.heap.size v (lim (10 ^ t.length)) → Calls Tryz.prog 151 #[u, v] W (Gives (lim (numD wh * 10 ^ t.length)) W)) := fun u v W h1 h2 => by
              have := refMul_any u v _ _ W (dig_lim (numD wh)) (dig_lim (10 ^ t.length)) h1 h2 (by omega) (by omega)
              rw [val_lim, val_lim] at this
              exact this
            have HAD : Hid (∀ (u v : Value) (W : World), Nt W 0 W.heap.size u (lim (numD wh * 10 ^ t.length)) → Nt W 0 W.heap.size v (lim (numD t)) → Calls Tryz.prog 150 #[u, v] W (Gives (lim (numD wh * 10 ^ t.length + numD t)) W)) := fun u v W h1 h2 => by
              have := refAdd_any u v _ _ W (dig_lim (numD wh * 10 ^ t.length)) (dig_lim (numD t)) h1 h2 (by omega) (by omega)
              rw [val_lim, val_lim] at this
              exact this
            have HOF : Hid (∀ (vn vd : Value) (W : World), Nt W 0 W.heap.size vn (lim (numD wh * 10 ^ t.length + numD t)) → Nt W 0 W.heap.size vd (lim (10 ^ t.length)) → Calls Tryz.prog 145 #[.bool neg, vn, vd] W (GivesF q1 W)) := fun vn vd W h1 h2 => by
              have := ratOf_q neg vn vd _ _ W (dig_lim (numD wh * 10 ^ t.length + numD t)) (dig_lim (10 ^ t.length)) h1 h2 (Nat.le_trans hnt (by omega)) (Nat.le_trans lte (by omega))
              rw [val_lim, val_lim, hq1] at this
              exact this
            replace HQ := Lib.hid hq1
            clear hdw hwok hwne hre hwh hm m1 hml lwh hwl htb ht4 hcb HZ7 HG7 hr4 hmt hmt2 htok hgi hq1 HI0 hwr2 hnt hnm lte lnt
            generalize numD wh * 10 ^ t.length + numD t = ns at *
            generalize numD wh * 10 ^ t.length = nm at *
            generalize 10 ^ t.length = nx at *
            generalize numD wh = nw at *
            generalize numD t = nt at *
            generalize strN wh = t6 at *
            generalize strN (46 :: t) = t7 at *
            generalize strN t = t8 at *
            rcases hst with ⟨rfl, h45, hx⟩ | ⟨rfl, h45, rfl⟩
            · have hb45 : ((((strN l)[0]'h0).toNat : Int) == 45) = true := beq_iff_eq.2 (by omega)
              have hle : (1 : Int) ≤ ((strN l).size : Int) := by omega
              clear h45
              generalize strN r = tr at *
              generalize strN l = tl at *
              go_enter Tryz.func89, Tryz.ntmps89
              go_wp2_with fail
              clear hw2
              go_fit (HRUN.out _)
              rintro e w3 ⟨rfl, rfl⟩
              clear HRUN
              go_wp2_with fail
              go_quiet (fail)
              replace hB : Below w.heap.size w (w2.drewN nq) := below_drewN hB _
              replace b0 : Blk (w2.drewN nq) w.heap.size 60 #[.bool false, .slice none 0 0, .slice none 0 0] := b0
              generalize w2.drewN nq = w3 at *
              go_wp2_with fail
              go_fit (HPW.out _)
              rintro e w4 ⟨v4, rfl, h4, hb⟩
              replace h4 := h4.low (Nat.zero_le _)
              replace hB := hB.trans (hb.mono hB.size)
              replace b0 := b0.below hb b0.lt
              clear hb HPW
              go_wp2_with fail
              go_fit (HRUN2.out _)
              rintro e w5 ⟨rfl, rfl⟩
              clear HRUN2
              go_wp2_with fail
              go_fit (HPT.out _)
              rintro e w6 ⟨v6, rfl, h6, hb⟩
              replace h6 := h6.low (Nat.zero_le _)
              replace h4 := h4.after hb
              replace hB := hB.trans (hb.mono hB.size)
              replace b0 := b0.below hb b0.lt
              obtain ⟨A6, k6, rfl, m6⟩ := nt_len h6
              clear hb HPT
              go_wp2_with fail
              go_fit (HTEN.out _)
              rintro e w10 ⟨v10, rfl, h10, hb⟩
              replace h10 := h10.low (Nat.zero_le _)
              replace h4 := h4.after hb
              replace h6 := h6.after hb
              replace hB := hB.trans (hb.mono hB.size)
              replace b0 := b0.below hb b0.lt
              clear hb HTEN
              go_wp2_with fail
              go_fit (HMU.out _ _ _ h4 h10)
              rintro e w11 ⟨v11, rfl, h11, hb⟩
              replace h11 := h11.low (Nat.zero_le _)
              replace h10 := h10.after hb
              replace h6 := h6.after hb
              replace hB := hB.trans (hb.mono hB.size)
              replace b0 := b0.below hb b0.lt
              clear hb HMU h4
              go_wp2_with fail
              go_fit (HAD.out _ _ _ h11 h6)
              rintro e w12 ⟨v12, rfl, h12, hb⟩
              replace h12 := h12.low (Nat.zero_le _)
              replace h10 := h10.after hb
              replace hB := hB.trans (hb.mono hB.size)
              replace b0 := b0.below hb b0.lt
              clear hb HAD h11 h6
              go_wp2_with fail
              go_fit (HOF.out _ _ _ h12 h10)
              rintro e w8 ⟨v8, rfl, ⟨an, ad, rfl, han, had⟩, hb⟩
              have lw := b0.lt
              replace hB := hB.trans (hb.mono hB.size)
              replace b0 := b0.below hb b0.lt
              replace han := han.low (show w.heap.size + 1 ≤ _ from lw)
              replace had := had.low (show w.heap.size + 1 ≤ _ from lw)
              obtain ⟨A8, c8, rfl, m8⟩ := nt_len han
              obtain ⟨A9, c9, rfl, m9⟩ := nt_len had
              obtain ⟨e0, e1, e2, hR, hBf⟩ := store3 b0 hB (Nat.le_refl _) (qS (q1)) (.slice A8 (lim (qN (q1))).length c8) (.slice A9 (lim (Rat.den (q1))).length c9) han had
              have r0 := b0.cell 0
              have r1 := b0.cell 1
              have r2 := b0.cell 2
              have f0 := b0.free 0
              have f1 := b0.free 1
              have f2 := b0.free 2
              have HRR := Lib.hid hR
              have HBF := Lib.hid hBf
              clear han had hR hBf hb hB b0 lw
              unfold St3 at *
              go_wp2_with fail
              clear r0 r1 r2 f0 f1 f2
              generalize ((World.setCell w8 ⟨w.heap.size, 0, none⟩ (.bool (qS (q1)))).setCell ⟨w.heap.size, 1, none⟩ (.slice A8 (lim (qN (q1))).length c8)).setCell ⟨w.heap.size, 2, none⟩ (.slice A9 (lim (Rat.den (q1))).length c9) = wz at *
              refine bodyPost_ret (v := .tuple #[.agg #[.bool (qS (q1)), .slice A8 (lim (qN (q1))).length c8, .slice A9 (lim (Rat.den (q1))).length c9], .int .i64 0]) ?_ rfl (by show PostR _ _ _ _; rw [HW.out]; show GivesC _ _ _ _ _; rw [HQ.out]; exact ⟨_, rfl, HRR.out, HBF.out⟩)
              simp [results, Tryz.results89, go_sem, e0, e1, e2]
            · have hb45 : ((((strN r)[0]'h0).toNat : Int) == 45) = false := beq_eq_false_iff_ne.2 (by omega)
              clear h45
              generalize strN r = tr at *
              go_enter Tryz.func89, Tryz.ntmps89
              go_wp2_with fail
              clear hw2
              go_fit (HRUN.out _)
              rintro e w3 ⟨rfl, rfl⟩
              clear HRUN
              go_wp2_with fail
              go_quiet (fail)
              replace hB : Below w.heap.size w (w2.drewN nq) := below_drewN hB _
              replace b0 : Blk (w2.drewN nq) w.heap.size 60 #[.bool false, .slice none 0 0, .slice none 0 0] := b0
              generalize w2.drewN nq = w3 at *
              go_wp2_with fail
              go_fit (HPW.out _)
              rintro e w4 ⟨v4, rfl, h4, hb⟩
              replace h4 := h4.low (Nat.zero_le _)
              replace hB := hB.trans (hb.mono hB.size)
              replace b0 := b0.below hb b0.lt
              clear hb HPW
              go_wp2_with fail
              go_fit (HRUN2.out _)
              rintro e w5 ⟨rfl, rfl⟩
              clear HRUN2
              go_wp2_with fail
              go_fit (HPT.out _)
              rintro e w6 ⟨v6, rfl, h6, hb⟩
              replace h6 := h6.low (Nat.zero_le _)
              replace h4 := h4.after hb
              replace hB := hB.trans (hb.mono hB.size)
              replace b0 := b0.below hb b0.lt
              obtain ⟨A6, k6, rfl, m6⟩ := nt_len h6
              clear hb HPT
              go_wp2_with fail
              go_fit (HTEN.out _)
              rintro e w10 ⟨v10, rfl, h10, hb⟩
              replace h10 := h10.low (Nat.zero_le _)
              replace h4 := h4.after hb
              replace h6 := h6.after hb
              replace hB := hB.trans (hb.mono hB.size)
              replace b0 := b0.below hb b0.lt
              clear hb HTEN
              go_wp2_with fail
              go_fit (HMU.out _ _ _ h4 h10)
              rintro e w11 ⟨v11, rfl, h11, hb⟩
              replace h11 := h11.low (Nat.zero_le _)
              replace h10 := h10.after hb
              replace h6 := h6.after hb
              replace hB := hB.trans (hb.mono hB.size)
              replace b0 := b0.below hb b0.lt
              clear hb HMU h4
              go_wp2_with fail
              go_fit (HAD.out _ _ _ h11 h6)
              rintro e w12 ⟨v12, rfl, h12, hb⟩
              replace h12 := h12.low (Nat.zero_le _)
              replace h10 := h10.after hb
              replace hB := hB.trans (hb.mono hB.size)
              replace b0 := b0.below hb b0.lt
              clear hb HAD h11 h6
              go_wp2_with fail
              go_fit (HOF.out _ _ _ h12 h10)
              rintro e w8 ⟨v8, rfl, ⟨an, ad, rfl, han, had⟩, hb⟩
              have lw := b0.lt
              replace hB := hB.trans (hb.mono hB.size)
              replace b0 := b0.below hb b0.lt
              replace han := han.low (show w.heap.size + 1 ≤ _ from lw)
              replace had := had.low (show w.heap.size + 1 ≤ _ from lw)
              obtain ⟨A8, c8, rfl, m8⟩ := nt_len han
              obtain ⟨A9, c9, rfl, m9⟩ := nt_len had
              obtain ⟨e0, e1, e2, hR, hBf⟩ := store3 b0 hB (Nat.le_refl _) (qS (q1)) (.slice A8 (lim (qN (q1))).length c8) (.slice A9 (lim (Rat.den (q1))).length c9) han had
              have r0 := b0.cell 0
              have r1 := b0.cell 1
              have r2 := b0.cell 2
              have f0 := b0.free 0
              have f1 := b0.free 1
              have f2 := b0.free 2
              have HRR := Lib.hid hR
              have HBF := Lib.hid hBf
              clear han had hR hBf hb hB b0 lw
              unfold St3 at *
              go_wp2_with fail
              clear r0 r1 r2 f0 f1 f2
              generalize ((World.setCell w8 ⟨w.heap.size, 0, none⟩ (.bool (qS (q1)))).setCell ⟨w.heap.size, 1, none⟩ (.slice A8 (lim (qN (q1))).length c8)).setCell ⟨w.heap.size, 2, none⟩ (.slice A9 (lim (Rat.den (q1))).length c9) = wz at *
              refine bodyPost_ret (v := .tuple #[.agg #[.bool (qS (q1)), .slice A8 (lim (qN (q1))).length c8, .slice A9 (lim (Rat.den (q1))).length c9], .int .i64 0]) ?_ rfl (by show PostR _ _ _ _; rw [HW.out]; show GivesC _ _ _ _ _; rw [HQ.out]; exact ⟨_, rfl, HRR.out, HBF.out⟩)
              simp [results, Tryz.results89, go_sem, e0, e1, e2]
          · by_cases c47 : c = 47
            · subst c47
              have i46 : (((((strN (47 :: t))[0]'h07).toNat : Nat) : Int) != 46) = true := bne_true (by omega)
              have i46' : ¬ ((((strN (47 :: t))[0]'h07).toNat : Nat) : Int) = 46 := by omega
              have i47 : (((((strN (47 :: t))[0]'h07).toNat : Nat) : Int) != 47) = false := bne_false (by omega)
              have i47' : (((((strN (47 :: t))[0]'h07).toNat : Nat) : Int) == 47) = true := beq_iff_eq.2 (by omega)
              have HPT : Hid (∀ W, Calls Tryz.prog 148 #[.string (strN t)] W (GivesB (lim (numD t)) true W)) := fun W => by
                have := refParse_l t htb W
                rw [htok, if_pos rfl] at this
                exact this
              have lnt := numD_len htok
              by_cases n0 : numD t = 0
              · have HW : Hid (wayB neg r = none) := wb_div0 hdw n0
                rw [n0] at HPT
                have L0 := Lib.hid lim_zero
                clear hdw hwok hwne hre hwh hm m1 hml lwh hwl htb ht4 hcb HZ7 HG7 hr4 hmt hmt2 htok hgi c46 lnt n0
                generalize numD wh = nw at *
                generalize strN wh = t6 at *
                generalize strN (47 :: t) = t7 at *
                generalize strN t = t8 at *
                rcases hst with ⟨rfl, h45, hx⟩ | ⟨rfl, h45, rfl⟩
                · have hb45 : ((((strN l)[0]'h0).toNat : Int) == 45) = true := beq_iff_eq.2 (by omega)
                  have hle : (1 : Int) ≤ ((strN l).size : Int) := by omega
                  clear h45
                  generalize strN r = tr at *
                  generalize strN l = tl at *
                  go_enter Tryz.func89, Tryz.ntmps89
                  go_wp2_with fail
                  clear hw2
                  go_fit (HRUN.out _)
                  rintro e w3 ⟨rfl, rfl⟩
                  clear HRUN
                  go_wp2_with fail
                  go_quiet (fail)
                  replace hB : Below w.heap.size w (w2.drewN nq) := below_drewN hB _
                  replace b0 : Blk (w2.drewN nq) w.heap.size 60 #[.bool false, .slice none 0 0, .slice none 0 0] := b0
                  generalize w2.drewN nq = w3 at *
                  go_wp2_with fail
                  go_fit (HPW.out _)
                  rintro e w4 ⟨v4, rfl, h4, hb⟩
                  replace h4 := h4.low (Nat.zero_le _)
                  replace hB := hB.trans (hb.mono hB.size)
                  replace b0 := b0.below hb b0.lt
                  clear hb HPW
                  go_wp2_with fail
                  go_fit (HRUN2.out _)
                  rintro e w5 ⟨rfl, rfl⟩
                  clear HRUN2
                  go_wp2_with fail
                  go_fit (HPT.out _)
                  rintro e w6 ⟨v6, rfl, h6, hb⟩
                  rw [L0.out] at h6
                  obtain ⟨A6, k6, rfl, m6⟩ := nt_len h6
                  replace hB := hB.trans (hb.mono hB.size)
                  replace b0 := b0.below hb b0.lt
                  clear hb HPT h6
                  go_wp2_with fail
                  go_fit (HI0.out _)
                  rintro e w8 ⟨v8, rfl, ⟨an, ad, rfl, han, had⟩, hb⟩
                  have lw := b0.lt
                  replace hB := hB.trans (hb.mono hB.size)
                  replace b0 := b0.below hb b0.lt
                  replace han := han.low (show w.heap.size + 1 ≤ _ from lw)
                  replace had := had.low (show w.heap.size + 1 ≤ _ from lw)
                  obtain ⟨A8, c8, rfl, m8⟩ := nt_len han
                  obtain ⟨A9, c9, rfl, m9⟩ := nt_len had
                  obtain ⟨e0, e1, e2, hR, hBf⟩ := store3 b0 hB (Nat.le_refl _) (qS (q0)) (.slice A8 (lim (qN (q0))).length c8) (.slice A9 (lim (Rat.den (q0))).length c9) han had
                  have r0 := b0.cell 0
                  have r1 := b0.cell 1
                  have r2 := b0.cell 2
                  have f0 := b0.free 0
                  have f1 := b0.free 1
                  have f2 := b0.free 2
                  have HRR := Lib.hid hR
                  have HBF := Lib.hid hBf
                  clear han had hR hBf hb hB b0 lw
                  unfold St3 at *
                  go_wp2_with fail
                  clear r0 r1 r2 f0 f1 f2
                  generalize ((World.setCell w8 ⟨w.heap.size, 0, none⟩ (.bool (qS (q0)))).setCell ⟨w.heap.size, 1, none⟩ (.slice A8 (lim (qN (q0))).length c8)).setCell ⟨w.heap.size, 2, none⟩ (.slice A9 (lim (Rat.den (q0))).length c9) = wz at *
                  refine bodyPost_ret (v := .tuple #[.agg #[.bool (qS (q0)), .slice A8 (lim (qN (q0))).length c8, .slice A9 (lim (Rat.den (q0))).length c9], .int .i64 2]) ?_ rfl (by show PostR _ _ _ _; rw [HW.out]; show GivesC _ _ _ _ _; rw [HQ.out]; exact ⟨_, rfl, HRR.out, HBF.out⟩)
                  simp [results, Tryz.results89, go_sem, e0, e1, e2]
                · have hb45 : ((((strN r)[0]'h0).toNat : Int) == 45) = false := beq_eq_false_iff_ne.2 (by omega)
                  clear h45
                  generalize strN r = tr at *
                  go_enter Tryz.func89, Tryz.ntmps89
                  go_wp2_with fail
                  clear hw2
                  go_fit (HRUN.out _)
                  rintro e w3 ⟨rfl, rfl⟩
                  clear HRUN
                  go_wp2_with fail
                  go_quiet (fail)
                  replace hB : Below w.heap.size w (w2.drewN nq) := below_drewN hB _
                  replace b0 : Blk (w2.drewN nq) w.heap.size 60 #[.bool false, .slice none 0 0, .slice none 0 0] := b0
                  generalize w2.drewN nq = w3 at *
                  go_wp2_with fail
                  go_fit (HPW.out _)
                  rintro e w4 ⟨v4, rfl, h4, hb⟩
                  replace h4 := h4.low (Nat.zero_le _)
                  replace hB := hB.trans (hb.mono hB.size)
                  replace b0 := b0.below hb b0.lt
                  clear hb HPW
                  go_wp2_with fail
                  go_fit (HRUN2.out _)
                  rintro e w5 ⟨rfl, rfl⟩
                  clear HRUN2
                  go_wp2_with fail
                  go_fit (HPT.out _)
                  rintro e w6 ⟨v6, rfl, h6, hb⟩
                  rw [L0.out] at h6
                  obtain ⟨A6, k6, rfl, m6⟩ := nt_len h6
                  replace hB := hB.trans (hb.mono hB.size)
                  replace b0 := b0.below hb b0.lt
                  clear hb HPT h6
                  go_wp2_with fail
                  go_fit (HI0.out _)
                  rintro e w8 ⟨v8, rfl, ⟨an, ad, rfl, han, had⟩, hb⟩
                  have lw := b0.lt
                  replace hB := hB.trans (hb.mono hB.size)
                  replace b0 := b0.below hb b0.lt
                  replace han := han.low (show w.heap.size + 1 ≤ _ from lw)
                  replace had := had.low (show w.heap.size + 1 ≤ _ from lw)
                  obtain ⟨A8, c8, rfl, m8⟩ := nt_len han
                  obtain ⟨A9, c9, rfl, m9⟩ := nt_len had
                  obtain ⟨e0, e1, e2, hR, hBf⟩ := store3 b0 hB (Nat.le_refl _) (qS (q0)) (.slice A8 (lim (qN (q0))).length c8) (.slice A9 (lim (Rat.den (q0))).length c9) han had
                  have r0 := b0.cell 0
                  have r1 := b0.cell 1
                  have r2 := b0.cell 2
                  have f0 := b0.free 0
                  have f1 := b0.free 1
                  have f2 := b0.free 2
                  have HRR := Lib.hid hR
                  have HBF := Lib.hid hBf
                  clear han had hR hBf hb hB b0 lw
                  unfold St3 at *
                  go_wp2_with fail
                  clear r0 r1 r2 f0 f1 f2
                  generalize ((World.setCell w8 ⟨w.heap.size, 0, none⟩ (.bool (qS (q0)))).setCell ⟨w.heap.size, 1, none⟩ (.slice A8 (lim (qN (q0))).length c8)).setCell ⟨w.heap.size, 2, none⟩ (.slice A9 (lim (Rat.den (q0))).length c9) = wz at *
                  refine bodyPost_ret (v := .tuple #[.agg #[.bool (qS (q0)), .slice A8 (lim (qN (q0))).length c8, .slice A9 (lim (Rat.den (q0))).length c9], .int .i64 2]) ?_ rfl (by show PostR _ _ _ _; rw [HW.out]; show GivesC _ _ _ _ _; rw [HQ.out]; exact ⟨_, rfl, HRR.out, HBF.out⟩)
                  simp [results, Tryz.results89, go_sem, e0, e1, e2]
              · have HW : Hid (wayB neg r = some (neg, numD wh, numD t)) := by
                  have := wb_div (neg := neg) hwne hdw hmt hmt2 n0
                  rw [hwh] at this
                  exact this
                have hlx : (((lim (numD t)).length : Int) == 0) = false := by
                  have : (lim (numD t)).length ≠ 0 := fun hc => n0 (lim_eq_nil.1 (List.eq_nil_of_length_eq_zero hc))
                  simp [this]
                obtain ⟨q1, hq1⟩ : ∃ q, qv neg (numD wh) (numD t) = q := ⟨_, rfl⟩
                have HOF : Hid (∀ (vn vd : Value) (W : World), Nt W 0 W.heap.size vn (lim (numD wh)) → Nt W 0 W.heap.size vd (lim (numD t)) → Calls Tryz.prog 145 #[.bool neg, vn, vd] W (GivesF q1 W)) := fun vn vd W h1 h2 => by
                  have := ratOf_q neg vn vd _ _ W (dig_lim (numD wh)) (dig_lim (numD t)) h1 h2 (Nat.le_trans lwh (by omega)) (Nat.le_trans lnt (by omega))
                  rw [val_lim, val_lim, hq1] at this
                  exact this
                replace HQ := Lib.hid hq1
                clear hdw hwok hwne hre hwh hm m1 hml lwh hwl htb ht4 hcb HZ7 HG7 hr4 hmt hmt2 htok hgi hq1 HI0 c46 lnt n0
                generalize numD wh = nw at *
                generalize numD t = nt at *
                generalize strN wh = t6 at *
                generalize strN (47 :: t) = t7 at *
                generalize strN t = t8 at *
                rcases hst with ⟨rfl, h45, hx⟩ | ⟨rfl, h45, rfl⟩
                · have hb45 : ((((strN l)[0]'h0).toNat : Int) == 45) = true := beq_iff_eq.2 (by omega)
                  have hle : (1 : Int) ≤ ((strN l).size : Int) := by omega
                  clear h45
                  generalize strN r = tr at *
                  generalize strN l = tl at *
                  go_enter Tryz.func89, Tryz.ntmps89
                  go_wp2_with fail
                  clear hw2
                  go_fit (HRUN.out _)
                  rintro e w3 ⟨rfl, rfl⟩
                  clear HRUN
                  go_wp2_with fail
                  go_quiet (fail)
                  replace hB : Below w.heap.size w (w2.drewN nq) := below_drewN hB _
                  replace b0 : Blk (w2.drewN nq) w.heap.size 60 #[.bool false, .slice none 0 0, .slice none 0 0] := b0
                  generalize w2.drewN nq = w3 at *
                  go_wp2_with fail
                  go_fit (HPW.out _)
                  rintro e w4 ⟨v4, rfl, h4, hb⟩
                  replace h4 := h4.low (Nat.zero_le _)
                  replace hB := hB.trans (hb.mono hB.size)
                  replace b0 := b0.below hb b0.lt
                  clear hb HPW
                  go_wp2_with fail
                  go_fit (HRUN2.out _)
                  rintro e w5 ⟨rfl, rfl⟩
                  clear HRUN2
                  go_wp2_with fail
                  go_fit (HPT.out _)
                  rintro e w6 ⟨v6, rfl, h6, hb⟩
                  replace h6 := h6.low (Nat.zero_le _)
                  replace h4 := h4.after hb
                  replace hB := hB.trans (hb.mono hB.size)
                  replace b0 := b0.below hb b0.lt
                  obtain ⟨A6, k6, rfl, m6⟩ := nt_len h6
                  clear hb HPT
                  go_wp2_with fail
                  go_fit (HOF.out _ _ _ h4 h6)
                  rintro e w8 ⟨v8, rfl, ⟨an, ad, rfl, han, had⟩, hb⟩
                  have lw := b0.lt
                  replace hB := hB.trans (hb.mono hB.size)
                  replace b0 := b0.below hb b0.lt
                  replace han := han.low (show w.heap.size + 1 ≤ _ from lw)
                  replace had := had.low (show w.heap.size + 1 ≤ _ from lw)
                  obtain ⟨A8, c8, rfl, m8⟩ := nt_len han
                  obtain ⟨A9, c9, rfl, m9⟩ := nt_len had
                  obtain ⟨e0, e1, e2, hR, hBf⟩ := store3 b0 hB (Nat.le_refl _) (qS (q1)) (.slice A8 (lim (qN (q1))).length c8) (.slice A9 (lim (Rat.den (q1))).length c9) han had
                  have r0 := b0.cell 0
                  have r1 := b0.cell 1
                  have r2 := b0.cell 2
                  have f0 := b0.free 0
                  have f1 := b0.free 1
                  have f2 := b0.free 2
                  have HRR := Lib.hid hR
                  have HBF := Lib.hid hBf
                  clear han had hR hBf hb hB b0 lw
                  unfold St3 at *
                  go_wp2_with fail
                  clear r0 r1 r2 f0 f1 f2
                  generalize ((World.setCell w8 ⟨w.heap.size, 0, none⟩ (.bool (qS (q1)))).setCell ⟨w.heap.size, 1, none⟩ (.slice A8 (lim (qN (q1))).length c8)).setCell ⟨w.heap.size, 2, none⟩ (.slice A9 (lim (Rat.den (q1))).length c9) = wz at *
                  refine bodyPost_ret (v := .tuple #[.agg #[.bool (qS (q1)), .slice A8 (lim (qN (q1))).length c8, .slice A9 (lim (Rat.den (q1))).length c9], .int .i64 0]) ?_ rfl (by show PostR _ _ _ _; rw [HW.out]; show GivesC _ _ _ _ _; rw [HQ.out]; exact ⟨_, rfl, HRR.out, HBF.out⟩)
                  simp [results, Tryz.results89, go_sem, e0, e1, e2]
                · have hb45 : ((((strN r)[0]'h0).toNat : Int) == 45) = false := beq_eq_false_iff_ne.2 (by omega)
                  clear h45
                  generalize strN r = tr at *
                  go_enter Tryz.func89, Tryz.ntmps89
                  go_wp2_with fail
                  clear hw2
                  go_fit (HRUN.out _)
                  rintro e w3 ⟨rfl, rfl⟩
                  clear HRUN
                  go_wp2_with fail
                  go_quiet (fail)
                  replace hB : Below w.heap.size w (w2.drewN nq) := below_drewN hB _
                  replace b0 : Blk (w2.drewN nq) w.heap.size 60 #[.bool false, .slice none 0 0, .slice none 0 0] := b0
                  generalize w2.drewN nq = w3 at *
                  go_wp2_with fail
                  go_fit (HPW.out _)
                  rintro e w4 ⟨v4, rfl, h4, hb⟩
                  replace h4 := h4.low (Nat.zero_le _)
                  replace hB := hB.trans (hb.mono hB.size)
                  replace b0 := b0.below hb b0.lt
                  clear hb HPW
                  go_wp2_with fail
                  go_fit (HRUN2.out _)
                  rintro e w5 ⟨rfl, rfl⟩
                  clear HRUN2
                  go_wp2_with fail
                  go_fit (HPT.out _)
                  rintro e w6 ⟨v6, rfl, h6, hb⟩
                  replace h6 := h6.low (Nat.zero_le _)
                  replace h4 := h4.after hb
                  replace hB := hB.trans (hb.mono hB.size)
                  replace b0 := b0.below hb b0.lt
                  obtain ⟨A6, k6, rfl, m6⟩ := nt_len h6
                  clear hb HPT
                  go_wp2_with fail
                  go_fit (HOF.out _ _ _ h4 h6)
                  rintro e w8 ⟨v8, rfl, ⟨an, ad, rfl, han, had⟩, hb⟩
                  have lw := b0.lt
                  replace hB := hB.trans (hb.mono hB.size)
                  replace b0 := b0.below hb b0.lt
                  replace han := han.low (show w.heap.size + 1 ≤ _ from lw)
                  replace had := had.low (show w.heap.size + 1 ≤ _ from lw)
                  obtain ⟨A8, c8, rfl, m8⟩ := nt_len han
                  obtain ⟨A9, c9, rfl, m9⟩ := nt_len had
                  obtain ⟨e0, e1, e2, hR, hBf⟩ := store3 b0 hB (Nat.le_refl _) (qS (q1)) (.slice A8 (lim (qN (q1))).length c8) (.slice A9 (lim (Rat.den (q1))).length c9) han had
                  have r0 := b0.cell 0
                  have r1 := b0.cell 1
                  have r2 := b0.cell 2
                  have f0 := b0.free 0
                  have f1 := b0.free 1
                  have f2 := b0.free 2
                  have HRR := Lib.hid hR
                  have HBF := Lib.hid hBf
                  clear han had hR hBf hb hB b0 lw
                  unfold St3 at *
                  go_wp2_with fail
                  clear r0 r1 r2 f0 f1 f2
                  generalize ((World.setCell w8 ⟨w.heap.size, 0, none⟩ (.bool (qS (q1)))).setCell ⟨w.heap.size, 1, none⟩ (.slice A8 (lim (qN (q1))).length c8)).setCell ⟨w.heap.size, 2, none⟩ (.slice A9 (lim (Rat.den (q1))).length c9) = wz at *
                  refine bodyPost_ret (v := .tuple #[.agg #[.bool (qS (q1)), .slice A8 (lim (qN (q1))).length c8, .slice A9 (lim (Rat.den (q1))).length c9], .int .i64 0]) ?_ rfl (by show PostR _ _ _ _; rw [HW.out]; show GivesC _ _ _ _ _; rw [HQ.out]; exact ⟨_, rfl, HRR.out, HBF.out⟩)
                  simp [results, Tryz.results89, go_sem, e0, e1, e2]
            · have HW : Hid (wayB neg r = none) := wb_bad hdw (Or.inr (Or.inr ⟨c46, c47⟩))
              have i46 : (((((strN (c :: t))[0]'h07).toNat : Nat) : Int) != 46) = true := bne_true (by omega)
              have i46' : ¬ ((((strN (c :: t))[0]'h07).toNat : Nat) : Int) = 46 := by omega
              have i47 : (((((strN (c :: t))[0]'h07).toNat : Nat) : Int) != 47) = true := bne_true (by omega)
              have i47' : ¬ ((((strN (c :: t))[0]'h07).toNat : Nat) : Int) = 47 := by omega
              clear hdw hwok hwne hre hwh hm m1 hml lwh hwl htb ht4 hcb HZ7 HG7 hr4 hmt hmt2 htok hgi c46 c47
              generalize numD wh = nw at *
              generalize strN wh = t6 at *
              generalize strN (c :: t) = t7 at *
              generalize strN t = t8 at *
              rcases hst with ⟨rfl, h45, hx⟩ | ⟨rfl, h45, rfl⟩
              · have hb45 : ((((strN l)[0]'h0).toNat : Int) == 45) = true := beq_iff_eq.2 (by omega)
                have hle : (1 : Int) ≤ ((strN l).size : Int) := by omega
                clear h45
                generalize strN r = tr at *
                generalize strN l = tl at *
                go_enter Tryz.func89, Tryz.ntmps89
                go_wp2_with fail
                clear hw2
                go_fit (HRUN.out _)
                rintro e w3 ⟨rfl, rfl⟩
                clear HRUN
                go_wp2_with fail
                go_quiet (fail)
                replace hB : Below w.heap.size w (w2.drewN nq) := below_drewN hB _
                replace b0 : Blk (w2.drewN nq) w.heap.size 60 #[.bool false, .slice none 0 0, .slice none 0 0] := b0
                generalize w2.drewN nq = w3 at *
                go_wp2_with fail
                go_fit (HPW.out _)
                rintro e w4 ⟨v4, rfl, h4, hb⟩
                replace h4 := h4.low (Nat.zero_le _)
                replace hB := hB.trans (hb.mono hB.size)
                replace b0 := b0.below hb b0.lt
                clear hb HPW
                go_wp2_with fail
                go_fit (HRUN2.out _)
                rintro e w5 ⟨rfl, rfl⟩
                clear HRUN2
                go_wp2_with fail
                go_fit (HI0.out _)
                rintro e w8 ⟨v8, rfl, ⟨an, ad, rfl, han, had⟩, hb⟩
                have lw := b0.lt
                replace hB := hB.trans (hb.mono hB.size)
                replace b0 := b0.below hb b0.lt
                replace han := han.low (show w.heap.size + 1 ≤ _ from lw)
                replace had := had.low (show w.heap.size + 1 ≤ _ from lw)
                obtain ⟨A8, c8, rfl, m8⟩ := nt_len han
                obtain ⟨A9, c9, rfl, m9⟩ := nt_len had
                obtain ⟨e0, e1, e2, hR, hBf⟩ := store3 b0 hB (Nat.le_refl _) (qS (q0)) (.slice A8 (lim (qN (q0))).length c8) (.slice A9 (lim (Rat.den (q0))).length c9) han had
                have r0 := b0.cell 0
                have r1 := b0.cell 1
                have r2 := b0.cell 2
                have f0 := b0.free 0
                have f1 := b0.free 1
                have f2 := b0.free 2
                have HRR := Lib.hid hR
                have HBF := Lib.hid hBf
                clear han had hR hBf hb hB b0 lw
                unfold St3 at *
                go_wp2_with fail
                clear r0 r1 r2 f0 f1 f2
                generalize ((World.setCell w8 ⟨w.heap.size, 0, none⟩ (.bool (qS (q0)))).setCell ⟨w.heap.size, 1, none⟩ (.slice A8 (lim (qN (q0))).length c8)).setCell ⟨w.heap.size, 2, none⟩ (.slice A9 (lim (Rat.den (q0))).length c9) = wz at *
                refine bodyPost_ret (v := .tuple #[.agg #[.bool (qS (q0)), .slice A8 (lim (qN (q0))).length c8, .slice A9 (lim (Rat.den (q0))).length c9], .int .i64 2]) ?_ rfl (by show PostR _ _ _ _; rw [HW.out]; show GivesC _ _ _ _ _; rw [HQ.out]; exact ⟨_, rfl, HRR.out, HBF.out⟩)
                simp [results, Tryz.results89, go_sem, e0, e1, e2]
              · have hb45 : ((((strN r)[0]'h0).toNat : Int) == 45) = false := beq_eq_false_iff_ne.2 (by omega)
                clear h45
                generalize strN r = tr at *
                go_enter Tryz.func89, Tryz.ntmps89
                go_wp2_with fail
                clear hw2
                go_fit (HRUN.out _)
                rintro e w3 ⟨rfl, rfl⟩
                clear HRUN
                go_wp2_with fail
                go_quiet (fail)
                replace hB : Below w.heap.size w (w2.drewN nq) := below_drewN hB _
                replace b0 : Blk (w2.drewN nq) w.heap.size 60 #[.bool false, .slice none 0 0, .slice none 0 0] := b0
                generalize w2.drewN nq = w3 at *
                go_wp2_with fail
                go_fit (HPW.out _)
                rintro e w4 ⟨v4, rfl, h4, hb⟩
                replace h4 := h4.low (Nat.zero_le _)
                replace hB := hB.trans (hb.mono hB.size)
                replace b0 := b0.below hb b0.lt
                clear hb HPW
                go_wp2_with fail
                go_fit (HRUN2.out _)
                rintro e w5 ⟨rfl, rfl⟩
                clear HRUN2
                go_wp2_with fail
                go_fit (HI0.out _)
                rintro e w8 ⟨v8, rfl, ⟨an, ad, rfl, han, had⟩, hb⟩
                have lw := b0.lt
                replace hB := hB.trans (hb.mono hB.size)
                replace b0 := b0.below hb b0.lt
                replace han := han.low (show w.heap.size + 1 ≤ _ from lw)
                replace had := had.low (show w.heap.size + 1 ≤ _ from lw)
                obtain ⟨A8, c8, rfl, m8⟩ := nt_len han
                obtain ⟨A9, c9, rfl, m9⟩ := nt_len had
                obtain ⟨e0, e1, e2, hR, hBf⟩ := store3 b0 hB (Nat.le_refl _) (qS (q0)) (.slice A8 (lim (qN (q0))).length c8) (.slice A9 (lim (Rat.den (q0))).length c9) han had
                have r0 := b0.cell 0
                have r1 := b0.cell 1
                have r2 := b0.cell 2
                have f0 := b0.free 0
                have f1 := b0.free 1
                have f2 := b0.free 2
                have HRR := Lib.hid hR
                have HBF := Lib.hid hBf
                clear han had hR hBf hb hB b0 lw
                unfold St3 at *
                go_wp2_with fail
                clear r0 r1 r2 f0 f1 f2
                generalize ((World.setCell w8 ⟨w.heap.size, 0, none⟩ (.bool (qS (q0)))).setCell ⟨w.heap.size, 1, none⟩ (.slice A8 (lim (qN (q0))).length c8)).setCell ⟨w.heap.size, 2, none⟩ (.slice A9 (lim (Rat.den (q0))).length c9) = wz at *
                refine bodyPost_ret (v := .tuple #[.agg #[.bool (qS (q0)), .slice A8 (lim (qN (q0))).length c8, .slice A9 (lim (Rat.den (q0))).length c9], .int .i64 2]) ?_ rfl (by show PostR _ _ _ _; rw [HW.out]; show GivesC _ _ _ _ _; rw [HQ.out]; exact ⟨_, rfl, HRR.out, HBF.out⟩)
                simp [results, Tryz.results89, go_sem, e0, e1, e2]
        · have HW : Hid (wayB neg r = none) := wb_bad hdw (Or.inr (Or.inl (by omega)))
          have hmne : ((m : Int) != ((strN (c :: t)).size : Int) - 1) = true := bne_true (by have := HZ7.out; omega)
          have hmneq : ¬ (m : Int) = ((strN (c :: t)).size : Int) - 1 := by have := HZ7.out; omega
          have hup7 : ((strN (c :: t)).size : Int) ≤ 400 := by have := HZ7.out; omega
          clear hdw hwok hwne hre hwh hm m1 hml lwh hwl htb ht4 hcb HZ7 HG7 hr4
          generalize numD wh = nw at *
          generalize strN wh = t6 at *
          generalize strN (c :: t) = t7 at *
          generalize strN t = t8 at *
          rcases hst with ⟨rfl, h45, hx⟩ | ⟨rfl, h45, rfl⟩
          · have hb45 : ((((strN l)[0]'h0).toNat : Int) == 45) = true := beq_iff_eq.2 (by omega)
            have hle : (1 : Int) ≤ ((strN l).size : Int) := by omega
            clear h45
            generalize strN r = tr at *
            generalize strN l = tl at *
            go_enter Tryz.func89, Tryz.ntmps89
            go_wp2_with fail
            clear hw2
            go_fit (HRUN.out _)
            rintro e w3 ⟨rfl, rfl⟩
            clear HRUN
            go_wp2_with fail
            go_quiet (fail)
            replace hB : Below w.heap.size w (w2.drewN nq) := below_drewN hB _
            replace b0 : Blk (w2.drewN nq) w.heap.size 60 #[.bool false, .slice none 0 0, .slice none 0 0] := b0
            generalize w2.drewN nq = w3 at *
            go_wp2_with fail
            go_fit (HPW.out _)
            rintro e w4 ⟨v4, rfl, h4, hb⟩
            replace h4 := h4.low (Nat.zero_le _)
            replace hB := hB.trans (hb.mono hB.size)
            replace b0 := b0.below hb b0.lt
            clear hb HPW
            go_wp2_with fail
            go_fit (HRUN2.out _)
            rintro e w5 ⟨rfl, rfl⟩
            clear HRUN2
            go_wp2_with fail
            go_fit (HI0.out _)
            rintro e w8 ⟨v8, rfl, ⟨an, ad, rfl, han, had⟩, hb⟩
            have lw := b0.lt
            replace hB := hB.trans (hb.mono hB.size)
            replace b0 := b0.below hb b0.lt
            replace han := han.low (show w.heap.size + 1 ≤ _ from lw)
            replace had := had.low (show w.heap.size + 1 ≤ _ from lw)
            obtain ⟨A8, c8, rfl, m8⟩ := nt_len han
            obtain ⟨A9, c9, rfl, m9⟩ := nt_len had
            obtain ⟨e0, e1, e2, hR, hBf⟩ := store3 b0 hB (Nat.le_refl _) (qS (q0)) (.slice A8 (lim (qN (q0))).length c8) (.slice A9 (lim (Rat.den (q0))).length c9) han had
            have r0 := b0.cell 0
            have r1 := b0.cell 1
            have r2 := b0.cell 2
            have f0 := b0.free 0
            have f1 := b0.free 1
            have f2 := b0.free 2
            have HRR := Lib.hid hR
            have HBF := Lib.hid hBf
            clear han had hR hBf hb hB b0 lw
            unfold St3 at *
            go_wp2_with fail
            clear r0 r1 r2 f0 f1 f2
            generalize ((World.setCell w8 ⟨w.heap.size, 0, none⟩ (.bool (qS (q0)))).setCell ⟨w.heap.size, 1, none⟩ (.slice A8 (lim (qN (q0))).length c8)).setCell ⟨w.heap.size, 2, none⟩ (.slice A9 (lim (Rat.den (q0))).length c9) = wz at *
            refine bodyPost_ret (v := .tuple #[.agg #[.bool (qS (q0)), .slice A8 (lim (qN (q0))).length c8, .slice A9 (lim (Rat.den (q0))).length c9], .int .i64 2]) ?_ rfl (by show PostR _ _ _ _; rw [HW.out]; show GivesC _ _ _ _ _; rw [HQ.out]; exact ⟨_, rfl, HRR.out, HBF.out⟩)
            simp [results, Tryz.results89, go_sem, e0, e1, e2]
          · have hb45 : ((((strN r)[0]'h0).toNat : Int) == 45) = false := beq_eq_false_iff_ne.2 (by omega)
            clear h45
            generalize strN r = tr at *
            go_enter Tryz.func89, Tryz.ntmps89
            go_wp2_with fail
            clear hw2
            go_fit (HRUN.out _)
            rintro e w3 ⟨rfl, rfl⟩
            clear HRUN
            go_wp2_with fail
            go_quiet (fail)
            replace hB : Below w.heap.size w (w2.drewN nq) := below_drewN hB _
            replace b0 : Blk (w2.drewN nq) w.heap.size 60 #[.bool false, .slice none 0 0, .slice none 0 0] := b0
            generalize w2.drewN nq = w3 at *
            go_wp2_with fail
            go_fit (HPW.out _)
            rintro e w4 ⟨v4, rfl, h4, hb⟩
            replace h4 := h4.low (Nat.zero_le _)
            replace hB := hB.trans (hb.mono hB.size)
            replace b0 := b0.below hb b0.lt
            clear hb HPW
            go_wp2_with fail
            go_fit (HRUN2.out _)
            rintro e w5 ⟨rfl, rfl⟩
            clear HRUN2
            go_wp2_with fail
            go_fit (HI0.out _)
            rintro e w8 ⟨v8, rfl, ⟨an, ad, rfl, han, had⟩, hb⟩
            have lw := b0.lt
            replace hB := hB.trans (hb.mono hB.size)
            replace b0 := b0.below hb b0.lt
            replace han := han.low (show w.heap.size + 1 ≤ _ from lw)
            replace had := had.low (show w.heap.size + 1 ≤ _ from lw)
            obtain ⟨A8, c8, rfl, m8⟩ := nt_len han
            obtain ⟨A9, c9, rfl, m9⟩ := nt_len had
            obtain ⟨e0, e1, e2, hR, hBf⟩ := store3 b0 hB (Nat.le_refl _) (qS (q0)) (.slice A8 (lim (qN (q0))).length c8) (.slice A9 (lim (Rat.den (q0))).length c9) han had
            have r0 := b0.cell 0
            have r1 := b0.cell 1
            have r2 := b0.cell 2
            have f0 := b0.free 0
            have f1 := b0.free 1
            have f2 := b0.free 2
            have HRR := Lib.hid hR
            have HBF := Lib.hid hBf
            clear han had hR hBf hb hB b0 lw
            unfold St3 at *
            go_wp2_with fail
            clear r0 r1 r2 f0 f1 f2
            generalize ((World.setCell w8 ⟨w.heap.size, 0, none⟩ (.bool (qS (q0)))).setCell ⟨w.heap.size, 1, none⟩ (.slice A8 (lim (qN (q0))).length c8)).setCell ⟨w.heap.size, 2, none⟩ (.slice A9 (lim (Rat.den (q0))).length c9) = wz at *
            refine bodyPost_ret (v := .tuple #[.agg #[.bool (qS (q0)), .slice A8 (lim (qN (q0))).length c8, .slice A9 (lim (Rat.den (q0))).length c9], .int .i64 2]) ?_ rfl (by show PostR _ _ _ _; rw [HW.out]; show GivesC _ _ _ _ _; rw [HQ.out]; exact ⟨_, rfl, HRR.out, HBF.out⟩)
            simp [results, Tryz.results89, go_sem, e0, e1, e2]
end Go.Proofs.YtchokmhfgikglaaGreatDoor
