/- Several texts in one: DecParse, NearA. Condition: each says its own. -/
import Derived.Test.YtobmjcbjailclaaGreatDoorPk10
import Derived.Test.YtobmjcbjailclaaGreatDoorPk14
import Derived.Test.YtobmjcbjailclaaGreatDoorPk16
import Derived.Test.YtobmjcbjailclaaGreatDoorPk17
/- The program's 'Parse' of texts as numbers by its contract. Condition: none. -/
namespace Go.Proofs.YtobmjcbjailclaaGreatDoor
set_option maxRecDepth 100000
open Go.RowKit Go.Shelf Go.Lib

/-- What hands back a new number and no error. -/
def GivesP (q : Rat) (w : World) (e : Ending) (w' : World) : Prop :=
  ∃ v', e = .returned (.tuple #[v', .int .i64 0]) ∧ Rt w' w.heap.size w'.heap.size v' (qS q) (lim (qN q)) (lim q.den) ∧ Below w.heap.size w w'

theorem strp_len (l : List Nat) : (strp l).2.length ≤ l.length := by
  unfold strp
  cases l with
  | nil => simp
  | cons x r => simp only; split <;> simp
theorem strp_byt {l : List Nat} (h : Byt l) : Byt (strp l).2 := by
  unfold strp
  cases l with
  | nil => exact h
  | cons x r =>
    simp only
    split
    · exact fun y hy => h y (by simp [hy])
    · exact h

theorem dw_mem {p : Nat → Bool} {x : Nat} (l : List Nat) (h : x ∈ (l.dropWhile p).drop 1) : x ∈ l := (List.dropWhile_sublist p (l := l)).subset (List.mem_of_mem_drop h)
theorem dw_len (p : Nat → Bool) (l : List Nat) : ((l.dropWhile p).drop 1).length ≤ l.length := by
  have := (List.dropWhile_sublist p (l := l)).length_le
  rw [List.length_drop]
  omega
theorem tw_mem {p : Nat → Bool} {x : Nat} (l : List Nat) (h : x ∈ l.takeWhile p) : x ∈ l := (List.takeWhile_sublist p (l := l)).subset h
theorem tw_len (p : Nat → Bool) (l : List Nat) : (l.takeWhile p).length ≤ l.length := (List.takeWhile_sublist p (l := l)).length_le

theorem isEmpty_strN (a : List Nat) : (strN a).toList.isEmpty = decide (a.length = 0) := by rw [isEmpty_size, strN_size]

/-- What dec.Parse hands back. -/
def PostP (o : Option (Bool × Nat × Nat)) (w : World) (e : Ending) (w' : World) : Prop := match o with
  | some (neg, n, d) => GivesP (qv neg n d) w e w'
  | none => e = .returned (.tuple #[.agg #[.bool false, .slice none 0 0, .slice none 0 0], .int .i64 2]) ∧ Below w.heap.size w w'

theorem numD_len {b : List Nat} (h : okD b = true) : (lim (numD b)).length ≤ 400 := by
  unfold okD at h
  simp only [Bool.and_eq_true, decide_eq_true_eq] at h
  unfold numD
  have h1 : undec (b.map (· - 48)) < 10 ^ (b.map (· - 48)).length := undec_lt fun x hx => by
    obtain ⟨y, hy, rfl⟩ := List.mem_map.1 hx
    have := List.all_eq_true.1 h.2.2 y hy
    unfold isD at this
    have := of_decide_eq_true this
    omega
  exact lim_ten h1 (by rw [List.length_map]; exact h.2.1)

theorem prOf_q (s : Bool) (vn vd : Value) (n d : List Nat) (w : World) (dn : Dig n) (dd : Dig d) (hn : Nt w 0 w.heap.size vn n) (hd : Nt w 0 w.heap.size vd d) (ln : n.length ≤ 1000) (ld : d.length ≤ 1000) :
    Calls Tryz.prog 28 #[.bool s, vn, vd] w (GivesF (qv s (val n) (val d)) w) := by
  have := prOf_any s vn vd n d w dn dd hn hd ln ld
  obtain ⟨e1, e2, e3⟩ := nr_q s (val n) (val d)
  rw [e1, e2, e3] at this
  exact this

set_option maxHeartbeats 3200000 in
theorem decParse_long (l : List Nat) (w : World) (h4 : 400 < l.length) :
    Calls Tryz.prog 6 #[.string (strN l)] w fun e w' => e = .returned (.tuple #[.agg #[.bool false, .slice none 0 0, .slice none 0 0], .int .i64 3]) ∧ Below w.heap.size w w' := by
  have hs := strN_size l
  generalize strN l = t at *
  have hbig : (400 : Int) < (t.size : Int) := by omega
  clear hs h4
  have b0 := (Blk.new w 25 #[.bool false, .slice none 0 0, .slice none 0 0]).alloc (.cells #[.bool false, .slice none 0 0, .slice none 0 0] 25)
  have b1 := Blk.new (w.alloc (.cells #[.bool false, .slice none 0 0, .slice none 0 0] 25)) 25 #[.bool false, .slice none 0 0, .slice none 0 0]
  have hB : Below w.heap.size w ((w.alloc (.cells #[.bool false, .slice none 0 0, .slice none 0 0] 25)).alloc (.cells #[.bool false, .slice none 0 0, .slice none 0 0] 25)) := ((Below.refl _ _).alloc (Nat.le_refl _) _).alloc (by simp) _
  have es : (w.alloc (.cells #[.bool false, .slice none 0 0, .slice none 0 0] 25)).heap.size = w.heap.size + 1 := by simp
  rw [es] at b1
  clear es
  go_enter Tryz.func6, Tryz.ntmps6
  go_wp2_with fail
  generalize ((w.alloc (.cells #[.bool false, .slice none 0 0, .slice none 0 0] 25)).alloc (.cells #[.bool false, .slice none 0 0, .slice none 0 0] 25)) = w2 at *
  have e0 : w2.cell? ⟨w.heap.size, 0, none⟩ = some (.bool false) := b0.cell 0
  have e1 : w2.cell? ⟨w.heap.size, 1, none⟩ = some (.slice none 0 0) := b0.cell 1
  have e2 : w2.cell? ⟨w.heap.size, 2, none⟩ = some (.slice none 0 0) := b0.cell 2
  refine bodyPost_ret (v := .tuple #[.agg #[.bool false, .slice none 0 0, .slice none 0 0], .int .i64 3]) ?_ rfl ⟨rfl, hB⟩
  simp [results, Tryz.results6, go_sem, e0, e1, e2]

set_option maxHeartbeats 6400000 in
theorem decParse_any (l : List Nat) (hl : Byt l) (h4 : l.length ≤ 400) (o : Option (Bool × Nat × Nat)) (ho : wayA (strp l).1 (strp l).2 = o) (w : World) :
    Calls Tryz.prog 6 #[.string (strN l)] w (PostP o w) := by
  have hs := strN_size l
  have hcp := fun w => cutPrefix_any l hl w
  have hrb := strp_byt hl
  have hr4 := Nat.le_trans (strp_len l) h4
  obtain ⟨neg, hneg⟩ : ∃ b, (strp l).1 = b := ⟨_, rfl⟩
  obtain ⟨r, hr⟩ : ∃ r, (strp l).2 = r := ⟨_, rfl⟩
  rw [hneg, hr] at ho
  rw [hr] at hrb hr4
  rw [hneg, hr] at hcp
  have HCP := Lib.hid hcp
  have hct := fun w => cut_any r hrb 46 (by omega) (by omega) w
  have HCT := Lib.hid hct
  have hct7 := fun w => cut_any r hrb 47 (by omega) (by omega) w
  have HCT7 := Lib.hid hct7
  generalize strN l = t at *
  have hbig : ¬ (400 : Int) < (t.size : Int) := by omega
  have HRB := Lib.hid hrb
  clear hcp hneg hr hs h4 hl hct hct7 hrb
  have b0 := (Blk.new w 25 #[.bool false, .slice none 0 0, .slice none 0 0]).alloc (.cells #[.bool false, .slice none 0 0, .slice none 0 0] 25)
  have b1 := Blk.new (w.alloc (.cells #[.bool false, .slice none 0 0, .slice none 0 0] 25)) 25 #[.bool false, .slice none 0 0, .slice none 0 0]
  have hB : Below w.heap.size w ((w.alloc (.cells #[.bool false, .slice none 0 0, .slice none 0 0] 25)).alloc (.cells #[.bool false, .slice none 0 0, .slice none 0 0] 25)) := ((Below.refl _ _).alloc (Nat.le_refl _) _).alloc (by simp) _
  have es : (w.alloc (.cells #[.bool false, .slice none 0 0, .slice none 0 0] 25)).heap.size = w.heap.size + 1 := by simp
  rw [es] at b1
  clear es
  by_cases h46 : r.contains 46 = true
  · obtain ⟨a, ha⟩ : ∃ a, r.takeWhile (· != 46) = a := ⟨_, rfl⟩
    obtain ⟨b, hb⟩ : ∃ b, (r.dropWhile (· != 46)).drop 1 = b := ⟨_, rfl⟩
    have hW : o = if a.length ≠ 0 ∧ okD b = true ∧ okD (a ++ b) = true then some (neg, numD (a ++ b), 10 ^ b.length) else none := by
      rw [← ho]
      unfold wayA
      rw [if_pos h46, ha, hb]
    have hab : Byt a := fun x hx => HRB.out x (tw_mem r (ha ▸ hx))
    have hbb : Byt b := fun x hx => HRB.out x (dw_mem r (hb ▸ hx))
    have hlb : b.length ≤ 400 := by rw [← hb]; exact Nat.le_trans (dw_len _ _) hr4
    have hla : a.length ≤ 400 := by rw [← ha]; exact Nat.le_trans (tw_len _ _) hr4
    have HC : Hid (∀ w, Calls Tryz.prog 26 #[.string (strN r), .string ⟨#[46]⟩] w fun e w' => e = .returned (.tuple #[.string (strN a), .string (strN b), .bool true]) ∧ Below w.heap.size w w') := fun w => by
      have := HCT.out w
      rw [ha, hb, h46] at this
      exact this
    have HPB : Hid (∀ w, Calls Tryz.prog 27 #[.string (strN b)] w (GivesB (if okD b = true then lim (numD b) else []) (okD b) w)) := fun w => parse_l b hbb w
    have HPA : Hid (∀ w, Calls Tryz.prog 27 #[.string (strN (a ++ b))] w (GivesB (if okD (a ++ b) = true then lim (numD (a ++ b)) else []) (okD (a ++ b)) w)) := fun w => parse_l (a ++ b) (fun x hx => (List.mem_append.1 hx).elim (hab x) (hbb x)) w
    have hadd : ∀ W : World, (Op.stringOp .add (strN a) (strN b)).run Tryz.prog W = .ok (.string (strN (a ++ b))) W := fun W => add_str a b (by omega) W
    have hem := isEmpty_strN a
    have hsb := strN_size b
    have HTB : Hid (∀ w, Calls Tryz.prog 29 #[.int .i64 (b.length : Int)] w (Gives (lim (10 ^ b.length)) w)) := fun w => ten_big b.length w (by omega)
    have ltb : (lim (10 ^ b.length)).length ≤ 1000 := lim_ten (Nat.pow_lt_pow_right (by omega) (Nat.lt_succ_self b.length)) (by omega)
    have HLN : Hid (okD (a ++ b) = true → (lim (numD (a ++ b))).length ≤ 400) := fun h => numD_len h
    have HW := Lib.hid hW
    obtain ⟨q, hq⟩ : ∃ q, qv neg (numD (a ++ b)) (10 ^ b.length) = q := ⟨_, rfl⟩
    have HQ := Lib.hid hq
    have HOF : Hid (∀ (vn vd : Value) (w : World), okD (a ++ b) = true → Nt w 0 w.heap.size vn (lim (numD (a ++ b))) → Nt w 0 w.heap.size vd (lim (10 ^ b.length)) → Calls Tryz.prog 28 #[.bool neg, vn, vd] w (GivesF q w)) := fun vn vd w hk h1 h2 => by
      have := prOf_q neg vn vd (lim (numD (a ++ b))) (lim (10 ^ b.length)) w (dig_lim _) (dig_lim _) h1 h2 (Nat.le_trans (HLN.out hk) (by omega)) ltb
      rw [val_lim, val_lim, HQ.out] at this
      exact this
    clear ho hW ha hb h46 hab hbb HRB HCT HCT7 hr4 hq ltb HLN
    obtain ⟨za, hza⟩ : ∃ z, decide (a.length = 0) = z := ⟨_, rfl⟩
    rw [hza] at hem
    have HZA := Lib.hid hza
    clear hza
    generalize strN a = ta at *
    generalize strN (a ++ b) = tab at *
    rw [← hsb] at hlb
    rw [show ((b.length : Nat) : Int) = (((strN b).size : Nat) : Int) by rw [hsb]] at HTB
    generalize strN b = tb at *
    generalize strN r = tr at *
    clear hsb
    go_enter Tryz.func6, Tryz.ntmps6
    go_wp2_with fail
    generalize ((w.alloc (.cells #[.bool false, .slice none 0 0, .slice none 0 0] 25)).alloc (.cells #[.bool false, .slice none 0 0, .slice none 0 0] 25)) = w2 at *
    refine (HCP.out _).mono ?_
    rintro e w3 ⟨rfl, rfl⟩
    clear HCP
    go_wp2_with fail
    refine (HC.out _).mono ?_
    rintro e w4 ⟨rfl, hb⟩
    replace hB := hB.trans (hb.mono hB.size)
    replace b0 := b0.below hb b0.lt
    replace b1 := b1.below hb b1.lt
    clear hb
    clear HC
    go_wp2_with fail
    refine (HPB.out _).mono ?_
    rintro e w5 ⟨v5, rfl, h5, hb⟩
    replace hB := hB.trans (hb.mono hB.size)
    replace b0 := b0.below hb b0.lt
    replace b1 := b1.below hb b1.lt
    clear hb
    clear HPB h5
    go_wp2_with fail
    refine (HPA.out _).mono ?_
    rintro e w6 ⟨v6, rfl, h6, hb⟩
    replace h6 := h6.low (Nat.zero_le _)
    replace hB := hB.trans (hb.mono hB.size)
    replace b0 := b0.below hb b0.lt
    replace b1 := b1.below hb b1.lt
    clear hb
    clear HPA hadd
    by_cases c1 : za = true
    · have HO : Hid (o = none) := by
        show _ = _
        rw [HW.out, if_neg]
        rintro ⟨h, _⟩
        exact h (of_decide_eq_true (HZA.out.trans c1))
      rw [c1] at hem
      clear HW HZA c1 h6 HTB HOF
      have c0 := b1.cell 0
      have c1 := b1.cell 1
      have c2 := b1.cell 2
      have r0 := b0.cell 0
      have r1 := b0.cell 1
      have r2 := b0.cell 2
      have f0 := b0.free 0
      have f1 := b0.free 1
      have f2 := b0.free 2
      obtain ⟨e0, e1, e2, _, hBf⟩ := store3 b0 hB (Nat.le_refl _) false (.slice none 0 0) (.slice none 0 0) (Nt.nil w6 (w.heap.size + 1) w6.heap.size) (Nt.nil w6 (w.heap.size + 1) w6.heap.size)
      have HBF := Lib.hid hBf
      clear hBf b0 b1 hB
      unfold St3 at *
      go_wp2_with fail
      clear r0 r1 r2 f0 f1 f2 c0 c1 c2
      generalize ((World.setCell w6 ⟨w.heap.size, 0, none⟩ (.bool false)).setCell ⟨w.heap.size, 1, none⟩ (.slice none 0 0)).setCell ⟨w.heap.size, 2, none⟩ (.slice none 0 0) = wz at *
      refine bodyPost_ret (v := .tuple #[.agg #[.bool false, .slice none 0 0, .slice none 0 0], .int .i64 2]) ?_ rfl (by rw [HO.out]; exact ⟨rfl, HBF.out⟩)
      simp [results, Tryz.results6, go_sem, e0, e1, e2]
    · have c1' : za = false := by simpa using c1
      rw [c1'] at hem
      have hz0 : Hid (a.length ≠ 0) := of_decide_eq_false (HZA.out.trans c1')
      clear HZA c1 c1'
      by_cases c2 : okD b = true
      · rw [c2]
        by_cases c3 : okD (a ++ b) = true
        · have HO : Hid (o = some (neg, numD (a ++ b), 10 ^ b.length)) := by
            show _ = _
            rw [HW.out, if_pos ⟨hz0.out, c2, c3⟩]
          rw [if_pos c3] at h6
          rw [c3]
          have HOF2 : Hid (∀ (vn vd : Value) (w : World), Nt w 0 w.heap.size vn (lim (numD (a ++ b))) → Nt w 0 w.heap.size vd (lim (10 ^ b.length)) → Calls Tryz.prog 28 #[.bool neg, vn, vd] w (GivesF q w)) := fun vn vd w h1 h2 => HOF.out vn vd w c3 h1 h2
          clear HW hz0 c2 c3 HOF
          go_wp2_with fail
          refine (HTB.out _).mono ?_
          rintro e w7 ⟨v7, rfl, h7, hb⟩
          replace h7 := h7.low (Nat.zero_le _)
          replace h6 := h6.after hb
          replace hB := hB.trans (hb.mono hB.size)
          replace b0 := b0.below hb b0.lt
          replace b1 := b1.below hb b1.lt
          clear hb
          clear HTB
          go_wp2_with fail
          refine (HOF2.out _ _ _ h6 h7).mono ?_
          rintro e w8 ⟨v8, rfl, ⟨an, ad, rfl, han, had⟩, hb⟩
          have lw := b1.lt
          replace hB := hB.trans (hb.mono hB.size)
          replace b0 := b0.below hb b0.lt
          replace han := han.low (Nat.le_of_lt lw)
          replace had := had.low (Nat.le_of_lt lw)
          have han2 := han
          have had2 := had
          obtain ⟨A8, c8, rfl, m8⟩ := nt_len han2
          obtain ⟨A9, c9, rfl, m9⟩ := nt_len had2
          obtain ⟨e0, e1, e2, hR, hBf⟩ := store3 b0 hB (Nat.le_refl _) (qS q) (.slice A8 (lim (qN q)).length c8) (.slice A9 (lim q.den).length c9) han had
          have r0 := b0.cell 0
          have r1 := b0.cell 1
          have r2 := b0.cell 2
          have f0 := b0.free 0
          have f1 := b0.free 1
          have f2 := b0.free 2
          have HR := Lib.hid hR
          have HBF := Lib.hid hBf
          clear han had han2 had2 hR hBf hb hB b0 b1
          unfold St3 at *
          go_wp2_with fail
          clear r0 r1 r2 f0 f1 f2
          generalize ((World.setCell w8 ⟨w.heap.size, 0, none⟩ (.bool (qS q))).setCell ⟨w.heap.size, 1, none⟩ (.slice A8 (lim (qN q)).length c8)).setCell ⟨w.heap.size, 2, none⟩ (.slice A9 (lim q.den).length c9) = wz at *
          refine bodyPost_ret (v := .tuple #[.agg #[.bool (qS q), .slice A8 (lim (qN q)).length c8, .slice A9 (lim q.den).length c9], .int .i64 0]) ?_ rfl (by rw [HO.out]; show GivesP (qv _ _ _) _ _ _; rw [HQ.out]; exact ⟨_, rfl, HR.out, HBF.out⟩)
          simp [results, Tryz.results6, go_sem, e0, e1, e2]
        · have HO : Hid (o = none) := by
            show _ = _
            rw [HW.out, if_neg]
            rintro ⟨_, _, h⟩
            exact c3 h
          have c3' : okD (a ++ b) = false := by simpa using c3
          rw [c3']
          clear HW hz0 c2 c3 c3' h6 HTB HOF
          have c0 := b1.cell 0
          have c1 := b1.cell 1
          have c2 := b1.cell 2
          have r0 := b0.cell 0
          have r1 := b0.cell 1
          have r2 := b0.cell 2
          have f0 := b0.free 0
          have f1 := b0.free 1
          have f2 := b0.free 2
          obtain ⟨e0, e1, e2, _, hBf⟩ := store3 b0 hB (Nat.le_refl _) false (.slice none 0 0) (.slice none 0 0) (Nt.nil w6 (w.heap.size + 1) w6.heap.size) (Nt.nil w6 (w.heap.size + 1) w6.heap.size)
          have HBF := Lib.hid hBf
          clear hBf b0 b1 hB
          unfold St3 at *
          go_wp2_with fail
          clear r0 r1 r2 f0 f1 f2 c0 c1 c2
          generalize ((World.setCell w6 ⟨w.heap.size, 0, none⟩ (.bool false)).setCell ⟨w.heap.size, 1, none⟩ (.slice none 0 0)).setCell ⟨w.heap.size, 2, none⟩ (.slice none 0 0) = wz at *
          refine bodyPost_ret (v := .tuple #[.agg #[.bool false, .slice none 0 0, .slice none 0 0], .int .i64 2]) ?_ rfl (by rw [HO.out]; exact ⟨rfl, HBF.out⟩)
          simp [results, Tryz.results6, go_sem, e0, e1, e2]
      · have HO : Hid (o = none) := by
          show _ = _
          rw [HW.out, if_neg]
          rintro ⟨_, h, _⟩
          exact c2 h
        have c2' : okD b = false := by simpa using c2
        rw [c2']
        clear HW hz0 c2 c2' h6 HTB HOF
        have c0 := b1.cell 0
        have c1 := b1.cell 1
        have c2 := b1.cell 2
        have r0 := b0.cell 0
        have r1 := b0.cell 1
        have r2 := b0.cell 2
        have f0 := b0.free 0
        have f1 := b0.free 1
        have f2 := b0.free 2
        obtain ⟨e0, e1, e2, _, hBf⟩ := store3 b0 hB (Nat.le_refl _) false (.slice none 0 0) (.slice none 0 0) (Nt.nil w6 (w.heap.size + 1) w6.heap.size) (Nt.nil w6 (w.heap.size + 1) w6.heap.size)
        have HBF := Lib.hid hBf
        clear hBf b0 b1 hB
        unfold St3 at *
        go_wp2_with fail
        clear r0 r1 r2 f0 f1 f2 c0 c1 c2
        generalize ((World.setCell w6 ⟨w.heap.size, 0, none⟩ (.bool false)).setCell ⟨w.heap.size, 1, none⟩ (.slice none 0 0)).setCell ⟨w.heap.size, 2, none⟩ (.slice none 0 0) = wz at *
        refine bodyPost_ret (v := .tuple #[.agg #[.bool false, .slice none 0 0, .slice none 0 0], .int .i64 2]) ?_ rfl (by rw [HO.out]; exact ⟨rfl, HBF.out⟩)
        simp [results, Tryz.results6, go_sem, e0, e1, e2]
  · have hc46 : r.contains 46 = false := by simpa using h46
    obtain ⟨y1, y2⟩ := tw_none (c := 46) r (by simpa using hc46)
    have HC : Hid (∀ w, Calls Tryz.prog 26 #[.string (strN r), .string ⟨#[46]⟩] w fun e w' => e = .returned (.tuple #[.string (strN r), .string ⟨#[]⟩, .bool false]) ∧ Below w.heap.size w w') := fun w => by
      have := HCT.out w
      rw [y1, y2, hc46] at this
      exact this
    clear HCT hc46 y1 y2
    by_cases h47 : r.contains 47 = true
    · obtain ⟨a, ha⟩ : ∃ a, r.takeWhile (· != 47) = a := ⟨_, rfl⟩
      obtain ⟨b, hb⟩ : ∃ b, (r.dropWhile (· != 47)).drop 1 = b := ⟨_, rfl⟩
      have hW : o = if okD a = true ∧ okD b = true ∧ numD b ≠ 0 then some (neg, numD a, numD b) else none := by
        rw [← ho]
        unfold wayA
        rw [if_neg h46, if_pos h47, ha, hb]
      have hab : Byt a := fun x hx => HRB.out x (tw_mem r (ha ▸ hx))
      have hbb : Byt b := fun x hx => HRB.out x (dw_mem r (hb ▸ hx))
      have HC7 : Hid (∀ w, Calls Tryz.prog 26 #[.string (strN r), .string ⟨#[47]⟩] w fun e w' => e = .returned (.tuple #[.string (strN a), .string (strN b), .bool true]) ∧ Below w.heap.size w w') := fun w => by
        have := HCT7.out w
        rw [ha, hb, h47] at this
        exact this
      have HPA : Hid (∀ w, Calls Tryz.prog 27 #[.string (strN a)] w (GivesB (if okD a = true then lim (numD a) else []) (okD a) w)) := fun w => parse_l a hab w
      have HPB : Hid (∀ w, Calls Tryz.prog 27 #[.string (strN b)] w (GivesB (if okD b = true then lim (numD b) else []) (okD b) w)) := fun w => parse_l b hbb w
      have HW := Lib.hid hW
      obtain ⟨q, hq⟩ : ∃ q, qv neg (numD a) (numD b) = q := ⟨_, rfl⟩
      have HQ := Lib.hid hq
      have HOF : Hid (∀ (vn vd : Value) (w : World), okD a = true → okD b = true → Nt w 0 w.heap.size vn (lim (numD a)) → Nt w 0 w.heap.size vd (lim (numD b)) → Calls Tryz.prog 28 #[.bool neg, vn, vd] w (GivesF q w)) := fun vn vd w hk hk2 h1 h2 => by
        have := prOf_q neg vn vd (lim (numD a)) (lim (numD b)) w (dig_lim _) (dig_lim _) h1 h2 (Nat.le_trans (numD_len hk) (by omega)) (Nat.le_trans (numD_len hk2) (by omega))
        rw [val_lim, val_lim, HQ.out] at this
        exact this
      clear ho hW ha hb h46 h47 hab hbb HRB HCT7 hr4 hq
      generalize strN a = ta at *
      generalize strN b = tb at *
      generalize strN r = tr at *
      go_enter Tryz.func6, Tryz.ntmps6
      go_wp2_with fail
      generalize ((w.alloc (.cells #[.bool false, .slice none 0 0, .slice none 0 0] 25)).alloc (.cells #[.bool false, .slice none 0 0, .slice none 0 0] 25)) = w2 at *
      refine (HCP.out _).mono ?_
      rintro e w3 ⟨rfl, rfl⟩
      clear HCP
      go_wp2_with fail
      refine (HC.out _).mono ?_
      rintro e w4 ⟨rfl, hb⟩
      replace hB := hB.trans (hb.mono hB.size)
      replace b0 := b0.below hb b0.lt
      replace b1 := b1.below hb b1.lt
      clear hb
      clear HC
      go_wp2_with fail
      refine (HC7.out _).mono ?_
      rintro e w5 ⟨rfl, hb⟩
      replace hB := hB.trans (hb.mono hB.size)
      replace b0 := b0.below hb b0.lt
      replace b1 := b1.below hb b1.lt
      clear hb
      clear HC7
      go_wp2_with fail
      refine (HPA.out _).mono ?_
      rintro e w6 ⟨v5, rfl, h5, hb⟩
      replace h5 := h5.low (Nat.zero_le _)
      replace hB := hB.trans (hb.mono hB.size)
      replace b0 := b0.below hb b0.lt
      replace b1 := b1.below hb b1.lt
      clear hb
      clear HPA
      go_wp2_with fail
      refine (HPB.out _).mono ?_
      rintro e w7 ⟨v6, rfl, h6, hb⟩
      replace h6 := h6.low (Nat.zero_le _)
      replace h5 := h5.after hb
      replace hB := hB.trans (hb.mono hB.size)
      replace b0 := b0.below hb b0.lt
      replace b1 := b1.below hb b1.lt
      clear hb
      clear HPB
      by_cases c2 : okD a = true
      · rw [if_pos c2] at h5
        rw [c2]
        by_cases c3 : okD b = true
        · rw [if_pos c3] at h6
          rw [c3]
          have h62 := h6
          obtain ⟨A6, k6, rfl, m6⟩ := nt_len h62
          clear h62
          by_cases c4 : numD b = 0
          · have HO : Hid (o = none) := by
              show _ = _
              rw [HW.out, if_neg]
              rintro ⟨_, _, h⟩
              exact h c4
            have hz : (((lim (numD b)).length : Nat) : Int) = 0 := by rw [c4, lim_zero]; rfl
            generalize (lim (numD b)).length = N6 at *
            clear HW c2 c3 c4 HOF h5 h6 HQ
            have c0 := b1.cell 0
            have c1 := b1.cell 1
            have c2 := b1.cell 2
            have r0 := b0.cell 0
            have r1 := b0.cell 1
            have r2 := b0.cell 2
            have f0 := b0.free 0
            have f1 := b0.free 1
            have f2 := b0.free 2
            obtain ⟨e0, e1, e2, _, hBf⟩ := store3 b0 hB (Nat.le_refl _) false (.slice none 0 0) (.slice none 0 0) (Nt.nil w7 (w.heap.size + 1) w7.heap.size) (Nt.nil w7 (w.heap.size + 1) w7.heap.size)
            have HBF := Lib.hid hBf
            clear hBf b0 b1 hB
            unfold St3 at *
            go_wp2_with fail
            clear r0 r1 r2 f0 f1 f2 c0 c1 c2
            generalize ((World.setCell w7 ⟨w.heap.size, 0, none⟩ (.bool false)).setCell ⟨w.heap.size, 1, none⟩ (.slice none 0 0)).setCell ⟨w.heap.size, 2, none⟩ (.slice none 0 0) = wz at *
            refine bodyPost_ret (v := .tuple #[.agg #[.bool false, .slice none 0 0, .slice none 0 0], .int .i64 2]) ?_ rfl (by rw [HO.out]; exact ⟨rfl, HBF.out⟩)
            simp [results, Tryz.results6, go_sem, e0, e1, e2]
          · have HO : Hid (o = some (neg, numD a, numD b)) := by
              show _ = _
              rw [HW.out, if_pos ⟨c2, c3, c4⟩]
            have hz : ¬ (((lim (numD b)).length : Nat) : Int) = 0 := by
              intro h
              have : (lim (numD b)).length = 0 := by omega
              exact c4 (lim_eq_nil.1 (List.length_eq_zero_iff.1 this))
            have HOF2 : Hid (∀ (vn vd : Value) (w : World), Nt w 0 w.heap.size vn (lim (numD a)) → Nt w 0 w.heap.size vd (lim (numD b)) → Calls Tryz.prog 28 #[.bool neg, vn, vd] w (GivesF q w)) := fun vn vd w h1 h2 => HOF.out vn vd w c2 c3 h1 h2
            clear HW c2 c3 c4 HOF
            go_wp2_with fail
            refine (HOF2.out _ _ _ h5 h6).mono ?_
            rintro e w8 ⟨v8, rfl, ⟨an, ad, rfl, han, had⟩, hb⟩
            have lw := b1.lt
            replace hB := hB.trans (hb.mono hB.size)
            replace b0 := b0.below hb b0.lt
            replace han := han.low (Nat.le_of_lt lw)
            replace had := had.low (Nat.le_of_lt lw)
            have han2 := han
            have had2 := had
            obtain ⟨A8, c8, rfl, m8⟩ := nt_len han2
            obtain ⟨A9, c9, rfl, m9⟩ := nt_len had2
            obtain ⟨e0, e1, e2, hR, hBf⟩ := store3 b0 hB (Nat.le_refl _) (qS q) (.slice A8 (lim (qN q)).length c8) (.slice A9 (lim q.den).length c9) han had
            have r0 := b0.cell 0
            have r1 := b0.cell 1
            have r2 := b0.cell 2
            have f0 := b0.free 0
            have f1 := b0.free 1
            have f2 := b0.free 2
            have HR := Lib.hid hR
            have HBF := Lib.hid hBf
            clear han had han2 had2 hR hBf hb hB b0 b1
            unfold St3 at *
            go_wp2_with fail
            clear r0 r1 r2 f0 f1 f2
            generalize ((World.setCell w8 ⟨w.heap.size, 0, none⟩ (.bool (qS q))).setCell ⟨w.heap.size, 1, none⟩ (.slice A8 (lim (qN q)).length c8)).setCell ⟨w.heap.size, 2, none⟩ (.slice A9 (lim q.den).length c9) = wz at *
            refine bodyPost_ret (v := .tuple #[.agg #[.bool (qS q), .slice A8 (lim (qN q)).length c8, .slice A9 (lim q.den).length c9], .int .i64 0]) ?_ rfl (by rw [HO.out]; show GivesP (qv _ _ _) _ _ _; rw [HQ.out]; exact ⟨_, rfl, HR.out, HBF.out⟩)
            simp [results, Tryz.results6, go_sem, e0, e1, e2]
        · have HO : Hid (o = none) := by
            show _ = _
            rw [HW.out, if_neg]
            rintro ⟨_, h, _⟩
            exact c3 h
          have c3' : okD b = false := by simpa using c3
          rw [c3']
          clear HW c2 c3 c3' h5 h6 HOF
          have c0 := b1.cell 0
          have c1 := b1.cell 1
          have c2 := b1.cell 2
          have r0 := b0.cell 0
          have r1 := b0.cell 1
          have r2 := b0.cell 2
          have f0 := b0.free 0
          have f1 := b0.free 1
          have f2 := b0.free 2
          obtain ⟨e0, e1, e2, _, hBf⟩ := store3 b0 hB (Nat.le_refl _) false (.slice none 0 0) (.slice none 0 0) (Nt.nil w7 (w.heap.size + 1) w7.heap.size) (Nt.nil w7 (w.heap.size + 1) w7.heap.size)
          have HBF := Lib.hid hBf
          clear hBf b0 b1 hB
          unfold St3 at *
          go_wp2_with fail
          clear r0 r1 r2 f0 f1 f2 c0 c1 c2
          generalize ((World.setCell w7 ⟨w.heap.size, 0, none⟩ (.bool false)).setCell ⟨w.heap.size, 1, none⟩ (.slice none 0 0)).setCell ⟨w.heap.size, 2, none⟩ (.slice none 0 0) = wz at *
          refine bodyPost_ret (v := .tuple #[.agg #[.bool false, .slice none 0 0, .slice none 0 0], .int .i64 2]) ?_ rfl (by rw [HO.out]; exact ⟨rfl, HBF.out⟩)
          simp [results, Tryz.results6, go_sem, e0, e1, e2]
      · have HO : Hid (o = none) := by
          show _ = _
          rw [HW.out, if_neg]
          rintro ⟨h, _⟩
          exact c2 h
        have c2' : okD a = false := by simpa using c2
        rw [c2']
        clear HW c2 c2' h5 h6 HOF
        have c0 := b1.cell 0
        have c1 := b1.cell 1
        have c2 := b1.cell 2
        have r0 := b0.cell 0
        have r1 := b0.cell 1
        have r2 := b0.cell 2
        have f0 := b0.free 0
        have f1 := b0.free 1
        have f2 := b0.free 2
        obtain ⟨e0, e1, e2, _, hBf⟩ := store3 b0 hB (Nat.le_refl _) false (.slice none 0 0) (.slice none 0 0) (Nt.nil w7 (w.heap.size + 1) w7.heap.size) (Nt.nil w7 (w.heap.size + 1) w7.heap.size)
        have HBF := Lib.hid hBf
        clear hBf b0 b1 hB
        unfold St3 at *
        go_wp2_with fail
        clear r0 r1 r2 f0 f1 f2 c0 c1 c2
        generalize ((World.setCell w7 ⟨w.heap.size, 0, none⟩ (.bool false)).setCell ⟨w.heap.size, 1, none⟩ (.slice none 0 0)).setCell ⟨w.heap.size, 2, none⟩ (.slice none 0 0) = wz at *
        refine bodyPost_ret (v := .tuple #[.agg #[.bool false, .slice none 0 0, .slice none 0 0], .int .i64 2]) ?_ rfl (by rw [HO.out]; exact ⟨rfl, HBF.out⟩)
        simp [results, Tryz.results6, go_sem, e0, e1, e2]
    · have hc47 : r.contains 47 = false := by simpa using h47
      obtain ⟨y1, y2⟩ := tw_none (c := 47) r (by simpa using hc47)
      have hW : o = if okD r = true then some (neg, numD r, 1) else none := by
        rw [← ho]
        unfold wayA
        rw [if_neg h46, if_neg h47]
      have HC7 : Hid (∀ w, Calls Tryz.prog 26 #[.string (strN r), .string ⟨#[47]⟩] w fun e w' => e = .returned (.tuple #[.string (strN r), .string ⟨#[]⟩, .bool false]) ∧ Below w.heap.size w w') := fun w => by
        have := HCT7.out w
        rw [y1, y2, hc47] at this
        exact this
      have HPA : Hid (∀ w, Calls Tryz.prog 27 #[.string (strN r)] w (GivesB (if okD r = true then lim (numD r) else []) (okD r) w)) := fun w => parse_l r HRB.out w
      have HPB : Hid (∀ w, Calls Tryz.prog 27 #[.string ⟨#[49]⟩] w (GivesB (lim 1) true w)) := fun w => by
        have := parse_l [49] (fun x hx => by rw [List.mem_singleton] at hx; omega) w
        have e1 : okD [49] = true := by decide
        have e2 : numD [49] = 1 := by decide
        rw [e1, if_pos rfl, e2] at this
        exact this
      have HW := Lib.hid hW
      obtain ⟨q, hq⟩ : ∃ q, qv neg (numD r) 1 = q := ⟨_, rfl⟩
      have HQ := Lib.hid hq
      have HOF : Hid (∀ (vn vd : Value) (w : World), okD r = true → True → Nt w 0 w.heap.size vn (lim (numD r)) → Nt w 0 w.heap.size vd (lim 1) → Calls Tryz.prog 28 #[.bool neg, vn, vd] w (GivesF q w)) := fun vn vd w hk hk2 h1 h2 => by
        have := prOf_q neg vn vd (lim (numD r)) (lim 1) w (dig_lim _) (dig_lim _) h1 h2 (Nat.le_trans (numD_len hk) (by omega)) (Nat.le_trans (lim_length_le (k := 1) (by omega)) (by omega))
        rw [val_lim, val_lim, HQ.out] at this
        exact this
      clear ho hW h46 h47 hc47 y1 y2 HRB HCT7 hr4 hq
      generalize strN r = tr at *
      go_enter Tryz.func6, Tryz.ntmps6
      go_wp2_with fail
      generalize ((w.alloc (.cells #[.bool false, .slice none 0 0, .slice none 0 0] 25)).alloc (.cells #[.bool false, .slice none 0 0, .slice none 0 0] 25)) = w2 at *
      refine (HCP.out _).mono ?_
      rintro e w3 ⟨rfl, rfl⟩
      clear HCP
      go_wp2_with fail
      refine (HC.out _).mono ?_
      rintro e w4 ⟨rfl, hb⟩
      replace hB := hB.trans (hb.mono hB.size)
      replace b0 := b0.below hb b0.lt
      replace b1 := b1.below hb b1.lt
      clear hb
      clear HC
      go_wp2_with fail
      refine (HC7.out _).mono ?_
      rintro e w5 ⟨rfl, hb⟩
      replace hB := hB.trans (hb.mono hB.size)
      replace b0 := b0.below hb b0.lt
      replace b1 := b1.below hb b1.lt
      clear hb
      clear HC7
      go_wp2_with fail
      refine (HPA.out _).mono ?_
      rintro e w6 ⟨v5, rfl, h5, hb⟩
      replace h5 := h5.low (Nat.zero_le _)
      replace hB := hB.trans (hb.mono hB.size)
      replace b0 := b0.below hb b0.lt
      replace b1 := b1.below hb b1.lt
      clear hb
      clear HPA
      go_wp2_with fail
      refine (HPB.out _).mono ?_
      rintro e w7 ⟨v6, rfl, h6, hb⟩
      replace h6 := h6.low (Nat.zero_le _)
      replace h5 := h5.after hb
      replace hB := hB.trans (hb.mono hB.size)
      replace b0 := b0.below hb b0.lt
      replace b1 := b1.below hb b1.lt
      clear hb
      clear HPB
      have h62 := h6
      obtain ⟨A6, k6, rfl, m6⟩ := nt_len h62
      clear h62
      have hz : ¬ (((lim 1).length : Nat) : Int) = 0 := by
        intro h
        have : (lim 1).length = 0 := by omega
        exact absurd (lim_eq_nil.1 (List.length_eq_zero_iff.1 this)) (by omega)
      by_cases c2 : okD r = true
      · rw [if_pos c2] at h5
        rw [c2]
        have HO : Hid (o = some (neg, numD r, 1)) := by
          show _ = _
          rw [HW.out, if_pos c2]
        have HOF2 : Hid (∀ (vn vd : Value) (w : World), Nt w 0 w.heap.size vn (lim (numD r)) → Nt w 0 w.heap.size vd (lim 1) → Calls Tryz.prog 28 #[.bool neg, vn, vd] w (GivesF q w)) := fun vn vd w h1 h2 => HOF.out vn vd w c2 trivial h1 h2
        clear HW c2 HOF
        go_wp2_with fail
        refine (HOF2.out _ _ _ h5 h6).mono ?_
        rintro e w8 ⟨v8, rfl, ⟨an, ad, rfl, han, had⟩, hb⟩
        have lw := b1.lt
        replace hB := hB.trans (hb.mono hB.size)
        replace b0 := b0.below hb b0.lt
        replace han := han.low (Nat.le_of_lt lw)
        replace had := had.low (Nat.le_of_lt lw)
        have han2 := han
        have had2 := had
        obtain ⟨A8, c8, rfl, m8⟩ := nt_len han2
        obtain ⟨A9, c9, rfl, m9⟩ := nt_len had2
        obtain ⟨e0, e1, e2, hR, hBf⟩ := store3 b0 hB (Nat.le_refl _) (qS q) (.slice A8 (lim (qN q)).length c8) (.slice A9 (lim q.den).length c9) han had
        have r0 := b0.cell 0
        have r1 := b0.cell 1
        have r2 := b0.cell 2
        have f0 := b0.free 0
        have f1 := b0.free 1
        have f2 := b0.free 2
        have HR := Lib.hid hR
        have HBF := Lib.hid hBf
        clear han had han2 had2 hR hBf hb hB b0 b1
        unfold St3 at *
        go_wp2_with fail
        clear r0 r1 r2 f0 f1 f2
        generalize ((World.setCell w8 ⟨w.heap.size, 0, none⟩ (.bool (qS q))).setCell ⟨w.heap.size, 1, none⟩ (.slice A8 (lim (qN q)).length c8)).setCell ⟨w.heap.size, 2, none⟩ (.slice A9 (lim q.den).length c9) = wz at *
        refine bodyPost_ret (v := .tuple #[.agg #[.bool (qS q), .slice A8 (lim (qN q)).length c8, .slice A9 (lim q.den).length c9], .int .i64 0]) ?_ rfl (by rw [HO.out]; show GivesP (qv _ _ _) _ _ _; rw [HQ.out]; exact ⟨_, rfl, HR.out, HBF.out⟩)
        simp [results, Tryz.results6, go_sem, e0, e1, e2]
      · have HO : Hid (o = none) := by
          show _ = _
          rw [HW.out, if_neg c2]
        have c2' : okD r = false := by simpa using c2
        rw [c2']
        clear HW c2 c2' h5 h6 HOF
        have c0 := b1.cell 0
        have c1 := b1.cell 1
        have c2 := b1.cell 2
        have r0 := b0.cell 0
        have r1 := b0.cell 1
        have r2 := b0.cell 2
        have f0 := b0.free 0
        have f1 := b0.free 1
        have f2 := b0.free 2
        obtain ⟨e0, e1, e2, _, hBf⟩ := store3 b0 hB (Nat.le_refl _) false (.slice none 0 0) (.slice none 0 0) (Nt.nil w7 (w.heap.size + 1) w7.heap.size) (Nt.nil w7 (w.heap.size + 1) w7.heap.size)
        have HBF := Lib.hid hBf
        clear hBf b0 b1 hB
        unfold St3 at *
        go_wp2_with fail
        clear r0 r1 r2 f0 f1 f2 c0 c1 c2
        generalize ((World.setCell w7 ⟨w.heap.size, 0, none⟩ (.bool false)).setCell ⟨w.heap.size, 1, none⟩ (.slice none 0 0)).setCell ⟨w.heap.size, 2, none⟩ (.slice none 0 0) = wz at *
        refine bodyPost_ret (v := .tuple #[.agg #[.bool false, .slice none 0 0, .slice none 0 0], .int .i64 2]) ?_ rfl (by rw [HO.out]; exact ⟨rfl, HBF.out⟩)
        simp [results, Tryz.results6, go_sem, e0, e1, e2]
end Go.Proofs.YtobmjcbjailclaaGreatDoor

/- 'strings.Contains' of one byte, the reference's look at digits, balls of one number, by their contracts. Condition: bounds on lengths. -/
namespace Go.Proofs.YtobmjcbjailclaaGreatDoor
set_option maxRecDepth 100000
open Go.RowKit Go.Shelf

set_option maxHeartbeats 1600000 in
theorem contains_any (l : List Nat) (hl : Byt l) (c : Nat) (hc : c < 256) (w : World) :
    Calls Tryz.prog 57 #[.string (strN l), .string ⟨#[UInt8.ofNat c]⟩] w fun e w' => e = .returned (.bool (l.contains c)) ∧ w = w' := by
  have hix : ∀ w, Calls Tryz.prog 104 #[.string (strN l), .string ⟨#[UInt8.ofNat c]⟩] w fun e w' => e = .returned (.int .i64 (if l.contains c = true then ((l.takeWhile (· != c)).length : Int) else -1)) ∧ w' = w := fun w => by
    have := Any.stringslite_Index_one Tryz.lays219 (strN l) (UInt8.ofNat c) w
    have e : (strN l).data.toList = l.map UInt8.ofNat := by unfold strN; simp
    rw [e, index_of c hc l hl] at this
    exact this
  obtain ⟨x, hx⟩ : ∃ x : Int, (if l.contains c = true then ((l.takeWhile (· != c)).length : Int) else -1) = x := ⟨_, rfl⟩
  have hxb : Hid (decide (0 ≤ x) = l.contains c) := by
    show _ = _
    rw [← hx]
    cases l.contains c
    · rfl
    · simp
  rw [hx] at hix
  have HIX := Lib.hid hix
  clear hix hx hl
  generalize strN l = t at *
  have HI2 : Hid (∀ w, Calls Tryz.prog 95 #[.string t, .string ⟨#[UInt8.ofNat c]⟩] w fun e w' => e = .returned (.int .i64 x) ∧ w = w') := fun w => by
    go_enter Tryz.func95, Tryz.ntmps95
    go_wp2_with fail
    go_fit (HIX.out _)
    rintro e w1 ⟨rfl, rfl⟩
    go_wp2_with fail
    go_ret
    exact ⟨rfl, rfl⟩
  clear HIX
  go_enter Tryz.func57, Tryz.ntmps57
  go_wp2_with fail
  go_fit (HI2.out _)
  rintro e w1 ⟨rfl, rfl⟩
  clear HI2
  go_wp2_with fail
  go_ret
  exact ⟨by rw [← hxb.out]; rfl, rfl⟩

/-- Where a point stands last; -1: none. -/
def lastR : List Nat → Int
  | [] => -1
  | c :: r => if c = 46 then (r.length : Int) else lastR r
def lastI (l : List Nat) : Int := lastR l.reverse
theorem lastI_snoc (l : List Nat) (c : Nat) : lastI (l ++ [c]) = if c = 46 then (l.length : Int) else lastI l := by
  unfold lastI
  rw [List.reverse_append]
  show (if c = 46 then (l.reverse.length : Int) else lastR l.reverse) = _
  rw [List.length_reverse]
theorem lastI_range (l : List Nat) : -1 ≤ lastI l ∧ lastI l < l.length := by
  have h : ∀ r : List Nat, -1 ≤ lastR r ∧ lastR r < r.length := by
    intro r
    induction r with
    | nil => unfold lastR; simp
    | cons c r ih =>
      unfold lastR
      rw [List.length_cons]
      split <;> omega
  have := h l.reverse
  rw [List.length_reverse] at this
  exact this

/-- Has a text just so many digits behind a point, and no stroke, as the reference asks? -/
def digR (l : List Nat) (D : Nat) : Bool := !l.contains 47 && (if D = 0 then decide (lastI l < 0) else decide (0 ≤ lastI l) && decide ((l.length : Int) - lastI l - 1 = (D : Int)))
/-- As the program asks. -/
def digA (l : List Nat) (D : Nat) : Bool := !l.contains 47 && (decide (((l.dropWhile (· != 46)).drop 1).length = D) && (l.contains 46 == decide (0 < D)))

theorem lastR_no : ∀ r : List Nat, 46 ∉ r → lastR r = -1
  | [], _ => rfl
  | c :: r, h => by
    unfold lastR
    rw [if_neg fun hc => h (by simp [hc])]
    exact lastR_no r fun hm => h (List.mem_cons_of_mem _ hm)
theorem lastI_no {l : List Nat} (h : 46 ∉ l) : lastI l = -1 := lastR_no _ (by simpa using h)
theorem lastI_one (a b : List Nat) (h : 46 ∉ b) : lastI (a ++ 46 :: b) = a.length := by
  unfold lastI
  rw [List.reverse_append, List.reverse_cons]
  have h2 : ∀ r s : List Nat, 46 ∉ r → lastR (r ++ [46] ++ s) = s.length := by
    intro r
    induction r with
    | nil => intro s _; simp [lastR]
    | cons c r ih =>
      intro s hs
      show lastR (c :: (r ++ [46] ++ s)) = _
      unfold lastR
      rw [if_neg fun hc => hs (by simp [hc])]
      exact ih s fun hm => hs (List.mem_cons_of_mem _ hm)
  rw [h2 _ _ (by simpa using h), List.length_reverse]

/-- Where at most one point stands both ways to ask agree. -/
theorem dig_same (l : List Nat) (D : Nat) (h : 46 ∉ l ∨ ∃ a b, l = a ++ 46 :: b ∧ 46 ∉ a ∧ 46 ∉ b) : digR l D = digA l D := by
  unfold digR digA
  congr 1
  rcases h with h | ⟨a, b, rfl, ha, hb⟩
  · have hc : l.contains 46 = false := by simpa using h
    have e2 := (tw_none l h).2
    rw [lastI_no h, hc, e2]
    by_cases hD : D = 0
    · subst hD; rfl
    · rw [if_neg hD]
      have : (([] : List Nat).drop 1).length = 0 := rfl
      rw [this, decide_eq_false (by omega : ¬ (0 : Int) ≤ -1), decide_eq_false (by omega : ¬ 0 = D)]
      rfl
  · have hc : (a ++ 46 :: b).contains 46 = true := by simp
    have e2 : (a ++ 46 :: b).dropWhile (· != 46) = 46 :: b := by
      have h1 : ∀ x ∈ a, (x != 46) = true := fun x hx => bne_iff_ne.2 fun hc => ha (hc ▸ hx)
      rw [List.dropWhile_append_of_pos h1]
      rfl
    rw [lastI_one a b hb, hc, e2, List.length_append, List.length_cons]
    show _ = (decide (b.length = D) && _)
    by_cases hD : D = 0
    · subst hD
      rw [if_pos rfl, decide_eq_false (by omega : ¬ (a.length : Int) < 0)]
      simp
    · rw [if_neg hD, decide_eq_true (by omega : (0 : Int) ≤ a.length), decide_eq_true (by omega : 0 < D)]
      have e : (((a.length + (b.length + 1) : Nat) : Int) - (a.length : Int) - 1 = (D : Int)) ↔ b.length = D := by omega
      have e3 : decide (((a.length + (b.length + 1) : Nat) : Int) - (a.length : Int) - 1 = (D : Int)) = decide (b.length = D) := decide_eq_decide.2 e
      rw [e3]
      simp

set_option maxHeartbeats 1600000 in
theorem refDigits20_any (l : List Nat) (hl : Byt l) (h9 : l.length ≤ 1000) (D : Nat) (w : World) :
    Calls Tryz.prog 61 #[.string (strN l), .int .i64 (D : Int)] w fun e w' => e = .returned (.bool (digR l D)) ∧ w = w' := by
  have hs := strN_size l
  have hget : ∀ k (h : k < (strN l).size), ((strN l)[k]'h).toNat = l[k]'(by rw [hs] at h; exact h) := fun k h => strN_get l hl k h _
  have HGET := Lib.hid hget
  clear hget
  have hup : ((strN l).size : Int) ≤ 1000 := by omega
  go_enter Tryz.func61, Tryz.ntmps61
  go_wp2_with fail
  go_loop [5, 6] (fun t i => ∃ k : Nat, k ≤ (strN l).size ∧ i = .int .i64 (k : Int) ∧ t = .int .i64 (lastI (l.take k)) ∧ 47 ∉ l.take k) (fun _ i => (strN l).size - (intOf i).toNat)
  case atStart => exact ⟨0, Nat.zero_le _, rfl, rfl, by simp⟩
  case round =>
    obtain ⟨k, hk, rfl, rfl, h47⟩ := hrel
    have HN47 := Lib.hid h47
    have hrg := lastI_range (l.take k)
    have htl : (l.take k).length ≤ k := List.length_take_le _ _
    clear h47
    by_cases hlt : k < (strN l).size
    · have hlt2 : k < l.length := by omega
      have hsn := lastI_snoc (l.take k) l[k]
      have hts : l.take (k + 1) = l.take k ++ [l[k]] := by rw [List.take_succ_eq_append_getElem hlt2]
      have HS : Hid (lastI (l.take (k + 1)) = if l[k] = 46 then (k : Int) else lastI (l.take k)) := by
        show _ = _
        rw [hts, hsn, List.length_take, Nat.min_eq_left (by omega)]
      have HT := Lib.hid hts
      have HG := Lib.hid (HGET.out k hlt)
      clear hsn hts
      by_cases c47 : l[k] = 47
      · have hb : ((((strN l)[k]'hlt).toNat : Int) == 47) = true := beq_iff_eq.2 (by rw [HG.out]; omega)
        have E : Hid (digR l D = false) := by
          show _ = _
          unfold digR
          have : l.contains 47 = true := by
            rw [List.contains_iff_mem]
            rw [← c47]
            exact List.getElem_mem _
          rw [this]
          rfl
        clear c47
        go_wp2_with fail
        go_ret
        exact ⟨by rw [E.out]; rfl, rfl⟩
      · have hb : ((((strN l)[k]'hlt).toNat : Int) == 47) = false := beq_eq_false_iff_ne.2 (by rw [HG.out]; omega)
        have HN : Hid (47 ∉ l.take (k + 1)) := by
          show ¬ _
          rw [HT.out]
          intro hm
          rcases List.mem_append.1 hm with h | h
          · exact HN47.out h
          · simp at h; omega
        by_cases c46 : l[k] = 46
        · have hb2 : ((((strN l)[k]'hlt).toNat : Int) == 46) = true := beq_iff_eq.2 (by rw [HG.out]; omega)
          have HL : Hid (lastI (l.take (k + 1)) = (k : Int)) := by show _ = _; rw [HS.out, if_pos c46]
          clear c47 c46
          go_wp2_with fail
          go_round
          case rel => exact ⟨k + 1, by omega, by go_num, by rw [HL.out], HN.out⟩
          case measure => simp [intOf]; omega
        · have hb2 : ((((strN l)[k]'hlt).toNat : Int) == 46) = false := beq_eq_false_iff_ne.2 (by rw [HG.out]; omega)
          have HL : Hid (lastI (l.take (k + 1)) = lastI (l.take k)) := by show _ = _; rw [HS.out, if_neg c46]
          clear c47 c46
          go_wp2_with fail
          go_round
          case rel => exact ⟨k + 1, by omega, by go_num, by rw [HL.out], HN.out⟩
          case measure => simp [intOf]; omega
    · have hkl : k = l.length := by omega
      have htk : l.take k = l := by rw [hkl, List.take_length]
      rw [htk] at HN47 hrg ⊢
      have hc : l.contains 47 = false := by simpa using HN47.out
      have E0 : Hid (digR l D = (if D = 0 then decide (lastI l < 0) else decide (0 ≤ lastI l) && decide ((l.length : Int) - lastI l - 1 = (D : Int)))) := by
        show _ = _
        unfold digR
        rw [hc]
        rfl
      have hsz : ((strN l).size : Int) = (l.length : Int) := by omega
      have HSZ := Lib.hid hsz
      generalize lastI l = at_ at *
      clear hc htk hkl htl HGET hs hsz
      by_cases hD0 : D = 0
      · have hz : ((D : Int) == 0) = true := beq_iff_eq.2 (by omega)
        have E : Hid (digR l D = decide (at_ < 0)) := by show _ = _; rw [E0.out, if_pos hD0]
        clear hD0
        go_wp2_with fail
        go_ret
        exact ⟨by rw [E.out]; rfl, rfl⟩
      · have hz : ((D : Int) == 0) = false := beq_eq_false_iff_ne.2 (by omega)
        by_cases h0 : 0 ≤ at_
        · have E : Hid (digR l D = (((strN l).size : Int) - at_ - 1 == (D : Int))) := by
            show _ = _
            rw [E0.out, if_neg hD0, decide_eq_true h0, HSZ.out]
            rfl
          clear hD0
          go_wp2_with fail
          go_ret
          exact ⟨by rw [E.out]; rfl, rfl⟩
        · have E : Hid (digR l D = false) := by
            show _ = _
            rw [E0.out, if_neg hD0, decide_eq_false h0]
            rfl
          clear hD0
          go_wp2_with fail
          go_ret
          exact ⟨by rw [E.out]; rfl, rfl⟩

set_option maxHeartbeats 3200000 in
theorem ballOf_q (v : Value) (q : Rat) (k : Nat) (w : World) (h : RQ w 0 w.heap.size v q k) (hk : k ≤ 1000) : Calls Tryz.prog 59 #[v] w (GivesBall q q w) := by
  have HNO : Hid (∀ W, Below w.heap.size w W → Calls Tryz.prog 76 #[v] W (GivesF q W)) := fun W hb => prNorm_q v q k W (h.after hb) hk
  obtain ⟨s0, n0, d0, ⟨un, ud, rfl, hn0, hd0⟩, rest0⟩ := h
  obtain ⟨A1, k1, rfl, m1⟩ := nt_len hn0
  obtain ⟨A2, k2, rfl, m2⟩ := nt_len hd0
  clear hn0 hd0 rest0
  go_enter Tryz.func59, Tryz.ntmps59
  go_wp2_with fail
  have b0 := (Blk.new w 25 #[.bool s0, .slice A1 n0.length k1, .slice A2 d0.length k2]).alloc (.cells #[.bool false, .slice none 0 0, .slice none 0 0, .bool false, .slice none 0 0, .slice none 0 0] 36)
  have b1 := Blk.new (w.alloc (.cells #[.bool s0, .slice A1 n0.length k1, .slice A2 d0.length k2] 25)) 36 #[.bool false, .slice none 0 0, .slice none 0 0, .bool false, .slice none 0 0, .slice none 0 0]
  have hB : Below w.heap.size w ((w.alloc (.cells #[.bool s0, .slice A1 n0.length k1, .slice A2 d0.length k2] 25)).alloc (.cells #[.bool false, .slice none 0 0, .slice none 0 0, .bool false, .slice none 0 0, .slice none 0 0] 36)) := ((Below.refl _ _).alloc (Nat.le_refl _) _).alloc (by simp) _
  have es : (w.alloc (.cells #[.bool s0, .slice A1 n0.length k1, .slice A2 d0.length k2] 25)).heap.size = w.heap.size + 1 := by simp
  rw [es] at b1
  clear es
  generalize ((w.alloc (.cells #[.bool s0, .slice A1 n0.length k1, .slice A2 d0.length k2] 25)).alloc (.cells #[.bool false, .slice none 0 0, .slice none 0 0, .bool false, .slice none 0 0, .slice none 0 0] 36)) = w2 at *
  have c0 : w2.cell? ⟨w.heap.size, 0, none⟩ = some (.bool s0) := b0.cell 0
  have c1 : w2.cell? ⟨w.heap.size, 1, none⟩ = some (.slice A1 n0.length k1) := b0.cell 1
  have c2 : w2.cell? ⟨w.heap.size, 2, none⟩ = some (.slice A2 d0.length k2) := b0.cell 2
  have hg := b0.lt
  have hk0 : Below w2.heap.size w2 w2.drew := (Below.refl _ _).drew
  have HB := Lib.hid hB
  have Q1 := Lib.hid b1
  clear b0 hB b1
  go_region_held3 (fun W => W.cell? ⟨w.heap.size, 0, none⟩ = some (.bool s0) ∧ W.cell? ⟨w.heap.size, 1, none⟩ = some (.slice A1 n0.length k1) ∧ W.cell? ⟨w.heap.size, 2, none⟩ = some (.slice A2 d0.length k2))
    (with_reducible (first | exact s3_out6 (s3_of hk4 c0 c1 c2 hg) (Nat.succ_ne_self _) | exact s3_of hk4 c0 c1 c2 hg | exact s3_of hk3 c0 c1 c2 hg | exact s3_of hk0 c0 c1 c2 hg | fail))
    (first
      | (have hx := hk3; go_at_call 76; go_fit (HNO.out _ (HB.out.trans (hk3.mono HB.out.size))); rintro e w4 ⟨v4, rfl, ⟨yn, yd, rfl, hyn, hyd⟩, hb4⟩; obtain ⟨A7, k7, rfl, m7⟩ := nt_len hyn; obtain ⟨A8, k8, rfl, m8⟩ := nt_len hyd; have hk4 : Below w2.heap.size w2 w4 := hk3.trans (hb4.mono hk3.size); have Q4 := Lib.hid (Q1.out.below hk4 Q1.out.lt); have r0 := Q4.out.cell 0; have r1 := Q4.out.cell 1; have r2 := Q4.out.cell 2; have r3 := Q4.out.cell 3; have r4 := Q4.out.cell 4; have r5 := Q4.out.cell 5; have f0 := Q4.out.free 0; have f1 := Q4.out.free 1; have f2 := Q4.out.free 2; have f3 := Q4.out.free 3; have f4 := Q4.out.free 4; have f5 := Q4.out.free 5)
      | (go_at_call 76; go_fit (HNO.out _ (HB.out.drew)); rintro e w3 ⟨v3, rfl, ⟨xn, xd, rfl, hxn, hxd⟩, hb3⟩; have hk3 : Below w2.heap.size w2 w3 := Below.trans (Below.drew (Below.refl _ _)) hb3; obtain ⟨A5, k5, rfl, m5⟩ := nt_len hxn; obtain ⟨A6, k6, rfl, m6⟩ := nt_len hxd)
      | fail)
  have hlt := Q1.out.lt
  obtain ⟨q6, hBf, hsz⟩ := store6 Q4.out (HB.out.trans (hk4.mono HB.out.size)) (Nat.le_succ w.heap.size) (qS q) (.slice A5 (lim (qN q)).length k5) (.slice A6 (lim q.den).length k6) (qS q) (.slice A7 (lim (qN q)).length k7) (.slice A8 (lim q.den).length k8)
  have hlt3 : w.heap.size + 1 < w3.heap.size := Nat.lt_of_lt_of_le hlt hk3.size
  have n1 := (((hxn.below hb4 (Nat.le_refl _)).out6 (Or.inl hlt) (qS q) (.slice A5 (lim (qN q)).length k5) (.slice A6 (lim q.den).length k6) (qS q) (.slice A7 (lim (qN q)).length k7) (.slice A8 (lim q.den).length k8)).up (Nat.le_trans hb4.size (Nat.le_of_eq hsz.symm))).low (show w.heap.size ≤ _ from HB.out.size)
  have n2 := (((hxd.below hb4 (Nat.le_refl _)).out6 (Or.inl hlt) (qS q) (.slice A5 (lim (qN q)).length k5) (.slice A6 (lim q.den).length k6) (qS q) (.slice A7 (lim (qN q)).length k7) (.slice A8 (lim q.den).length k8)).up (Nat.le_trans hb4.size (Nat.le_of_eq hsz.symm))).low (show w.heap.size ≤ _ from HB.out.size)
  have n3 := ((hyn.out6 (Or.inl hlt3) (qS q) (.slice A5 (lim (qN q)).length k5) (.slice A6 (lim q.den).length k6) (qS q) (.slice A7 (lim (qN q)).length k7) (.slice A8 (lim q.den).length k8)).up (Nat.le_of_eq hsz.symm)).low (show w.heap.size ≤ w3.heap.size from Nat.le_trans HB.out.size hk3.size)
  have n4 := ((hyd.out6 (Or.inl hlt3) (qS q) (.slice A5 (lim (qN q)).length k5) (.slice A6 (lim q.den).length k6) (qS q) (.slice A7 (lim (qN q)).length k7) (.slice A8 (lim q.den).length k8)).up (Nat.le_of_eq hsz.symm)).low (show w.heap.size ≤ w3.heap.size from Nat.le_trans HB.out.size hk3.size)
  have N1 := Lib.hid n1
  have N2 := Lib.hid n2
  have N3 := Lib.hid n3
  have N4 := Lib.hid n4
  have HBF := Lib.hid hBf
  have e0 := q6.cell 0
  have e1 := q6.cell 1
  have e2 := q6.cell 2
  have e3 := q6.cell 3
  have e4 := q6.cell 4
  have e5 := q6.cell 5
  clear n1 n2 n3 n4 hBf hsz q6 hxn hxd hyn hyd hb3 hb4 hk3 hk4 hlt hlt3 r0 r1 r2 r3 r4 r5 f0 f1 f2 f3 f4 f5
  unfold St6 at *
  go_wp2_with fail
  generalize (((((World.setCell w4 ⟨w.heap.size + 1, 0, none⟩ (.bool (qS q))).setCell ⟨w.heap.size + 1, 1, none⟩ (.slice A5 (lim (qN q)).length k5)).setCell ⟨w.heap.size + 1, 2, none⟩ (.slice A6 (lim q.den).length k6)).setCell ⟨w.heap.size + 1, 3, none⟩ (.bool (qS q))).setCell ⟨w.heap.size + 1, 4, none⟩ (.slice A7 (lim (qN q)).length k7)).setCell ⟨w.heap.size + 1, 5, none⟩ (.slice A8 (lim q.den).length k8) = WW at *
  refine bodyPost_ret (v := .agg #[.bool (qS q), .slice A5 (lim (qN q)).length k5, .slice A6 (lim q.den).length k6, .bool (qS q), .slice A7 (lim (qN q)).length k7, .slice A8 (lim q.den).length k8]) ?_ rfl (by show GivesBall _ _ _ _ _; exact ⟨_, _, _, _, rfl, N1.out, N2.out, N3.out, N4.out, HBF.out⟩)
  simp [results, Tryz.results59, go_sem, e0, e1, e2, e3, e4, e5]
end Go.Proofs.YtobmjcbjailclaaGreatDoor
