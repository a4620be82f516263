/- The program's 'Fixed' of numbers with a divisor by its contract. Condition: bounds on lengths. -/
import Derived.Test.YtdgfijnficbblaaDecB
import Derived.Test.YtdgfijnficbblaaPrint
import Derived.Test.YtdgfijnficbblaaRefRatCmp
import Derived.Laws.Concat
namespace Go.Proofs.Ytdgfijnficbblaa
open Go.RowKit Go.Shelf Go.Lib

theorem strN_append (a b : List Nat) : strN a ++ strN b = strN (a ++ b) := by
  unfold strN
  rw [ByteArray.mk_append_mk, List.map_append]

theorem add_str (a b : List Nat) (h : a.length + b.length ≤ 1000000) {P : Program} (w : World) : (Op.stringOp .add (strN a) (strN b)).run P w = .ok (.string (strN (a ++ b))) w := by
  rw [run_string_add_sum w _ _ (by rw [strN_size, strN_size]; omega), strN_append]

/-- A sign as bytes. -/
def sgn (s : Bool) : List Nat := if s then [45] else []

theorem sgn_len (s : Bool) : (sgn s).length ≤ 1 := by cases s <;> simp [sgn]

set_option maxHeartbeats 1600000 in
theorem sign_any (v : Value) (s : Bool) (vn vd : Value) (w : World) (hv : v = .agg #[.bool s, vn, vd]) :
    Calls Try.prog 25 #[v] w fun e w' => e = .returned (.string (strN (sgn s))) ∧ Below w.heap.size w w' := by
  subst hv
  have hB : Below w.heap.size w (w.alloc (.cells #[.bool s, vn, vd] 24)) := (Below.refl _ _).alloc (Nat.le_refl _) _
  cases s
  · go_enter Try.func25, Try.ntmps25
    go_wp2_with fail
    go_ret
    exact ⟨rfl, hB⟩
  · go_enter Try.func25, Try.ntmps25
    go_wp2_with fail
    go_ret
    exact ⟨rfl, hB⟩

/-- Digits with a point ahead of the last so many. -/
def pnt (cs : List Nat) (n : Nat) : List Nat := if n = 0 then cs else
  (List.replicate (n + 1 - cs.length) 48 ++ cs).take ((List.replicate (n + 1 - cs.length) 48 ++ cs).length - n) ++ [46] ++ (List.replicate (n + 1 - cs.length) 48 ++ cs).drop ((List.replicate (n + 1 - cs.length) 48 ++ cs).length - n)

theorem strN_take (cs : List Nat) (M : Nat) : (strN cs).extract 0 M = strN (cs.take M) := by
  unfold strN
  apply ByteArray.ext
  rw [ByteArray.data_extract]
  apply Array.toList_inj.1
  simp [List.map_take]
theorem strN_drop (cs : List Nat) (M L : Nat) (h : cs.length ≤ L) : (strN cs).extract M L = strN (cs.drop M) := by
  unfold strN
  apply ByteArray.ext
  rw [ByteArray.data_extract]
  apply Array.toList_inj.1
  have h2 : (List.drop M (List.map UInt8.ofNat cs)).length ≤ L - M := by rw [List.length_drop, List.length_map]; omega
  simp [List.map_drop]
  exact List.take_of_length_le h2

set_option maxHeartbeats 1600000 in
theorem pointed_any (cs : List Nat) (n : Nat) (w : World) (hl : cs.length ≤ 100000) (hn : n ≤ 1000) :
    Calls Try.prog 26 #[.string (strN cs), .int .i64 (n : Int)] w fun e w' => e = .returned (.string (strN (pnt cs n))) ∧ Below w.heap.size w w' := by
  by_cases h0 : n = 0
  · subst h0
    go_enter Try.func26, Try.ntmps26
    go_wp2_with fail
    go_ret
    exact ⟨rfl, Below.refl _ _⟩
  · have hnI : ((n : Int) == 0) = false := beq_eq_false_iff_ne.2 (by omega)
    have hsz := strN_size cs
    obtain ⟨Z, hZ⟩ : ∃ Z, n + 1 - cs.length = Z := ⟨_, rfl⟩
    have hmx : max (0 : Int) ((n : Int) + 1 - (cs.length : Int)) = (Z : Int) := by omega
    have hp : Hid (pnt cs n = (List.replicate Z 48 ++ cs).take ((List.replicate Z 48 ++ cs).length - n) ++ [46] ++ (List.replicate Z 48 ++ cs).drop ((List.replicate Z 48 ++ cs).length - n)) := by
      show _ = _
      unfold pnt
      rw [if_neg h0, hZ]
    have hrep : ∀ w, Calls Try.prog 39 #[.string ⟨#[48]⟩, .int .i64 (Z : Int)] w fun e w' => e = .returned (.string (strN (List.replicate Z 48))) ∧ Below w.heap.size w w' := fun w => by
      have h := Any.strings_Repeat Try.lays105 Try.Builder_Extra_105 ⟨#[48]⟩ Z w (by omega) (by show 1 * Z ≤ _; omega)
      have e : (⟨(Lib.repeatL [48] Z).toArray⟩ : ByteArray) = strN (List.replicate Z 48) := by
        unfold strN
        rw [List.map_replicate]
        congr 2
        clear hZ hmx hp h0 h
        induction Z with
        | zero => rfl
        | succ z ih => rw [Lib.repeatL, ih, List.replicate_succ]; rfl
      show Calls Try.prog 39 _ _ _
      rw [← e]
      exact h
    have HREP := Lib.hid hrep
    obtain ⟨cs2, hcs⟩ : ∃ c, List.replicate Z 48 ++ cs = c := ⟨_, rfl⟩
    have hadd : Hid (∀ W : World, (Op.stringOp .add (strN (List.replicate Z 48)) (strN cs)).run Try.prog W = .ok (.string (strN cs2)) W) := fun W => by rw [← hcs]; exact add_str _ _ (by simp; omega) W
    have hl2 : n < cs2.length ∧ cs2.length ≤ 102000 := by rw [← hcs]; simp; omega
    rw [hcs] at hp
    clear hrep hcs hZ
    go_enter Try.func26, Try.ntmps26
    go_wp2_with fail
    refine (HREP.out _).mono ?_
    rintro e w1 ⟨rfl, hb⟩
    have hadd1 := hadd.out w1
    clear HREP hadd
    obtain ⟨L, hL⟩ : ∃ L, cs2.length = L := ⟨_, rfl⟩
    obtain ⟨M, hM⟩ : ∃ M, L - n = M := ⟨_, rfl⟩
    have s2 : (strN cs2).size = L := by rw [strN_size, hL]
    have x1 : (strN cs2).extract 0 M = strN (cs2.take M) := strN_take _ _
    have x2 : (strN cs2).extract M L = strN (cs2.drop M) := strN_drop _ _ _ (Nat.le_of_eq hL)
    have w1' : IntKind.i64.wrap ((L : Int) - (n : Int)) = (M : Int) := by rw [IntWalk.i64_in _ (by omega)]; omega
    have hML : (M : Int) ≤ (L : Int) := by omega
    have a1 : ∀ W : World, (Op.stringOp .add (strN (cs2.take M)) ⟨#[46]⟩).run Try.prog W = .ok (.string (strN (cs2.take M ++ [46]))) W := fun W => add_str (cs2.take M) [46] (by rw [List.length_take]; simp; omega) W
    have a2 : ∀ W : World, (Op.stringOp .add (strN (cs2.take M ++ [46])) (strN (cs2.drop M))).run Try.prog W = .ok (.string (strN (cs2.take M ++ [46] ++ cs2.drop M))) W := fun W => add_str (cs2.take M ++ [46]) (cs2.drop M) (by simp; omega) W
    rw [hL, hM] at hp
    generalize strN cs2 = t at *
    generalize strN (cs2.take M) = t1 at *
    generalize strN (cs2.drop M) = t2 at *
    generalize strN (cs2.take M ++ [46]) = t3 at *
    have HPE := Lib.hid (congrArg strN hp.out)
    generalize strN (cs2.take M ++ [46] ++ cs2.drop M) = t4 at *
    clear hL hM hp
    subst s2
    go_wp2_with fail
    go_quiet (fail)
    go_wp2_with fail
    go_ret
    exact ⟨by rw [HPE.out]; rfl, ⟨hb.os, hb.tape, hb.output, hb.size, hb.block⟩⟩

theorem ten_len10 {k : Nat} (h : k ≤ 60) : (lim (10 ^ k)).length ≤ 10 := by
  refine lim_length_le (Nat.lt_of_le_of_lt (Nat.pow_le_pow_right (by omega) h) ?_)
  rw [show 60 = 6 * 10 from rfl, Nat.pow_mul]
  exact Nat.pow_lt_pow_left (by omega) (by omega)

theorem nrS_idem (s : Bool) (n d : Nat) : nrS (nrS s n d) (nrN n d) (nrD n d) = nrS s n d := by
  by_cases h : n = 0 ∨ d = 0
  · obtain ⟨e1, e2, e3⟩ := nr_zero (s := s) h
    rw [e1, e2, e3]
    rfl
  · have h1 : nrN n d ≠ 0 := fun hc => h (nrN_zero.1 hc)
    have h2 : nrD n d ≠ 0 := by have := nrD_pos n d; omega
    exact (nr_some h1 h2).1

theorem pnt_len (cs : List Nat) (n : Nat) : (pnt cs n).length ≤ cs.length + n + 2 := by
  unfold pnt
  split
  · omega
  · simp; omega

theorem prn_len_of {U k : Nat} (h : (lim U).length ≤ k) : (prn U).length ≤ 10 * k + 1 := by
  have h1 : U < 10 ^ (10 * k) := by
    have h2 := val_lt (dig_lim U)
    rw [val_lim] at h2
    rw [Nat.pow_mul]
    exact Nat.lt_of_lt_of_le h2 (Nat.le_trans (Nat.pow_le_pow_right (by omega) h) (Nat.pow_le_pow_left (by omega) _))
  have h3 := dec_length_le _ _ h1
  unfold prn
  split
  · simp
  · unfold digs
    rw [List.length_reverse, List.length_map]
    omega

set_option maxHeartbeats 3200000 in
theorem fixed_any (v : Value) (s : Bool) (n d : List Nat) (k : Int) (w : World) (dn : Dig n) (dd : Dig d) (h : Rt w 0 w.heap.size v s n d) (ln : n.length ≤ 70) (ld : d.length ≤ 70)
    (S : Bool) (N D K U : Nat) (hS : nrS s (val n) (val d) = S) (hN : nrN (val n) (val d) = N) (hD : nrD (val n) (val d) = D) (hK : hold60 k = (K : Int)) (hU : rhe (N * 10 ^ K) D = U) :
    Calls Try.prog 14 #[v, .int .i64 k] w fun e w' => e = .returned (.string (strN (sgn (nrS S U (10 ^ K)) ++ pnt (prn U) K))) ∧ Below w.heap.size w w' := by
  obtain ⟨vn, vd, rfl, hn, hd⟩ := h
  have hr := hold60_range k
  have hK60 : K ≤ 60 := by omega
  have hD0 : D ≠ 0 := by have := nrD_pos (val n) (val d); omega
  have lN : (lim N).length ≤ 70 := by rw [← hN]; exact Nat.le_trans (lim_len_mono (nrN_le _ _)) (Nat.le_trans (lim_val_length n dn) ln)
  have lD : (lim D).length ≤ 71 := by rw [← hD]; exact nrD_len2 dd (by omega) (by omega)
  have dN := dig_lim N
  have dD := dig_lim D
  have VN := Lib.hid (val_lim N)
  have VD := Lib.hid (val_lim D)
  have dU := dig_lim U
  have lT := ten_len10 hK60
  have lU : (lim U).length ≤ 90 := by
    rw [← hU]
    refine Nat.le_trans (lim_len_mono (rhe_le _ _)) ?_
    have l1 : (lim (N * 10 ^ K)).length ≤ 80 := lim_mul_len (dig_lim N) (dig_lim (10 ^ K)) (val_lim _).symm (val_lim _).symm lN lT
    exact Nat.le_trans (lim_add_len (dig_lim (N * 10 ^ K)) (dig_lim 1) (val_lim _).symm (val_lim _).symm l1 (lim_length_le (by omega) : (lim 1).length ≤ 80)) (by omega)
  have lP : (prn U).length ≤ 2000 := by
    have := prn_len_of lU
    omega
  have hnorm := fun w (hR : Rt w 0 w.heap.size (.agg #[.bool s, vn, vd]) s n d) => prNorm_any (.agg #[.bool s, vn, vd]) s n d w dn dd hR (by omega) (by omega)
  have E1 : nrS S (val (lim N)) (val (lim D)) = S := by rw [val_lim, val_lim, ← hS, ← hN, ← hD]; exact nrS_idem _ _ _
  have E2 : nrN (val (lim N)) (val (lim D)) = N := by rw [val_lim, val_lim, ← hN, ← hD]; exact (nr_idem _ _).1
  have E3 : nrD (val (lim N)) (val (lim D)) = D := by rw [val_lim, val_lim, ← hN, ← hD]; exact (nr_idem _ _).2
  rw [hS, hN, hD] at hnorm
  have HNORM := Lib.hid hnorm
  have hheld := fun w => dheld_any k w
  rw [hK] at hheld
  have HHELD := Lib.hid hheld
  have hKK : hold60 (K : Int) = (K : Int) := by unfold hold60; omega
  have hrnd := fun v w (hR : Rt w 0 w.heap.size v S (lim N) (lim D)) => round_any v S (lim N) (lim D) (K : Int) w dN dD hR (by omega) (by omega) S N D K U E1 E2 E3 hKK hU
  have HRND := Lib.hid hrnd
  have HU := Lib.hid hU
  obtain ⟨FS, hFS⟩ : ∃ z, nrS S U (10 ^ K) = z := ⟨_, rfl⟩
  obtain ⟨TXT, hTXT⟩ : ∃ z, strN (sgn FS ++ pnt (prn U) K) = z := ⟨_, rfl⟩
  have hadd : Hid (∀ W : World, (Op.stringOp .add (strN (sgn FS)) (strN (pnt (prn U) K))).run Try.prog W = .ok (.string TXT) W) := fun W => by
    rw [← hTXT]
    exact add_str _ _ (by have h1 := pnt_len (prn U) K; have h2 := sgn_len FS; omega) W
  rw [hFS, hTXT]
  have HFS := Lib.hid hFS
  clear hnorm hheld hS hN hD hK hr hU hFS hTXT hrnd E1 E2 E3 hKK
  go_enter Try.func14, Try.ntmps14
  go_wp2_with fail
  have b0 := Blk.new w 24 #[.bool s, vn, vd]
  have hB : Below w.heap.size w (w.alloc (.cells #[.bool s, vn, vd] 24)) := (Below.refl _ _).alloc (Nat.le_refl _) _
  generalize w.alloc (.cells #[.bool s, vn, vd] 24) = w2 at *
  replace hn := (hn.below hB (Nat.le_refl _)).up hB.size
  replace hd := (hd.below hB (Nat.le_refl _)).up hB.size
  have c0 := b0.cell 0
  have c1 := b0.cell 1
  have c2 := b0.cell 2
  go_wp2_with fail
  refine (HNORM.out _ ⟨vn, vd, rfl, hn, hd⟩).mono ?_
  rintro e w3 ⟨v3, rfl, ⟨an, ad, rfl, h1, h2⟩, hb⟩
  have q0 := b0.below hb b0.lt
  replace h1 := h1.low (show w.heap.size + 1 ≤ _ from b0.lt)
  replace h2 := h2.low (show w.heap.size + 1 ≤ _ from b0.lt)
  replace hB := hB.trans (hb.mono hB.size)
  have hl1 := h1
  have hl2 := h2
  obtain ⟨A6, c6, rfl, m6⟩ := nt_len hl1
  obtain ⟨A7, c7, rfl, m7⟩ := nt_len hl2
  have r0 := q0.cell 0
  have r1 := q0.cell 1
  have r2 := q0.cell 2
  have f0 := q0.free 0
  have f1 := q0.free 1
  have f2 := q0.free 2
  clear hl1 hl2 hb b0 c0 c1 c2 hn hd HNORM
  go_wp2_with fail
  refine (HHELD.out _).mono ?_
  rintro e w4 ⟨rfl, rfl⟩
  clear HHELD
  have p3 := ((q0.put 0 (.bool S)).put 1 (.slice A6 (lim N).length c6)).put 2 (.slice A7 (lim D).length c7)
  have hBB := ((hB.setCell (p := ⟨w.heap.size, 0, none⟩) (Nat.le_refl _) (.bool S)).setCell (p := ⟨w.heap.size, 1, none⟩) (Nat.le_refl _) (.slice A6 (lim N).length c6)).setCell (p := ⟨w.heap.size, 2, none⟩) (Nat.le_refl _) (.slice A7 (lim D).length c7)
  have t1 := ((h1.put3 (g := w.heap.size) (by omega) 0 (.bool S)).put3 (g := w.heap.size) (by omega) 1 (.slice A6 (lim N).length c6)).put3 (g := w.heap.size) (by omega) 2 (.slice A7 (lim D).length c7)
  have t2 := ((h2.put3 (g := w.heap.size) (by omega) 0 (.bool S)).put3 (g := w.heap.size) (by omega) 1 (.slice A6 (lim N).length c6)).put3 (g := w.heap.size) (by omega) 2 (.slice A7 (lim D).length c7)
  have P3 := Lib.hid p3
  have HBB := Lib.hid hBB
  have T1 := Lib.hid t1
  have T2 := Lib.hid t2
  clear p3 hBB t1 t2 h1 h2 hB q0
  go_wp2_with fail
  clear r0 r1 r2 f0 f1 f2
  replace P3 := P3.out
  replace HBB := HBB.out
  replace T1 := T1.out
  replace T2 := T2.out
  generalize ((World.setCell w3 ⟨w.heap.size, 0, none⟩ (.bool S)).setCell ⟨w.heap.size, 1, none⟩ (.slice A6 (lim N).length c6)).setCell ⟨w.heap.size, 2, none⟩ (.slice A7 (lim D).length c7) = w5 at *
  have c0 : w5.cell? ⟨w.heap.size, 0, none⟩ = some (.bool S) := by rw [P3.cell]; rfl
  have c1 : w5.cell? ⟨w.heap.size, 1, none⟩ = some (.slice A6 (lim N).length c6) := by rw [P3.cell]; rfl
  have c2 : w5.cell? ⟨w.heap.size, 2, none⟩ = some (.slice A7 (lim D).length c7) := by rw [P3.cell]; rfl
  have hg := P3.lt
  have hk5 : Below w5.heap.size w5 w5.drew := (Below.refl _ _).drew
  have hun := fun w (hR : Rt w 0 w.heap.size (.agg #[.bool S, .slice A6 (lim N).length c6, .slice A7 (lim D).length c7]) S (lim N) (lim D)) => units_any (.agg #[.bool S, .slice A6 (lim N).length c6, .slice A7 (lim D).length c7]) S (lim N) (lim D) K w dN dD hR (by omega) (by omega) hK60 (by rw [VD.out]; exact hD0)
  rw [VN.out, VD.out, HU.out] at hun
  have HUN := Lib.hid hun
  have HPR : Hid (∀ v w, Nt w 0 w.heap.size v (lim U) → Calls Try.prog 27 #[v] w fun e w' => e = .returned (.string (strN (prn U))) ∧ Below w.heap.size w w') := fun v w h => by
    have := print_any v (lim U) w dU h (by omega)
    rw [val_lim] at this
    exact this
  have HPT : Hid (∀ w, Calls Try.prog 26 #[.string (strN (prn U)), .int .i64 (K : Int)] w fun e w' => e = .returned (.string (strN (pnt (prn U) K))) ∧ Below w.heap.size w w') := fun w => pointed_any (prn U) K w (by omega) (by omega)
  clear hun P3
  generalize strN (prn U) = tp at *
  generalize strN (pnt (prn U) K) = tq at *
  have hadd1 := hadd.out
  clear hadd
  go_region_held3 (fun W => W.cell? ⟨w.heap.size, 0, none⟩ = some (.bool S) ∧ W.cell? ⟨w.heap.size, 1, none⟩ = some (.slice A6 (lim N).length c6) ∧ W.cell? ⟨w.heap.size, 2, none⟩ = some (.slice A7 (lim D).length c7))
    (first | exact s3_of hk10 c0 c1 c2 hg | exact s3_of hk9 c0 c1 c2 hg | exact s3_of hk8 c0 c1 c2 hg | exact s3_of hk7 c0 c1 c2 hg | exact s3_of hk6 c0 c1 c2 hg | exact s3_of hk5 c0 c1 c2 hg | fail)
    (first
      | (go_at_call 6; refine (HRND.out _ _ ⟨_, _, rfl, (T1.low (Nat.zero_le _)).drew, (T2.low (Nat.zero_le _)).drew⟩).mono ?_; rw [HFS.out]; rintro e w6 ⟨v6, rfl, ⟨rn, rd, rfl, h6n, h6d⟩, hb6⟩; have hk6 : Below w5.heap.size w5 w6 := Below.trans hk5 hb6)
      | (go_at_call 25; refine (sign_any (.agg #[.bool FS, rn, rd]) FS rn rd _ rfl).mono ?_; rintro e w7 ⟨rfl, hb7⟩; have hk7 : Below w5.heap.size w5 w7 := hk6.trans (hb7.mono hk6.size))
      | (go_at_call 12; refine (HUN.out _ ⟨_, _, rfl, (T1.low (Nat.zero_le _)).after hk7, (T2.low (Nat.zero_le _)).after hk7⟩).mono ?_; rintro e w8 ⟨v8, rfl, h8, hb8⟩; replace h8 := h8.low (Nat.zero_le _); have hk8 : Below w5.heap.size w5 w8 := hk7.trans (hb8.mono hk7.size))
      | (go_at_call 27; refine (HPR.out _ _ h8).mono ?_; rintro e w9 ⟨rfl, hb9⟩; have hk9 : Below w5.heap.size w5 w9 := hk8.trans (hb9.mono hk8.size))
      | (go_at_call 26; refine (HPT.out _).mono ?_; rintro e w10 ⟨rfl, hb10⟩; have hk10 : Below w5.heap.size w5 w10 := hk9.trans (hb10.mono hk9.size))
      | fail)
  have hBF := HBB.trans (hk10.mono HBB.size)
  clear hk5 hk6 hk7 hk8 hk9 hk10 hb6 hb7 hb8 hb9 hb10 h8 T1 T2 c0 c1 c2 h6n h6d
  go_wp2_with fail
  go_ret
  exact ⟨rfl, hBF⟩
end Go.Proofs.Ytdgfijnficbblaa
