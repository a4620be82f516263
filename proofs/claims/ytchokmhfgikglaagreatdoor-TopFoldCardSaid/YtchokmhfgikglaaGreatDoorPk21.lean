/- Several texts in one: DataR, SessN, Ref22A, TopSes, SessC, SessB. Condition: each says its own. -/
import Derived.ScopeJumps
import Derived.WalkMore
import Derived.RangeFuncOwn
import Derived.Test.YtchokmhfgikglaaGreatDoorPk9
import Derived.Test.YtchokmhfgikglaaGreatDoorPk16
import Derived.Test.YtchokmhfgikglaaGreatDoorPk20
set_option linter.unusedVariables false
set_option linter.unusedSimpArgs false
namespace Go.Proofs.YtchokmhfgikglaaGreatDoor
set_option maxRecDepth 100000
open Go.RowKit Go.Shelf Go.Lib

/-- Where a byte stands among those that part numbers. -/
def gapI (c : Nat) : Int := Lib.indexByte [32, 44, 10] (UInt8.ofNat c)
theorem gapI_is (c : Nat) (h : c < 256) : (isG c = true → 0 ≤ gapI c) ∧ (isG c = false → gapI c < 0) := by
  have h' : ∀ n : Fin 256, (isG n.val = true → 0 ≤ Lib.indexByte [32, 44, 10] (UInt8.ofNat n.val)) ∧ (isG n.val = false → Lib.indexByte [32, 44, 10] (UInt8.ofNat n.val) < 0) := by decide +kernel
  exact h' ⟨c, h⟩

theorem wordsA_step {p : List Nat} {k : Nat} (h : k < p.length) (hg : isG p[k] = true) : wordsA [] (p.drop k) = wordsA [] (p.drop (k + 1)) := by
  rw [drop_cons p k h, wordsA_gap hg]
theorem wordsA_grow {p cur : List Nat} {k : Nat} (h : k < p.length) (hg : isG p[k] = false) : wordsA cur (p.drop k) = wordsA (cur ++ [p[k]]) (p.drop (k + 1)) := by
  rw [drop_cons p k h, wordsA_more hg]

theorem wp_skip_seq {P : Program} {c : Code} {Q : Exit → Act → World → Prop} {a : Act} {w : World} (h : c.wp P Q a w) : (Code.skip.seq c).wp P Q a w := wp_seq (wp_skip h)

set_option maxHeartbeats 6400000 in
theorem dataParse_any (l : List Nat) (hl : Byt l) (h9 : l.length ≤ 1000000) (h256 : (textV l).2.length ≤ 256) (w : World) (hm : MaxAt w) :
    Calls Tryz.prog 17 #[.string (strN l)] w (GivesRow (textV l).1 (textV l).2 w) := by
  have HPL := Lib.hid (dataPlain_any l hl h9 w hm)
  have hpb := plainG_byt hl false
  have hpl := plainG_len false l
  obtain ⟨p, hp⟩ : ∃ p, plainG false l = p := ⟨_, rfl⟩
  rw [hp] at HPL hpb hpl
  obtain ⟨T, hT⟩ : ∃ T, textV l = T := ⟨_, rfl⟩
  have hT2 : rowV (wordsA [] p) = T := by rw [← hT, ← hp]; rfl
  rw [hT] at h256 ⊢
  have hpl9 : p.length ≤ 1000000 := by omega
  have HT := Lib.hid hT2
  have H256 := Lib.hid h256
  clear hp hT hT2 hpl h9 hl h256 hm
  have hs := strN_size p
  have HX : Hid (∀ a k, (strN p).extract a k = strN ((p.take k).drop a)) := fun a k => strN_mid p a k
  have HN : Hid (∀ a k W, Calls Tryz.prog 36 #[.string (strN ((p.take k).drop a))] W (NumPost ((p.take k).drop a) W)) := fun a k W =>
    dnum_any _ (fun x hx => hpb x ((List.take_sublist _ _).subset ((List.drop_sublist _ _).subset hx))) (by rw [List.length_drop, List.length_take]; omega) W
  have HGP : Hid (∀ (c : Nat) W, Calls Tryz.prog 35 #[.string ⟨#[32, 44, 10]⟩, .int .u8 (c : Int)] W fun e w' => e = .returned (.int .i64 (gapI c)) ∧ W = w') := fun c W =>
    (Any.strings_IndexByte Tryz.lays137 ⟨#[32, 44, 10]⟩ (c : Int) W).mono fun e w' ⟨h1, h2⟩ => ⟨h1, h2.symm⟩
  have HGET : Hid (∀ k (h : k < (strN p).size), ∃ h' : k < p.length, ((strN p)[k]'h).toNat = p[k] ∧ (isG p[k] = true → 0 ≤ gapI ((strN p)[k]'h).toNat) ∧ (isG p[k] = false → gapI ((strN p)[k]'h).toNat < 0)) := fun k h => by
    have h' : k < p.length := by rw [hs] at h; exact h
    have e := strN_get p hpb k h h'
    refine ⟨h', e, ?_⟩
    rw [e]
    exact gapI_is _ (hpb _ (List.getElem_mem _))
  have HSZ := Lib.hid hs
  have hts : (strN p).size ≤ 1000000 := by rw [hs]; exact hpl9
  clear hpb hs hpl9
  generalize strN p = t at *
  generalize strN l = t0 at *
  obtain ⟨i0, hi, hz0, hz1, hz2⟩ := info_parts Tryz.infoRat
  go_enter Tryz.func17, Tryz.ntmps17
  go_wp2_with fail
  refine (fun (pass : ∀ (a : Act) (w : World), _ → _) => wp_scope_jumps 0 (fun a' w' => ∃ (k : Nat) (qs : List Rat) (v u6 u7 u8 u11 u12 u13 u14 u15 u16 u17 u18 u19 u20 u21 u22 u23 u24 u25 u26 u27 u28 u29 u30 u31 u32 u33 u34 u35 u36 u37 u38 u39 u40 u41 u42 u43 u44 u45 u46 u47 u48 u49 u50 u51 u52 u53 u54 u55 u56 u57 u58 u59 u60 u61 : Value), a' = { tmps := #[.string t, undef, .slice none 0 0, .int .i64 0, v, .int .i64 (k : Int), u6, u7, u8, .string t0, .string t, u11, u12, u13, u14, u15, u16, u17, u18, u19, u20, u21, u22, u23, u24, u25, u26, u27, u28, u29, u30, u31, u32, u33, u34, u35, u36, u37, u38, u39, u40, u41, u42, u43, u44, u45, u46, u47, u48, u49, u50, u51, u52, u53, u54, u55, u56, u57, u58, u59, u60, u61], defers := [] } ∧ k ≤ t.size ∧ OwnR w' w.heap.size 60 v qs ∧ qs.length ≤ k ∧
    Hid (rowV (wordsA [] p) = ((rowV (wordsA [] (p.drop k))).1, qs ++ (rowV (wordsA [] (p.drop k))).2)) ∧ Below w.heap.size w w') (fun a' _ => t.size - (RowKit.intOf (a'.tmps.getD 5 undef)).toNat) rfl ?first (fun a w hJ => wp_skip_seq (pass a w hJ))) ?pass
  case first =>
    go_wp2_with fail
    go_fit HPL.out
    rintro e w2 ⟨rfl, hB0⟩
    go_wp2_with fail
    go_step3
    refine (by assumption : ∀ (a : Act) (w : World), Code.wp Tryz.prog _ _ a w → _) _ _ ?_
    refine wp_mono (pass _ _ ⟨0, [], .slice none 0 0, _, _, _, _, _, _, _, _, _, _, _, _, _, _, _, _, _, _, _, _, _, _, _, _, _, _, _, _, _, _, _, _, _, _, _, _, _, _, _, _, _, _, _, _, _, _, _, _, _, _, _, _, _, _, rfl, Nat.zero_le _, OwnR.nil _ _ _, Nat.le_refl _, rfl, hB0⟩) (fun e a w h => ?_)
    cases e with
    | goto l => exact ⟨h.1, h.2.1⟩
    | normal => exact h
    | exit id => exact h
    | ret => exact h
    | panic ch => exact h
    | outgrown => exact h
  case pass =>
    clear HPL
    rintro a' w' ⟨k, qs, v, u6, u7, u8, u11, u12, u13, u14, u15, u16, u17, u18, u19, u20, u21, u22, u23, u24, u25, u26, u27, u28, u29, u30, u31, u32, u33, u34, u35, u36, u37, u38, u39, u40, u41, u42, u43, u44, u45, u46, u47, u48, u49, u50, u51, u52, u53, u54, u55, u56, u57, u58, u59, u60, u61, rfl, hk, hown, hql, HR, hB⟩
    go_wp2_with fail
    go_loop [5] (fun i => ∃ j : Nat, k ≤ j ∧ j ≤ t.size ∧ i = .int .i64 (j : Int) ∧ Hid (wordsA [] (p.drop k) = wordsA [] (p.drop j))) (fun i => t.size - (RowKit.intOf i).toNat)
    case atStart => exact ⟨k, Nat.le_refl _, hk, rfl, rfl⟩
    case round =>
      obtain ⟨j, hkj, hj, rfl, HW⟩ := hrel
      by_cases hjt : j < t.size
      · have y0 : (j : Int) < (t.size : Int) := by omega
        obtain ⟨h', hg, hg1, hg2⟩ := HGET.out j hjt
        have HGC := Lib.hid (fun W => HGP.out (t[j]'hjt).toNat W)
        cases hc : isG p[j] with
        | true =>
          have y1 := hg1 hc
          have HW2 : Hid (wordsA [] (p.drop k) = wordsA [] (p.drop (j + 1))) := HW.out.trans (wordsA_step h' hc)
          clear hg hg1 hg2 hc HW
          go_wp2_with fail
          go_fit (HGC.out _)
          rintro e w5 ⟨rfl, rfl⟩
          go_wp2_with fail
          go_round
          case rel => exact ⟨j + 1, by omega, by omega, by go_num, HW2⟩
          case measure => simp [RowKit.intOf]; omega
        | false =>
          have y1 := hg2 hc
          have y2 : ¬ 0 ≤ gapI (t[j]'hjt).toNat := by omega
          have HC0 := Lib.hid hc
          have HGE := Lib.hid hg
          clear hg hg1 hg2 hc
          generalize hgi : gapI (t[j]'hjt).toNat = gi at *
          clear hgi
          go_wp2_with fail
          go_fit (HGC.out _)
          rintro e w5 ⟨rfl, rfl⟩
          go_wp2_with fail
          go_loop [6] (fun i => ∃ e : Nat, j ≤ e ∧ e ≤ t.size ∧ i = .int .i64 (e : Int) ∧ Hid (wordsA [] (p.drop j) = wordsA ((p.take e).drop j) (p.drop e))) (fun i => t.size - (RowKit.intOf i).toNat)
          case atStart => exact ⟨j, Nat.le_refl _, hj, rfl, by show _ = wordsA ((p.take j).drop j) _; have e0 : (p.take j).drop j = [] := List.drop_of_length_le (by rw [List.length_take]; omega); rw [e0]⟩
          case round =>
            obtain ⟨e, hje, het, rfl, HE⟩ := hrel
            have hcase : (∃ h : e < t.size, ∃ h' : e < p.length, isG p[e] = false ∧ gapI (t[e]'h).toNat < 0) ∨ ((e = t.size ∨ ∃ h : e < t.size, 0 ≤ gapI (t[e]'h).toNat) ∧ j < e ∧ (p.drop e = [] ∨ ∃ c r, p.drop e = c :: r ∧ isG c = true)) := by
              by_cases h : e < t.size
              · obtain ⟨h', hg, hg1, hg2⟩ := HGET.out e h
                cases hc : isG p[e] with
                | false => exact Or.inl ⟨h, h', hc, hg2 hc⟩
                | true =>
                  refine Or.inr ⟨Or.inr ⟨h, hg1 hc⟩, ?_, Or.inr ⟨_, _, drop_cons p e h', hc⟩⟩
                  rcases Nat.lt_or_eq_of_le hje with h1 | h1
                  · exact h1
                  · subst h1; rw [HC0.out] at hc; cases hc
              · refine Or.inr ⟨Or.inl (by omega), by omega, Or.inl (List.drop_of_length_le (by rw [← HSZ.out]; omega))⟩
            rcases hcase with ⟨hlt, h', hng, hgi⟩ | ⟨hend, hlt, hdr⟩
            · have y3 : (e : Int) < (t.size : Int) := by omega
              have HGC2 := Lib.hid (fun W => HGP.out (t[e]'hlt).toNat W)
              have HE2 : Hid (wordsA [] (p.drop j) = wordsA ((p.take (e + 1)).drop j) (p.drop (e + 1))) := by
                show _ = _
                rw [take_snoc_drop p j e hje h', HE.out]
                exact wordsA_grow h' hng
              clear HE hng
              generalize gapI (t[e]'hlt).toNat = gj at *
              go_wp2_with fail
              go_fit (HGC2.out _)
              rintro e6 w6 ⟨rfl, rfl⟩
              go_wp2_with fail
              go_round
              case rel => exact ⟨e + 1, by omega, by omega, by go_num, HE2⟩
              case measure => simp [RowKit.intOf]; omega
            · obtain ⟨cur, hcur⟩ : ∃ cur, (p.take e).drop j = cur := ⟨_, rfl⟩
              have hcne : cur ≠ [] := fun hc => by
                have h1 := congrArg List.length (hcur.trans hc)
                rw [List.length_drop, List.length_take, ← HSZ.out, List.length_nil] at h1
                omega
              have HR3 : Hid (rowV (wordsA [] p) = ((rowV (cur :: wordsA [] (p.drop e))).1, qs ++ (rowV (cur :: wordsA [] (p.drop e))).2)) := by
                rw [← wordsA_word hcne hdr, ← hcur, ← HE.out, ← HW.out]
                exact HR
              have HNC : Hid (∀ W, Calls Tryz.prog 36 #[.string (strN cur)] W (NumPost cur W)) := fun W => by rw [← hcur]; exact HN.out j e W
              have xe : t.extract j e = strN cur := by rw [HX.out j e, hcur]
              have y4 : (j : Int) ≤ (e : Int) := by omega
              have HGQ := HGP
              clear HE hcne hcur HN HX HW HR HGP HGC
              rcases hend with hke | ⟨hlt2, hgi⟩
              case' inl =>
                have y3 : ¬ (e : Int) < (t.size : Int) := by omega
                clear hke
                go_wp2_with fail
                go_fit (HNC.out _)
              case' inr =>
                have y3 : (e : Int) < (t.size : Int) := by omega
                have HGC2 := Lib.hid (fun W => HGQ.out (t[e]'hlt2).toNat W)
                have y5 : ¬ gapI (t[e]'hlt2).toNat < 0 := by omega
                generalize gapI (t[e]'hlt2).toNat = gj at *
                go_wp2_with fail
                go_fit (HGC2.out _)
                rintro e6 w6 ⟨rfl, rfl⟩
                go_wp2_with fail
                go_fit (HNC.out _)
              all_goals
                clear xe
                rintro e5 w5 hp
                rcases hp with ⟨hz, v5, rfl, ⟨bn, bd, rfl, hbn, hbd⟩, hb5⟩ | ⟨hz, s, F1, n1, l1, F2, n2, l2, rfl, hb5⟩
                · obtain ⟨F1, l1, rfl, m1⟩ := nt_len hbn
                  obtain ⟨F2, l2, rfl, m2⟩ := nt_len hbd
                  have HR4 := Lib.hid (rowV_more HR3.out hz)
                  clear HR3 hz
                  generalize (numV cur).1 = q at *
                  have hbm : Below w5.heap.size w5 (w5.alloc (.cells #[.bool (qS q), .slice F1 (lim (qN q)).length l1, .slice F2 (lim q.den).length l2] 60)) := (Below.refl _ _).alloc (Nat.le_refl _) _
                  have b6 := Blk.new w5 60 #[.bool (qS q), .slice F1 (lim (qN q)).length l1, .slice F2 (lim q.den).length l2]
                  have x0 := b6.cell 0
                  have x1 := b6.cell 1
                  have x2 := b6.cell 2
                  have n1 := hbn.after hbm
                  have n2 := hbd.after hbm
                  have hvL := hown.lt
                  have hown5 := (hown.after hb5).after hbm
                  have hB5 := (hB.trans (hb5.mono hB.size)).trans (hbm.mono (Nat.le_trans hB.size hb5.size))
                  have hL1 := hB.size
                  have HVL := Lib.hid (fun g hg => (hvL g hg).2)
                  have HLEN : Hid (qs.length ≤ 1000000) := by show _ ≤ _; omega
                  have HN1 := Lib.hid n1
                  have HN2 := Lib.hid n2
                  have HOW := Lib.hid hown5
                  have HB5 := Lib.hid hB5
                  have HBS := Lib.hid hB5.size
                  clear hbn hbd m1 m2 b6 hvL hown hb5 hB hbm n1 n2 hown5 hB5
                  go_wp2_with (at_builtin; refine wpList_append_rat rfl _ _ 35 rfl w.heap.size 60 i0 _ Tryz.underlying35 hi hz0 hz1 hz2 rfl v qs rfl HOW.out q F1 F2 l1 l2 _ hL1 HVL.out HN1.out HN2.out (by rw [World.size_alloc]; rfl) HLEN.out HBS.out ?_)
                  intro v7 w7 ho7 hb7 hs7
                  have hB7 := HB5.out.trans hb7
                  clear HOW HN1 HN2 HVL HB5 HBS hb7 hs7 x0 x1 x2
                  go_wp2_with fail
                  go_step3
                  refine ⟨rfl, ⟨e, qs ++ [q], v7, _, _, _, _, _, _, _, _, _, _, _, _, _, _, _, _, _, _, _, _, _, _, _, _, _, _, _, _, _, _, _, _, _, _, _, _, _, _, _, _, _, _, _, _, _, _, _, _, _, _, _, _, _, _, rfl, het, ho7, by simp; omega, HR4, hB7⟩, ?_⟩
                  simp [RowKit.intOf]
                  omega
                · have HST := Lib.hid (rowV_stop HR3.out hz)
                  have hB5 := hB.trans (hb5.mono hB.size)
                  have HC1 := Lib.hid hz
                  have z1 : (((numV cur).2 : Int) == 0) = false := beq_eq_false_iff_ne.2 (by omega)
                  have z2 : ¬ ((numV cur).2 : Int) = 0 := by omega
                  have hB6 := hB5.alloc hB5.size (.cells #[.bool s, .slice F1 n1 l1, .slice F2 n2 l2] 60)
                  clear hz hB hb5 hown hB5 HR3
                  generalize (numV cur).2 = c at *
                  go_wp2_with fail
                  simp only [Exit.jump]
                  go_ret2
                  have hT1 : T.1 = c := by rw [← HT.out]; exact HST.out
                  exact Or.inr ⟨by rw [hT1]; exact HC1.out, by rw [hT1]; rfl, hB6⟩
      · obtain rfl : j = t.size := by omega
        have y0 : ¬ ((t.size : Nat) : Int) < (t.size : Int) := by omega
        have hT : T = (0, qs) := by
          rw [← HT.out, HR.out, HW.out, List.drop_of_length_le (by rw [← HSZ.out]; omega), wordsA_nil]
          simp [rowV]
        obtain rfl := hT
        have hrow := hown.row
        obtain ⟨A, c, rfl, hc1, hc2, hc3, hc4⟩ := hrow
        have h256 := H256.out
        have y1 : ¬ (256 : Int) < (qs.length : Int) := by
          have h : qs.length ≤ 256 := h256
          omega
        have HRW := Lib.hid hown.row
        clear HT HR H256 h256 hown hc1 hc2 hc3 hc4 HW
        go_wp2_with fail
        simp only [Exit.jump]
        go_ret2
        exact Or.inl ⟨rfl, _, rfl, HRW.out, hB⟩
end Go.Proofs.YtchokmhfgikglaaGreatDoor

namespace Go.Proofs.YtchokmhfgikglaaGreatDoor
set_option maxRecDepth 100000
open Go.RowKit Go.Shelf Go.Lib

/-- Letters, the small ones. -/
def isL (x : Nat) : Bool := decide (97 ≤ x) && decide (x ≤ 122)
/-- Letters and digits. -/
def isLD (x : Nat) : Bool := (decide (97 ≤ x) && decide (x ≤ 122)) || (decide (48 ≤ x) && decide (x ≤ 57))
def lettersU : List UInt8 := [97, 98, 99, 100, 101, 102, 103, 104, 105, 106, 107, 108, 109, 110, 111, 112, 113, 114, 115, 116, 117, 118, 119, 120, 121, 122]
def signsU : List UInt8 := [97, 98, 99, 100, 101, 102, 103, 104, 105, 106, 107, 108, 109, 110, 111, 112, 113, 114, 115, 116, 117, 118, 119, 120, 121, 122, 48, 49, 50, 51, 52, 53, 54, 55, 56, 57]

theorem nameG_cons (c : Nat) (r : List Nat) : nameG (c :: r) = (decide ((c :: r).length ≤ 12) && isL c && (c :: r).all isLD) := rfl

theorem signs_in (n : Nat) (h : n < 256) : signsU.contains (UInt8.ofNat n) = isLD n := by
  have h' : ∀ n : Fin 256, signsU.contains (UInt8.ofNat n.val) = isLD n.val := by decide +kernel
  exact h' ⟨n, h⟩
theorem letters_in (n : Nat) (h : n < 256) : decide (0 ≤ Lib.indexByte lettersU (UInt8.ofNat n)) = isL n := by
  have h' : ∀ n : Fin 256, decide (0 ≤ Lib.indexByte lettersU (UInt8.ofNat n.val)) = isL n.val := by decide +kernel
  exact h' ⟨n, h⟩

theorem trimS_nil (l cs : List UInt8) : Lib.trimS l cs = [] ↔ ∀ x ∈ l, cs.contains x = true := by
  unfold Lib.trimS Lib.trimLeftS
  rw [dropWhile_nil]
  constructor
  · intro h
    have h2 : Lib.trimRightS l cs = [] := by
      unfold Lib.trimRightS at h ⊢
      rw [List.reverse_eq_nil_iff]
      cases hd : List.dropWhile (fun x => cs.contains x) l.reverse with
      | nil => rfl
      | cons x r =>
        have h3 := h x (by rw [hd]; simp)
        have h4 := List.head_dropWhile_not (p := fun x => cs.contains x) (l := l.reverse) (by rw [hd]; simp)
        simp only [hd, List.head_cons] at h4
        rw [h3] at h4
        cases h4
    unfold Lib.trimRightS at h2
    rw [List.reverse_eq_nil_iff, dropWhile_nil] at h2
    intro x hx
    exact h2 x (List.mem_reverse.2 hx)
  · intro h
    have h2 : Lib.trimRightS l cs = [] := by
      unfold Lib.trimRightS
      rw [List.reverse_eq_nil_iff, dropWhile_nil]
      intro x hx
      exact h x (List.mem_reverse.1 hx)
    rw [h2]
    simp

theorem trim_signs (l : List Nat) (hl : Byt l) : Lib.trimS (u8 l) signsU = [] ↔ l.all isLD = true := by
  rw [trimS_nil, List.all_eq_true]
  constructor
  · intro h x hx
    rw [← signs_in x (hl x hx)]
    exact h _ (List.mem_map.2 ⟨x, hx, rfl⟩)
  · intro h x hx
    obtain ⟨y, hy, rfl⟩ := List.mem_map.1 hx
    rw [signs_in y (hl y hy)]
    exact h y hy

theorem emptyN (c : Nat) (r : List Nat) : (strN (c :: r)).toList.isEmpty = false := by
  rw [isEmpty_size, strN_size]
  exact decide_eq_false (by simp)

set_option maxHeartbeats 3200000 in
theorem sessName_any (l : List Nat) (hl : Byt l) (h9 : l.length ≤ 1000000) (w : World) :
    Calls Tryz.prog 18 #[.string (strN l)] w fun e w' => e = .returned (.bool (nameG l)) ∧ Below w.heap.size w w' := by
  cases l with
  | nil =>
    have e : strN [] = ⟨#[]⟩ := rfl
    rw [e]
    go_enter Tryz.func18, Tryz.ntmps18
    go_wp2_with fail
    go_ret
    exact ⟨rfl, Below.refl _ _⟩
  | cons c r =>
    have hem := emptyN c r
    have hc := hl c (by simp)
    have hs := strN_size (c :: r)
    have h0 : 0 < (strN (c :: r)).size := by rw [hs]; simp
    have hg0 : ((strN (c :: r))[0]'h0).toNat = c := strN_get (c :: r) hl 0 h0 (by simp)
    have HG := Lib.hid (nameG_cons c r)
    by_cases h12 : (c :: r).length ≤ 12
    · have y1 : ((strN (c :: r)).size : Int) ≤ 12 := by omega
      have HIX : Hid (∀ W, Calls Tryz.prog 35 #[.string ⟨lettersU.toArray⟩, .int .u8 (c : Int)] W fun e w' => e = .returned (.int .i64 (Lib.indexByte lettersU (UInt8.ofNat c))) ∧ W = w') := fun W =>
        (Any.strings_IndexByte Tryz.lays137 ⟨lettersU.toArray⟩ (c : Int) W).mono fun e w' ⟨h1, h2⟩ => ⟨h1, h2.symm⟩
      have hin := letters_in c hc
      obtain ⟨z, hz⟩ : ∃ z, Lib.indexByte lettersU (UInt8.ofNat c) = z := ⟨_, rfl⟩
      rw [hz] at HIX hin
      have hall := trim_signs (c :: r) hl
      have HTR : Hid (∀ W, Calls Tryz.prog 37 #[.string (strN (c :: r)), .string ⟨signsU.toArray⟩] W fun e w' => e = .returned (.string ⟨(Lib.trimS (u8 (c :: r)) signsU).toArray⟩) ∧ Below W.heap.size W w') := fun W => by
        have h := Any.strings_Trim_laid Tryz.lays160 (by kernel_rfl) (strN (c :: r)) ⟨signsU.toArray⟩ W (by rw [hs]; omega) (by decide) (ascii_of_all (by decide))
        rw [u8_data] at h
        exact h
      obtain ⟨u, hu⟩ : ∃ u, (⟨(Lib.trimS (u8 (c :: r)) signsU).toArray⟩ : ByteArray) = u := ⟨_, rfl⟩
      have hue : u.toList.isEmpty = (c :: r).all isLD := by
        rw [← hu, ByteArray.toList_mk]
        cases h : (c :: r).all isLD with
        | true => rw [hall.2 h]; rfl
        | false =>
          cases h3 : Lib.trimS (u8 (c :: r)) signsU with
          | nil => rw [hall.1 h3] at h; cases h
          | cons => rfl
      have hnil : (c :: r).all isLD = true → u = ⟨#[]⟩ := fun h => by rw [← hu, hall.2 h]
      rw [hu] at HTR
      unfold lettersU at HIX
      unfold signsU at HTR
      cases hL : isL c with
      | false =>
        rw [hL] at hin
        have y2 : ¬ 0 ≤ z := of_decide_eq_false hin
        have hn : nameG (c :: r) = false := by rw [HG.out, hL, Bool.and_false, Bool.false_and]
        rw [hn]
        clear hn HG hL hin hz hl hs hc h12 hall hu hue hnil HTR
        generalize strN (c :: r) = t at *
        go_enter Tryz.func18, Tryz.ntmps18
        go_wp2_with fail
        go_fit (HIX.out _)
        rintro e w1 ⟨rfl, rfl⟩
        go_wp2_with fail
        go_ret
        exact ⟨rfl, Below.refl _ _⟩
      | true =>
        rw [hL] at hin
        have y2 : 0 ≤ z := of_decide_eq_true hin
        have hn : nameG (c :: r) = (c :: r).all isLD := by rw [HG.out, hL, decide_eq_true h12, Bool.true_and, Bool.true_and]
        rw [hn]
        clear hn HG hL hin hz hl hs hc h12 hall hu
        cases hA : (c :: r).all isLD with
        | true =>
          have hue2 := hnil hA
          subst hue2
          clear hue hnil hA
          generalize strN (c :: r) = t at *
          go_enter Tryz.func18, Tryz.ntmps18
          go_wp2_with fail
          go_fit (HIX.out _)
          rintro e w1 ⟨rfl, rfl⟩
          go_wp2_with fail
          go_fit (HTR.out _)
          rintro e w2 ⟨rfl, hb2⟩
          go_wp2_with fail
          go_ret
          exact ⟨rfl, hb2⟩
        | false =>
          rw [hA] at hue
          clear hnil hA
          generalize strN (c :: r) = t at *
          go_enter Tryz.func18, Tryz.ntmps18
          go_wp2_with fail
          go_fit (HIX.out _)
          rintro e w1 ⟨rfl, rfl⟩
          go_wp2_with fail
          go_fit (HTR.out _)
          rintro e w2 ⟨rfl, hb2⟩
          go_wp2_with fail
          go_ret
          exact ⟨rfl, hb2⟩
    · have y1 : ¬ ((strN (c :: r)).size : Int) ≤ 12 := by omega
      have hn : nameG (c :: r) = false := by rw [HG.out, decide_eq_false h12, Bool.false_and, Bool.false_and]
      rw [hn]
      clear hn HG hl hs hc h12 hg0 h0
      generalize strN (c :: r) = t at *
      go_enter Tryz.func18, Tryz.ntmps18
      go_wp2_with fail
      go_ret
      exact ⟨rfl, Below.refl _ _⟩
end Go.Proofs.YtchokmhfgikglaaGreatDoor

namespace Go.Proofs.YtchokmhfgikglaaGreatDoor
set_option maxRecDepth 100000
open Go.RowKit Go.Shelf Go.Lib

theorem take_all {l : List Nat} {f : Nat → Bool} {k : Nat} (h : k < l.length) (h1 : (l.take k).all f = true) (h2 : f l[k] = true) : (l.take (k + 1)).all f = true := by
  rw [List.take_succ_eq_append_getElem h, List.all_append, h1]
  simp [h2]
theorem all_not {l : List Nat} {f : Nat → Bool} {k : Nat} (h : k < l.length) (h2 : f l[k] = false) : l.all f = false := by
  cases h3 : l.all f with
  | false => rfl
  | true => rw [List.all_eq_true.1 h3 _ (List.getElem_mem h)] at h2; cases h2

set_option maxHeartbeats 3200000 in
theorem name22_any (l : List Nat) (hl : Byt l) (h9 : l.length ≤ 1000000) (w : World) :
    Calls Tryz.prog 20 #[.string (strN l)] w fun e w' => e = .returned (.bool (nameG l)) ∧ w = w' := by
  cases l with
  | nil =>
    have e : strN [] = ⟨#[]⟩ := rfl
    rw [e]
    go_enter Tryz.func20, Tryz.ntmps20
    go_wp2_with fail
    go_ret
    exact ⟨rfl, rfl⟩
  | cons c r =>
    have hs := strN_size (c :: r)
    have h0 : 0 < (strN (c :: r)).size := by rw [hs]; simp
    have hg0 : ((strN (c :: r))[0]'h0).toNat = c := strN_get (c :: r) hl 0 h0 (by simp)
    have HG := Lib.hid (nameG_cons c r)
    have y0 : ¬ ((strN (c :: r)).size : Int) < 1 := by omega
    by_cases h12 : (c :: r).length ≤ 12
    · have y1 : ¬ (12 : Int) < ((strN (c :: r)).size : Int) := by omega
      by_cases hL : 97 ≤ c ∧ c ≤ 122
      · have hn : nameG (c :: r) = (c :: r).all isLD := by
          have : isL c = true := by unfold isL; simp [hL]
          rw [HG.out, this, decide_eq_true h12, Bool.true_and, Bool.true_and]
        have y2 : ¬ ((((strN (c :: r))[0]'h0).toNat : Nat) : Int) < 97 := by omega
        have y3 : ¬ (122 : Int) < ((((strN (c :: r))[0]'h0).toNat : Nat) : Int) := by omega
        have HGET : Hid (∀ k (h : k < (strN (c :: r)).size), ∃ h' : k < (c :: r).length, ((strN (c :: r))[k]'h).toNat = (c :: r)[k]) := fun k h => ⟨by rw [hs] at h; exact h, strN_get _ hl k h _⟩
        rw [hn]
        have HSZ := Lib.hid hs
        clear hn HG hg0 hs hl h12 hL
        generalize c :: r = l at *
        generalize strN l = t at *
        go_enter Tryz.func20, Tryz.ntmps20
        go_wp2_with fail
        go_loop [3] (fun i => ∃ k : Nat, k ≤ t.size ∧ i = .int .i64 (k : Int) ∧ Hid ((l.take k).all isLD = true)) (fun i => t.size - (RowKit.intOf i).toNat)
        case atStart => exact ⟨0, Nat.zero_le _, rfl, rfl⟩
        case round =>
          obtain ⟨k, hk, rfl, HA⟩ := hrel
          by_cases hkt : k < t.size
          · have y4 : (k : Int) < (t.size : Int) := by omega
            obtain ⟨h', hg⟩ := HGET.out k hkt
            obtain ⟨x, hx⟩ : ∃ x, (t[k]'hkt).toNat = x := ⟨_, rfl⟩
            have hyes : (97 ≤ x ∧ x ≤ 122) ∨ (48 ≤ x ∧ x ≤ 57) → Hid ((l.take (k + 1)).all isLD = true) := fun h => take_all h' HA.out (by rw [← hg, hx]; unfold isLD; simp; omega)
            have hno : ¬ ((97 ≤ x ∧ x ≤ 122) ∨ (48 ≤ x ∧ x ≤ 57)) → Hid (l.all isLD = false) := fun h => all_not h' (by rw [← hg, hx]; unfold isLD; simp; omega)
            rcases (by omega : x < 48 ∨ (48 ≤ x ∧ x ≤ 57) ∨ (57 < x ∧ x < 97) ∨ (97 ≤ x ∧ x ≤ 122) ∨ 122 < x) with h1 | ⟨h1, h2⟩ | ⟨h1, h2⟩ | ⟨h1, h2⟩ | h1
            · have HN := hno (by omega)
              have z1 : (x : Int) < 97 := by omega
              have z2 : (x : Int) < 48 := by omega
              clear hyes hno HA hg
              go_wp2_with fail
              go_ret
              exact ⟨by rw [HN.out]; rfl, rfl⟩
            · have HY := hyes (by omega)
              have z1 : (x : Int) < 97 := by omega
              have z2 : ¬ (x : Int) < 48 := by omega
              have z3 : ¬ (57 : Int) < (x : Int) := by omega
              clear hyes hno HA hg
              go_wp2_with fail
              go_round
              case rel => exact ⟨k + 1, by omega, by go_num, HY⟩
              case measure => simp [RowKit.intOf]; omega
            · have HN := hno (by omega)
              have z1 : (x : Int) < 97 := by omega
              have z2 : ¬ (x : Int) < 48 := by omega
              have z3 : (57 : Int) < (x : Int) := by omega
              clear hyes hno HA hg
              go_wp2_with fail
              go_ret
              exact ⟨by rw [HN.out]; rfl, rfl⟩
            · have HY := hyes (by omega)
              have z1 : ¬ (x : Int) < 97 := by omega
              have z2 : ¬ (122 : Int) < (x : Int) := by omega
              clear hyes hno HA hg
              go_wp2_with fail
              go_round
              case rel => exact ⟨k + 1, by omega, by go_num, HY⟩
              case measure => simp [RowKit.intOf]; omega
            · have HN := hno (by omega)
              have z1 : ¬ (x : Int) < 97 := by omega
              have z2 : (122 : Int) < (x : Int) := by omega
              have z4 : ¬ (x : Int) < 48 := by omega
              have z3 : (57 : Int) < (x : Int) := by omega
              clear hyes hno HA hg
              go_wp2_with fail
              go_ret
              exact ⟨by rw [HN.out]; rfl, rfl⟩
          · obtain rfl : k = t.size := by omega
            have y4 : ¬ ((t.size : Nat) : Int) < (t.size : Int) := by omega
            have HF : Hid (l.all isLD = true) := by
              have := HA.out
              rw [HSZ.out, List.take_length] at this
              exact this
            clear HA
            go_wp2_with fail
            go_ret
            exact ⟨by rw [HF.out]; rfl, rfl⟩
      · have hn : nameG (c :: r) = false := by
          have : isL c = false := by unfold isL; simp; omega
          rw [HG.out, this, Bool.and_false, Bool.false_and]
        rw [hn]
        clear hn HG hl hs h12
        rcases (by omega : c < 97 ∨ (97 ≤ c ∧ 122 < c)) with h1 | ⟨h1, h2⟩
        · have y2 : ((((strN (c :: r))[0]'h0).toNat : Nat) : Int) < 97 := by omega
          clear hg0
          generalize strN (c :: r) = t at *
          go_enter Tryz.func20, Tryz.ntmps20
          go_wp2_with fail
          go_ret
          exact ⟨rfl, rfl⟩
        · have y2 : ¬ ((((strN (c :: r))[0]'h0).toNat : Nat) : Int) < 97 := by omega
          have y3 : (122 : Int) < ((((strN (c :: r))[0]'h0).toNat : Nat) : Int) := by omega
          clear hg0
          generalize strN (c :: r) = t at *
          go_enter Tryz.func20, Tryz.ntmps20
          go_wp2_with fail
          go_ret
          exact ⟨rfl, rfl⟩
    · have y1 : (12 : Int) < ((strN (c :: r)).size : Int) := by omega
      have hn : nameG (c :: r) = false := by rw [HG.out, decide_eq_false h12, Bool.false_and, Bool.false_and]
      rw [hn]
      clear hn HG hl hs h12 hg0 h0
      generalize strN (c :: r) = t at *
      go_enter Tryz.func20, Tryz.ntmps20
      go_wp2_with fail
      go_ret
      exact ⟨rfl, rfl⟩
end Go.Proofs.YtchokmhfgikglaaGreatDoor

namespace Go.Proofs.YtchokmhfgikglaaGreatDoor
set_option maxRecDepth 100000
open Go.RowKit

/-- Of what was there only blocks of D may have turned. -/
structure Turned (D : Nat → Prop) (w w' : World) : Prop where
  os : w'.os = w.os
  tape : w'.tape = w.tape
  output : w'.output = w.output
  size : w.heap.size ≤ w'.heap.size
  block : ∀ k, k < w.heap.size → ¬ D k → w'.heap[k]? = w.heap[k]?
  /-- What is no cells lies as it lay, wherever. -/
  others : KeepsOthers w w'

section
variable {D : Nat → Prop} {a b c w w' : World}
theorem others_below (h : Below w.heap.size w w') : KeepsOthers w w' := ⟨h.size, fun k o hk _ => (h.block k (Array.getElem?_eq_some_iff.1 hk).1).trans hk⟩
theorem Turned.refl (D : Nat → Prop) (w : World) : Turned D w w := ⟨rfl, rfl, rfl, Nat.le_refl _, fun _ _ _ => rfl, KeepsOthers.refl _⟩
theorem Turned.trans (h : Turned D a b) (k : Turned D b c) : Turned D a c :=
  ⟨k.os.trans h.os, k.tape.trans h.tape, k.output.trans h.output, Nat.le_trans h.size k.size, fun i hi hd => (k.block i (Nat.lt_of_lt_of_le hi h.size) hd).trans (h.block i hi hd), h.others.trans k.others⟩
theorem Turned.of_below (h : Below w.heap.size w w') : Turned D w w' := ⟨h.os, h.tape, h.output, h.size, fun k hk _ => h.block k hk, others_below h⟩
/-- A second step may turn what the first one laid. -/
theorem Turned.after {D' : Nat → Prop} (h : Turned D a b) (k : Turned D' b c) (hd : ∀ i, D' i → D i ∨ a.heap.size ≤ i) : Turned D a c :=
  ⟨k.os.trans h.os, k.tape.trans h.tape, k.output.trans h.output, Nat.le_trans h.size k.size, fun i hi hn => (k.block i (Nat.lt_of_lt_of_le hi h.size) (fun hc => by rcases hd i hc with h1 | h1; exact hn h1; omega)).trans (h.block i hi hn), h.others.trans k.others⟩
theorem Turned.below {C : Nat} (h : Turned D w w') (hC : C ≤ w.heap.size) (hd : ∀ k, D k → C ≤ k) : Below C w w' :=
  ⟨h.os, h.tape, h.output, h.size, fun k hk => h.block k (by omega) (fun hc => by have := hd k hc; omega)⟩
theorem Turned.set {p : Addr} (hp : D p.block) (u : Value) : Turned D w (w.setCell p u) :=
  ⟨rfl, rfl, rfl, by simp [World.setCell], fun k _ hk => Below.heap_setCell _ _ _ _ (fun e => hk (e ▸ hp)), KeepsOthers.setCell _ _ _⟩
end

/-- The program's session at block p: names that rise and their rows; all of it lies in blocks of D. -/
def SessP (tE tS : TypeId) (w : World) (p : Nat) (D : Nat → Prop) (ns : List (List Nat)) (rs : List (List Rat)) : Prop :=
  ∃ v cs, w.heap[p]? = some (.cells #[v, .int .i64 6] tS (0, 0)) ∧ w.ownsRow 0 tE 2 v ns.length cs ∧ D p ∧ (∀ g, v.ownBlock = some g → D g ∧ g ≠ p) ∧ rs.length = ns.length ∧
    (∀ n ∈ ns, Byt n ∧ n.length ≤ 12) ∧ (∀ k, D k → k < w.heap.size) ∧
    ∀ j (h : j < ns.length) (h' : j < rs.length), cs[j * 2]? = some (.string (strN ns[j])) ∧ ∃ A c L B, cs[j * 2 + 1]? = some (.slice A rs[j].length c) ∧ RowIn w L B (.slice A rs[j].length c) rs[j] ∧ B ≤ w.heap.size ∧ ∀ b, L ≤ b → b < B → D b ∧ b ≠ p ∧ v.ownBlock ≠ some b

/-- The reference's. -/
def SessR (tN tL tS : TypeId) (w : World) (q : Nat) (D : Nat → Prop) (ns : List (List Nat)) (rs : List (List Rat)) : Prop :=
  ∃ vN vL cl, w.heap[q]? = some (.cells #[vN, vL, .int .i64 6] tS (0, 0)) ∧ w.ownsRow 0 tN 1 vN ns.length (ns.map fun n => Value.string (strN n)) ∧ w.ownsRow 0 tL 1 vL ns.length cl ∧ D q ∧
    (∀ g, vN.ownBlock = some g → D g ∧ g ≠ q) ∧ (∀ g, vL.ownBlock = some g → D g ∧ g ≠ q ∧ vN.ownBlock ≠ some g) ∧ rs.length = ns.length ∧
    (∀ n ∈ ns, Byt n ∧ n.length ≤ 12) ∧ (∀ k, D k → k < w.heap.size) ∧
    ∀ j (h' : j < rs.length), ∃ A c L B, cl[j]? = some (.slice A rs[j].length c) ∧ RowIn w L B (.slice A rs[j].length c) rs[j] ∧ B ≤ w.heap.size ∧ ∀ b, L ≤ b → b < B → D b ∧ b ≠ q ∧ vL.ownBlock ≠ some b ∧ vN.ownBlock ≠ some b

theorem own_keep {w w' : World} {base size n : Nat} {e : TypeId} {v : Value} {cs : List Value} (h : w.ownsRow base e size v n cs) (hk : ∀ g, v.ownBlock = some g → w'.heap[g]? = w.heap[g]?) : w'.ownsRow base e size v n cs := by
  obtain ⟨hl, hc⟩ := h
  refine ⟨hl, ?_⟩
  rcases hc with hn | ⟨g, cap, cur, hv, hg, hh, r⟩
  · exact Or.inl hn
  · exact Or.inr ⟨g, cap, cur, hv, hg, by rw [hk g (by rw [hv]; rfl)]; exact hh, r⟩

theorem SessP.stay {tE tS : TypeId} {w w' : World} {p : Nat} {D : Nat → Prop} {ns : List (List Nat)} {rs : List (List Rat)} (h : SessP tE tS w p D ns rs) (hs : w.heap.size ≤ w'.heap.size) (hk : ∀ b, D b → w'.heap[b]? = w.heap[b]?) : SessP tE tS w' p D ns rs := by
  obtain ⟨v, cs, h1, h2, h3, h4, h5, h6, h7, h8⟩ := h
  refine ⟨v, cs, (hk p h3).trans h1, own_keep h2 fun g hg => hk g (h4 g hg).1, h3, h4, h5, h6, fun k hd => Nat.lt_of_lt_of_le (h7 k hd) hs, fun j hj hj' => ?_⟩
  obtain ⟨e1, A, c, L, B, e2, e3, e4, e5⟩ := h8 j hj hj'
  exact ⟨e1, A, c, L, B, e2, e3.stay (Nat.le_refl _) (Nat.le_refl _) fun q h1 h2 => World.cell?_of_block (hk _ (e5 _ h1 h2).1), Nat.le_trans e4 hs, e5⟩
theorem SessR.stay {tN tL tS : TypeId} {w w' : World} {q : Nat} {D : Nat → Prop} {ns : List (List Nat)} {rs : List (List Rat)} (h : SessR tN tL tS w q D ns rs) (hs : w.heap.size ≤ w'.heap.size) (hk : ∀ b, D b → w'.heap[b]? = w.heap[b]?) : SessR tN tL tS w' q D ns rs := by
  obtain ⟨vN, vL, cl, h1, h2, h3, h4, h5, h6, h7, h8, h9, h10⟩ := h
  refine ⟨vN, vL, cl, (hk q h4).trans h1, own_keep h2 fun g hg => hk g (h5 g hg).1, own_keep h3 fun g hg => hk g (h6 g hg).1, h4, h5, h6, h7, h8, fun k hd => Nat.lt_of_lt_of_le (h9 k hd) hs, fun j hj' => ?_⟩
  obtain ⟨A, c, L, B, e2, e3, e4, e5⟩ := h10 j hj'
  exact ⟨A, c, L, B, e2, e3.stay (Nat.le_refl _) (Nat.le_refl _) fun q h1 h2 => World.cell?_of_block (hk _ (e5 _ h1 h2).1), Nat.le_trans e4 hs, e5⟩
theorem SessP.lt {tE tS : TypeId} {w : World} {p : Nat} {D : Nat → Prop} {ns : List (List Nat)} {rs : List (List Rat)} (h : SessP tE tS w p D ns rs) : ∀ k, D k → k < w.heap.size := by
  obtain ⟨v, cs, h1, h2, h3, h4, h5, h6, h7, h8⟩ := h
  exact h7
theorem SessR.lt {tN tL tS : TypeId} {w : World} {q : Nat} {D : Nat → Prop} {ns : List (List Nat)} {rs : List (List Rat)} (h : SessR tN tL tS w q D ns rs) : ∀ k, D k → k < w.heap.size := by
  obtain ⟨vN, vL, cl, h1, h2, h3, h4, h5, h6, h7, h8, h9, h10⟩ := h
  exact h9
theorem SessP.below {tE tS : TypeId} {w w' : World} {p : Nat} {D : Nat → Prop} {ns : List (List Nat)} {rs : List (List Rat)} (h : SessP tE tS w p D ns rs) (hb : Below w.heap.size w w') : SessP tE tS w' p D ns rs := h.stay hb.size fun b hd => hb.block b (h.lt b hd)
theorem SessR.below {tN tL tS : TypeId} {w w' : World} {q : Nat} {D : Nat → Prop} {ns : List (List Nat)} {rs : List (List Rat)} (h : SessR tN tL tS w q D ns rs) (hb : Below w.heap.size w w') : SessR tN tL tS w' q D ns rs := h.stay hb.size fun b hd => hb.block b (h.lt b hd)
theorem SessP.turned {tE tS : TypeId} {w w' : World} {p : Nat} {D D' : Nat → Prop} {ns : List (List Nat)} {rs : List (List Rat)} (h : SessP tE tS w p D ns rs) (ht : Turned D' w w') (hd : ∀ k, D k → ¬ D' k) : SessP tE tS w' p D ns rs := h.stay ht.size fun b hb => ht.block b (h.lt b hb) (hd b hb)
theorem SessR.turned {tN tL tS : TypeId} {w w' : World} {q : Nat} {D D' : Nat → Prop} {ns : List (List Nat)} {rs : List (List Rat)} (h : SessR tN tL tS w q D ns rs) (ht : Turned D' w w') (hd : ∀ k, D k → ¬ D' k) : SessR tN tL tS w' q D ns rs := h.stay ht.size fun b hb => ht.block b (h.lt b hb) (hd b hb)
end Go.Proofs.YtchokmhfgikglaaGreatDoor

namespace Go.Proofs.YtchokmhfgikglaaGreatDoor
set_option maxRecDepth 100000
open Go.RowKit Go.Shelf Go.Lib

theorem take_snoc' {α : Type} (l : List α) (k : Nat) (h : k < l.length) : l.take k ++ [l[k]] = l.take (k + 1) := (List.take_succ_eq_append_getElem h).symm

set_option maxHeartbeats 3200000 in
theorem copied_any (v : Value) (xs : List Rat) (w : World) (h : RowIn w 0 w.heap.size v xs) (hz : ∀ q ∈ xs, Sz q 70) (hlen : xs.length ≤ 100000) :
    Calls Tryz.prog 24 #[v] w fun e w' => (∃ v', e = .returned v' ∧ RowIn w' w.heap.size w'.heap.size v' xs) ∧ Below w.heap.size w w' := by
  obtain ⟨A, c, rfl, hc, hm, hA0, hx⟩ := h
  obtain ⟨i0, hi, hz0, hz1, hz2⟩ := info_parts Tryz.infoRat
  have HX := Lib.hid hx
  have HZ : Hid (∀ k (h : k < xs.length), Sz xs[k] 70) := fun k h => hz _ (List.getElem_mem h)
  unfold maxLen at hm
  clear hx hz
  go_enter Tryz.func24, Tryz.ntmps24
  go_wp2_with fail
  go_loopw [3, 8] (fun v i wr => ∃ k : Nat, k ≤ xs.length ∧ i = .int .i64 (k : Int) ∧ OwnR wr w.heap.size 60 v (xs.take k) ∧ Below w.heap.size w wr) (fun _ i _ => xs.length - (RowKit.intOf i).toNat)
  case atStart => exact ⟨0, Nat.zero_le _, rfl, OwnR.nil _ _ _, Below.refl _ _⟩
  case round =>
    obtain ⟨k, hk, rfl, hown, hB⟩ := hrel
    by_cases hkn : k < xs.length
    · have y0 : (k : Int) < (xs.length : Int) := by omega
      obtain ⟨b, rfl, hl, hb, hcell⟩ := HX.out (by omega)
      have hra := (hcell k hkn).stay (Nat.zero_le _) hb (Nat.le_refl _) hB.size (fun p _ hp => hB.cell (p := p) hp)
      obtain ⟨G1, j1, G2, j2, c0, c1, c2, m1, m2⟩ := hra
      have hsz := HZ.out k hkn
      have hq : RQ wr 0 wr.heap.size (.agg #[.bool (qS xs[k]), .slice G1 (lim (qN xs[k])).length j1, .slice G2 (lim xs[k].den).length j2]) xs[k] 70 := RQ.of ⟨_, _, rfl, m1, m2⟩ hsz
      have HST : Hid (xs.take k ++ [xs[k]] = xs.take (k + 1)) := take_snoc' xs k hkn
      have HQ := Lib.hid hq
      clear hcell m1 m2 hl hsz hq
      generalize xs[k] = q at *
      have hal : Below wr.heap.size wr (wr.alloc (.cells #[.bool (qS q), .slice G1 (lim (qN q)).length j1, .slice G2 (lim q.den).length j2] 60)) := (Below.refl _ _).alloc (Nat.le_refl _) _
      have b4 := Blk.new wr 60 #[.bool (qS q), .slice G1 (lim (qN q)).length j1, .slice G2 (lim q.den).length j2]
      have x0 := b4.cell 0
      have x1 := b4.cell 1
      have x2 := b4.cell 2
      have HAL := Lib.hid hal
      clear b4 hal
      go_wp2_with fail
      go_fit (prNorm_q _ q 70 _ (HQ.out.after HAL.out) (by omega))
      rintro e w5 ⟨v5, rfl, ⟨bn, bd, rfl, hbn, hbd⟩, hb5⟩
      obtain ⟨F1, l1, rfl, m1⟩ := nt_len hbn
      obtain ⟨F2, l2, rfl, m2⟩ := nt_len hbd
      have hb6 := HAL.out.trans (hb5.mono HAL.out.size)
      have HN1 := Lib.hid (hbn.low HAL.out.size)
      have HN2 := Lib.hid (hbd.low HAL.out.size)
      have hvL := hown.lt
      have hL1 := hB.size
      have HVL := Lib.hid (fun g hg => (hvL g hg).2)
      have hlen5 : (xs.take k).length ≤ 1000000 := by rw [List.length_take]; omega
      have HLEN := Lib.hid hlen5
      have HOW := Lib.hid (hown.after hb6)
      have hB5 := hB.trans (hb6.mono hB.size)
      have HB5 := Lib.hid hB5
      have HBS := Lib.hid hB5.size
      clear hbn hbd m1 m2 hvL hown hb5 hb6 hB hlen5 hB5 x0 x1 x2 c0 c1 c2 HQ HAL
      go_wp2_with (at_builtin; refine wpList_append_rat rfl _ _ 35 rfl w.heap.size 60 i0 _ Tryz.underlying35 hi hz0 hz1 hz2 rfl u3 (xs.take k) rfl HOW.out q F1 F2 l1 l2 _ hL1 HVL.out HN1.out HN2.out rfl HLEN.out HBS.out ?_)
      intro v7 w7 ho7 hb7 hs7
      rw [HST.out] at ho7
      have hB7 := HB5.out.trans hb7
      clear HOW HN1 HN2 HVL HB5 HBS hb7 hs7
      go_wp2_with fail
      go_roundw
      case rel => exact ⟨k + 1, by omega, by go_num, ho7, hB7⟩
      case measure => simp [RowKit.intOf]; omega
    · obtain rfl : k = xs.length := by omega
      have y0 : ¬ ((xs.length : Nat) : Int) < (xs.length : Int) := by omega
      rw [List.take_length] at hown
      have HRW := Lib.hid hown.row
      clear hown HX
      go_wp2_with fail
      go_ret
      exact ⟨⟨_, rfl, HRW.out⟩, hB⟩
end Go.Proofs.YtchokmhfgikglaaGreatDoor

namespace Go.Proofs.YtchokmhfgikglaaGreatDoor
set_option maxRecDepth 100000
open Go.RowKit Go.Shelf Go.Lib

/-- A slice of entries, as it is read: names, and something for each row. -/
def Ents (w : World) (v : Value) (ns : List (List Nat)) : Prop :=
  ∃ A c, v = .slice A ns.length c ∧ ns.length ≤ c ∧ c ≤ maxLen ∧ (0 < ns.length → ∃ g, A = some ⟨g, 0, none⟩ ∧ g < w.heap.size ∧ ∀ j (h : j < ns.length), ∃ F l c', w.cell? ⟨g, j * 2, none⟩ = some (.string (strN ns[j])) ∧ w.cell? ⟨g, j * 2 + 1, none⟩ = some (.slice F l c'))
theorem Ents.below {w w' : World} {v : Value} {ns : List (List Nat)} (h : Ents w v ns) (hb : Below w.heap.size w w') : Ents w' v ns := by
  obtain ⟨A, c, rfl, hc, hm, hx⟩ := h
  refine ⟨A, c, rfl, hc, hm, fun h0 => ?_⟩
  obtain ⟨g, hA, hg, hcell⟩ := hx h0
  refine ⟨g, hA, Nat.lt_of_lt_of_le hg hb.size, fun j hj => ?_⟩
  obtain ⟨F, l, c', c0, c1⟩ := hcell j hj
  exact ⟨F, l, c', (hb.cell (p := ⟨g, j * 2, none⟩) hg).trans c0, (hb.cell (p := ⟨g, j * 2 + 1, none⟩) hg).trans c1⟩

theorem cmp_lt {a b : List Nat} (ha : Byt a) (hb : Byt b) : (lessG a b = true → compareBytes (u8 a) (u8 b) < 0) ∧ (lessG a b = false → ¬ compareBytes (u8 a) (u8 b) < 0) ∧ (a = b → compareBytes (u8 a) (u8 b) = 0) ∧ (a ≠ b → ¬ compareBytes (u8 a) (u8 b) = 0) := by
  rw [compare_less ha hb]
  refine ⟨fun h => ?_, fun h => ?_, fun h => ?_, fun h => ?_⟩
  · rw [if_pos h]; decide
  · rw [if_neg (by rw [h]; simp)]; split <;> decide
  · subst h; rw [if_neg (by rw [lessG_irrefl]; simp), if_neg (by rw [lessG_irrefl]; simp)]
  · split
    · decide
    · split
      · decide
      · rename_i h1 h2
        exact absurd (lessG_total (by simpa using h1) (by simpa using h2)) h

set_option maxHeartbeats 3200000 in
theorem sessCmp_any (a b : ByteArray) (F : Option Addr) (l c : Nat) (w : World) :
    Calls Tryz.prog 45 #[.agg #[.string a, .slice F l c], .string b] w fun e w' => e = .returned (.int .i64 (compareBytes a.data.toList b.data.toList)) ∧ Below w.heap.size w w' := by
  have HC : Hid (∀ W, Calls Tryz.prog 46 #[.string a, .string b] W fun e w' => e = .returned (.int .i64 (compareBytes a.data.toList b.data.toList)) ∧ W = w') := fun W =>
    (Any.strings_Compare Tryz.lays106 a b W).mono fun e w' ⟨h1, h2⟩ => ⟨h1, h2.symm⟩
  have b4 := Blk.new w 53 #[.string a, .slice F l c]
  have x0 := b4.cell 0
  have hal : Below w.heap.size w (w.alloc (.cells #[.string a, .slice F l c] 53)) := (Below.refl _ _).alloc (Nat.le_refl _) _
  clear b4
  go_enter Tryz.func45, Tryz.ntmps45
  go_wp2_with fail
  go_fit (HC.out _)
  rintro e w1 ⟨rfl, rfl⟩
  go_wp2_with fail
  go_ret
  exact ⟨rfl, hal⟩

set_option maxHeartbeats 6400000 in
theorem bsearch_any (v : Value) (ns : List (List Nat)) (n : List Nat) (w : World) (h : Ents w v ns) (hn : ns.length ≤ 1000) (hr : Rises ns) (hb : ∀ x ∈ ns, Byt x) (hnb : Byt n) :
    Calls Tryz.prog 44 #[v, .string (strN n), .func (.func 45) #[] #[]] w fun e w' => e = .returned (.tuple #[.int .i64 (atG ns n : Int), .bool (hasG ns n)]) ∧ Below w.heap.size w w' := by
  obtain ⟨A, c, rfl, hc, hm, hx⟩ := h
  unfold maxLen at hm
  have HX := Lib.hid hx
  have HC : Hid (∀ k (h : k < ns.length) F l c W, Calls Tryz.prog 45 #[.agg #[.string (strN ns[k]), .slice F l c], .string (strN n)] W fun e w' => e = .returned (.int .i64 (compareBytes (u8 ns[k]) (u8 n))) ∧ Below W.heap.size W w') := fun k h F l c W => by
    have h := sessCmp_any (strN ns[k]) (strN n) F l c W
    rw [u8_data, u8_data] at h
    exact h
  have HCMP : Hid (∀ k (h : k < ns.length), (lessG ns[k] n = true → compareBytes (u8 ns[k]) (u8 n) < 0) ∧ (lessG ns[k] n = false → ¬ compareBytes (u8 ns[k]) (u8 n) < 0) ∧ (ns[k] = n → compareBytes (u8 ns[k]) (u8 n) = 0) ∧ (ns[k] ≠ n → ¬ compareBytes (u8 ns[k]) (u8 n) = 0)) := fun k h => cmp_lt (hb _ (List.getElem_mem h)) hnb
  have HR := Lib.hid hr
  clear hx hr hb hnb
  obtain ⟨AT, hAT⟩ : ∃ z, atG ns n = z := ⟨_, rfl⟩
  obtain ⟨HS, hHS⟩ : ∃ z, hasG ns n = z := ⟨_, rfl⟩
  rw [hAT, hHS]
  have HAT := Lib.hid hAT
  have HHS := Lib.hid hHS
  clear hAT hHS
  go_enter Tryz.func44, Tryz.ntmps44
  go_wp2_with fail
  go_loopw [9, 10] (fun i j wr => ∃ lo hi : Nat, i = .int .i64 (lo : Int) ∧ j = .int .i64 (hi : Int) ∧ lo ≤ hi ∧ hi ≤ ns.length ∧ Hid (∀ t x, t < lo → ns[t]? = some x → lessG x n = true) ∧ Hid (∀ t x, hi ≤ t → ns[t]? = some x → lessG x n = false) ∧ Below w.heap.size w wr)
    (fun i j _ => (RowKit.intOf j - RowKit.intOf i).toNat)
  case atStart => exact ⟨0, ns.length, rfl, rfl, Nat.zero_le _, Nat.le_refl _, fun t x h => absurd h (Nat.not_lt_zero _), fun t x h1 h2 => (by rw [List.getElem?_eq_none h1] at h2; cases h2), Below.refl _ _⟩
  case round =>
    obtain ⟨lo, hi, rfl, rfl, hlh, hhn, H1, H2, hB⟩ := hrel
    by_cases hlt : lo < hi
    · have y0 : (lo : Int) < (hi : Int) := by omega
      obtain ⟨g, rfl, hg, hcell⟩ := HX.out (by omega)
      have hmid : (lo + hi) / 2 < ns.length := by omega
      obtain ⟨F, l, c', c0, c1⟩ := hcell ((lo + hi) / 2) hmid
      have x0 := (hB.cell (p := ⟨g, (lo + hi) / 2 * 2, none⟩) hg).trans c0
      have x1 := (hB.cell (p := ⟨g, (lo + hi) / 2 * 2 + 1, none⟩) hg).trans c1
      obtain ⟨z1, z2, _, _⟩ := HCMP.out _ hmid
      have HCM := Lib.hid (fun W => HC.out _ hmid F l c' W)
      clear c0 c1 hcell
      cases hl : lessG ns[(lo + hi) / 2] n with
      | true =>
        have y1 := z1 hl
        have H3 : Hid (∀ t x, t < (lo + hi) / 2 + 1 → ns[t]? = some x → lessG x n = true) := fun t x ht hx => HR.out.down hx (List.getElem?_eq_getElem hmid) (by omega) hl
        clear z1 z2 hl H1
        generalize compareBytes (u8 ns[(lo + hi) / 2]) (u8 n) = z at *
        go_wp2_with fail
        go_fit (HCM.out _)
        rintro e w5 ⟨rfl, hb5⟩
        have hB5 := hB.trans (hb5.mono hB.size)
        clear hB hb5 x0 x1 HCM
        go_wp2_with fail
        go_roundw
        case rel => exact ⟨(lo + hi) / 2 + 1, hi, by go_num, rfl, by omega, hhn, H3, H2, hB5⟩
        case measure => simp [RowKit.intOf]; omega
      | false =>
        have y1 := z2 hl
        have H3 : Hid (∀ t x, (lo + hi) / 2 ≤ t → ns[t]? = some x → lessG x n = false) := fun t x ht hx => by
          cases h : lessG x n with
          | false => rfl
          | true =>
            have := HR.out.down (List.getElem?_eq_getElem hmid) hx ht h
            rw [hl] at this
            cases this
        clear z1 z2 hl H2
        generalize compareBytes (u8 ns[(lo + hi) / 2]) (u8 n) = z at *
        go_wp2_with fail
        go_fit (HCM.out _)
        rintro e w5 ⟨rfl, hb5⟩
        have hB5 := hB.trans (hb5.mono hB.size)
        clear hB hb5 x0 x1 HCM
        go_wp2_with fail
        go_roundw
        case rel => exact ⟨lo, (lo + hi) / 2, rfl, by go_num, by omega, by omega, H1, H3, hB5⟩
        case measure => simp [RowKit.intOf]; omega
    · obtain rfl : hi = lo := by omega
      have y0 : ¬ (hi : Int) < (hi : Int) := by omega
      have hat : atG ns n = hi := atG_of hhn (fun k hk => ⟨ns[k]'(by omega), List.getElem?_eq_getElem _, H1.out k _ hk (List.getElem?_eq_getElem (by omega))⟩) (fun x hx => H2.out hi x (Nat.le_refl _) hx)
      obtain rfl : hi = AT := hat.symm.trans HAT.out
      by_cases hln : hi < ns.length
      · have y1 : (hi : Int) < (ns.length : Int) := by omega
        obtain ⟨g, rfl, hg, hcell⟩ := HX.out (by omega)
        obtain ⟨F, l, c', c0, c1⟩ := hcell hi hln
        have x0 := (hB.cell (p := ⟨g, hi * 2, none⟩) hg).trans c0
        have x1 := (hB.cell (p := ⟨g, hi * 2 + 1, none⟩) hg).trans c1
        obtain ⟨_, _, z3, z4⟩ := HCMP.out _ hln
        have HCM := Lib.hid (fun W => HC.out _ hln F l c' W)
        have hhas : HS = decide (ns[hi] = n) := by
          rw [← HHS.out]
          unfold hasG
          rw [hat, List.getElem?_eq_getElem hln]
          simp
        subst hhas
        clear c0 c1 hcell hat H1 H2 HHS HAT
        by_cases he : ns[hi] = n
        · have y2 := z3 he
          have y3 : (compareBytes (u8 ns[hi]) (u8 n) == 0) = true := beq_iff_eq.2 y2
          have HE := Lib.hid (decide_eq_true he)
          clear z3 z4 he
          generalize compareBytes (u8 ns[hi]) (u8 n) = z at *
          go_wp2_with fail
          go_fit (HCM.out _)
          rintro e w5 ⟨rfl, hb5⟩
          have hB5 := hB.trans (hb5.mono hB.size)
          clear hB hb5 x0 x1 HCM
          go_wp2_with fail
          go_ret2
          exact ⟨by rw [HE.out]; rfl, hB5⟩
        · have y2 := z4 he
          have y3 : (compareBytes (u8 ns[hi]) (u8 n) == 0) = false := beq_eq_false_iff_ne.2 y2
          have HE := Lib.hid (decide_eq_false he)
          clear z3 z4 he
          generalize compareBytes (u8 ns[hi]) (u8 n) = z at *
          go_wp2_with fail
          go_fit (HCM.out _)
          rintro e w5 ⟨rfl, hb5⟩
          have hB5 := hB.trans (hb5.mono hB.size)
          clear hB hb5 x0 x1 HCM
          go_wp2_with fail
          go_ret2
          exact ⟨by rw [HE.out]; rfl, hB5⟩
      · have y1 : ¬ (hi : Int) < (ns.length : Int) := by omega
        have hhas : HS = false := by
          rw [← HHS.out]
          unfold hasG
          rw [hat, List.getElem?_eq_none (by omega)]
          rfl
        subst hhas
        clear HHS HAT hat H1 H2 HX HC HCMP
        go_wp2_with fail
        go_ret2
        exact ⟨rfl, hB⟩
end Go.Proofs.YtchokmhfgikglaaGreatDoor
