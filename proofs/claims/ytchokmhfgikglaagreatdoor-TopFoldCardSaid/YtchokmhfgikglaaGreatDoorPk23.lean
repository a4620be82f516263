/- Several texts in one: SessS, SessL, Ref22B, ToolA, StatB, StatC. Condition: each says its own. -/
import Derived.Deep.QuietTactic
import Derived.BigQuiet
import Derived.Deep.DeepFit
import Derived.Test.YtchokmhfgikglaaGreatDoorPk12
import Derived.Test.YtchokmhfgikglaaGreatDoorPk14
import Derived.Test.YtchokmhfgikglaaGreatDoorPk18
import Derived.Test.YtchokmhfgikglaaGreatDoorPk21
import Derived.Test.YtchokmhfgikglaaGreatDoorPk22
set_option linter.unusedVariables false
set_option linter.unusedSimpArgs false
namespace Go.Proofs.YtchokmhfgikglaaGreatDoor
set_option maxRecDepth 100000
open Go.RowKit Go.Shelf Go.Lib

theorem setE_yes {ns : List (List Nat)} {n : List Nat} (h : hasG ns n = true) : setE ns n = 0 := by unfold setE; rw [if_neg (by rw [h]; simp)]
theorem setE_new {ns : List (List Nat)} {n : List Nat} (h : ¬ 16 ≤ ns.length) : setE ns n = 0 := by unfold setE; rw [if_neg (fun hc => h hc.2)]
theorem setE_full {ns : List (List Nat)} {n : List Nat} (h : hasG ns n = false) (h2 : 16 ≤ ns.length) : setE ns n = 7 := by unfold setE; rw [if_pos ⟨h, h2⟩]

set_option maxHeartbeats 12800000 in
theorem sessSet_any (p : Nat) (D : Nat → Prop) (ns : List (List Nat)) (rs : List (List Rat)) (n : List Nat) (vl : Value) (xs : List Rat) (L : Nat) (w : World) (h : SessPr w p D ns rs) (hp : PureS ns rs) (hnb : Byt n) (hn12 : n.length ≤ 12) (hng : nameG n = true)
    (hl : RowIn w L w.heap.size vl xs) (hDL : ∀ k, D k → k < L) (hx : xs.length ≤ 256) (hz : ∀ q ∈ xs, Sz q 70) :
    Calls Tryz.prog 19 #[.pointer (some ⟨p, 0, none⟩), .string (strN n), vl] w
      (SetPost p D (setE ns n) (if setE ns n = 0 then putN ns n else ns) (if setE ns n = 0 then putR ns n rs xs else rs) w) := by
  have HNM : Hid (∀ W, Calls Tryz.prog 18 #[.string (strN n)] W fun e w' => e = .returned (.bool true) ∧ Below W.heap.size W w') := fun W => by
    have := sessName_any n hnb (by omega) W
    rw [hng] at this
    exact this
  have hat := hp.2.1
  have hlen := hp.1
  have hDlt := h.lt
  obtain ⟨A0, c0, rfl, hc1, hc2, hc3, hc4⟩ := (show RowIn w L w.heap.size vl xs from hl)
  clear hc1 hc2 hc3 hc4
  have y0 : ¬ (256 : Int) < (xs.length : Int) := by omega
  have HCP : Hid (∀ W W', Turned D w W → Below W.heap.size W W' → Calls Tryz.prog 24 #[.slice A0 xs.length c0] W' fun e w' => (∃ v', e = .returned v' ∧ RowIn w' W'.heap.size w'.heap.size v' xs) ∧ Below W'.heap.size W' w') := fun W W' hT hB => by
    refine copied_any _ xs W' ?_ hz (by omega)
    refine hl.stay (Nat.zero_le _) (Nat.le_trans hT.size hB.size) fun q h1 h2 => ?_
    rw [hB.cell (Nat.lt_of_lt_of_le h2 hT.size)]
    exact World.cell?_of_block (hT.block _ h2 (fun hd => by have := hDL _ hd; omega))
  have hle := atG_le ns n
  cases hh : hasG ns n with
  | true =>
    have hil0 := hasG_lt hh
    have HPOST : Hid (∀ e w', SetPost p D 0 ns (rs.set (atG ns n) xs) w e w' → SetPost p D (setE ns n) (if setE ns n = 0 then putN ns n else ns) (if setE ns n = 0 then putR ns n rs xs else rs) w e w') := fun e w' h => by
      rw [setE_yes hh, if_pos rfl, if_pos rfl, show putN ns n = ns by unfold putN; rw [if_pos hh], show putR ns n rs xs = rs.set (atG ns n) xs by unfold putR; rw [if_pos hh]]
      exact h
    generalize hQ : (SetPost p D (setE ns n) (if setE ns n = 0 then putN ns n else ns) (if setE ns n = 0 then putR ns n rs xs else rs) w) = Q at *
    clear hQ

    obtain ⟨v, cs, hm⟩ := h.mid (atG ns n)
    have HAT : Hid (∀ W, Below w.heap.size w W → Calls Tryz.prog 23 #[.pointer (some ⟨p, 0, none⟩), .string (strN n)] W fun e w' => e = .returned (.tuple #[.int .i64 (atG ns n : Int), .bool (hasG ns n)]) ∧ Below W.heap.size W w') := fun W hW =>
      (hm.grow hW (fun _ h => h) (fun k hk => Nat.lt_of_lt_of_le (hDlt k hk) hW.size)).at n hlen hat hnb

    rw [hh] at HAT
    generalize atG ns n = i at *
    generalize strN n = t at *

    go_enter Tryz.func19, Tryz.ntmps19
    go_wp2_with fail
    go_fit (HNM.out _)
    rintro e w1 ⟨rfl, hb1⟩
    go_wp2_with fail
    go_fit (HAT.out _ hb1)
    rintro e w2 ⟨rfl, hb2⟩
    have hB2 := hb1.trans (hb2.mono hb1.size)
    clear hb1 hb2 HAT HNM

    have hmid := (hm.grow hB2 (fun _ h => h) (fun k hk => Nat.lt_of_lt_of_le (hDlt k hk) hB2.size)).at_set xs
    have hT : Turned D w w2 := Turned.of_below hB2
    have hD1 : ∀ k, D k → D k ∨ w.heap.size ≤ k := fun k hk => Or.inl hk
    have hil : i < (rs.set i xs).length := by have := hmid.2.2.2.2.1; rw [this]; exact hil0
    have hrx : (rs.set i xs)[i] = xs := by rw [List.getElem_set_self]
    obtain ⟨-, hown, -⟩ := (show MidP 53 47 w2 p D ns (rs.set i xs) i v cs from hmid)
    obtain ⟨hol, ⟨rfl, h0⟩ | ⟨g, cap, cur, rfl, hgb, hcur, hnc, hcm, hcs, htk⟩⟩ := hown
    · omega
    have hvg : (Value.slice (some ⟨g, 0, none⟩) ns.length cap).ownBlock = some g := rfl
    unfold maxLen at hcm
    have HT := Lib.hid hT
    have HMID := Lib.hid hmid
    have HCUR := Lib.hid hcur
    clear hm hB2 hgb htk hol h hl hp hDL hDlt hT hmid hcur
    go_wp2_with fail
    have hT := HT.out
    have hmid := HMID.out
    have hcur := HCUR.out
    clear HT HMID HCUR
    generalize w2 = W at *
    generalize hN : ns.length = N at *

    have HLAST : Hid (∀ w6 A c, Below W.heap.size W w6 → RowIn w6 W.heap.size w6.heap.size (.slice A xs.length c) xs → SetPost p D 0 ns (rs.set i xs) w (.returned (.int .i64 0)) (w6.setCell ⟨g, i * 2 + 1, none⟩ (.slice A xs.length c))) := fun w6 A c h1 h2 =>
      MidP.last hmid hil hrx hvg h1 h2 hT hD1
    obtain ⟨q1, q2, q3, q4, q5, q6, q7, q8⟩ := hmid
    have hbl : Blk W g 53 cur := hcur
    have hplt := q1.lt
    have HP : Hid (∀ W', Below W.heap.size W W' → W'.cell? ⟨p, 0, none⟩ = some (.slice (some ⟨g, 0, none⟩) N cap)) := fun W' hW => (hW.cell (p := ⟨p, 0, none⟩) hplt).trans (q1.cell 0)
    have HG : Hid (∀ W', Below W.heap.size W W' → Blk W' g 53 cur) := fun W' hW => hbl.below hW hbl.lt
    have HCW : Hid (∀ W', Below W.heap.size W W' → Calls Tryz.prog 24 #[.slice A0 xs.length c0] W' fun e w' => (∃ v', e = .returned v' ∧ RowIn w' W'.heap.size w'.heap.size v' xs) ∧ Below W'.heap.size W' w') := fun W' hW => HCP.out W W' hT hW
    have y4 : (i : Int) < (N : Int) := by omega
    have hks : i * 2 + 1 < cur.size := by omega
    obtain ⟨old, hold⟩ : ∃ old, cur[i * 2 + 1]? = some old := ⟨_, Array.getElem?_eq_getElem hks⟩
    have HOLD := Lib.hid hold
    have x0 := HP.out W (Below.refl _ _)
    clear q1 q2 q3 q4 q5 q6 q7 q8 hbl hcur hold HCP hT hD1 hrx hvg
    go_region_with
      (first
        | (go_at_call 24
           (first | go_fit (HCW.out W (Below.refl _ _)) | go_fit (HCW.out W.drew (Below.refl _ _).drew))
           rintro e w6 ⟨⟨v6, rfl, hrow⟩, hb6⟩
           have HB6 : Hid (Below W.heap.size W w6) := Below.trans ((Below.refl W.heap.size W).drew) hb6
           obtain ⟨A6, c6, rfl, -, -, -, -⟩ := (show RowIn w6 W.heap.size w6.heap.size v6 xs from hrow)
           have HROW := Lib.hid (show RowIn w6 W.heap.size w6.heap.size (.slice A6 xs.length c6) xs from hrow)
           have z0 := HP.out w6 HB6.out
           have z1 := (HG.out w6 HB6.out).free (i * 2 + 1)
           have z2 := ((HG.out w6 HB6.out).cell (i * 2 + 1)).trans HOLD.out
           clear hrow hb6)
        | fail)
    all_goals
      have HFIN := Lib.hid (HLAST.out w6 A6 c6 HB6.out HROW.out)
      go_wp2_with fail
      exact HPOST.out _ _ HFIN.out
  | false =>
    by_cases h16 : 16 ≤ ns.length
    · have HPOST : Hid (∀ w', Below w.heap.size w w' → SetPost p D (setE ns n) (if setE ns n = 0 then putN ns n else ns) (if setE ns n = 0 then putR ns n rs xs else rs) w (.returned (.int .i64 7)) w') := fun w' hb => by
        rw [setE_full hh h16, if_neg (by decide), if_neg (by decide)]
        exact ⟨D, rfl, h.below hb, Turned.of_below hb, fun k hk => Or.inl hk⟩
      generalize hQ : (SetPost p D (setE ns n) (if setE ns n = 0 then putN ns n else ns) (if setE ns n = 0 then putR ns n rs xs else rs) w) = Q at *
      clear hQ

      obtain ⟨v, cs, hm⟩ := h.mid ns.length
      have HAT : Hid (∀ W, Below w.heap.size w W → Calls Tryz.prog 23 #[.pointer (some ⟨p, 0, none⟩), .string (strN n)] W fun e w' => e = .returned (.tuple #[.int .i64 (atG ns n : Int), .bool (hasG ns n)]) ∧ Below W.heap.size W w') := fun W hW =>
        (hm.grow hW (fun _ h => h) (fun k hk => Nat.lt_of_lt_of_le (hDlt k hk) hW.size)).at n hlen hat hnb

      rw [hh] at HAT
      have hb0 := hm.1
      obtain ⟨A1, c1, rfl, -⟩ := (show Ents w v ns from hm.ents)
      have HX0 : Hid (∀ W, Below w.heap.size w W → W.cell? ⟨p, 0, none⟩ = some (.slice A1 ns.length c1)) := fun W hW => (hW.cell (p := ⟨p, 0, none⟩) hb0.lt).trans (hb0.cell 0)
      have y4 : (16 : Int) ≤ (ns.length : Int) := by omega
      generalize atG ns n = i at *
      generalize strN n = t at *
      clear hm hb0

      go_enter Tryz.func19, Tryz.ntmps19
      go_wp2_with fail
      go_fit (HNM.out _)
      rintro e w1 ⟨rfl, hb1⟩
      go_wp2_with fail
      go_fit (HAT.out _ hb1)
      rintro e w2 ⟨rfl, hb2⟩
      have hB2 := hb1.trans (hb2.mono hb1.size)
      clear hb1 hb2 HAT HNM

      have x0 := HX0.out _ hB2
      go_wp2_with fail
      exact HPOST.out _ hB2
    · have HPOST : Hid (∀ e w', SetPost p D 0 (ns.take (atG ns n) ++ n :: ns.drop (atG ns n)) (rs.take (atG ns n) ++ xs :: rs.drop (atG ns n)) w e w' → SetPost p D (setE ns n) (if setE ns n = 0 then putN ns n else ns) (if setE ns n = 0 then putR ns n rs xs else rs) w e w') := fun e w' h => by
        rw [setE_new h16, if_pos rfl, if_pos rfl, show putN ns n = ns.take (atG ns n) ++ n :: ns.drop (atG ns n) by unfold putN; rw [if_neg (by rw [hh]; simp)], show putR ns n rs xs = rs.take (atG ns n) ++ xs :: rs.drop (atG ns n) by unfold putR; rw [if_neg (by rw [hh]; simp)]]
        exact h
      generalize hQ : (SetPost p D (setE ns n) (if setE ns n = 0 then putN ns n else ns) (if setE ns n = 0 then putR ns n rs xs else rs) w) = Q at *
      clear hQ

      obtain ⟨v, cs, hm⟩ := h.mid ns.length
      have HAT : Hid (∀ W, Below w.heap.size w W → Calls Tryz.prog 23 #[.pointer (some ⟨p, 0, none⟩), .string (strN n)] W fun e w' => e = .returned (.tuple #[.int .i64 (atG ns n : Int), .bool (hasG ns n)]) ∧ Below W.heap.size W w') := fun W hW =>
        (hm.grow hW (fun _ h => h) (fun k hk => Nat.lt_of_lt_of_le (hDlt k hk) hW.size)).at n hlen hat hnb

      rw [hh] at HAT
      generalize atG ns n = i at *
      have hb0 := hm.1
      obtain ⟨A1, c1, rfl, -⟩ := (show Ents w v ns from hm.ents)
      have HX0 : Hid (∀ W, Below w.heap.size w W → W.cell? ⟨p, 0, none⟩ = some (.slice A1 ns.length c1)) := fun W hW => (hW.cell (p := ⟨p, 0, none⟩) hb0.lt).trans (hb0.cell 0)
      have y4 : ¬ (16 : Int) ≤ (ns.length : Int) := by omega
      have y5 : (ns.length : Int) < 16 := by omega
      have HINS : Hid (∀ w2 e w4, Below w.heap.size w w2 → InsPost 0 (.slice A1 ns.length c1) ns.length i cs (.string (strN n)) (.slice none 0 0) (w2.alloc (.cells #[.string (strN n), .slice none 0 0] 53)) e w4 →
          ∃ v4, e = .returned v4 ∧ Blk w4 p 47 #[.slice A1 ns.length c1, .int .i64 6] ∧ Turned D w (w4.setCell ⟨p, 0, none⟩ v4) ∧
            MidP 53 47 (w4.setCell ⟨p, 0, none⟩ v4) p (fun k => D k ∨ (w.heap.size ≤ k ∧ k < w4.heap.size)) (ns.take i ++ n :: ns.drop i) (rs.take i ++ xs :: rs.drop i) i v4 (cs.take (i * 2) ++ [.string (strN n), .slice none 0 0] ++ cs.drop (i * 2))) := fun w2 e w4 hB2 hI => by
        obtain ⟨v4, rfl, hown4, hgr4, hfar4⟩ := hI
        have hB3 : Below w.heap.size w (w2.alloc (.cells #[.string (strN n), .slice none 0 0] 53)) := hB2.alloc hB2.size _
        have hm3 := hm.grow hB3 (D' := D) (fun _ h => h) (fun k hk => Nat.lt_of_lt_of_le (hDlt k hk) hB3.size)
        have hvp : (Value.slice A1 ns.length c1).ownBlock ≠ some p := fun e => (hm3.2.2.2.1 p e).2 rfl
        have hs4 : w.heap.size ≤ w4.heap.size := Nat.le_trans hB3.size hgr4.size
        refine ⟨v4, rfl, (hgr4.block p hm3.1.lt (fun e => hvp e.symm)).trans hm3.1, ?_, ?_⟩
        · exact ((Turned.of_below hB3).grown hgr4 (fun k hk => Or.inl (hm3.2.2.2.1 k hk).1) (own_cells hm3.2.1)).set_new (Or.inl hm3.2.2.1) _
        · refine hm3.insert hle ⟨hnb, hn12⟩ hown4 hgr4 hfar4 (fun k hk => Or.inl hk) (fun k h1 h2 => Or.inr ⟨Nat.le_trans hB3.size h1, h2⟩) (fun k hk => ?_)
          rcases hk with hk | hk
          · exact Nat.lt_of_lt_of_le (hDlt k hk) hs4
          · exact hk.2
      have HIC : Hid (∀ w2, Below w.heap.size w w2 → Calls Tryz.prog 38 #[.slice A1 ns.length c1, .int .i64 (i : Int), .slice (some ⟨w2.heap.size, 0, none⟩) 1 1] (w2.alloc (.cells #[.string (strN n), .slice none 0 0] 53)) (InsPost 0 (.slice A1 ns.length c1) ns.length i cs (.string (strN n)) (.slice none 0 0) (w2.alloc (.cells #[.string (strN n), .slice none 0 0] 53)))) := fun w2 hB2 => by
        have hB3 : Below w.heap.size w (w2.alloc (.cells #[.string (strN n), .slice none 0 0] 53)) := hB2.alloc hB2.size _
        have hm2 := hm.grow hB2 (D' := D) (fun _ h => h) (fun k hk => Nat.lt_of_lt_of_le (hDlt k hk) hB2.size)
        have hm3 := hm.grow hB3 (D' := D) (fun _ h => h) (fun k hk => Nat.lt_of_lt_of_le (hDlt k hk) hB3.size)
        refine insert_any 0 (.slice A1 ns.length c1) ns.length i cs _ _ w2.heap.size _ hm3.2.1 (Nat.zero_le _) hle (by omega) (Blk.new w2 _ _) (fun e => ?_) rfl rfl hm.one
        have := (own_lt hm2.2.1 _ e).2
        omega
      clear hm hb0 hDlt h hl hp hDL

      go_enter Tryz.func19, Tryz.ntmps19
      go_wp2_with fail
      go_fit (HNM.out _)
      rintro e w1 ⟨rfl, hb1⟩
      go_wp2_with fail
      go_fit (HAT.out _ hb1)
      rintro e w2 ⟨rfl, hb2⟩
      have hB2 := hb1.trans (hb2.mono hb1.size)
      clear hb1 hb2 HAT HNM

      have x0 := HX0.out _ hB2
      go_wp2_with fail
      go_fit (HIC.out _ hB2)
      rintro e w4 hI
      obtain ⟨v4, rfl, hb4, hT, hmid⟩ := HINS.out _ _ _ hB2 hI
      have z0 := hb4.free 0
      have z1 := hb4.cell 0
      have hil : i < (rs.take i ++ xs :: rs.drop i).length := by
        have h5 := hmid.2.2.2.2.1
        rw [h5]
        simp only [List.length_append, List.length_take, List.length_cons, List.length_drop]; omega
      have hrl : rs.length = ns.length := by
        have h5 := hmid.2.2.2.2.1
        simp only [List.length_append, List.length_take, List.length_cons, List.length_drop] at h5; omega
      have hrx : (rs.take i ++ xs :: rs.drop i)[i] = xs := by
        rw [List.getElem_append_right (by rw [List.length_take]; omega)]
        simp [Nat.min_eq_left (show i ≤ rs.length by omega)]
      have hD1 : ∀ k, (D k ∨ (w.heap.size ≤ k ∧ k < w4.heap.size)) → D k ∨ w.heap.size ≤ k := fun k hk => hk.imp id And.left
      have hown := hmid.2.1
      obtain ⟨hol, ⟨rfl, h0⟩ | ⟨g, cap, cur, rfl, hgb, hcur, hnc, hcm, hcs, htk⟩⟩ := hown
      · simp at h0
      have hvg : (Value.slice (some ⟨g, 0, none⟩) (ns.take i ++ n :: ns.drop i).length cap).ownBlock = some g := rfl
      have hNl : (ns.take i ++ n :: ns.drop i).length = ns.length + 1 := by
        simp only [List.length_append, List.length_take, List.length_cons, List.length_drop]; omega
      unfold maxLen at hcm
      rw [hNl] at hT hmid hnc hvg hcur ⊢
      have HT := Lib.hid hT
      have HMID := Lib.hid hmid
      have HCUR := Lib.hid hcur
      clear hNl hI hb4 HINS HIC HX0 hB2 hgb htk hol hT hmid hcur x0
      go_wp2_with fail
      have hT := HT.out
      have hmid := HMID.out
      have hcur := HCUR.out
      clear HT HMID HCUR z0 z1
      generalize w4.setCell ⟨p, 0, none⟩ (.slice (some ⟨g, 0, none⟩) (ns.length + 1) cap) = W at *
      generalize hN : ns.length + 1 = N at *

      have HLAST : Hid (∀ w6 A c, Below W.heap.size W w6 → RowIn w6 W.heap.size w6.heap.size (.slice A xs.length c) xs → SetPost p D 0 (ns.take i ++ n :: ns.drop i) (rs.take i ++ xs :: rs.drop i) w (.returned (.int .i64 0)) (w6.setCell ⟨g, i * 2 + 1, none⟩ (.slice A xs.length c))) := fun w6 A c h1 h2 =>
        MidP.last hmid hil hrx hvg h1 h2 hT hD1
      obtain ⟨q1, q2, q3, q4, q5, q6, q7, q8⟩ := hmid
      have hbl : Blk W g 53 cur := hcur
      have hplt := q1.lt
      have HP : Hid (∀ W', Below W.heap.size W W' → W'.cell? ⟨p, 0, none⟩ = some (.slice (some ⟨g, 0, none⟩) N cap)) := fun W' hW => (hW.cell (p := ⟨p, 0, none⟩) hplt).trans (q1.cell 0)
      have HG : Hid (∀ W', Below W.heap.size W W' → Blk W' g 53 cur) := fun W' hW => hbl.below hW hbl.lt
      have HCW : Hid (∀ W', Below W.heap.size W W' → Calls Tryz.prog 24 #[.slice A0 xs.length c0] W' fun e w' => (∃ v', e = .returned v' ∧ RowIn w' W'.heap.size w'.heap.size v' xs) ∧ Below W'.heap.size W' w') := fun W' hW => HCP.out W W' hT hW
      have y4 : (i : Int) < (N : Int) := by omega
      have hks : i * 2 + 1 < cur.size := by omega
      obtain ⟨old, hold⟩ : ∃ old, cur[i * 2 + 1]? = some old := ⟨_, Array.getElem?_eq_getElem hks⟩
      have HOLD := Lib.hid hold
      have x0 := HP.out W (Below.refl _ _)
      clear q1 q2 q3 q4 q5 q6 q7 q8 hbl hcur hold HCP hT hD1 hrx hvg
      go_region_with
        (first
          | (go_at_call 24
             (first | go_fit (HCW.out W (Below.refl _ _)) | go_fit (HCW.out W.drew (Below.refl _ _).drew))
             rintro e w6 ⟨⟨v6, rfl, hrow⟩, hb6⟩
             have HB6 : Hid (Below W.heap.size W w6) := Below.trans ((Below.refl W.heap.size W).drew) hb6
             obtain ⟨A6, c6, rfl, -, -, -, -⟩ := (show RowIn w6 W.heap.size w6.heap.size v6 xs from hrow)
             have HROW := Lib.hid (show RowIn w6 W.heap.size w6.heap.size (.slice A6 xs.length c6) xs from hrow)
             have z0 := HP.out w6 HB6.out
             have z1 := (HG.out w6 HB6.out).free (i * 2 + 1)
             have z2 := ((HG.out w6 HB6.out).cell (i * 2 + 1)).trans HOLD.out
             clear hrow hb6)
          | fail)
      all_goals
        have HFIN := Lib.hid (HLAST.out w6 A6 c6 HB6.out HROW.out)
        go_wp2_with fail
        exact HPOST.out _ _ HFIN.out
end Go.Proofs.YtchokmhfgikglaaGreatDoor

namespace Go.Proofs.YtchokmhfgikglaaGreatDoor
set_option maxRecDepth 100000
open Go.RowKit Go.Shelf Go.Lib

theorem rowV_sz (ws : List (List Nat)) : ∀ q ∈ (rowV ws).2, Sz q 70 := by
  induction ws with
  | nil => intro q hq; simp [rowV] at hq
  | cons w r ih =>
    intro q hq
    by_cases h : (numV w).2 = 0
    · rw [rowV_good h] at hq
      rcases List.mem_cons.1 hq with rfl | hq
      · exact numV_sz h
      · exact ih q hq
    · rw [rowV_bad h] at hq
      cases hq
theorem nameG_len {n : List Nat} (h : nameG n = true) : n.length ≤ 12 := by
  cases n with
  | nil => exact Nat.zero_le _
  | cons c r =>
    rw [nameG_cons] at h
    simp only [Bool.and_eq_true, decide_eq_true_eq] at h
    exact h.1.1

theorem SetPost.from {p c : Nat} {D : Nat → Prop} {ns : List (List Nat)} {rs : List (List Rat)} {w w2 w' : World} {e : Ending} (h : SetPost p D c ns rs w2 e w') (hb : Below w.heap.size w w2) : SetPost p D c ns rs w e w' := by
  obtain ⟨D', h1, h2, h3, h4⟩ := h
  exact ⟨D', h1, h2, (Turned.of_below hb).trans h3, fun k hk => (h4 k hk).imp id fun h => Nat.le_trans hb.size h⟩
theorem SetPost.none {p c : Nat} {D : Nat → Prop} {ns : List (List Nat)} {rs : List (List Rat)} {w w' : World} (h : SessPr w p D ns rs) (hb : Below w.heap.size w w') : SetPost p D c ns rs w (.returned (.int .i64 (c : Int))) w' :=
  ⟨D, rfl, h.below hb, Turned.of_below hb, fun k hk => Or.inl hk⟩

theorem letE_set {ns : List (List Nat)} {n t : List Nat} (h1 : nameG n = true) (h2 : (textV t).1 = 0) : letE ns n t = setE ns n := by
  unfold letE setE
  rw [if_neg (by rw [h1]; simp), if_neg (by rw [h2]; simp)]

theorem putR_mem {ns : List (List Nat)} {n : List Nat} {rs : List (List Rat)} {x r : List Rat} (h : r ∈ putR ns n rs x) : r = x ∨ r ∈ rs := by
  unfold putR at h
  split at h
  · rcases List.mem_or_eq_of_mem_set h with h | h
    · exact Or.inr h
    · exact Or.inl h
  · rcases List.mem_append.1 h with h | h
    · exact Or.inr ((List.take_sublist _ _).subset h)
    · rcases List.mem_cons.1 h with h | h
      · exact Or.inl h
      · exact Or.inr ((List.drop_sublist _ _).subset h)
theorem PureS.after {ns : List (List Nat)} {rs : List (List Rat)} {n t : List Nat} (h : PureS ns rs) (ht : (textV t).2.length ≤ 256) : PureS (letN ns n t) (letR ns rs n t) := by
  refine ⟨letN_len h.1, letN_rises h.2.1, fun r hr => ?_⟩
  unfold letR at hr
  split at hr
  · rcases putR_mem hr with rfl | hr
    · exact ⟨ht, rowV_sz _⟩
    · exact h.2.2 r hr
  · exact h.2.2 r hr

set_option maxHeartbeats 6400000 in
theorem sessLet_any (p : Nat) (D : Nat → Prop) (ns : List (List Nat)) (rs : List (List Rat)) (n t : List Nat) (w : World) (h : SessPr w p D ns rs) (hp : PureS ns rs) (hm : MaxAt w)
    (hnb : Byt n) (hn9 : n.length ≤ 1000000) (htb : Byt t) (ht9 : t.length ≤ 1000000) (ht : (textV t).2.length ≤ 256) :
    Calls Tryz.prog 8 #[.pointer (some ⟨p, 0, none⟩), .string (strN n), .string (strN t)] w (SetPost p D (letE ns n t) (letN ns n t) (letR ns rs n t) w) := by
  have HNM : Hid (∀ W, Calls Tryz.prog 18 #[.string (strN n)] W fun e w' => e = .returned (.bool (nameG n)) ∧ Below W.heap.size W w') := fun W => sessName_any n hnb hn9 W
  have HPS : Hid (∀ W, Below w.heap.size w W → Calls Tryz.prog 17 #[.string (strN t)] W (GivesRow (textV t).1 (textV t).2 W)) := fun W hW => dataParse_any t htb ht9 ht W (hm.below hW)
  cases hN : nameG n with
  | false =>
    have HP : Hid (∀ w', Below w.heap.size w w' → SetPost p D (letE ns n t) (letN ns n t) (letR ns rs n t) w (.returned (.int .i64 6)) w') := fun w' hb => by
      have e : letE ns n t = 6 := by unfold letE; rw [if_pos hN]
      unfold letN letR
      rw [e, if_neg (by decide), if_neg (by decide)]
      exact SetPost.none (c := 6) h hb
    rw [hN] at HNM
    generalize (SetPost p D (letE ns n t) (letN ns n t) (letR ns rs n t) w) = Q at *
    clear HPS hN
    generalize strN n = tn at *
    generalize strN t = tt at *
    go_enter Tryz.func8, Tryz.ntmps8
    go_wp2_with fail
    go_fit (HNM.out _)
    rintro e w1 ⟨rfl, hb1⟩
    go_wp2_with fail
    exact HP.out _ hb1
  | true =>
    rw [hN] at HNM
    have HP1 : Hid ((textV t).1 ≠ 0 → ∀ w', Below w.heap.size w w' → SetPost p D (letE ns n t) (letN ns n t) (letR ns rs n t) w (.returned (.int .i64 ((textV t).1 : Int))) w') := fun hne w' hb => by
      have e : letE ns n t = (textV t).1 := by unfold letE; rw [if_neg (by rw [hN]; simp), if_pos hne]
      unfold letN letR
      rw [e, if_neg hne, if_neg hne]
      exact SetPost.none h hb
    have HP2 : Hid ((textV t).1 = 0 → ∀ W v, Below w.heap.size w W → RowIn W w.heap.size W.heap.size v (textV t).2 → Calls Tryz.prog 19 #[.pointer (some ⟨p, 0, none⟩), .string (strN n), v] W fun e w' => (∃ z : Int, e = .returned (.int .i64 z)) ∧ SetPost p D (letE ns n t) (letN ns n t) (letR ns rs n t) w e w') := fun h0 W v hW hrow => by
      have := sessSet_any p D ns rs n v (textV t).2 w.heap.size W (h.below hW) hp hnb (nameG_len hN) hN hrow h.lt ht (rowV_sz _)
      rw [← letE_set hN h0] at this
      refine this.mono fun e w' hh => ⟨?_, hh.from hW⟩
      obtain ⟨D', h1, -⟩ := hh
      exact ⟨_, h1⟩
    generalize (SetPost p D (letE ns n t) (letN ns n t) (letR ns rs n t) w) = Q at *
    clear hN h hp hm hnb hn9 htb ht9 ht
    generalize (textV t).1 = c at *
    generalize (textV t).2 = qs at *
    generalize strN n = tn at *
    generalize strN t = tt at *
    go_enter Tryz.func8, Tryz.ntmps8
    go_wp2_with fail
    go_fit (HNM.out _)
    rintro e w1 ⟨rfl, hb1⟩
    go_wp2_with fail
    go_fit (HPS.out _ hb1)
    rintro e w2 hr
    rcases hr with ⟨hc, v, rfl, hrow, hb2⟩ | ⟨hc, rfl, hb2⟩
    · have hB2 := hb1.trans (hb2.mono hb1.size)
      have HS := Lib.hid (HP2.out hc _ v hB2 (hrow.low hb1.size))
      clear hrow hb1 hb2 hB2 hc HP1 HP2 HPS HNM
      go_wp2_with fail
      go_fit HS.out
      rintro e w3 ⟨⟨z, rfl⟩, hq⟩
      have HQ := Lib.hid hq
      clear hq HS
      go_wp2_with fail
      exact HQ.out
    · have hB2 := hb1.trans (hb2.mono hb1.size)
      have y1 : ((c : Int) == 0) = false := beq_eq_false_iff_ne.2 (by omega)
      have y2 : ¬ (c : Int) = 0 := by omega
      have HF := Lib.hid (HP1.out hc _ hB2)
      clear hb1 hb2 hB2 hc HP1 HP2 HPS HNM
      go_wp2_with fail
      exact HF.out
end Go.Proofs.YtchokmhfgikglaaGreatDoor

namespace Go.Proofs.YtchokmhfgikglaaGreatDoor
set_option maxRecDepth 100000
open Go.RowKit Go.Shelf Go.Lib

/-- A slice of texts, as it is read. -/
def Strs (w : World) (v : Value) (ns : List (List Nat)) : Prop :=
  ∃ A c, v = .slice A ns.length c ∧ ns.length ≤ c ∧ c ≤ maxLen ∧ (0 < ns.length → ∃ g, A = some ⟨g, 0, none⟩ ∧ g < w.heap.size ∧ ∀ j (h : j < ns.length), w.cell? ⟨g, j, none⟩ = some (.string (strN ns[j])))
theorem Strs.below {w w' : World} {v : Value} {ns : List (List Nat)} (h : Strs w v ns) (hb : Below w.heap.size w w') : Strs w' v ns := by
  obtain ⟨A, c, rfl, hc, hm, hx⟩ := h
  refine ⟨A, c, rfl, hc, hm, fun h0 => ?_⟩
  obtain ⟨g, hA, hg, hcell⟩ := hx h0
  exact ⟨g, hA, Nat.lt_of_lt_of_le hg hb.size, fun j hj => (hb.cell (p := ⟨g, j, none⟩) hg).trans (hcell j hj)⟩

theorem less_bytes {a b : List Nat} (ha : Byt a) (hb : Byt b) : Op.bytesLess (strN a).toList (strN b).toList = lessG a b := by
  rw [ByteArray.toList_eq, ByteArray.toList_eq, u8_data, u8_data]
  induction a generalizing b with
  | nil => cases b with
    | nil => rfl
    | cons y t => rfl
  | cons x r ih => cases b with
    | nil => rfl
    | cons y t =>
      have hx := ha x (by simp)
      have hy := hb y (by simp)
      show (decide (UInt8.ofNat x < UInt8.ofNat y) || (UInt8.ofNat x == UInt8.ofNat y && Op.bytesLess (u8 r) (u8 t))) = _
      rw [lessG, ih (fun z hz => ha z (by simp [hz])) (fun z hz => hb z (by simp [hz]))]
      have e : (UInt8.ofNat x == UInt8.ofNat y) = decide (x = y) := by
        rw [Bool.eq_iff_iff]
        simp only [beq_iff_eq, decide_eq_true_eq]
        constructor
        · intro h
          have := congrArg UInt8.toNat h
          rwa [UInt8.toNat_ofNat', UInt8.toNat_ofNat', Nat.mod_eq_of_lt hx, Nat.mod_eq_of_lt hy] at this
        · intro h; rw [h]
      rw [e]
      simp only [ofNat_lt hx hy]
      by_cases h1 : x < y
      · simp [h1]
      · by_cases h2 : y < x
        · simp [h1, h2]; omega
        · have : x = y := by omega
          simp [this]
theorem eq_bytes {a b : List Nat} (ha : Byt a) (hb : Byt b) : ((strN a).toList == (strN b).toList) = decide (a = b) := by
  rw [ByteArray.toList_eq, ByteArray.toList_eq, Bool.eq_iff_iff]
  simp only [beq_iff_eq, decide_eq_true_eq]
  constructor
  · intro h
    refine strN_inj ha hb ?_
    rw [← mk_data (strN a), h, mk_data]
  · intro h; rw [h]

set_option maxHeartbeats 3200000 in
theorem at22_any (q : Nat) (v v2 u : Value) (ns : List (List Nat)) (n : List Nat) (w : World) (hb : Blk w q 34 #[v, v2, u]) (h : Strs w v ns) (hn : ns.length ≤ 1000) (hr : Rises ns) (hbs : ∀ x ∈ ns, Byt x) (hnb : Byt n) :
    Calls Tryz.prog 42 #[.pointer (some ⟨q, 0, none⟩), .string (strN n)] w fun e w' => e = .returned (.tuple #[.int .i64 (atG ns n : Int), .bool (hasG ns n)]) ∧ Below w.heap.size w w' := by
  obtain ⟨A, c, rfl, hc, hm, hx⟩ := h
  unfold maxLen at hm
  have HX := Lib.hid hx
  have x0 := hb.cell 0
  have HLS : Hid (∀ k (h : k < ns.length), Op.bytesLess (strN ns[k]).toList (strN n).toList = lessG ns[k] n ∧ ((strN ns[k]).toList == (strN n).toList) = decide (ns[k] = n)) := fun k h => ⟨less_bytes (hbs _ (List.getElem_mem h)) hnb, eq_bytes (hbs _ (List.getElem_mem h)) hnb⟩
  clear hx hb hbs hnb hr
  obtain ⟨AT, hAT⟩ : ∃ z, atG ns n = z := ⟨_, rfl⟩
  obtain ⟨HS, hHS⟩ : ∃ z, hasG ns n = z := ⟨_, rfl⟩
  rw [hAT, hHS]
  have hatl : AT ≤ ns.length := by rw [← hAT]; exact atG_le ns n
  have HAT := Lib.hid hAT
  have HHS := Lib.hid hHS
  clear hAT hHS
  go_enter Tryz.func42, Tryz.ntmps42
  go_wp2_with fail
  go_loop [6] (fun i => ∃ k : Nat, k ≤ AT ∧ i = .int .i64 (k : Int)) (fun i => AT - (RowKit.intOf i).toNat)
  case atStart => exact ⟨0, Nat.zero_le _, rfl⟩
  case round =>
    obtain ⟨k, hk, rfl⟩ := hrel
    by_cases hkn : k < ns.length
    · have y0 : (k : Int) < (ns.length : Int) := by omega
      obtain ⟨g, rfl, hg, hcell⟩ := HX.out (by omega)
      have c0 := hcell k hkn
      obtain ⟨e1, e2⟩ := HLS.out k hkn
      by_cases hka : k < AT
      · have y1 : Op.bytesLess (strN ns[k]).toList (strN n).toList = true := by
          obtain ⟨x, hx, hl⟩ := atG_less (show k < atG ns n by rw [HAT.out]; exact hka)
          rw [List.getElem?_eq_getElem hkn] at hx
          rw [e1, Option.some.inj hx]
          exact hl
        clear hcell e1 e2
        generalize strN ns[k] = sk at *
        go_wp2_with fail
        go_round
        case rel => exact ⟨k + 1, by omega, by go_num⟩
        case measure => simp [RowKit.intOf]; omega
      · obtain rfl : k = AT := by omega
        have y1 : Op.bytesLess (strN ns[k]).toList (strN n).toList = false := by
          rw [e1]
          exact atG_stop (show ns[atG ns n]? = some ns[k] by rw [HAT.out]; exact List.getElem?_eq_getElem hkn)
        have y2 : ((strN ns[k]).toList == (strN n).toList) = HS := by
          rw [e2, ← HHS.out]
          unfold hasG
          rw [HAT.out, List.getElem?_eq_getElem hkn]
          simp
        clear hcell e1 e2
        generalize strN ns[k] = sk at *
        go_wp2_with fail
        go_quiet (fail)
        go_wp2_with fail
        go_ret2
        exact ⟨rfl, ⟨rfl, rfl, rfl, Nat.le_refl _, fun _ _ => rfl⟩⟩
    · obtain rfl : k = AT := by omega
      have y0 : ¬ (k : Int) < (ns.length : Int) := by omega
      have y2 : HS = false := by
        rw [← HHS.out]
        unfold hasG
        rw [HAT.out, List.getElem?_eq_none (by omega)]
        rfl
      subst y2
      go_wp2_with fail
      go_quiet (fail)
      go_wp2_with fail
      go_ret2
      exact ⟨rfl, ⟨rfl, rfl, rfl, Nat.le_refl _, fun _ _ => rfl⟩⟩
end Go.Proofs.YtchokmhfgikglaaGreatDoor

namespace Go.Proofs.YtchokmhfgikglaaGreatDoor
set_option maxRecDepth 100000
open Go.RowKit Go.Shelf Go.Lib

/-- A blank. -/
def isSp (x : Nat) : Bool := decide (x = 32)

theorem sp_any (x : Nat) (w : World) : Calls Tryz.prog 56 #[.int .i32 (x : Int)] w fun e w' => e = .returned (.bool (isSp x)) ∧ w = w' := by
  by_cases h : x = 32
  · have e : isSp x = true := decide_eq_true h
    subst h
    rw [e]
    go_enter Tryz.func56, Tryz.ntmps56
    go_wp2_with fail
    go_ret
    exact ⟨rfl, rfl⟩
  · have e : isSp x = false := decide_eq_false h
    have h2 : ¬ (x : Int) = 32 := by omega
    have h3 : ((x : Int) == 32) = false := beq_false_of_ne h2
    rw [e]
    go_enter Tryz.func56, Tryz.ntmps56
    go_wp2_with fail
    go_ret
    exact ⟨rfl, rfl⟩

/-- The words of a line. -/
theorem words_any (s : ByteArray) (w : World) (hs : s.size ≤ 1000000) :
    Calls Tryz.prog 29 #[.string s] w fun e w' => ∃ g, e = .returned (.slice (some ⟨g, 0, none⟩) (Lib.goFieldsP isSp s).length (Lib.goFieldsP isSp s).length) ∧ w.heap.size ≤ g ∧
      w'.ownsRow w.heap.size 9 1 (.slice (some ⟨g, 0, none⟩) (Lib.goFieldsP isSp s).length (Lib.goFieldsP isSp s).length) (Lib.goFieldsP isSp s).length ((Lib.goFieldsP isSp s).map Value.string) ∧ Below w.heap.size w w' := by
  have cF : Calls Tryz.prog 55 #[.string s, .func (.func 56) #[] #[]] w _ := Any.strings_FieldsFunc_runes Tryz.lays229 56 #[] (enters_of Tryz.func56 (by kernel_rfl) rfl) isSp s w (by omega)
    (fun W x _ hb => (sp_any x W).mono fun e w' ⟨h1, h2⟩ => ⟨h1, 0, h2 ▸ rfl⟩) (by kernel_rfl) (by kernel_rfl)
  generalize Lib.goFieldsP isSp s = FS at cF ⊢
  go_enter Tryz.func29, Tryz.ntmps29
  go_wp2_with (go_at_call 55; refine cF.mono ?_; rintro e w' ⟨A, rfl, hA, hown, hb⟩)
  go_ret
  exact ⟨A, rfl, hA, hown, hb⟩

theorem told_ok (s : ByteArray) (w : World) : Calls Tryz.prog 109 #[.string s, .int .i64 0] w fun e w' => e = .returned (.string s) ∧ w = w' := by
  go_enter Tryz.func109, Tryz.ntmps109
  go_wp2_with fail
  go_ret
  exact ⟨rfl, rfl⟩

theorem names_var (w : World) : Calls Tryz.prog 65 #[.string ⟨#[118, 97, 114]⟩] w fun e w' => e = .returned (.int .i64 1) ∧ w = w' := by
  go_enter Tryz.func65, Tryz.ntmps65
  go_wp2_with fail
  go_ret
  exact ⟨rfl, rfl⟩
end Go.Proofs.YtchokmhfgikglaaGreatDoor

namespace Go.Proofs.YtchokmhfgikglaaGreatDoor
set_option maxRecDepth 100000
open Go.RowKit Go.Shelf Go.Lib

/-- All together. -/
def sumQ (l : List Rat) : Rat := l.foldl (· + ·) ((0 : Nat) : Rat)
theorem sumQ_snoc (l : List Rat) (q : Rat) : sumQ (l ++ [q]) = sumQ l + q := by simp [sumQ]
theorem sz_sum {m : Nat} : ∀ (n : Nat) (l : List Rat), l.length = n → (∀ q ∈ l, Sz q m) → Sz (sumQ l) (1 + n * (m + 1))
  | 0, l, h, _ => by
    have := List.eq_nil_of_length_eq_zero h
    subst this
    rw [Nat.zero_mul]
    exact sz_nat (n := 0) (by omega)
  | n + 1, l, h, hz => by
    have hne : l ≠ [] := fun hc => by rw [hc] at h; simp at h
    have e := List.dropLast_concat_getLast hne
    rw [← e, sumQ_snoc]
    have h1 := sz_sum n l.dropLast (by simp [h]) (fun q hq => hz q ((List.dropLast_sublist l).subset hq))
    have h2 := hz _ (List.getLast_mem hne)
    refine (Sz.add h1 h2).mono ?_
    rw [Nat.succ_mul]
    omega

theorem below_one {w w' : World} {o : Obj} (hb : Below w.heap.size w w') : Below w.heap.size w (w'.alloc o) := hb.alloc hb.size _

set_option maxHeartbeats 6400000 in
theorem sum_q (v : Value) (xs : List Rat) (m : Nat) (w : World) (h : RowIn w 0 w.heap.size v xs) (hz : ∀ q ∈ xs, Sz q m) (hlen : 1 + xs.length * (m + 1) ≤ 390) (hm : m ≤ 390) (hl1 : xs.length ≤ 1000) :
    Calls Tryz.prog 197 #[v] w (GivesF (sumQ xs) w) := by
  obtain ⟨A, c, rfl, hc, hmx, hA0, hx⟩ := h
  have HX := Lib.hid hx
  have HZ : Hid (∀ k (h : k < xs.length), Sz xs[k] m) := fun k h => hz _ (List.getElem_mem h)
  have HI0 : Hid (∀ W, Calls Tryz.prog 71 #[.int .i64 0] W (GivesF (sumQ (xs.take 0)) W)) := fun W => prInt_any 0 W (by omega)
  have HST : Hid (∀ k (h : k < xs.length), sumQ (xs.take k) + xs[k] = sumQ (xs.take (k + 1))) := fun k h => by
    rw [List.take_succ_eq_append_getElem h, sumQ_snoc]
  have HSZ : Hid (∀ k, k ≤ xs.length → Sz (sumQ (xs.take k)) 390) := fun k hk => by
    refine (sz_sum (m := m) k (xs.take k) (by rw [List.length_take]; omega) (fun q hq => hz q (List.mem_of_mem_take hq))).mono ?_
    refine Nat.le_trans (Nat.add_le_add_left (Nat.mul_le_mul_right _ hk) 1) hlen
  have HEND : Hid (sumQ (xs.take xs.length) = sumQ xs) := by show _ = _; rw [List.take_length]
  rw [← HEND.out]
  obtain ⟨p, hp⟩ : ∃ p : Nat → Rat, ∀ k, p k = sumQ (xs.take k) := ⟨_, fun _ => rfl⟩
  rw [← hp] at HI0 ⊢
  simp only [← hp] at HST HSZ
  unfold maxLen at hmx
  clear hp hx hz hlen HEND
  have b0 := Blk.new w 60 #[.bool false, .slice none 0 0, .slice none 0 0]
  have hB : Below w.heap.size w (w.alloc (.cells #[.bool false, .slice none 0 0, .slice none 0 0] 60)) := (Below.refl _ _).alloc (Nat.le_refl _) _
  go_enter Tryz.func197, Tryz.ntmps197
  go_wp2_with fail
  generalize w.alloc (.cells #[.bool false, .slice none 0 0, .slice none 0 0] 60) = w2 at *
  go_fit (HI0.out _)
  rintro e w3 ⟨v3, rfl, ⟨an, ad, rfl, han, had⟩, hb3⟩
  replace hB := hB.trans (hb3.mono hB.size)
  have hlt2 := b0.lt
  replace b0 := b0.below hb3 b0.lt
  obtain ⟨A1, k1, rfl, m1⟩ := nt_len han
  obtain ⟨A2, k2, rfl, m2⟩ := nt_len had
  have hx := RB.new (t := 60) (han.low (show w.heap.size + 1 ≤ _ from hlt2)) (had.low (show w.heap.size + 1 ≤ _ from hlt2))
  have hlt3 := b0.lt
  have c0 := b0.alloc (.cells #[.bool (qS (p 0)), .slice A1 (lim (qN (p 0))).length k1, .slice A2 (lim (p 0).den).length k2] 60)
  have hB4 : Below w.heap.size w (w3.alloc (.cells #[.bool (qS (p 0)), .slice A1 (lim (qN (p 0))).length k1, .slice A2 (lim (p 0).den).length k2] 60)) := hB.alloc hB.size _
  clear han had hb3 m1 m2 HI0 b0 hB
  obtain ⟨g3, hg3⟩ : ∃ g, w3.heap.size = g := ⟨_, rfl⟩
  rw [hg3] at hx hlt3
  have HG3 := Lib.hid hg3
  go_wp2_with fail
  generalize w3.alloc (.cells #[.bool (qS (p 0)), .slice A1 (lim (qN (p 0))).length k1, .slice A2 (lim (p 0).den).length k2] 60) = w4 at *
  clear hg3 HG3
  go_loopw [9] (fun i wr => ∃ k : Nat, k ≤ xs.length ∧ i = .int .i64 (k : Int) ∧ RB wr (w.heap.size + 1) g3 60 (p k) ∧ Blk wr w.heap.size 60 #[.bool false, .slice none 0 0, .slice none 0 0] ∧ Below w.heap.size w wr) (fun i _ => xs.length - (RowKit.intOf i).toNat)
  case atStart => exact ⟨0, Nat.zero_le _, rfl, hx, c0, hB4⟩
  case round =>
    clear hx c0 hB4
    obtain ⟨k, hk, rfl, hx, c0, hB⟩ := hrel
    by_cases hkn : k < xs.length
    · have y0 : (k : Int) < (xs.length : Int) := by omega
      obtain ⟨b, rfl, hl, hb, hcell⟩ := HX.out (by omega)
      have hra := (hcell k hkn).stay (Nat.zero_le _) hb (Nat.le_refl _) hB.size (fun p _ hp => hB.cell (p := p) hp)
      obtain ⟨G1, j1, G2, j2, c0', c1', c2', m1, m2⟩ := hra
      have hsz := HZ.out k hkn
      have hq : RQ wr 0 wr.heap.size (.agg #[.bool (qS xs[k]), .slice G1 (lim (qN xs[k])).length j1, .slice G2 (lim xs[k].den).length j2]) xs[k] m := RQ.of ⟨_, _, rfl, m1, m2⟩ hsz
      have HST1 := Lib.hid (HST.out k hkn)
      obtain ⟨F1, l1, F2, l2, hblk, hrq⟩ := hx.rq (HSZ.out k hk)
      generalize xs[k] = q at *
      have hal : Below wr.heap.size wr (wr.alloc (.cells #[.bool (qS q), .slice G1 (lim (qN q)).length j1, .slice G2 (lim q.den).length j2] 60)) := (Below.refl _ _).alloc (Nat.le_refl _) _
      have b4 := Blk.new wr 60 #[.bool (qS q), .slice G1 (lim (qN q)).length j1, .slice G2 (lim q.den).length j2]
      have d4 := hblk.below hal hblk.lt
      have x0 := b4.cell 0
      have x1 := b4.cell 1
      have x2 := b4.cell 2
      have y1 := d4.cell 0
      have y2 := d4.cell 1
      have y3 := d4.cell 2
      have HQ := Lib.hid (hq.after hal)
      have HRQ := Lib.hid (hrq.after hal)
      have HD4 := Lib.hid d4
      have HC0 := Lib.hid (c0.below hal c0.lt)
      have HB := Lib.hid (hB.trans (hal.mono hB.size))
      clear hcell m1 m2 hl hsz hq hrq hblk c0 hB hx b4 d4 hal
      go_wp2_with fail
      generalize wr.alloc (.cells #[.bool (qS q), .slice G1 (lim (qN q)).length j1, .slice G2 (lim q.den).length j2] 60) = w5 at *
      go_fit (prAdd_q _ _ (p k) q 390 m _ HRQ.out HQ.out (by omega) (by omega))
      rw [HST1.out]
      rintro e w6 ⟨v6, rfl, ⟨bn, bd, rfl, hbn, hbd⟩, hb6⟩
      obtain ⟨A3, k3, rfl, m3⟩ := nt_len hbn
      obtain ⟨A4, k4, rfl, m4⟩ := nt_len hbd
      clear m3 m4 x0 x1 x2 y1 y2 y3 c0' c1' c2' HQ HRQ
      have f5 := HD4.out
      have f6 := f5.below hb6 f5.lt
      have z0 := f6.free 0
      have z1 := f6.free 1
      have z2 := f6.free 2
      have d0 := f6.cell 0
      have d1 := f6.cell 1
      have d2 := f6.cell 2
      have c6 := HC0.out.below hb6 HC0.out.lt
      have hB6 := HB.out.trans (hb6.mono HB.out.size)
      have hset := RB.set f6 (hbn.low (show g3 + 1 ≤ _ from f5.lt)) (hbd.low (show g3 + 1 ≤ _ from f5.lt)) (Nat.lt_succ_self g3)
      have hset2 := hset.low (show w.heap.size + 1 ≤ g3 + 1 by omega)
      have hc7 : Blk (St3 w6 g3 (qS (p (k + 1))) (.slice A3 (lim (qN (p (k + 1)))).length k3) (.slice A4 (lim (p (k + 1)).den).length k4)) w.heap.size 60 #[.bool false, .slice none 0 0, .slice none 0 0] :=
        ((c6.far (by show w.heap.size ≠ g3; omega) _).far (by show w.heap.size ≠ g3; omega) _).far (by show w.heap.size ≠ g3; omega) _
      have hB7 : Below w.heap.size w (St3 w6 g3 (qS (p (k + 1))) (.slice A3 (lim (qN (p (k + 1)))).length k3) (.slice A4 (lim (p (k + 1)).den).length k4)) :=
        ((hB6.setCell (p := ⟨g3, 0, none⟩) (by show w.heap.size ≤ g3; omega) _).setCell (p := ⟨g3, 1, none⟩) (by show w.heap.size ≤ g3; omega) _).setCell (p := ⟨g3, 2, none⟩) (by show w.heap.size ≤ g3; omega) _
      have HS2 := Lib.hid hset2
      have HC7 := Lib.hid hc7
      have HB7 := Lib.hid hB7
      clear f5 f6 c6 hB6 hbn hbd hb6 hset hset2 hc7 hB7 HD4 HC0 HB
      unfold St3 at *
      go_wp2_with fail
      go_roundw
      case rel => exact ⟨k + 1, by omega, by go_num, HS2.out, HC7.out, HB7.out⟩
      case measure => simp [RowKit.intOf]; omega
    · obtain rfl : k = xs.length := by omega
      have y0 : ¬ ((xs.length : Nat) : Int) < (xs.length : Int) := by omega
      obtain ⟨F1, l1, F2, l2, hblk, n1, n2, o1, o2⟩ := hx
      generalize p xs.length = s at *
      have x0 := hblk.cell 0
      have x1 := hblk.cell 1
      have x2 := hblk.cell 2
      have f0 := c0.free 0
      have f1 := c0.free 1
      have f2 := c0.free 2
      have e0 := c0.cell 0
      have e1 := c0.cell 1
      have e2 := c0.cell 2
      obtain ⟨r0, r1, r2, hR, hBf⟩ := store3 c0 hB (Nat.le_refl _) (qS s) (.slice F1 (lim (qN s)).length l1) (.slice F2 (lim s.den).length l2) n1 n2
      have HR := Lib.hid hR
      have HBF := Lib.hid hBf
      clear hblk n1 n2 o1 o2 hB c0 hR hBf
      unfold St3 at *
      go_wp2_with fail
      refine bodyPost_ret (v := .agg #[.bool (qS s), .slice F1 (lim (qN s)).length l1, .slice F2 (lim s.den).length l2]) ?_ rfl ⟨_, rfl, HR.out, HBF.out⟩
      simp [results, Tryz.results197, go_sem, r0, r1, r2]
end Go.Proofs.YtchokmhfgikglaaGreatDoor

namespace Go.Proofs.YtchokmhfgikglaaGreatDoor
set_option maxRecDepth 100000
open Go.RowKit Go.Shelf Go.Lib

def meanQ (l : List Rat) : Rat := sumQ l / (l.length : Rat)

set_option maxHeartbeats 3200000 in
theorem mean_q (v : Value) (xs : List Rat) (m : Nat) (w : World) (h : RowIn w 0 w.heap.size v xs) (hz : ∀ q ∈ xs, Sz q m) (hlen : 1 + xs.length * (m + 1) ≤ 390) (hm : m ≤ 390) (hl0 : 1 ≤ xs.length) (hl1 : xs.length ≤ 1000) :
    Calls Tryz.prog 192 #[v] w (GivesC (meanQ xs) 0 w) := by
  have HS : Hid (∀ W, Below w.heap.size w W → Calls Tryz.prog 197 #[v] W (GivesF (sumQ xs) W)) := fun W hb => sum_q v xs m W (h.after hb) hz hlen hm hl1
  have hsz : Sz (sumQ xs) 390 := (sz_sum (m := m) xs.length xs rfl hz).mono hlen
  obtain ⟨A, c, rfl, hc, hmx, hA0, hx⟩ := h
  have HBY : Hid (∀ W u, RQ W 0 W.heap.size u (sumQ xs) 390 → Calls Tryz.prog 254 #[u, .int .i64 (xs.length : Int)] W (GivesF (meanQ xs) W)) := fun W u hu => by_q u (sumQ xs) 390 xs.length W hu (by omega) hl0 (by omega)
  have y0 : ((xs.length : Int) == 0) = false := beq_false_of_ne (by omega)
  generalize meanQ xs = M at *
  generalize sumQ xs = T at *
  clear hx hA0 hz hlen hmx hc
  have b0 := Blk.new w 60 #[.bool false, .slice none 0 0, .slice none 0 0]
  have hB : Below w.heap.size w (w.alloc (.cells #[.bool false, .slice none 0 0, .slice none 0 0] 60)) := (Below.refl _ _).alloc (Nat.le_refl _) _
  go_enter Tryz.func192, Tryz.ntmps192
  go_wp2_with fail
  generalize w.alloc (.cells #[.bool false, .slice none 0 0, .slice none 0 0] 60) = w2 at *
  go_fit (HS.out _ hB)
  rintro e w3 ⟨v3, rfl, hr3, hb3⟩
  have hlt2 := b0.lt
  have HR3 := Lib.hid (RQ.of (hr3.low (Nat.zero_le _)) hsz)
  have HB3 := Lib.hid (hB.trans (hb3.mono hB.size))
  have B03 := Lib.hid (b0.below hb3 hlt2)
  clear hr3 hb3 hB b0
  go_wp2_with fail
  go_fit (HBY.out _ _ HR3.out)
  rintro e w4 ⟨v4, rfl, ⟨an, ad, rfl, han, had⟩, hb4⟩
  have b0 := B03.out.below hb4 B03.out.lt
  have hB := HB3.out.trans (hb4.mono HB3.out.size)
  obtain ⟨A1, k1, rfl, m1⟩ := nt_len han
  obtain ⟨A2, k2, rfl, m2⟩ := nt_len had
  have n1 := han.low (show w.heap.size + 1 ≤ _ from B03.out.lt)
  have n2 := had.low (show w.heap.size + 1 ≤ _ from B03.out.lt)
  have f0 := b0.free 0
  have f1 := b0.free 1
  have f2 := b0.free 2
  have e0 := b0.cell 0
  have e1 := b0.cell 1
  have e2 := b0.cell 2
  obtain ⟨r0, r1, r2, hR, hBf⟩ := store3 b0 hB (Nat.le_refl _) (qS M) (.slice A1 (lim (qN M)).length k1) (.slice A2 (lim M.den).length k2) n1 n2
  have HR := Lib.hid hR
  have HBF := Lib.hid hBf
  clear n1 n2 hB b0 hR hBf han had m1 m2 hb4 HB3 B03 HR3
  unfold St3 at *
  go_wp2_with fail
  refine bodyPost_ret (v := .tuple #[.agg #[.bool (qS M), .slice A1 (lim (qN M)).length k1, .slice A2 (lim M.den).length k2], .int .i64 0]) ?_ rfl ⟨_, rfl, HR.out, HBF.out⟩
  simp [results, Tryz.results192, go_sem, r0, r1, r2]

/-- What each is more than the mean. -/
def offQ (l : List Rat) : List Rat := l.map (· - meanQ l)

set_option maxHeartbeats 6400000 in
theorem off_q (v : Value) (xs : List Rat) (m : Nat) (w : World) (h : RowIn w 0 w.heap.size v xs) (hz : ∀ q ∈ xs, Sz q m) (hlen : 1 + xs.length * (m + 1) ≤ 390) (hm : m ≤ 390) (hl0 : 1 ≤ xs.length) (hl1 : xs.length ≤ 1000) (hmean : Sz (meanQ xs) 395) :
    Calls Tryz.prog 257 #[v] w fun e w' => (∃ v', e = .returned v' ∧ RowIn w' w.heap.size w'.heap.size v' (offQ xs)) ∧ Below w.heap.size w w' := by
  have HM : Hid (∀ W, W = w → Calls Tryz.prog 192 #[v] W (GivesC (meanQ xs) 0 W)) := fun W hb => by subst hb; exact mean_q v xs m W h hz hlen hm hl0 hl1
  obtain ⟨A, c, rfl, hc, hmx, hA0, hx⟩ := h
  obtain ⟨i0, hi, hz0, hz1, hz2⟩ := info_parts Tryz.infoRat
  have HX := Lib.hid hx
  have HZ : Hid (∀ k (h : k < xs.length), Sz xs[k] m) := fun k h => hz _ (List.getElem_mem h)
  have HEND : Hid (offQ xs = (xs.map (· - meanQ xs)).take xs.length) := by
    show List.map _ xs = _
    exact (List.take_of_length_le (Nat.le_of_eq (List.length_map _))).symm
  have HST : Hid (∀ k (h : k < xs.length), (xs.map (· - meanQ xs)).take k ++ [xs[k] - meanQ xs] = (xs.map (· - meanQ xs)).take (k + 1)) := fun k h => by
    rw [List.take_succ_eq_append_getElem (by simp [h]), List.getElem_map]
  have HLEN : Hid (∀ k, k ≤ xs.length → ((xs.map (· - meanQ xs)).take k).length ≤ 1000000) := fun k hk => by rw [List.length_take]; omega
  rw [HEND.out]
  generalize xs.map (· - meanQ xs) = ys at *
  generalize meanQ xs = M at *
  unfold maxLen at hmx
  clear hx hz hlen HEND
  go_enter Tryz.func257, Tryz.ntmps257
  go_wp2_with fail
  go_fit (HM.out _ rfl)
  rintro e w3 ⟨v3, rfl, ⟨an, ad, rfl, han, had⟩, hb3⟩
  obtain ⟨A1, k1, rfl, m1⟩ := nt_len han
  obtain ⟨A2, k2, rfl, m2⟩ := nt_len had
  have hxm := RB.new (t := 60) han had
  have hB4 : Below w.heap.size w (w3.alloc (.cells #[.bool (qS M), .slice A1 (lim (qN M)).length k1, .slice A2 (lim M.den).length k2] 60)) := hb3.alloc hb3.size _
  clear han had hb3 m1 m2 HM
  obtain ⟨g3, hg3⟩ : ∃ g, w3.heap.size = g := ⟨_, rfl⟩
  rw [hg3] at hxm
  have HG3 := Lib.hid hg3
  go_wp2_with fail
  obtain ⟨w4, hw4⟩ : ∃ w4, w3.alloc (.cells #[.bool (qS M), .slice A1 (lim (qN M)).length k1, .slice A2 (lim M.den).length k2] 60) = w4 := ⟨_, rfl⟩
  rw [hw4] at hxm hB4 ⊢
  clear hg3 HG3 hw4
  obtain ⟨H1, i1, H2, i2, hblkm, hrqm⟩ := hxm.rq hmean
  have HBM := Lib.hid hblkm
  have HQM := Lib.hid hrqm
  have HB4 := Lib.hid hB4
  clear hblkm hrqm hxm hB4 hmean
  go_loopw [5, 15] (fun v i wr => ∃ k : Nat, k ≤ xs.length ∧ i = .int .i64 (k : Int) ∧ OwnR wr w4.heap.size 60 v (ys.take k) ∧ Below w4.heap.size w4 wr) (fun _ i _ => xs.length - (RowKit.intOf i).toNat)
  case atStart => exact ⟨0, Nat.zero_le _, rfl, OwnR.nil _ _ _, Below.refl _ _⟩
  case round =>
    obtain ⟨k, hk, rfl, hown, hB⟩ := hrel
    by_cases hkn : k < xs.length
    · have y0 : (k : Int) < (xs.length : Int) := by omega
      obtain ⟨b, rfl, hl, hb, hcell⟩ := HX.out (by omega)
      have hBw := HB4.out.trans (hB.mono HB4.out.size)
      have hra := (hcell k hkn).stay (Nat.zero_le _) hb (Nat.le_refl _) hBw.size (fun p _ hp => hBw.cell (p := p) hp)
      obtain ⟨G1, j1, G2, j2, c0, c1, c2, m1, m2⟩ := hra
      have hsz := HZ.out k hkn
      have hq : RQ wr 0 wr.heap.size (.agg #[.bool (qS xs[k]), .slice G1 (lim (qN xs[k])).length j1, .slice G2 (lim xs[k].den).length j2]) xs[k] m := RQ.of ⟨_, _, rfl, m1, m2⟩ hsz
      have HST1 := Lib.hid (HST.out k hkn)
      have hqm := HQM.out.after hB
      have hbm := HBM.out.below hB HBM.out.lt
      generalize xs[k] = q at *
      have hal : Below wr.heap.size wr (wr.alloc (.cells #[.bool (qS q), .slice G1 (lim (qN q)).length j1, .slice G2 (lim q.den).length j2] 60)) := (Below.refl _ _).alloc (Nat.le_refl _) _
      have b4 := Blk.new wr 60 #[.bool (qS q), .slice G1 (lim (qN q)).length j1, .slice G2 (lim q.den).length j2]
      have d4 := hbm.below hal hbm.lt
      have x0 := b4.cell 0
      have x1 := b4.cell 1
      have x2 := b4.cell 2
      have y1 := d4.cell 0
      have y2 := d4.cell 1
      have y3 := d4.cell 2
      have HQ := Lib.hid (hq.after hal)
      have HQ2 := Lib.hid (hqm.after hal)
      have HAL := Lib.hid hal
      clear hcell m1 m2 hl hsz hq hqm hbm b4 d4 hal hBw
      obtain ⟨R, hR⟩ : ∃ R, q - M = R := ⟨_, rfl⟩
      rw [hR] at HST1
      have HSUB : Hid (∀ W u v, RQ W 0 W.heap.size u q m → RQ W 0 W.heap.size v M 395 → Calls Tryz.prog 231 #[u, v] W (GivesF R W)) := fun W u v h1 h2 => by
        rw [← hR]
        exact prSub_q u v q M m 395 W h1 h2 (by omega) (by omega)
      clear hR
      go_wp2_with fail
      go_fit (HSUB.out _ _ _ HQ.out HQ2.out)
      rintro e w5 ⟨v5, rfl, ⟨bn, bd, rfl, hbn, hbd⟩, hb5⟩
      obtain ⟨F1, l1, rfl, m1⟩ := nt_len hbn
      obtain ⟨F2, l2, rfl, m2⟩ := nt_len hbd
      have hb6 := HAL.out.trans (hb5.mono HAL.out.size)
      have HN1 := Lib.hid (hbn.low HAL.out.size)
      have HN2 := Lib.hid (hbd.low HAL.out.size)
      have hvL := hown.lt
      have hL1 := hB.size
      have HVL := Lib.hid (fun g hg => (hvL g hg).2)
      have HL := Lib.hid (HLEN.out k hk)
      have HOW := Lib.hid (hown.after hb6)
      have hB5 := hB.trans (hb6.mono hB.size)
      have HB5 := Lib.hid hB5
      have HBS := Lib.hid hB5.size
      clear hbn hbd m1 m2 hvL hown hb5 hb6 hB hB5 x0 x1 x2 y1 y2 y3 c0 c1 c2 HQ HQ2 HAL HSUB
      go_wp2_with (at_builtin; refine wpList_append_rat rfl _ _ 35 rfl w4.heap.size 60 i0 _ Tryz.underlying35 hi hz0 hz1 hz2 rfl u5 (ys.take k) rfl HOW.out R F1 F2 l1 l2 _ hL1 HVL.out HN1.out HN2.out rfl HL.out HBS.out ?_)
      intro v7 w7 ho7 hb7 hs7
      rw [HST1.out] at ho7
      have hB7 := HB5.out.trans hb7
      clear HOW HN1 HN2 HVL HB5 HBS hb7 hs7
      go_wp2_with fail
      go_roundw
      case rel => exact ⟨k + 1, by omega, by go_num, ho7, hB7⟩
      case measure => simp [RowKit.intOf]; omega
    · obtain rfl : k = xs.length := by omega
      have y0 : ¬ ((xs.length : Nat) : Int) < (xs.length : Int) := by omega
      have HRW := Lib.hid (hown.row.low HB4.out.size)
      have HBW := Lib.hid (HB4.out.trans (hB.mono HB4.out.size))
      clear hown HX hB
      go_wp2_with fail
      go_ret
      exact ⟨⟨_, rfl, HRW.out⟩, HBW.out⟩
end Go.Proofs.YtchokmhfgikglaaGreatDoor
