/- Several texts in one: DataN, Ref16P, DataP. Condition: each says its own. -/
import Derived.Lib.BufferRead
import Derived.Test.YtchokmhfgikglaaGreatDoorPk9
import Derived.Test.YtchokmhfgikglaaGreatDoorPk12
import Derived.Test.YtchokmhfgikglaaGreatDoorPk14
import Derived.Test.YtchokmhfgikglaaGreatDoorPk17
import Derived.Test.YtchokmhfgikglaaGreatDoorPk19
namespace Go.Proofs.YtchokmhfgikglaaGreatDoor
set_option maxRecDepth 100000
open Go.RowKit Go.Shelf Go.Lib

set_option maxHeartbeats 1600000 in
theorem contains1_any (l : List Nat) (hl : Byt l) (c : Nat) (hc : c < 256) (w : World) :
    Calls Tryz.prog 74 #[.string (strN l), .string ⟨#[UInt8.ofNat c]⟩] w fun e w' => e = .returned (.bool (l.contains c)) ∧ w = w' := by
  have hix : ∀ w, Calls Tryz.prog 166 #[.string (strN l), .string ⟨#[UInt8.ofNat c]⟩] w fun e w' => e = .returned (.int .i64 (if l.contains c = true then ((l.takeWhile (· != c)).length : Int) else -1)) ∧ w' = w := fun w => by
    have := Any.stringslite_Index_one Tryz.lays219 (strN l) (UInt8.ofNat c) w
    have e : (strN l).data.toList = l.map UInt8.ofNat := by unfold strN; simp
    rw [e, index_of c hc l hl] at this
    exact this
  obtain ⟨x, hx⟩ : ∃ x : Int, (if l.contains c = true then ((l.takeWhile (· != c)).length : Int) else -1) = x := ⟨_, rfl⟩
  have hxb : Hid (decide (0 ≤ x) = l.contains c) := by
    show _ = _
    rw [← hx]
    cases l.contains c
    · rfl
    · simp
  rw [hx] at hix
  have HIX := Lib.hid hix
  clear hix hx hl
  generalize strN l = t at *
  have HI2 : Hid (∀ w, Calls Tryz.prog 106 #[.string t, .string ⟨#[UInt8.ofNat c]⟩] w fun e w' => e = .returned (.int .i64 x) ∧ w = w') := fun w => by
    go_enter Tryz.func106, Tryz.ntmps106
    go_wp2_with fail
    go_fit (HIX.out _)
    rintro e w1 ⟨rfl, rfl⟩
    go_wp2_with fail
    go_ret
    exact ⟨rfl, rfl⟩
  clear HIX
  go_enter Tryz.func74, Tryz.ntmps74
  go_wp2_with fail
  go_fit (HI2.out _)
  rintro e w1 ⟨rfl, rfl⟩
  clear HI2
  go_wp2_with fail
  go_ret
  exact ⟨by rw [← hxb.out]; rfl, rfl⟩

set_option maxHeartbeats 6400000 in
theorem dnum_long (l : List Nat) (h9 : l.length ≤ 1000000) (w : World) (h6 : 60 < l.length) :
    Calls Tryz.prog 36 #[.string (strN l)] w (NumPost l w) := by
  have HP : Hid (∀ e w', GivesX 3 w e w' → NumPost l w e w') := fun e w' h => NumPost.bad (c := 3) (by rw [numV_long h6]) (by decide) h
  obtain ⟨q0, hq0⟩ : ∃ q, (0 : Rat) = q := ⟨_, rfl⟩
  have HI0 : Hid (∀ W, Calls Tryz.prog 71 #[.int .i64 0] W (GivesF q0 W)) := fun W => by
    have := prInt_any 0 W (by omega)
    rw [← hq0]
    exact this
  clear hq0
  have b0 := Blk.new w 60 #[.bool false, .slice none 0 0, .slice none 0 0]
  have hB : Below w.heap.size w (w.alloc (.cells #[.bool false, .slice none 0 0, .slice none 0 0] 60)) := (Below.refl _ _).alloc (Nat.le_refl _) _
  have hs := strN_size l
  have y0 : (60 : Int) < ((strN l).size : Int) := by omega
  clear hs
  generalize strN l = t at *
  go_enter Tryz.func36, Tryz.ntmps36
  go_wp2_with fail
  generalize w.alloc (.cells #[.bool false, .slice none 0 0, .slice none 0 0] 60) = w2 at *
  go_fit (HI0.out _)
  rintro e w30 ⟨v30, rfl, ⟨an, ad, rfl, han, had⟩, hb30⟩
  have lt30 := b0.lt
  replace hB := hB.trans (hb30.mono hB.size)
  replace b0 := b0.below hb30 b0.lt
  obtain ⟨A1, k1, rfl, m1⟩ := nt_len han
  obtain ⟨A2, k2, rfl, m2⟩ := nt_len had
  have n1 := han.low (show w.heap.size + 1 ≤ _ from lt30)
  have n2 := had.low (show w.heap.size + 1 ≤ _ from lt30)
  clear hb30 m1 m2 HI0 han had
  have f0 := b0.free 0
  have f1 := b0.free 1
  have f2 := b0.free 2
  have e0 := b0.cell 0
  have e1 := b0.cell 1
  have e2 := b0.cell 2
  obtain ⟨r0, r1, r2, hR, hBf⟩ := store3 b0 hB (Nat.le_refl _) (qS q0) (.slice A1 (lim (qN q0)).length k1) (.slice A2 (lim (q0).den).length k2) n1 n2
  have HR := Lib.hid hR
  have HBF := Lib.hid hBf
  clear n1 n2 hB b0 hR hBf
  unfold St3 at *
  go_wp2_with fail
  refine bodyPost_ret (v := .tuple #[.agg #[.bool (qS q0), .slice A1 (lim (qN q0)).length k1, .slice A2 (lim (q0).den).length k2], .int .i64 3]) ?_ rfl ?_
  · simp [results, Tryz.results36, go_sem, r0, r1, r2]
  · exact HP.out _ _ (GivesC.x ⟨_, rfl, HR.out, HBF.out⟩)

set_option maxHeartbeats 6400000 in
theorem dnum_plain (l : List Nat) (hl : Byt l) (w : World) (h6 : ¬ 60 < l.length) (h1 : 101 ∉ l) :
    Calls Tryz.prog 36 #[.string (strN l)] w (NumPost l w) := by
  obtain ⟨o, ho⟩ : ∃ o, wayB (strp l).1 (strp l).2 = o := ⟨_, rfl⟩
  have hn := numV_plain h6 h1
  rw [ho] at hn
  have hle : (strp l).2.length ≤ 400 := Nat.le_trans (strp_len _) (by omega)
  have HC : Hid (∀ W, Calls Tryz.prog 69 #[.string (strN l), .string ⟨#[101]⟩] W fun e w' => ∃ u, e = .returned (.tuple #[.string (strN l), .string u, .bool false]) ∧ Below W.heap.size W w') := fun W => by
    have h := cut_any l hl 101 (by omega) (by omega) W
    have e1 : l.takeWhile (· != 101) = l := by
      refine (List.takeWhile_sublist _).eq_of_length ?_
      have h2 : ¬ (l.takeWhile (· != 101)).length < l.length := fun h => h1 (findG_len.2 h)
      have h3 := (List.takeWhile_sublist (· != 101) (l := l)).length_le
      omega
    have e2 : l.contains 101 = false := by simpa using h1
    rw [e1, e2] at h
    exact h.mono fun e w' hh => ⟨_, hh⟩
  have HPA : Hid (∀ W, Calls Tryz.prog 72 #[.string (strN l)] W (PostP o W)) := fun W =>
    decParse_any l hl (by omega) o ((ways_same _ _ hle).trans ho) W
  clear ho
  obtain ⟨q0, hq0⟩ : ∃ q, (0 : Rat) = q := ⟨_, rfl⟩
  have HI0 : Hid (∀ W, Calls Tryz.prog 71 #[.int .i64 0] W (GivesF q0 W)) := fun W => by
    have := prInt_any 0 W (by omega)
    rw [← hq0]
    exact this
  clear hq0
  have b0 := Blk.new w 60 #[.bool false, .slice none 0 0, .slice none 0 0]
  have hB : Below w.heap.size w (w.alloc (.cells #[.bool false, .slice none 0 0, .slice none 0 0] 60)) := (Below.refl _ _).alloc (Nat.le_refl _) _
  clear HI0
  have hs := strN_size l
  have y0 : ¬ (60 : Int) < ((strN l).size : Int) := by omega
  clear hs hle
  cases o with
  | none =>
    have HP : Hid (∀ e w', GivesX 2 w e w' → NumPost l w e w') := fun e w' h => NumPost.bad (c := 2) (by rw [hn]) (by decide) h
    clear hn
    generalize strN l = t at *
    go_enter Tryz.func36, Tryz.ntmps36
    go_wp2_with fail
    generalize w.alloc (.cells #[.bool false, .slice none 0 0, .slice none 0 0] 60) = w2 at *
    go_fit (HC.out _)
    rintro e w5 ⟨u5, rfl, hb5⟩
    replace hB := hB.trans (hb5.mono hB.size)
    replace b0 := b0.below hb5 b0.lt
    clear hb5 HC
    go_wp2_with fail
    go_fit (HPA.out _)
    rintro e w6 hp
    clear HPA
    obtain ⟨rfl, hb6⟩ := hp
    replace hB := hB.trans (hb6.mono hB.size)
    replace b0 := (b0.below hb6 b0.lt).alloc (.cells #[.bool false, .slice none 0 0, .slice none 0 0] 60)
    replace hB := hB.alloc hB.size (.cells #[.bool false, .slice none 0 0, .slice none 0 0] 60)
    clear hb6
    have x6 := Blk.new w6 60 #[.bool false, .slice none 0 0, .slice none 0 0]
    have x0 := x6.cell 0
    have x1 := x6.cell 1
    have x2 := x6.cell 2
    clear x6
    have n1 := Nt.nil (w6.alloc (.cells #[.bool false, .slice none 0 0, .slice none 0 0] 60)) (w.heap.size + 1) (w6.alloc (.cells #[.bool false, .slice none 0 0, .slice none 0 0] 60)).heap.size
    have n2 := n1
    have f0 := b0.free 0
    have f1 := b0.free 1
    have f2 := b0.free 2
    have e0 := b0.cell 0
    have e1 := b0.cell 1
    have e2 := b0.cell 2
    obtain ⟨r0, r1, r2, hR, hBf⟩ := store3 b0 hB (Nat.le_refl _) false (.slice none 0 0) (.slice none 0 0) n1 n2
    have HBF := Lib.hid hBf
    clear n1 n2 hB b0 hR hBf
    unfold St3 at *
    go_wp2_with fail
    refine bodyPost_ret (v := .tuple #[.agg #[.bool false, .slice none 0 0, .slice none 0 0], .int .i64 2]) ?_ rfl ?_
    · simp [results, Tryz.results36, go_sem, r0, r1, r2]
    · exact HP.out _ _ ⟨_, _, _, _, _, _, _, rfl, HBF.out⟩
  | some x =>
    obtain ⟨s, n, d⟩ := x
    obtain ⟨q, hq⟩ : ∃ q, qv s n d = q := ⟨_, rfl⟩
    have HP : Hid (∀ e w', GivesC q 0 w e w' → NumPost l w e w') := fun e w' h => NumPost.good (q := q) (by rw [hn, ← hq]) h
    have HPA2 : Hid (∀ W, Calls Tryz.prog 72 #[.string (strN l)] W (GivesP q W)) := fun W => by rw [← hq]; exact HPA.out W
    clear hn hq HPA
    have HPA := HPA2; clear HPA2
    generalize strN l = t at *
    go_enter Tryz.func36, Tryz.ntmps36
    go_wp2_with fail
    generalize w.alloc (.cells #[.bool false, .slice none 0 0, .slice none 0 0] 60) = w2 at *
    go_fit (HC.out _)
    rintro e w5 ⟨u5, rfl, hb5⟩
    replace hB := hB.trans (hb5.mono hB.size)
    replace b0 := b0.below hb5 b0.lt
    clear hb5 HC
    go_wp2_with fail
    go_fit (HPA.out _)
    rintro e w6 hp
    clear HPA
    obtain ⟨v6, rfl, ⟨bn, bd, rfl, hbn, hbd⟩, hb6⟩ := hp
    obtain ⟨F1, l1, rfl, m1⟩ := nt_len hbn
    obtain ⟨F2, l2, rfl, m2⟩ := nt_len hbd
    have lt4 := b0.lt
    have hbm : Below w6.heap.size w6 (w6.alloc (.cells #[.bool (qS q), .slice F1 (lim (qN q)).length l1, .slice F2 (lim q.den).length l2] 60)) := (Below.refl _ _).alloc (Nat.le_refl _) _
    have n1 := (hbn.low (show w.heap.size + 1 ≤ _ from lt4)).after hbm
    have n2 := (hbd.low (show w.heap.size + 1 ≤ _ from lt4)).after hbm
    replace hB := (hB.trans (hb6.mono hB.size)).trans (hbm.mono (Nat.le_trans hB.size hb6.size))
    replace b0 := (b0.below hb6 b0.lt).alloc (.cells #[.bool (qS q), .slice F1 (lim (qN q)).length l1, .slice F2 (lim q.den).length l2] 60)
    have x6 := Blk.new w6 60 #[.bool (qS q), .slice F1 (lim (qN q)).length l1, .slice F2 (lim q.den).length l2]
    have x0 := x6.cell 0
    have x1 := x6.cell 1
    have x2 := x6.cell 2
    clear x6 hb6 m1 m2 hbm hbn hbd
    have f0 := b0.free 0
    have f1 := b0.free 1
    have f2 := b0.free 2
    have e0 := b0.cell 0
    have e1 := b0.cell 1
    have e2 := b0.cell 2
    obtain ⟨r0, r1, r2, hR, hBf⟩ := store3 b0 hB (Nat.le_refl _) (qS q) (.slice F1 (lim (qN q)).length l1) (.slice F2 (lim (q).den).length l2) n1 n2
    have HR := Lib.hid hR
    have HBF := Lib.hid hBf
    clear n1 n2 hB b0 hR hBf
    unfold St3 at *
    go_wp2_with fail
    refine bodyPost_ret (v := .tuple #[.agg #[.bool (qS q), .slice F1 (lim (qN q)).length l1, .slice F2 (lim (q).den).length l2], .int .i64 0]) ?_ rfl ?_
    · simp [results, Tryz.results36, go_sem, r0, r1, r2]
    · exact HP.out _ _ ⟨_, rfl, HR.out, HBF.out⟩

set_option maxHeartbeats 12800000 in
theorem dnum_exp (l : List Nat) (hl : Byt l) (w : World) (h6 : ¬ 60 < l.length) (h1 : 101 ∈ l) :
    Calls Tryz.prog 36 #[.string (strN l)] w (NumPost l w) := by
  obtain ⟨o, ho⟩ : ∃ o, wayB (strp (l.takeWhile (· != 101))).1 (strp (l.takeWhile (· != 101))).2 = o := ⟨_, rfl⟩
  obtain ⟨eo, heo⟩ : ∃ z, expG (l.dropWhile (· != 101)).tail = z := ⟨_, rfl⟩
  obtain ⟨hn1, hn2⟩ := num16_cases h6 h1 ho heo
  have HP1 : Hid (∀ e w', o = none ∨ eo = none ∨ 47 ∈ l → GivesX 2 w e w' → NumPost l w e w') := fun e w' hc h => NumPost.bad (c := 2) (by rw [hn1 hc]) (by decide) h
  have HP2 : Hid (∀ s n d z e w', o = some (s, n, d) → eo = some z → 47 ∉ l → GivesC (powT (qv s n d) z) 0 w e w' → NumPost l w e w') := fun s n d z e w' h2 h3 h4 h => NumPost.good (hn2 s n d z h2 h3 h4) h
  have hle : (strp (l.takeWhile (· != 101))).2.length ≤ 60 := Nat.le_trans (strp_len _) (Nat.le_trans (List.takeWhile_sublist _).length_le (by omega))
  have HSZ : Hid (∀ s n d, o = some (s, n, d) → Sz (qv s n d) 70) := fun s n d h => (wayB_sz (ho.trans h)).mono (by omega)
  have HEB : Hid (∀ z, eo = some z → -30 ≤ z ∧ z ≤ 30) := fun z h => expG_bd (heo.trans h)
  have hbt : Byt (l.takeWhile (· != 101)) := fun x hx => hl x ((List.takeWhile_sublist _).subset hx)
  have hbd : Byt (l.dropWhile (· != 101)).tail := fun x hx => hl x ((List.dropWhile_sublist _).subset (List.mem_of_mem_tail hx))
  have htl : (l.takeWhile (· != 101)).length ≤ 400 := Nat.le_trans (List.takeWhile_sublist _).length_le (by omega)
  have hdl : (l.dropWhile (· != 101)).tail.length ≤ 300 := by
    have := (List.dropWhile_sublist (· != 101) (l := l)).length_le
    rw [List.length_tail]; omega
  have HC : Hid (∀ W, Calls Tryz.prog 69 #[.string (strN l), .string ⟨#[101]⟩] W fun e w' => e = .returned (.tuple #[.string (strN (l.takeWhile (· != 101))), .string (strN (l.dropWhile (· != 101)).tail), .bool true]) ∧ Below W.heap.size W w') := fun W => by
    have h := cut_any l hl 101 (by omega) (by omega) W
    have e2 : l.contains 101 = true := by simpa using h1
    rw [e2, List.drop_one] at h
    exact h
  have HPA : Hid (∀ W, Calls Tryz.prog 72 #[.string (strN (l.takeWhile (· != 101)))] W (PostP o W)) := fun W =>
    decParse_any _ hbt htl o ((ways_same _ _ (by omega)).trans ho) W
  have HEX : Hid (∀ W, Calls Tryz.prog 73 #[.string (strN (l.dropWhile (· != 101)).tail)] W fun e w' => Below W.heap.size W w' ∧ ∃ z b, e = .returned (.tuple #[.int .i64 z, .bool b]) ∧ eo = if b = true then some z else none) := fun W => by
    rw [← heo]
    exact dataExp_any _ hbd hdl W
  have HF47 : Hid (∀ W, Calls Tryz.prog 74 #[.string (strN l), .string ⟨#[47]⟩] W fun e w' => e = .returned (.bool (l.contains 47)) ∧ W = w') := fun W => contains1_any l hl 47 (by omega) W
  have H47 : Hid (l.contains 47 = true ↔ 47 ∈ l) := by show _ ↔ _; simp
  clear ho heo hn1 hn2 hle hbt hbd htl hdl
  generalize l.takeWhile (· != 101) = tw at *
  generalize (l.dropWhile (· != 101)).tail = dr at *
  obtain ⟨q0, hq0⟩ : ∃ q, (0 : Rat) = q := ⟨_, rfl⟩
  have HI0 : Hid (∀ W, Calls Tryz.prog 71 #[.int .i64 0] W (GivesF q0 W)) := fun W => by
    have := prInt_any 0 W (by omega)
    rw [← hq0]
    exact this
  clear hq0
  have b0 := Blk.new w 60 #[.bool false, .slice none 0 0, .slice none 0 0]
  have hB : Below w.heap.size w (w.alloc (.cells #[.bool false, .slice none 0 0, .slice none 0 0] 60)) := (Below.refl _ _).alloc (Nat.le_refl _) _
  have hs := strN_size l
  have y0 : ¬ (60 : Int) < ((strN l).size : Int) := by omega
  clear hs
  generalize strN l = t at *
  cases o with
  | none =>
    clear HP2 HSZ HEB H47 HF47
    go_enter Tryz.func36, Tryz.ntmps36
    go_wp2_with fail
    generalize w.alloc (.cells #[.bool false, .slice none 0 0, .slice none 0 0] 60) = w2 at *
    go_fit (HC.out _)
    rintro e w5 ⟨rfl, hb5⟩
    replace hB := hB.trans (hb5.mono hB.size)
    replace b0 := b0.below hb5 b0.lt
    clear hb5 HC
    go_wp2_with fail
    go_fit (HPA.out _)
    rintro e w6 hp
    clear HPA
    obtain ⟨rfl, hb6⟩ := hp
    replace hB := hB.trans (hb6.mono hB.size)
    replace b0 := (b0.below hb6 b0.lt).alloc (.cells #[.bool false, .slice none 0 0, .slice none 0 0] 60)
    replace hB := hB.alloc hB.size (.cells #[.bool false, .slice none 0 0, .slice none 0 0] 60)
    clear hb6
    go_wp2_with fail
    generalize w6.alloc (.cells #[.bool false, .slice none 0 0, .slice none 0 0] 60) = w7 at *
    go_fit (HEX.out _)
    rintro e w8 ⟨hb8, z, b, rfl, hz⟩
    replace hB := hB.trans (hb8.mono hB.size)
    replace b0 := b0.below hb8 b0.lt
    clear hb8 hz HEX
    go_wp2_with fail
    go_fit (HI0.out _)
    rintro e w30 ⟨v30, rfl, ⟨an, ad, rfl, han, had⟩, hb30⟩
    have lt30 := b0.lt
    replace hB := hB.trans (hb30.mono hB.size)
    replace b0 := b0.below hb30 b0.lt
    obtain ⟨A1, k1, rfl, m1⟩ := nt_len han
    obtain ⟨A2, k2, rfl, m2⟩ := nt_len had
    have n1 := han.low (show w.heap.size + 1 ≤ _ from lt30)
    have n2 := had.low (show w.heap.size + 1 ≤ _ from lt30)
    clear hb30 m1 m2 HI0 han had
    have f0 := b0.free 0
    have f1 := b0.free 1
    have f2 := b0.free 2
    have e0 := b0.cell 0
    have e1 := b0.cell 1
    have e2 := b0.cell 2
    obtain ⟨r0, r1, r2, hR, hBf⟩ := store3 b0 hB (Nat.le_refl _) (qS q0) (.slice A1 (lim (qN q0)).length k1) (.slice A2 (lim (q0).den).length k2) n1 n2
    have HR := Lib.hid hR
    have HBF := Lib.hid hBf
    clear n1 n2 hB b0 hR hBf
    unfold St3 at *
    go_wp2_with fail
    refine bodyPost_ret (v := .tuple #[.agg #[.bool (qS q0), .slice A1 (lim (qN q0)).length k1, .slice A2 (lim (q0).den).length k2], .int .i64 2]) ?_ rfl ?_
    · simp [results, Tryz.results36, go_sem, r0, r1, r2]
    · exact HP1.out _ _ (by simp) (GivesC.x ⟨_, rfl, HR.out, HBF.out⟩)
  | some x =>
    obtain ⟨s, n, d⟩ := x
    have hsz := HSZ.out s n d rfl
    obtain ⟨Q, hQ⟩ : ∃ Q, qv s n d = Q := ⟨_, rfl⟩
    have HPP : Hid (∀ z e w', eo = some z → 47 ∉ l → GivesC (powT Q z) 0 w e w' → NumPost l w e w') := fun z e w' h2 h3 h => HP2.out s n d z e w' rfl h2 h3 (by rw [hQ]; exact h)
    have HPA2 : Hid (∀ W, Calls Tryz.prog 72 #[.string (strN tw)] W (GivesP Q W)) := fun W => by rw [← hQ]; exact HPA.out W
    rw [hQ] at hsz
    clear hQ HSZ HP2 HPA
    have HPA := HPA2; clear HPA2
    go_enter Tryz.func36, Tryz.ntmps36
    go_wp2_with fail
    generalize w.alloc (.cells #[.bool false, .slice none 0 0, .slice none 0 0] 60) = w2 at *
    go_fit (HC.out _)
    rintro e w5 ⟨rfl, hb5⟩
    replace hB := hB.trans (hb5.mono hB.size)
    replace b0 := b0.below hb5 b0.lt
    clear hb5 HC
    go_wp2_with fail
    go_fit (HPA.out _)
    rintro e w6 hp
    clear HPA
    obtain ⟨v6, rfl, ⟨bn, bd, rfl, hbn, hbd⟩, hb6⟩ := hp
    obtain ⟨F1, l1, rfl, m1⟩ := nt_len hbn
    obtain ⟨F2, l2, rfl, m2⟩ := nt_len hbd
    have lt4 := b0.lt
    have hbm : Below w6.heap.size w6 (w6.alloc (.cells #[.bool (qS Q), .slice F1 (lim (qN Q)).length l1, .slice F2 (lim Q.den).length l2] 60)) := (Below.refl _ _).alloc (Nat.le_refl _) _
    have hx8 := RB.new (t := 60) (hbn.low (show w.heap.size + 1 ≤ _ from lt4)) (hbd.low (show w.heap.size + 1 ≤ _ from lt4))
    replace hB := (hB.trans (hb6.mono hB.size)).trans (hbm.mono (Nat.le_trans hB.size hb6.size))
    replace b0 := (b0.below hb6 b0.lt)
    have lt6 := b0.lt
    replace b0 := b0.below hbm b0.lt
    obtain ⟨g8, hg8⟩ : ∃ g, w6.heap.size = g := ⟨_, rfl⟩
    rw [hg8] at hx8 lt6
    have HG8 := Lib.hid hg8
    clear hb6 m1 m2 hbm hbn hbd
    go_wp2_with fail
    generalize w6.alloc (.cells #[.bool (qS Q), .slice F1 (lim (qN Q)).length l1, .slice F2 (lim Q.den).length l2] 60) = w7 at *
    clear hg8 HG8
    go_fit (HEX.out _)
    rintro e w8 ⟨hb8, z, b, rfl, hz⟩
    replace hB := hB.trans (hb8.mono hB.size)
    replace b0 := b0.below hb8 b0.lt
    replace hx8 := hx8.below hb8
    have HZ := Lib.hid hz
    clear hb8 hz HEX
    cases b with
    | false =>
      clear HPP HEB H47 HF47 hx8 hsz
      go_wp2_with fail
      go_fit (HI0.out _)
      rintro e w30 ⟨v30, rfl, ⟨an, ad, rfl, han, had⟩, hb30⟩
      have lt30 := b0.lt
      replace hB := hB.trans (hb30.mono hB.size)
      replace b0 := b0.below hb30 b0.lt
      obtain ⟨A1, k1, rfl, m1⟩ := nt_len han
      obtain ⟨A2, k2, rfl, m2⟩ := nt_len had
      have n1 := han.low (show w.heap.size + 1 ≤ _ from lt30)
      have n2 := had.low (show w.heap.size + 1 ≤ _ from lt30)
      clear hb30 m1 m2 HI0 han had
      have f0 := b0.free 0
      have f1 := b0.free 1
      have f2 := b0.free 2
      have e0 := b0.cell 0
      have e1 := b0.cell 1
      have e2 := b0.cell 2
      obtain ⟨r0, r1, r2, hR, hBf⟩ := store3 b0 hB (Nat.le_refl _) (qS q0) (.slice A1 (lim (qN q0)).length k1) (.slice A2 (lim (q0).den).length k2) n1 n2
      have HR := Lib.hid hR
      have HBF := Lib.hid hBf
      clear n1 n2 hB b0 hR hBf
      unfold St3 at *
      go_wp2_with fail
      refine bodyPost_ret (v := .tuple #[.agg #[.bool (qS q0), .slice A1 (lim (qN q0)).length k1, .slice A2 (lim (q0).den).length k2], .int .i64 2]) ?_ rfl ?_
      · simp [results, Tryz.results36, go_sem, r0, r1, r2]
      · exact HP1.out _ _ (Or.inr (Or.inl HZ.out)) (GivesC.x ⟨_, rfl, HR.out, HBF.out⟩)
    | true =>
      have hz : eo = some z := HZ.out
      have hzb := HEB.out z hz
      have HZ2 := Lib.hid hz
      clear hz HZ HEB
      go_wp2_with fail
      go_fit (HF47.out _)
      rintro e w9 ⟨rfl, rfl⟩
      clear HF47
      cases hc47 : l.contains 47 with
      | true =>
        have HM := Lib.hid (H47.out.1 hc47)
        clear HPP H47 hx8 hsz hc47
        go_wp2_with fail
        go_fit (HI0.out _)
        rintro e w30 ⟨v30, rfl, ⟨an, ad, rfl, han, had⟩, hb30⟩
        have lt30 := b0.lt
        replace hB := hB.trans (hb30.mono hB.size)
        replace b0 := b0.below hb30 b0.lt
        obtain ⟨A1, k1, rfl, m1⟩ := nt_len han
        obtain ⟨A2, k2, rfl, m2⟩ := nt_len had
        have n1 := han.low (show w.heap.size + 1 ≤ _ from lt30)
        have n2 := had.low (show w.heap.size + 1 ≤ _ from lt30)
        clear hb30 m1 m2 HI0 han had
        have f0 := b0.free 0
        have f1 := b0.free 1
        have f2 := b0.free 2
        have e0 := b0.cell 0
        have e1 := b0.cell 1
        have e2 := b0.cell 2
        obtain ⟨r0, r1, r2, hR, hBf⟩ := store3 b0 hB (Nat.le_refl _) (qS q0) (.slice A1 (lim (qN q0)).length k1) (.slice A2 (lim (q0).den).length k2) n1 n2
        have HR := Lib.hid hR
        have HBF := Lib.hid hBf
        clear n1 n2 hB b0 hR hBf
        unfold St3 at *
        go_wp2_with fail
        refine bodyPost_ret (v := .tuple #[.agg #[.bool (qS q0), .slice A1 (lim (qN q0)).length k1, .slice A2 (lim (q0).den).length k2], .int .i64 2]) ?_ rfl ?_
        · simp [results, Tryz.results36, go_sem, r0, r1, r2]
        · exact HP1.out _ _ (Or.inr (Or.inr HM.out)) (GivesC.x ⟨_, rfl, HR.out, HBF.out⟩)
      | false =>
        have HM : Hid (47 ∉ l) := fun h => by have := H47.out.2 h; rw [hc47] at this; cases this
        have HPP2 : Hid (∀ e w', GivesC (powT Q z) 0 w e w' → NumPost l w e w') := fun e w' h => HPP.out z e w' HZ2.out HM.out h
        clear HPP H47 hc47 HM HZ2 HP1 HI0
        have HPP := HPP2; clear HPP2
        obtain ⟨G1, j1, G2, j2, hblk, hrq⟩ := hx8.rq hsz
        have HRQ := Lib.hid hrq
        have HBLK := Lib.hid hblk
        have HX8 := Lib.hid hx8
        have HB0 := Lib.hid b0
        have HB := Lib.hid hB
        have x0 := hblk.cell 0
        have x1 := hblk.cell 1
        have x2 := hblk.cell 2
        clear hrq hblk b0 hB hx8
        by_cases hneg : z < 0
        · obtain ⟨m, rfl⟩ : ∃ m : Nat, z = -(m : Int) := ⟨(-z).toNat, by omega⟩
          have hm : m ≤ 30 := by omega
          have ym : ¬ m = 0 := by omega
          have y5 : -(m : Int) < 0 := by omega
          have HT : Hid (∀ W, Calls Tryz.prog 76 #[.int .i64 (m : Int)] W (GivesF ((10 ^ m : Nat) : Rat) W)) := fun W => dataTen_any m W hm
          have hpw : powT Q (-(m : Int)) = Q / ((10 ^ m : Nat) : Rat) := by
            unfold powT
            rw [if_pos hneg, Int.neg_neg]
            rfl
          rw [hpw] at HPP
          have htz := sz_ten hm
          have htn : ((10 ^ m : Nat) : Rat) ≠ 0 := fun hc => by
            have h1 : 10 ^ m = 0 := by exact_mod_cast hc
            have h2 := Nat.pow_pos (n := m) (show 0 < 10 by decide)
            omega
          have hw64 : IntKind.i64.wrap (m : Int) = (m : Int) := IntWalk.i64_in _ (by omega)
          clear hpw hneg hzb
          generalize ((10 ^ m : Nat) : Rat) = tm at *
          obtain ⟨R, hR⟩ : ∃ R, Q / tm = R := ⟨_, rfl⟩
          rw [hR] at HPP
          have HDIV : Hid (∀ W u v, RQ W 0 W.heap.size u Q 70 → RQ W 0 W.heap.size v tm 5 → Calls Tryz.prog 75 #[u, v] W (GivesFB R W)) := fun W u v h1 h2 => by
            rw [← hR]
            exact prDiv_q u v Q tm 70 5 W h1 h2 (by omega) (by omega) (by omega) htn
          clear hR htn
          go_wp2_with fail
          go_region_with
            (first
              | (have hx9 := HB9
                 go_at_call 75
                 go_fit (HDIV.out _ _ _ (HRQ.out.after HB9.out) HQ9.out)
                 rintro e w10 ⟨v10, rfl, ⟨dn, dd, rfl, hdn, hdd⟩, hb10⟩
                 obtain ⟨D1, i1, rfl, m5⟩ := nt_len hdn
                 obtain ⟨D2, i2, rfl, m6⟩ := nt_len hdd
                 clear m5 m6
                 have c9 := HBLK.out.below HB9.out HBLK.out.lt
                 have c10 := c9.below hb10 c9.lt
                 have z0 := c10.free 0
                 have z1 := c10.free 1
                 have z2 := c10.free 2
                 have d0 := c10.cell 0
                 have d1 := c10.cell 1
                 have d2 := c10.cell 2
                 have C10 := Lib.hid c10
                 have c0 := HB0.out.below HB9.out HB0.out.lt
                 have C0 := Lib.hid (c0.below hb10 c0.lt)
                 have hb9 := HB.out.trans (HB9.out.mono HB.out.size)
                 have HB10 := Lib.hid (hb9.trans (hb10.mono hb9.size))
                 have HDN := Lib.hid (hdn.low (show g8 + 1 ≤ _ from c9.lt))
                 have HDD := Lib.hid (hdd.low (show g8 + 1 ≤ _ from c9.lt))
                 clear c9 c10 c0 hb9 hdn hdd hb10 hx9)
              | (go_at_call 76
                 go_fit (HT.out _)
                 rintro e w9 ⟨v9, rfl, ⟨cn, cd, rfl, hcn, hcd⟩, hb9⟩
                 have HB9 := Lib.hid (Below.trans ((Below.refl _ _).drew) hb9)
                 have HQ9 := Lib.hid (RQ.of ⟨_, _, rfl, hcn.low (Nat.zero_le _), hcd.low (Nat.zero_le _)⟩ htz)
                 have e9 := HBLK.out.below HB9.out HBLK.out.lt
                 have x0_9 := e9.cell 0
                 have x1_9 := e9.cell 1
                 have x2_9 := e9.cell 2
                 clear e9 hcn hcd hb9)
              | fail)
          all_goals
            have HB11 := Lib.hid (blk_put3 (a := .bool (qS R)) (b := .slice D1 (lim (qN R)).length i1) (c := .slice D2 (lim R.den).length i2) C10.out)
            have HN1 := Lib.hid (nt_set3 HDN.out (Nat.lt_succ_self g8) (.bool (qS R)) (.slice D1 (lim (qN R)).length i1) (.slice D2 (lim R.den).length i2))
            have HN2 := Lib.hid (nt_set3 HDD.out (Nat.lt_succ_self g8) (.bool (qS R)) (.slice D1 (lim (qN R)).length i1) (.slice D2 (lim R.den).length i2))
            have HC0 := Lib.hid (((C0.out.far (p := ⟨g8, 0, none⟩) (by show w.heap.size ≠ g8; omega) (.bool (qS R))).far (p := ⟨g8, 1, none⟩) (by show w.heap.size ≠ g8; omega) (.slice D1 (lim (qN R)).length i1)).far (p := ⟨g8, 2, none⟩) (by show w.heap.size ≠ g8; omega) (.slice D2 (lim R.den).length i2))
            have HBB := Lib.hid (below_set3 HB10.out (show w.heap.size ≤ g8 by omega) (.bool (qS R)) (.slice D1 (lim (qN R)).length i1) (.slice D2 (lim R.den).length i2))
            clear d0 d1 d2 z0 z1 z2 C10 C0 HB10 HDN HDD
            generalize ((w10.setCell ⟨g8, 0, none⟩ (.bool (qS R))).setCell ⟨g8, 1, none⟩ (.slice D1 (lim (qN R)).length i1)).setCell ⟨g8, 2, none⟩ (.slice D2 (lim R.den).length i2) = w11 at *
            have yy0 := HB11.out.cell 0
            have yy1 := HB11.out.cell 1
            have yy2 := HB11.out.cell 2
            have b0 := HC0.out
            have hB := HBB.out
            have n1 := HN1.out.low (show w.heap.size + 1 ≤ g8 + 1 by omega)
            have n2 := HN2.out.low (show w.heap.size + 1 ≤ g8 + 1 by omega)
            clear HB11 HN1 HN2 HC0 HBB
            have f0 := b0.free 0
            have f1 := b0.free 1
            have f2 := b0.free 2
            have e0 := b0.cell 0
            have e1 := b0.cell 1
            have e2 := b0.cell 2
            obtain ⟨r0, r1, r2, hR, hBf⟩ := store3 b0 hB (Nat.le_refl _) (qS R) (.slice D1 (lim (qN R)).length i1) (.slice D2 (lim (R).den).length i2) n1 n2
            have HR := Lib.hid hR
            have HBF := Lib.hid hBf
            clear n1 n2 hB b0 hR hBf
            unfold St3 at *
            go_wp2_with fail
            refine bodyPost_ret (v := .tuple #[.agg #[.bool (qS R), .slice D1 (lim (qN R)).length i1, .slice D2 (lim (R).den).length i2], .int .i64 0]) ?_ rfl ?_
            · simp [results, Tryz.results36, go_sem, r0, r1, r2]
            · exact HPP.out _ _ ⟨_, rfl, HR.out, HBF.out⟩
        · obtain ⟨m, rfl⟩ : ∃ m : Nat, z = (m : Int) := ⟨z.toNat, by omega⟩
          have hm : m ≤ 30 := by omega
          have HT : Hid (∀ W, Calls Tryz.prog 76 #[.int .i64 (m : Int)] W (GivesF ((10 ^ m : Nat) : Rat) W)) := fun W => dataTen_any m W hm
          have hpw : powT Q (m : Int) = Q * ((10 ^ m : Nat) : Rat) := by unfold powT; rw [if_neg hneg]; rfl
          rw [hpw] at HPP
          have htz := sz_ten hm
          have y5 : ¬ (m : Int) < 0 := by omega
          clear hpw hneg hzb
          generalize ((10 ^ m : Nat) : Rat) = tm at *
          obtain ⟨R, hR⟩ : ∃ R, Q * tm = R := ⟨_, rfl⟩
          rw [hR] at HPP
          have HRR := Lib.hid hR
          clear hR
          go_wp2_with fail
          go_region_with
            (first
              | (have hx9 := HB9
                 go_at_call 77
                 go_fit (prMul_q _ _ Q tm 70 5 _ (HRQ.out.after HB9.out) HQ9.out (by omega) (by omega))
                 rw [HRR.out]
                 rintro e w10 ⟨v10, rfl, ⟨dn, dd, rfl, hdn, hdd⟩, hb10⟩
                 obtain ⟨D1, i1, rfl, m5⟩ := nt_len hdn
                 obtain ⟨D2, i2, rfl, m6⟩ := nt_len hdd
                 clear m5 m6
                 have c9 := HB0.out.below HB9.out HB0.out.lt
                 have c10 := c9.below hb10 c9.lt
                 have z0 := c10.free 0
                 have z1 := c10.free 1
                 have z2 := c10.free 2
                 have d0 := c10.cell 0
                 have d1 := c10.cell 1
                 have d2 := c10.cell 2
                 have C10 := Lib.hid c10
                 have hb9 := HB.out.trans (HB9.out.mono HB.out.size)
                 have HB10 := Lib.hid (hb9.trans (hb10.mono hb9.size))
                 have HDN := Lib.hid (hdn.low (show w.heap.size + 1 ≤ _ from c9.lt))
                 have HDD := Lib.hid (hdd.low (show w.heap.size + 1 ≤ _ from c9.lt))
                 clear c9 c10 hb9 hdn hdd hb10 hx9)
              | (go_at_call 76
                 go_fit (HT.out _)
                 rintro e w9 ⟨v9, rfl, ⟨cn, cd, rfl, hcn, hcd⟩, hb9⟩
                 have HB9 := Lib.hid (Below.trans ((Below.refl _ _).drew) hb9)
                 have HQ9 := Lib.hid (RQ.of ⟨_, _, rfl, hcn.low (Nat.zero_le _), hcd.low (Nat.zero_le _)⟩ htz)
                 have e9 := HBLK.out.below HB9.out HBLK.out.lt
                 have x0_9 := e9.cell 0
                 have x1_9 := e9.cell 1
                 have x2_9 := e9.cell 2
                 clear e9 hcn hcd hb9)
              | fail)
          all_goals
            obtain ⟨r0, r1, r2, hR, hBf⟩ := store3 C10.out HB10.out (Nat.le_refl _) (qS R) (.slice D1 (lim (qN R)).length i1) (.slice D2 (lim R.den).length i2) HDN.out HDD.out
            have HR := Lib.hid hR
            have HBF := Lib.hid hBf
            clear hR hBf d0 d1 d2 z0 z1 z2 C10
            unfold St3 at *
            go_wp2_with fail
            refine bodyPost_ret (v := .tuple #[.agg #[.bool (qS R), .slice D1 (lim (qN R)).length i1, .slice D2 (lim R.den).length i2], .int .i64 0]) ?_ rfl ?_
            · simp [results, Tryz.results36, go_sem, r0, r1, r2]
            · exact HPP.out _ _ ⟨_, rfl, HR.out, HBF.out⟩

theorem dnum_any (l : List Nat) (hl : Byt l) (h9 : l.length ≤ 1000000) (w : World) : Calls Tryz.prog 36 #[.string (strN l)] w (NumPost l w) := by
  by_cases h6 : 60 < l.length
  · exact dnum_long l h9 w h6
  · by_cases h1 : 101 ∈ l
    · exact dnum_exp l hl w h6 h1
    · exact dnum_plain l hl w h6 h1

end Go.Proofs.YtchokmhfgikglaaGreatDoor

namespace Go.Proofs.YtchokmhfgikglaaGreatDoor
set_option maxRecDepth 100000
open Go.RowKit Go.Shelf Go.Lib

theorem OwnB.str_any {P : Program} {w : World} {base : Nat} {e : TypeId} {v : Value} {cs : List Nat} (h : OwnB w base e v cs) (hb : Byt cs) (src dst t : TypeId) (hs : P.underlying src = some (.slice t)) (he : P.underlying t = some (.int .u8)) (hd : P.underlying dst = some .string) :
    (convert src dst v).run P w = .ok (.string (strN cs)) w := by
  by_cases hp : 0 < cs.length
  · exact h.str hp hb src dst t hs he hd
  · obtain rfl : cs = [] := List.eq_nil_of_length_eq_zero (by omega)
    obtain ⟨hl, ⟨rfl, _⟩ | ⟨g, cap, cur, rfl, hg, hc, _⟩⟩ := h
    · exact run_convert_nil_bytes w src dst t 0 hs he hd
    · exact run_convert_bytes_back (P := P) w src dst t ⟨g, 0, none⟩ cap [] hs he hd (fun j hj => absurd hj (by simp))

theorem drop_cons (l : List Nat) (k : Nat) (h : k < l.length) : l.drop k = l[k] :: l.drop (k + 1) := by
  rw [List.drop_eq_getElem_cons h]

set_option maxHeartbeats 3200000 in
theorem plain16_any (l : List Nat) (hl : Byt l) (h9 : l.length ≤ 1000000) (w : World) :
    Calls Tryz.prog 39 #[.string (strN l)] w fun e w' => e = .returned (.string (strN (plainG false l))) ∧ Below w.heap.size w w' := by
  have hPb := plainG_byt hl false
  have hs := strN_size l
  obtain ⟨R, hR⟩ : ∃ R : Nat → Bool → List Nat, ∀ k off, R k off = plainG off (l.drop k) := ⟨_, fun _ _ => rfl⟩
  have h0 : plainG false l = R 0 false := by rw [hR]; rfl
  rw [h0] at hPb ⊢
  have HN : Hid (∀ off, R l.length off = []) := fun off => by rw [hR, List.drop_length]; cases off <;> rfl
  have HS : Hid (∀ k (h : k < (strN l).size), (((strN l)[k]'h).toNat = 35 → ∀ off, R k off = R (k + 1) true) ∧ (((strN l)[k]'h).toNat = 10 → ∀ off, R k off = 10 :: R (k + 1) false) ∧
      (((strN l)[k]'h).toNat ≠ 35 → ((strN l)[k]'h).toNat ≠ 10 → R k true = R (k + 1) true ∧ R k false = ((strN l)[k]'h).toNat :: R (k + 1) false)) := fun k h => by
    have hk : k < l.length := by rw [hs] at h; exact h
    rw [strN_get l hl k h hk]
    simp only [hR, drop_cons l k hk]
    refine ⟨fun hc off => ?_, fun hc off => ?_, fun h1 h2 => ⟨?_, ?_⟩⟩
    · rw [hc]; exact plainG_hash
    · rw [hc]; exact plainG_nl
    · exact plainG_on h2
    · exact plainG_off h2 h1
  have HCV : Hid (∀ (w' : World) (v : Value), OwnB w' w.heap.size 5 v (R 0 false) → (convert 66 9 v).run Tryz.prog w' = .ok (.string (strN (R 0 false))) w') := fun w' v h =>
    h.str_any hPb 66 9 5 Tryz.underlying66 Tryz.underlying5 Tryz.underlying9
  clear hR h0 hPb hl
  rw [← hs] at h9 HN
  clear hs
  generalize strN l = t at *
  obtain ⟨i0, hi, hz0, hz1, hz2⟩ := info_parts Tryz.info8
  go_enter Tryz.func39, Tryz.ntmps39
  go_wp2_with fail
  go_loopw [3, 4, 5] (fun b o i wr => ∃ (k : Nat) (cs : List Nat) (off : Bool), k ≤ t.size ∧ o = .bool off ∧ i = .int .i64 (k : Int) ∧ OwnB wr w.heap.size 5 b cs ∧ Hid (R 0 false = cs ++ R k off) ∧ cs.length ≤ k ∧ Below w.heap.size w wr)
    (fun _ _ i _ => t.size - (RowKit.intOf i).toNat)
  case atStart => exact ⟨0, [], false, Nat.zero_le _, rfl, rfl, OwnB.nil _ _ _, rfl, Nat.le_refl _, Below.refl _ _⟩
  case round =>
    obtain ⟨k, cs, off, hk, rfl, rfl, ho, HR, hcs, hB⟩ := hrel
    by_cases hkt : k < t.size
    · have y0 : (k : Int) < (t.size : Int) := by omega
      obtain ⟨s1, s2, s3⟩ := HS.out k hkt
      have hbs : w.heap.size ≤ wr.heap.size := hB.size
      have hlen : cs.length ≤ 1000000 := by omega
      by_cases hc : (t[k]'hkt).toNat = 35
      · have y1 : ((t[k]'hkt).toNat : Int) = 35 := by omega
        have y2 : ¬ ((t[k]'hkt).toNat : Int) = 10 := by omega
        have HR2 : Hid (R 0 false = cs ++ R (k + 1) true) := by rw [← s1 hc off]; exact HR
        clear HR s1 s2 s3 hc
        go_wp2_with fail
        go_roundw
        case rel => exact ⟨k + 1, cs, true, by omega, rfl, by go_num, ho, HR2, by omega, hB⟩
        case measure => simp [RowKit.intOf]; omega
      · by_cases hc2 : (t[k]'hkt).toNat = 10
        · have y1 : ¬ ((t[k]'hkt).toNat : Int) = 35 := by omega
          have y2 : ((t[k]'hkt).toNat : Int) = 10 := by omega
          have HR2 : Hid (R 0 false = (cs ++ [10]) ++ R (k + 1) false) := by
            have e := s2 hc2 off
            have := HR.out
            rw [e] at this
            show _ = _
            rw [this, List.append_assoc]; rfl
          clear HR s1 s2 s3 hc hc2
          go_wp2_with (at_builtin; refine wpList_append_byte rfl _ _ 66 rfl w.heap.size 5 i0 Tryz.underlying66 hi hz0 hz1 hz2 _ cs rfl ho _ 10 rfl rfl hlen hbs ?_)
          intro v' w5 ho5 hb5
          have hB5 := hB.trans hb5
          clear ho hB hb5
          go_wp2_with fail
          go_roundw
          case rel => exact ⟨k + 1, cs ++ [10], false, by omega, rfl, by go_num, ho5, HR2, by simp; omega, hB5⟩
          case measure => simp [RowKit.intOf]; omega
        · have y1 : ¬ ((t[k]'hkt).toNat : Int) = 35 := by omega
          have y2 : ¬ ((t[k]'hkt).toNat : Int) = 10 := by omega
          obtain ⟨e1, e2⟩ := s3 hc hc2
          cases off with
          | true =>
            have HR2 : Hid (R 0 false = cs ++ R (k + 1) true) := by rw [← e1]; exact HR
            clear HR s1 s2 s3 hc hc2 e1 e2
            go_wp2_with fail
            go_roundw
            case rel => exact ⟨k + 1, cs, true, by omega, rfl, by go_num, ho, HR2, by omega, hB⟩
            case measure => simp [RowKit.intOf]; omega
          | false =>
            have HR2 : Hid (R 0 false = (cs ++ [(t[k]'hkt).toNat]) ++ R (k + 1) false) := by
              have := HR.out
              rw [e2] at this
              show _ = _
              rw [this, List.append_assoc]; rfl
            clear HR s1 s2 s3 hc hc2 e1 e2
            go_wp2_with (at_builtin; refine wpList_append_byte rfl _ _ 66 rfl w.heap.size 5 i0 Tryz.underlying66 hi hz0 hz1 hz2 _ cs rfl ho _ (t[k]'hkt).toNat rfl rfl hlen hbs ?_)
            intro v' w5 ho5 hb5
            have hB5 := hB.trans hb5
            clear ho hB hb5
            go_wp2_with fail
            go_roundw
            case rel => exact ⟨k + 1, cs ++ [(t[k]'hkt).toNat], false, by omega, rfl, by go_num, ho5, HR2, by simp; omega, hB5⟩
            case measure => simp [RowKit.intOf]; omega
    · obtain rfl : k = t.size := by omega
      have y0 : ¬ ((t.size : Nat) : Int) < (t.size : Int) := by omega
      have e : R 0 false = cs := by
        have := HR.out
        rw [HN.out off, List.append_nil] at this
        exact this
      rw [← e] at ho
      have hcv := HCV.out _ _ ho
      clear HS HN HR HCV ho hcs e
      go_wp2_with fail
      go_ret
      exact ⟨rfl, hB⟩

theorem num16_any (l : List Nat) (hl : Byt l) (h9 : l.length ≤ 1000000) (w : World) : Calls Tryz.prog 41 #[.string (strN l)] w (NumPost l w) := by
  by_cases h6 : 60 < l.length
  · exact num16_long l h9 w h6
  · by_cases h1 : 101 ∈ l
    · exact num16_exp l hl w h6 h1
    · exact num16_plain l hl w h6 h1

/-- A text as rationals, and what error it is. -/
def GivesRow (c : Nat) (qs : List Rat) (w : World) (e : Ending) (w' : World) : Prop :=
  (c = 0 ∧ ∃ v, e = .returned (.tuple #[v, .int .i64 0]) ∧ RowIn w' w.heap.size w'.heap.size v qs ∧ Below w.heap.size w w') ∨
  (c ≠ 0 ∧ e = .returned (.tuple #[.slice none 0 0, .int .i64 (c : Int)]) ∧ Below w.heap.size w w')

theorem strN_mid (l : List Nat) (a k : Nat) : (strN l).extract a k = strN ((l.take k).drop a) := by
  unfold strN
  rw [ByteArray.ext_iff]
  simp [ByteArray.data_extract, List.map_drop, List.map_take]
  rw [List.drop_take]

theorem rowV_more {ws : List (List Nat)} {w : List Nat} {r : List (List Nat)} {qs : List Rat} (h : rowV ws = ((rowV (w :: r)).1, qs ++ (rowV (w :: r)).2)) (hw : (numV w).2 = 0) : rowV ws = ((rowV r).1, (qs ++ [(numV w).1]) ++ (rowV r).2) := by
  rw [h, rowV_good hw, List.append_assoc]
  rfl
theorem rowV_stop {ws : List (List Nat)} {w : List Nat} {r : List (List Nat)} {qs : List Rat} (h : rowV ws = ((rowV (w :: r)).1, qs ++ (rowV (w :: r)).2)) (hw : (numV w).2 ≠ 0) : (rowV ws).1 = (numV w).2 := by
  rw [h, rowV_bad hw]

theorem take_snoc_drop (p : List Nat) (a k : Nat) (ha : a ≤ k) (hk : k < p.length) : (p.take (k + 1)).drop a = (p.take k).drop a ++ [p[k]] := by
  rw [List.take_succ_eq_append_getElem hk, List.drop_append_of_le_length (by rw [List.length_take]; omega)]

theorem Tryz.infoRat : (Tryz.prog.info? 60).map (fun i => (i.zero, i.size, i.bytes)) = some (some (.agg #[.bool false, .slice none 0 0, .slice none 0 0]), 3, 56) := by kernel_rfl

set_option maxHeartbeats 6400000 in
theorem parse16_any (l : List Nat) (hl : Byt l) (h9 : l.length ≤ 1000000) (h256 : (textV l).2.length ≤ 256) (w : World) :
    Calls Tryz.prog 21 #[.string (strN l)] w (GivesRow (textV l).1 (textV l).2 w) := by
  have HPL := Lib.hid (plain16_any l hl h9 w)
  have hpb := plainG_byt hl false
  have hpl := plainG_len false l
  obtain ⟨p, hp⟩ : ∃ p, plainG false l = p := ⟨_, rfl⟩
  rw [hp] at HPL hpb hpl
  obtain ⟨T, hT⟩ : ∃ T, textV l = T := ⟨_, rfl⟩
  have hT2 : rowV (wordsA [] p) = T := by rw [← hT, ← hp]; rfl
  rw [hT] at h256 ⊢
  have hpl9 : p.length ≤ 1000000 := by omega
  have HT := Lib.hid hT2
  have H256 := Lib.hid h256
  clear hp hT hT2 hpl h9 hl h256
  have hs := strN_size p
  have HX : Hid (∀ a k, (strN p).extract a k = strN ((p.take k).drop a)) := fun a k => strN_mid p a k
  have HN : Hid (∀ a k W, Calls Tryz.prog 41 #[.string (strN ((p.take k).drop a))] W (NumPost ((p.take k).drop a) W)) := fun a k W =>
    num16_any _ (fun x hx => hpb x ((List.take_sublist _ _).subset ((List.drop_sublist _ _).subset hx))) (by rw [List.length_drop, List.length_take]; omega) W
  have HGP : Hid (∀ (c : Nat) W, Calls Tryz.prog 40 #[.int .u8 (c : Int)] W fun e w' => e = .returned (.bool (isG c)) ∧ W = w') := fun c W => gap16_any c W
  have HGET : Hid (∀ k (h : k < (strN p).size), ∃ h' : k < p.length, ((strN p)[k]'h).toNat = p[k]) := fun k h => ⟨by rw [hs] at h; exact h, strN_get p hpb k h _⟩
  have HSZ := Lib.hid hs
  have hts : (strN p).size ≤ 1000000 := by rw [hs]; exact hpl9
  clear hpb hs hpl9
  generalize strN p = t at *
  obtain ⟨i0, hi, hz0, hz1, hz2⟩ := info_parts Tryz.infoRat
  go_enter Tryz.func21, Tryz.ntmps21
  go_wp2_with fail
  go_fit HPL.out
  rintro e w2 ⟨rfl, hB0⟩
  clear HPL
  go_wp2_with fail
  go_loopw [4, 5, 6] (fun v f i wr => ∃ (k : Nat) (qs : List Rat) (cur : List Nat) (fr : Int), k ≤ t.size + 1 ∧ f = .int .i64 fr ∧ i = .int .i64 (k : Int) ∧ (fr = -1 ∧ cur = [] ∨ ∃ a : Nat, fr = (a : Int) ∧ a < k ∧ k ≤ t.size ∧ cur = (p.take k).drop a) ∧
      OwnR wr w.heap.size 60 v qs ∧ qs.length ≤ k ∧ Hid (rowV (wordsA [] p) = ((rowV (wordsA cur (p.drop k))).1, qs ++ (rowV (wordsA cur (p.drop k))).2)) ∧ Below w.heap.size w wr)
    (fun _ _ i _ => t.size + 2 - (RowKit.intOf i).toNat)
  case atStart => exact ⟨0, [], [], -1, Nat.zero_le _, rfl, rfl, Or.inl ⟨rfl, rfl⟩, OwnR.nil _ _ _, Nat.zero_le _, rfl, hB0⟩
  case round =>
    obtain ⟨k, qs, cur, fr, hk, rfl, rfl, hfr, hown, hql, HR, hB⟩ := hrel
    by_cases hkn : k ≤ t.size
    · have y0 : (k : Int) ≤ (t.size : Int) := by omega
      have hcase : (∃ h : k < t.size, isG (t[k]'h).toNat = false ∧ ((t[k]'h).toNat = p[k]'(by rw [← HSZ.out]; exact h))) ∨ ((k = t.size ∨ ∃ h : k < t.size, isG (t[k]'h).toNat = true) ∧ (cur ≠ [] → wordsA cur (p.drop k) = cur :: wordsA [] (p.drop (k + 1))) ∧ wordsA [] (p.drop k) = wordsA [] (p.drop (k + 1))) := by
        by_cases h : k < t.size
        · obtain ⟨h', hg⟩ := HGET.out k h
          cases hc : isG (t[k]'h).toNat with
          | false => exact Or.inl ⟨h, hc, hg⟩
          | true =>
            refine Or.inr ⟨Or.inr ⟨h, hc⟩, fun hne => ?_, ?_⟩
            · rw [drop_cons p k h', wordsA_stop hne (by rw [← hg]; exact hc)]
            · rw [drop_cons p k h', wordsA_gap (by rw [← hg]; exact hc)]
        · have hk' : p.length ≤ k := by rw [← HSZ.out]; omega
          refine Or.inr ⟨Or.inl (by omega), fun hne => ?_, ?_⟩
          · rw [List.drop_of_length_le hk', List.drop_of_length_le (by omega), wordsA_end hne, wordsA_nil]
          · rw [List.drop_of_length_le hk', List.drop_of_length_le (by omega)]
      rcases hcase with ⟨hlt, hng, hpk⟩ | ⟨hend, hw1, hw2⟩
      · have y1 : (k : Int) < (t.size : Int) := by omega
        have hpl : k < p.length := by rw [← HSZ.out]; exact hlt
        have hstep : wordsA cur (p.drop k) = wordsA (cur ++ [p[k]]) (p.drop (k + 1)) := by
          rw [drop_cons p k hpl, wordsA_more (by rw [← hpk]; exact hng)]
        have HR2 : Hid (rowV (wordsA [] p) = ((rowV (wordsA (cur ++ [p[k]]) (p.drop (k + 1)))).1, qs ++ (rowV (wordsA (cur ++ [p[k]]) (p.drop (k + 1)))).2)) := by rw [← hstep]; exact HR
        have hgp := HGP.out (t[k]'hlt).toNat
        rw [hng] at hgp
        have HGC := Lib.hid hgp
        rcases hfr with ⟨rfl, rfl⟩ | ⟨a, rfl, hak, hkt, hcur⟩
        · have HC2 : Hid ([] ++ [p[k]] = (p.take (k + 1)).drop k) := by
            show _ = _
            rw [take_snoc_drop p k k (Nat.le_refl _) hpl, List.drop_of_length_le (by rw [List.length_take]; omega)]
          clear HR hstep hng hpk hgp
          go_wp2_with fail
          go_fit (HGC.out _)
          rintro e w' ⟨rfl, rfl⟩
          go_wp2_with fail
          go_roundw
          case rel => exact ⟨k + 1, qs, [] ++ [p[k]], k, by omega, rfl, by go_num, Or.inr ⟨k, rfl, by omega, by omega, HC2.out⟩, hown, by omega, HR2, hB⟩
          case measure => simp [RowKit.intOf]; omega
        · have HC2 : Hid (cur ++ [p[k]] = (p.take (k + 1)).drop a) := by
            show _ = _
            rw [take_snoc_drop p a k (by omega) hpl, hcur]
          have y3 : ¬ (a : Int) < 0 := by omega
          clear HR hstep hng hpk hgp hcur
          go_wp2_with fail
          go_fit (HGC.out _)
          rintro e w' ⟨rfl, rfl⟩
          go_wp2_with fail
          go_roundw
          case rel => exact ⟨k + 1, qs, cur ++ [p[k]], a, by omega, rfl, by go_num, Or.inr ⟨a, rfl, by omega, by omega, HC2.out⟩, hown, by omega, HR2, hB⟩
          case measure => simp [RowKit.intOf]; omega
      · rcases hfr with ⟨rfl, rfl⟩ | ⟨a, rfl, hak, hkt, hcur⟩
        · have HR3 : Hid (rowV (wordsA [] p) = ((rowV (wordsA [] (p.drop (k + 1)))).1, qs ++ (rowV (wordsA [] (p.drop (k + 1)))).2)) := by rw [← hw2]; exact HR
          clear HR hw1 hw2
          rcases hend with hke | ⟨hlt, hg⟩
          · have y1 : ¬ (k : Int) < (t.size : Int) := by omega
            clear hke
            go_wp2_with fail
            go_roundw
            case rel => exact ⟨k + 1, qs, [], -1, by omega, rfl, by go_num, Or.inl ⟨rfl, rfl⟩, hown, by omega, HR3, hB⟩
            case measure => simp [RowKit.intOf]; omega
          · have y1 : (k : Int) < (t.size : Int) := by omega
            have hgp := HGP.out (t[k]'hlt).toNat
            rw [hg] at hgp
            have HGC := Lib.hid hgp
            clear hgp hg
            go_wp2_with fail
            go_fit (HGC.out _)
            rintro e w' ⟨rfl, rfl⟩
            go_wp2_with fail
            go_roundw
            case rel => exact ⟨k + 1, qs, [], -1, by omega, rfl, by go_num, Or.inl ⟨rfl, rfl⟩, hown, by omega, HR3, hB⟩
            case measure => simp [RowKit.intOf]; omega
        · have hcne : cur ≠ [] := fun hc => by
            have h1 := congrArg List.length (hcur.symm.trans hc)
            rw [List.length_drop, List.length_take, ← HSZ.out, List.length_nil] at h1
            omega
          have HR3 : Hid (rowV (wordsA [] p) = ((rowV (cur :: wordsA [] (p.drop (k + 1)))).1, qs ++ (rowV (cur :: wordsA [] (p.drop (k + 1)))).2)) := by rw [← hw1 hcne]; exact HR
          have HNC : Hid (∀ W, Calls Tryz.prog 41 #[.string (strN cur)] W (NumPost cur W)) := fun W => by rw [hcur]; exact HN.out a k W
          have xe : t.extract a k = strN cur := by rw [HX.out a k, hcur]
          have y2 : ¬ (a : Int) < 0 := by omega
          have y3 : (a : Int) ≤ (k : Int) := by omega
          clear HR hw1 hw2 hcne hcur HN HX
          rcases hend with hke | ⟨hlt, hg⟩
          case' inl =>
            have y1 : ¬ (k : Int) < (t.size : Int) := by omega
            clear hke
            go_wp2_with fail
            go_fit (HNC.out _)
          case' inr =>
            have y1 : (k : Int) < (t.size : Int) := by omega
            have hgp := HGP.out (t[k]'hlt).toNat
            rw [hg] at hgp
            have HGC := Lib.hid hgp
            clear hgp hg
            go_wp2_with fail
            go_fit (HGC.out _)
            rintro e w' ⟨rfl, rfl⟩
            go_wp2_with fail
            go_fit (HNC.out _)
          all_goals
            clear xe
            rintro e w5 hp
            rcases hp with ⟨hz, v5, rfl, ⟨bn, bd, rfl, hbn, hbd⟩, hb5⟩ | ⟨hz, s, F1, n1, l1, F2, n2, l2, rfl, hb5⟩
            · obtain ⟨F1, l1, rfl, m1⟩ := nt_len hbn
              obtain ⟨F2, l2, rfl, m2⟩ := nt_len hbd
              have HR4 := Lib.hid (rowV_more HR3.out hz)
              clear HR3 hz
              generalize (numV cur).1 = q at *
              have hbm : Below w5.heap.size w5 (w5.alloc (.cells #[.bool (qS q), .slice F1 (lim (qN q)).length l1, .slice F2 (lim q.den).length l2] 60)) := (Below.refl _ _).alloc (Nat.le_refl _) _
              have b6 := Blk.new w5 60 #[.bool (qS q), .slice F1 (lim (qN q)).length l1, .slice F2 (lim q.den).length l2]
              have x0 := b6.cell 0
              have x1 := b6.cell 1
              have x2 := b6.cell 2
              have n1 := hbn.after hbm
              have n2 := hbd.after hbm
              have hvL := hown.lt
              have HVL : Hid (∀ g, u4.ownBlock = some g → g < wr.heap.size) := fun g hg => (hvL g hg).2
              have hown5 := (hown.after hb5).after hbm
              have hB5 := (hB.trans (hb5.mono hB.size)).trans (hbm.mono (Nat.le_trans hB.size hb5.size))
              have hL1 : w.heap.size ≤ wr.heap.size := hB.size
              have HLEN : Hid (qs.length ≤ 1000000) := by show _ ≤ _; omega
              have HN1 := Lib.hid n1
              have HN2 := Lib.hid n2
              have HOW := Lib.hid hown5
              have HB5 := Lib.hid hB5
              have HBS := Lib.hid hB5.size
              clear hbn hbd m1 m2 b6 hvL hown hb5 hB hbm n1 n2 hown5 hB5
              go_wp2_with (at_builtin; refine wpList_append_rat rfl _ _ 35 rfl w.heap.size 60 i0 _ Tryz.underlying35 hi hz0 hz1 hz2 rfl u4 qs rfl HOW.out q F1 F2 l1 l2 wr.heap.size hL1 HVL.out HN1.out HN2.out (by rw [World.size_alloc]; rfl) HLEN.out HBS.out ?_)
              intro v7 w7 ho7 hb7 hs7
              have hB7 := HB5.out.trans hb7
              clear HOW HN1 HN2 HVL HB5 HBS hb7 hs7 x0 x1 x2
              go_wp2_with fail
              go_roundw
              case rel => exact ⟨k + 1, qs ++ [q], [], -1, by omega, rfl, by go_num, Or.inl ⟨rfl, rfl⟩, ho7, by simp; omega, HR4, hB7⟩
              case measure => simp [RowKit.intOf]; omega
            · have HST := Lib.hid (rowV_stop HR3.out hz)
              have hB5 := hB.trans (hb5.mono hB.size)
              have HC0 := Lib.hid hz
              have z1 : (((numV cur).2 : Int) == 0) = false := beq_eq_false_iff_ne.2 (by omega)
              have z2 : ¬ ((numV cur).2 : Int) = 0 := by omega
              have hB6 := hB5.alloc hB5.size (.cells #[.bool s, .slice F1 n1 l1, .slice F2 n2 l2] 60)
              clear hz hB hb5 hown hB5 HR3
              generalize (numV cur).2 = c at *
              go_wp2_with fail
              go_ret2
              have hT1 : T.1 = c := by rw [← HT.out]; exact HST.out
              exact Or.inr ⟨by rw [hT1]; exact HC0.out, by rw [hT1]; rfl, hB6⟩
    · obtain rfl : k = t.size + 1 := by omega
      rcases hfr with ⟨rfl, rfl⟩ | ⟨a, rfl, hak, hkt, hcur⟩
      · have y0 : ¬ ((t.size + 1 : Nat) : Int) ≤ (t.size : Int) := by omega
        have hT : T = (0, qs) := by
          rw [← HT.out, HR.out, List.drop_of_length_le (by rw [← HSZ.out]; omega), wordsA_nil]
          simp [rowV]
        obtain rfl := hT
        have hrow := hown.row
        obtain ⟨A, c, rfl, hc1, hc2, hc3, hc4⟩ := hrow
        have h256 := H256.out
        have y1 : ¬ (256 : Int) < (qs.length : Int) := by
          have h : qs.length ≤ 256 := h256
          omega
        have HRW := Lib.hid hown.row
        clear HT HR H256 h256 hown hc1 hc2 hc3 hc4
        go_wp2_with fail
        go_ret2
        exact Or.inl ⟨rfl, _, rfl, HRW.out, hB⟩
      · omega
end Go.Proofs.YtchokmhfgikglaaGreatDoor

namespace Go.Proofs.YtchokmhfgikglaaGreatDoor
set_option maxRecDepth 100000
open Go.RowKit Go.Shelf Go.Lib

/-- The library's variable of lengths holds a number. -/
def MaxAt (w : World) : Prop := ∃ m : Int, w.cell? ⟨0, 0, none⟩ = some (.int .i64 m)
theorem MaxAt.below {w w' : World} (h : MaxAt w) (hb : Below w.heap.size w w') : MaxAt w' := by
  obtain ⟨m, hm⟩ := h
  exact ⟨m, (hb.cell (World.block_lt_of_cell? _ _ hm)).trans hm⟩

/-- The first lines cut, the others as they stand. -/
def mixL (ls : List (List Nat)) (k : Nat) : List (List Nat) := (ls.take k).map cutG ++ ls.drop k
theorem mixL_zero (ls : List (List Nat)) : mixL ls 0 = ls := by unfold mixL; simp
theorem mixL_end (ls : List (List Nat)) : mixL ls ls.length = ls.map cutG := by unfold mixL; simp
theorem mixL_len (ls : List (List Nat)) (k : Nat) : (mixL ls k).length = ls.length := by
  unfold mixL
  rw [List.length_append, List.length_map, List.length_take, List.length_drop]
  omega
theorem mixL_get {ls : List (List Nat)} {k : Nat} (h : k < ls.length) : (mixL ls k)[k]? = some ls[k] := by
  unfold mixL
  rw [List.getElem?_append_right (by rw [List.length_map, List.length_take]; omega), List.length_map, List.length_take, List.getElem?_drop, Nat.min_eq_left (by omega), Nat.sub_self, Nat.add_zero, List.getElem?_eq_getElem h]
theorem mixL_set {ls : List (List Nat)} {k : Nat} (h : k < ls.length) : (mixL ls k).set k (cutG ls[k]) = mixL ls (k + 1) := by
  unfold mixL
  rw [List.set_append_right _ _ (by rw [List.length_map, List.length_take]; omega), List.length_map, List.length_take, Nat.min_eq_left (by omega), Nat.sub_self, List.drop_eq_getElem_cons h, List.set_cons_zero, List.take_succ_eq_append_getElem h, List.map_append]
  simp

/-- Lines as cells. -/
def cellsL (ls : List (List Nat)) : Array Value := ((ls.map strN).map Value.string).toArray
theorem cellsL_get {ls : List (List Nat)} {k : Nat} {x : List Nat} (h : ls[k]? = some x) : (cellsL ls)[k]? = some (.string (strN x)) := by
  unfold cellsL
  rw [List.getElem?_toArray, List.getElem?_map, List.getElem?_map, h]
  rfl
theorem cellsL_set (ls : List (List Nat)) (k : Nat) (x : List Nat) : (cellsL ls).setIfInBounds k (.string (strN x)) = cellsL (ls.set k x) := by
  unfold cellsL
  rw [List.setIfInBounds_toArray, List.map_set, List.map_set]
theorem cellsL_size (ls : List (List Nat)) : (cellsL ls).size = ls.length := by unfold cellsL; simp

set_option maxHeartbeats 3200000 in
theorem dataPlain_any (l : List Nat) (hl : Byt l) (h9 : l.length ≤ 1000000) (w : World) (hm : MaxAt w) :
    Calls Tryz.prog 34 #[.string (strN l)] w fun e w' => e = .returned (.string (strN (plainG false l))) ∧ Below w.heap.size w w' := by
  obtain ⟨m, hm⟩ := hm
  have HSP : Hid (Calls Tryz.prog 68 #[.string (strN l), .string ⟨#[10]⟩] w fun e w' => e = .returned (.slice (some ⟨w.heap.size, 0, none⟩) (linesG l).length (linesG l).length) ∧ w' = w.alloc (.cells (cellsL (linesG l)) 9)) := by
    have h := Any.strings_Split Tryz.lays146 (by kernel_rfl) (strN l) ⟨#[10]⟩ m w (by rw [strN_size]; omega) hm (by decide)
    rw [splitB_lines hl, countB_lines hl] at h
    exact h
  have hln := linesG_len l
  have hls := linesG_size l
  have hlb := linesG_byt hl
  have hne := linesG_ne l
  have hj := join_lines ((linesG l).map cutG) (by simpa using hne)
  rw [plainG_of_lines] at hj
  have hpl := plainG_len false l
  have hpb := plainG_byt hl false
  generalize linesG l = ls at *
  generalize plainG false l = pl at *
  have HJ := Lib.hid hj
  have HCUT : Hid (∀ k (h : k < ls.length) W, Calls Tryz.prog 69 #[.string (strN ls[k]), .string ⟨#[35]⟩] W fun e w' => (∃ u b, e = .returned (.tuple #[.string (strN (cutG ls[k])), .string u, .bool b])) ∧ Below W.heap.size W w') := fun k h W =>
    (cut_any ls[k] (hlb _ (List.getElem_mem _)) 35 (by omega) (Nat.le_trans (hls _ (List.getElem_mem _)) h9) W).mono fun e w' ⟨h1, h2⟩ => ⟨⟨_, _, h1⟩, h2⟩
  have hn9 : ls.length ≤ 1000001 := by omega
  have hpl9 : pl.length ≤ 1000000 := by omega
  clear hj hlb hls hl hm hne hpb hln hpl h9
  generalize strN l = t at *
  go_enter Tryz.func34, Tryz.ntmps34
  go_wp2_with fail
  go_fit HSP.out
  rintro e w2 ⟨rfl, hw2⟩
  have hb2 : Blk w2 w.heap.size 9 (cellsL (mixL ls 0)) := by rw [mixL_zero, hw2]; exact Blk.new _ _ _
  have hB2 : Below w.heap.size w w2 := by rw [hw2]; exact (Below.refl _ _).alloc (Nat.le_refl _) _
  clear hw2 HSP
  go_wp2_with fail
  go_loopw [10] (fun i wr => ∃ k : Nat, k ≤ ls.length ∧ i = .int .i64 (k : Int) ∧ Blk wr w.heap.size 9 (cellsL (mixL ls k)) ∧ Below w.heap.size w wr) (fun i _ => ls.length - (RowKit.intOf i).toNat)
  case atStart => exact ⟨0, Nat.zero_le _, rfl, hb2, hB2⟩
  case round =>
    clear hb2 hB2
    obtain ⟨k, hk, rfl, hb, hB⟩ := hrel
    by_cases hkn : k < ls.length
    · have y0 : (k : Int) < (ls.length : Int) := by omega
      have x0 := hb.cell k
      rw [cellsL_get (mixL_get hkn)] at x0
      have HC2 := Lib.hid (HCUT.out k hkn)
      have HX : Hid (∀ W : World, Blk W w.heap.size 9 (cellsL (mixL ls k)) → Blk (W.setCell ⟨w.heap.size, k, none⟩ (.string (strN (cutG ls[k])))) w.heap.size 9 (cellsL (mixL ls (k + 1)))) := fun W h => by
        have := h.put k (.string (strN (cutG ls[k])))
        rw [cellsL_set, mixL_set hkn] at this
        exact this
      have HB := Lib.hid hb
      generalize ls[k] = x at *
      clear hb
      go_wp2_with fail
      go_fit (HC2.out _)
      rintro e w5 ⟨⟨u5, b5, rfl⟩, hb5⟩
      have h5 := HB.out.below hb5 HB.out.lt
      have z0 := h5.free k
      have x5 := h5.cell k
      have hs5 : k < (cellsL (mixL ls k)).size := by rw [cellsL_size, mixL_len]; exact hkn
      rw [Array.getElem?_eq_getElem hs5] at x5
      have H6 := Lib.hid (HX.out _ h5)
      have hB6 := (hB.trans (hb5.mono hB.size)).setCell (p := ⟨w.heap.size, k, none⟩) (Nat.le_refl _) (.string (strN (cutG x)))
      have HB6 := Lib.hid hB6
      clear h5 HB HX hb5 hB HC2 hB6 x0
      generalize (cellsL (mixL ls k))[k] = old at *
      go_wp2_with fail
      go_roundw
      case rel => exact ⟨k + 1, by omega, by go_num, H6.out, HB6.out⟩
      case measure => simp [RowKit.intOf]; omega
    · obtain rfl : k = ls.length := by omega
      have y0 : ¬ ((ls.length : Nat) : Int) < (ls.length : Int) := by omega
      rw [mixL_end] at hb
      have HJN : Hid (Calls Tryz.prog 27 #[.slice (some ⟨w.heap.size, 0, none⟩) ls.length ls.length, .string ⟨#[10]⟩] wr fun e w' => e = .returned (.string (strN pl)) ∧ Below wr.heap.size wr w') := by
        have hlen : (Lib.join (((ls.map cutG).map strN).map (·.data.toList)) (ByteArray.mk #[10]).data.toList).length = pl.length := by
          have := congrArg ByteArray.size HJ.out
          rw [strN_size] at this
          rw [← this]
          simp [ByteArray.size]
        have h := Any.strings_Join Tryz.lays156 Tryz.Builder_Extra_156 w.heap.size 0 ls.length ((ls.map cutG).map strN) ⟨#[10]⟩ wr (fun j x hj => by
          rw [Nat.zero_add, hb.cell j]
          unfold cellsL
          rw [List.getElem?_toArray, List.getElem?_map, hj]
          rfl) hb.lt (by simp; omega) (by simp) (by rw [hlen]; omega)
        rw [HJ.out] at h
        simp only [List.length_map] at h
        exact h
      clear hb HJ HCUT
      go_wp2_with fail
      go_fit HJN.out
      rintro e w7 ⟨rfl, hb7⟩
      go_wp2_with fail
      go_ret
      exact ⟨rfl, hB.trans (hb7.mono hB.size)⟩
end Go.Proofs.YtchokmhfgikglaaGreatDoor
