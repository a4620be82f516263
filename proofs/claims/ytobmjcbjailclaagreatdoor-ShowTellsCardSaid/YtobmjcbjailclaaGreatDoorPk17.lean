/- Several texts in one: RefParseNo, TextC, StrAdd, DecC, CutC, RefRun, ShowDec. Condition: each says its own. -/
import Derived.Laws.Concat
import Derived.Shelf.Strings.Search2
import Derived.Shelf.Small.Wraps
import Derived.Test.YtobmjcbjailclaaGreatDoorPk2
import Derived.Test.YtobmjcbjailclaaGreatDoorPk5
import Derived.Test.YtobmjcbjailclaaGreatDoorPk8
import Derived.Test.YtobmjcbjailclaaGreatDoorPk9
import Derived.Test.YtobmjcbjailclaaGreatDoorPk11
import Derived.Test.YtobmjcbjailclaaGreatDoorPk13
import Derived.Test.YtobmjcbjailclaaGreatDoorPk16
/- The reference's 'Parse' of texts that are no digits, or too many. Condition: none. -/
namespace Go.Proofs.YtobmjcbjailclaaGreatDoor
set_option maxRecDepth 100000
open Go.RowKit Go.Shelf Go.Lib

theorem undec_len2 (s : ByteArray) (k : Nat) (h4 : s.size ≤ 400) (hg : ∀ x ∈ (byts s).take k, 48 ≤ x ∧ x ≤ 57) : (lim (undec (((byts s).take k).map (· - 48)))).length ≤ 400 := by
  have hl : (((byts s).take k).map (· - 48)).length ≤ 400 := by rw [List.length_map, List.length_take, byts_length]; omega
  have h1 : undec (((byts s).take k).map (· - 48)) < 10 ^ (((byts s).take k).map (· - 48)).length := undec_lt fun x hx => by
    obtain ⟨y, hy, rfl⟩ := List.mem_map.1 hx
    have := hg y hy
    omega
  exact lim_ten h1 hl

set_option maxHeartbeats 3200000 in
theorem refParse_bad (s : ByteArray) (w : World) (h1 : 1 ≤ s.size) (h4 : s.size ≤ 400) (hbad : ∃ x ∈ byts s, ¬ (48 ≤ x ∧ x ≤ 57)) :
    Calls Tryz.prog 33 #[.string s] w (GivesB [] false w) := by
  have hsm : decide ((s.size : Int) < 1) = false := decide_eq_false (by omega)
  have hbig : decide ((400 : Int) < (s.size : Int)) = false := decide_eq_false (by omega)
  have HBAD := Lib.hid hbad
  clear hbad
  go_enter Tryz.func33, Tryz.ntmps33
  have hb : Below w.heap.size w w := Below.refl _ _
  go_wp2_with fail
  go_loopw [4, 5] (fun a i wr => ∃ k : Nat, k ≤ s.size ∧ i = .int .i64 (k : Int) ∧ Nt wr w.heap.size wr.heap.size a (lim (undec (((byts s).take k).map (· - 48)))) ∧ Hid (∀ x ∈ (byts s).take k, 48 ≤ x ∧ x ≤ 57) ∧ Below w.heap.size w wr) (fun _ i _ => s.size - (RowKit.intOf i).toNat)
  case atStart => exact ⟨0, Nat.zero_le _, rfl, by rw [List.take_zero, List.map_nil, show undec [] = 0 from rfl, lim_zero]; exact Nt.nil _ _ _, Lib.hid (fun x hx => by rw [List.take_zero] at hx; cases hx), hb⟩
  case round =>
    obtain ⟨k, hk, rfl, ha, HG, hB⟩ := hrel
    have hll := undec_len2 s k h4 HG.out
    by_cases hlt : k < s.size
    · have HU := Lib.hid (undec_take s k hlt)
      have hkI : (k : Int) < (s.size : Int) := by omega
      by_cases hdg : ¬ (48 ≤ (s[k]'hlt).toNat ∧ (s[k]'hlt).toNat ≤ 57)
      · have hor : ((s[k].toNat : Nat) : Int) < 48 ∨ (57 : Int) < ((s[k].toNat : Nat) : Int) := by omega
        clear hdg HU ha
        rcases hor with h | h
        · go_wp2_with fail
          go_ret2
          exact ⟨_, rfl, Nt.nil _ _ _, hB⟩
        · have h2 : ¬ ((s[k].toNat : Nat) : Int) < 48 := by omega
          go_wp2_with fail
          go_ret2
          exact ⟨_, rfl, Nt.nil _ _ _, hB⟩
      replace hdg := Decidable.not_not.1 hdg
      have HG2 : Hid (∀ x ∈ (byts s).take (k + 1), 48 ≤ x ∧ x ≤ 57) := fun x hx => by
        have h1 : k < (byts s).length := by rw [byts_length]; exact hlt
        rw [List.take_add_one, List.getElem?_eq_getElem h1, Option.toList_some, List.mem_append, List.mem_singleton] at hx
        rcases hx with hx | rfl
        · exact HG.out x hx
        · rw [byts_get s k hlt]; exact hdg
      generalize undec (((byts s).take k).map (· - 48)) = m at *
      have ten : Hid (∀ W : World, Nt (W.alloc (.cells #[.int .u32 10] 43)) 0 (W.alloc (.cells #[.int .u32 10] 43)).heap.size (.slice (some ⟨W.heap.size, 0, none⟩) 1 1) [10]) := fun W => (nt_laid W 43 [10] (by simp)).1
      obtain ⟨d, hd⟩ : ∃ d, s[k].toNat = 48 + d := ⟨s[k].toNat - 48, by omega⟩
      have hd9 : d < 10 := by omega
      have hdI : ((s[k].toNat : Nat) : Int) = 48 + (d : Int) := by omega
      have hu : IntKind.u8.wrap (d : Int) = (d : Int) := by unfold IntKind.wrap; simp [IntKind.bits, IntKind.signed]; omega
      have hsb : (48 : Int) + (d : Int) - 48 = (d : Int) := by omega
      have hu32 : IntKind.u32.wrap (d : Int) = (d : Int) := by unfold IntKind.wrap; simp [IntKind.bits, IntKind.signed]; omega
      rw [hd, Nat.add_sub_cancel_left] at HU
      have HA : Hid (∀ o, Nt (wr.alloc o) 0 (wr.alloc o).heap.size u4 (lim m)) := fun o => ((ha.low (Nat.zero_le _)).alloc (Nat.le_refl _) o).up (by simp)
      have DL := Lib.hid (dig_lim m)
      have D10 : Dig [10] := by intro x hx; simp at hx; omega
      have VM : Hid (val (lim m) = m) := val_lim m
      have dl : Hid (∀ W : World, Nt (W.alloc (.cells #[.int .u32 (d : Int)] 43)) 0 (W.alloc (.cells #[.int .u32 (d : Int)] 43)).heap.size (.slice (some ⟨W.heap.size, 0, none⟩) 1 1) [d]) := fun W => (nt_laid W 43 [d] (by simp)).1
      have DD : Dig [d] := by intro x hx; simp at hx; omega
      have hnx : Hid ((lim (undec (((byts s).take (k + 1)).map (· - 48)))).length ≤ 400) := undec_len2 s (k + 1) h4 HG2.out
      have HL3 : Hid ((lim (val (lim m) * val [10])).length ≤ 100000) := by
        show _ ≤ _
        exact Nat.le_trans (lim_mul_len DL.out D10 rfl rfl hll (by simp : [10].length ≤ 1)) (by omega)
      have HV5 : Hid (val (lim (val (lim m) * val [10])) + val [d] = undec (((byts s).take (k + 1)).map (· - 48))) := by
        show _ = _
        rw [val_lim, val_lim, HU.out]
        simp [val]
      have HZ : ∀ o : Obj, (wr.alloc o).heap.size = wr.heap.size + 1 := fun o => by simp
      have HA1 : Hid (∀ o, Nt (wr.alloc o).drew 0 (wr.alloc o).drew.heap.size u4 (lim m)) := fun o => HA.out o
      have HA2 : Hid (∀ o o', Nt ((wr.alloc o).alloc o').drew 0 ((wr.alloc o).alloc o').drew.heap.size u4 (lim m)) := fun o o' => ((HA.out o).alloc (Nat.le_refl _) o').up (by simp)
      have T1 : Hid (∀ W : World, Nt (W.alloc (.cells #[.int .u32 10] 43)).drew 0 (W.alloc (.cells #[.int .u32 10] 43)).drew.heap.size (.slice (some ⟨W.heap.size, 0, none⟩) 1 1) [10]) := fun W => ten.out W
      have T2 : Hid (∀ o, Nt ((wr.alloc (.cells #[.int .u32 10] 43)).alloc o).drew 0 ((wr.alloc (.cells #[.int .u32 10] 43)).alloc o).drew.heap.size (.slice (some ⟨wr.heap.size, 0, none⟩) 1 1) [10]) := fun o => ((ten.out wr).alloc (Nat.le_refl _) o).up (by simp)
      have D3 : Hid (∀ o, Nt ((wr.alloc (.cells #[.int .u32 (d : Int)] 43)).alloc o).drew 0 ((wr.alloc (.cells #[.int .u32 (d : Int)] 43)).alloc o).drew.heap.size (.slice (some ⟨wr.heap.size, 0, none⟩) 1 1) [d]) := fun o => ((dl.out wr).alloc (Nat.le_refl _) o).up (by simp)
      have T3 : Hid (∀ o, Nt ((wr.alloc o).alloc (.cells #[.int .u32 10] 43)).drew 0 ((wr.alloc o).alloc (.cells #[.int .u32 10] 43)).drew.heap.size (.slice (some ⟨wr.heap.size + 1, 0, none⟩) 1 1) [10]) := fun o => by have h := ten.out (wr.alloc o); rw [HZ o] at h; exact h
      have D2 : Hid (∀ o, Nt ((wr.alloc o).alloc (.cells #[.int .u32 (d : Int)] 43)).drew 0 ((wr.alloc o).alloc (.cells #[.int .u32 (d : Int)] 43)).drew.heap.size (.slice (some ⟨wr.heap.size + 1, 0, none⟩) 1 1) [d]) := fun o => by have h := dl.out (wr.alloc o); rw [HZ o] at h; exact h
      have HBB : Hid (∀ o o', Below wr.heap.size wr ((wr.alloc o).alloc o').drew) := fun o o' => Below.drew (Below.alloc (Below.alloc (Below.refl _ _) (Nat.le_refl _) _) (by simp) _)
      have HB1 : Hid (∀ o, Below wr.heap.size wr (wr.alloc o).drew) := fun o => Below.drew (Below.alloc (Below.refl _ _) (Nat.le_refl _) _)
      clear HZ
      have HLM : Hid ((lim m).length ≤ 100000) := Nat.le_trans hll (by omega)
      have H1 : Hid ([10].length ≤ 100000) := by show 1 ≤ _; omega
      have HD1 : Hid ([d].length ≤ 100000) := by show 1 ≤ _; omega
      clear hd hdg ha
      go_wp2_with fail
      go_region_held3 (fun W => Below wr.heap.size wr W)
        (with_reducible (first | assumption | exact Below.drew (Below.refl _ _) | exact HB1.out _ | exact HBB.out _ _ | exact Below.alloc hbk hbk.size _))
        (first
          | (go_at_call 36; go_fit (refMul_any _ _ (lim m) [10] _ DL.out D10 (HA2.out _ _) (T2.out _) HLM.out H1.out); rintro e3 w3 ⟨v3, rfl, h3, hb3⟩; have h4 := (D2.out _).after hb3; have hbk : Below wr.heap.size wr w3 := Below.trans (HBB.out _ _) (hb3.mono (HBB.out _ _).size))
          | (go_at_call 36; go_fit (refMul_any _ _ (lim m) [10] _ DL.out D10 (HA2.out _ _) (T3.out _) HLM.out H1.out); rintro e3 w3 ⟨v3, rfl, h3, hb3⟩; have h4 := (D3.out _).after hb3; have hbk : Below wr.heap.size wr w3 := Below.trans (HBB.out _ _) (hb3.mono (HBB.out _ _).size))
          | (go_at_call 36; go_fit (refMul_any _ _ (lim m) [10] _ DL.out D10 (HA1.out _) (T1.out _) HLM.out H1.out); rintro e3 w3 ⟨v3, rfl, h3, hb3⟩; have hbk : Below wr.heap.size wr w3 := Below.trans (HB1.out _) (hb3.mono (HB1.out _).size))
          | (go_at_call 35; go_fit (refAdd_any _ _ _ _ _ (dig_lim _) DD (h3.low (Nat.zero_le _)) h4 HL3.out HD1.out); rintro e5 w5 ⟨v5, rfl, h5, hb5⟩; have hbk4 : Below wr.heap.size wr w3 := hbk; have hbk5 : Below wr.heap.size wr w5 := hbk4.trans (hb5.mono hbk4.size))
          | (go_at_call 35; have hh := Nt.up (B' := (w3.alloc (.cells #[.int .u32 (d : Int)] 43)).heap.size) ((h3.low (Nat.zero_le _)).alloc (Nat.le_refl _) (.cells #[.int .u32 (d : Int)] 43)) (by simp); go_fit (refAdd_any _ _ _ _ _ (dig_lim _) DD hh (dl.out _) HL3.out HD1.out); rintro e5 w5 ⟨v5, rfl, h5, hb5⟩; have hbk4 : Below wr.heap.size wr (w3.alloc (.cells #[.int .u32 (d : Int)] 43)) := Below.alloc hbk hbk.size _; have hbk5 : Below wr.heap.size wr w5 := hbk4.trans (hb5.mono hbk4.size))
          | fail)
      all_goals
        rw [HV5.out] at h5
        replace h5 := h5.low (Nat.le_trans hB.size hbk4.size)
        have hBB := hB.trans (hbk5.mono hB.size)
        clear hb3 hbk hbk4 h3 hb5 hbk5 HU HA HV5
        go_wp2_with fail
        refine ⟨⟨k + 1, by omega, by go_num, h5, HG2.out, hBB⟩, ?_⟩
        simp [RowKit.intOf]
        omega
    · obtain rfl : k = s.size := by omega
      obtain ⟨x, hx, hn⟩ := HBAD.out
      have := HG.out x (by rw [List.take_of_length_le (by rw [byts_length]; omega)]; exact hx)
      exact absurd this hn

set_option maxHeartbeats 3200000 in
theorem refParse_no (s : ByteArray) (w : World) (hk : ¬ okS s) :
    Calls Tryz.prog 33 #[.string s] w (GivesB [] false w) := by
  by_cases h1 : 1 ≤ s.size
  · by_cases h2 : s.size ≤ 400
    · refine refParse_bad s w h1 h2 ?_
      apply Classical.byContradiction
      intro hc
      refine hk ⟨h1, h2, fun x hx => ?_⟩
      apply Classical.byContradiction
      intro hn
      exact hc ⟨x, hx, hn⟩
    · have hsm : decide ((s.size : Int) < 1) = false := decide_eq_false (by omega)
      have hbig : decide ((400 : Int) < (s.size : Int)) = true := decide_eq_true (by omega)
      clear hk h1 h2
      go_enter Tryz.func33, Tryz.ntmps33
      go_wp2_with fail
      go_ret2
      exact ⟨_, rfl, Nt.nil _ _ _, Below.refl _ _⟩
  · have hsm : decide ((s.size : Int) < 1) = true := decide_eq_true (by omega)
    clear hk h1
    go_enter Tryz.func33, Tryz.ntmps33
    go_wp2_with fail
    go_ret2
    exact ⟨_, rfl, Nt.nil _ _ _, Below.refl _ _⟩
end Go.Proofs.YtobmjcbjailclaaGreatDoor

/- The program's and the reference's 'Parse' of digits on lists of bytes. Condition: none. -/
namespace Go.Proofs.YtobmjcbjailclaaGreatDoor
set_option maxRecDepth 100000
open Go.RowKit Go.Shelf Go.Lib

/-- Bytes. -/
def Byt (l : List Nat) : Prop := ∀ x ∈ l, x < 256

theorem byts_of (l : List Nat) (h : Byt l) : byts (strN l) = l := by
  unfold byts strN
  simp only [List.map_map]
  conv => rhs; rw [← List.map_id l]
  apply List.map_congr_left
  intro x hx
  have := h x hx
  simp [UInt8.toNat_ofNat']
  omega

theorem strN_byts (s : ByteArray) : strN (byts s) = s := by
  unfold strN byts
  rw [List.map_map]
  have : (UInt8.ofNat ∘ fun x : UInt8 => x.toNat) = id := by funext x; simp
  rw [this, List.map_id]

theorem byt_byts (s : ByteArray) : Byt (byts s) := fun x hx => by
  unfold byts at hx
  obtain ⟨y, _, rfl⟩ := List.mem_map.1 hx
  exact y.toNat_lt

theorem okS_okD (l : List Nat) (h : Byt l) : okS (strN l) ↔ okD l = true := by
  unfold okS okD isD
  rw [strN_size, byts_of l h]
  simp only [Bool.and_eq_true, decide_eq_true_eq, List.all_eq_true]

theorem parse_l (l : List Nat) (h : Byt l) (w : World) : Calls Tryz.prog 27 #[.string (strN l)] w (GivesB (if okD l = true then lim (numD l) else []) (okD l) w) := by
  by_cases hk : okD l = true
  · rw [if_pos hk, hk]
    have := parse_any (strN l) w ((okS_okD l h).2 hk)
    unfold numS at this
    rw [byts_of l h] at this
    exact this
  · have hf : okD l = false := by simpa using hk
    rw [if_neg hk, hf]
    exact parse_no (strN l) w (fun h' => hk ((okS_okD l h).1 h'))

theorem refParse_l (l : List Nat) (h : Byt l) (w : World) : Calls Tryz.prog 33 #[.string (strN l)] w (GivesB (if okD l = true then lim (numD l) else []) (okD l) w) := by
  by_cases hk : okD l = true
  · rw [if_pos hk, hk]
    have := refParse_any (strN l) w ((okS_okD l h).2 hk)
    unfold numS at this
    rw [byts_of l h] at this
    exact this
  · have hf : okD l = false := by simpa using hk
    rw [if_neg hk, hf]
    exact refParse_no (strN l) w (fun h' => hk ((okS_okD l h).1 h'))
end Go.Proofs.YtobmjcbjailclaaGreatDoor

/- Bytes as strings, one behind the other. No condition. -/
namespace Go.Proofs.YtobmjcbjailclaaGreatDoor
set_option maxRecDepth 100000
open Go.RowKit

theorem strN_append (a b : List Nat) : strN a ++ strN b = strN (a ++ b) := by
  unfold strN
  rw [ByteArray.mk_append_mk, List.map_append]

theorem add_str (a b : List Nat) (h : a.length + b.length ≤ 1000000) {P : Program} (w : World) : (Op.stringOp .add (strN a) (strN b)).run P w = .ok (.string (strN (a ++ b))) w := by
  rw [run_string_add_sum w _ _ (by rw [strN_size, strN_size]; omega), strN_append]
end Go.Proofs.YtobmjcbjailclaaGreatDoor

/- The program's 'Fixed' of numbers with a divisor by its contract. Condition: bounds on lengths. -/
namespace Go.Proofs.YtobmjcbjailclaaGreatDoor
set_option maxRecDepth 100000
open Go.RowKit Go.Shelf Go.Lib

/-- A sign as bytes. -/
def sgn (s : Bool) : List Nat := if s then [45] else []

theorem sgn_len (s : Bool) : (sgn s).length ≤ 1 := by cases s <;> simp [sgn]

set_option maxHeartbeats 1600000 in
theorem sign_any (v : Value) (s : Bool) (vn vd : Value) (w : World) (hv : v = .agg #[.bool s, vn, vd]) :
    Calls Tryz.prog 78 #[v] w fun e w' => e = .returned (.string (strN (sgn s))) ∧ Below w.heap.size w w' := by
  subst hv
  have hB : Below w.heap.size w (w.alloc (.cells #[.bool s, vn, vd] 25)) := (Below.refl _ _).alloc (Nat.le_refl _) _
  cases s
  · go_enter Tryz.func78, Tryz.ntmps78
    go_wp2_with fail
    go_ret
    exact ⟨rfl, hB⟩
  · go_enter Tryz.func78, Tryz.ntmps78
    go_wp2_with fail
    go_ret
    exact ⟨rfl, hB⟩

/-- Digits with a point ahead of the last so many. -/
def pnt (cs : List Nat) (n : Nat) : List Nat := if n = 0 then cs else
  (List.replicate (n + 1 - cs.length) 48 ++ cs).take ((List.replicate (n + 1 - cs.length) 48 ++ cs).length - n) ++ [46] ++ (List.replicate (n + 1 - cs.length) 48 ++ cs).drop ((List.replicate (n + 1 - cs.length) 48 ++ cs).length - n)

theorem strN_take (cs : List Nat) (M : Nat) : (strN cs).extract 0 M = strN (cs.take M) := by
  unfold strN
  apply ByteArray.ext
  rw [ByteArray.data_extract]
  apply Array.toList_inj.1
  simp [List.map_take]
theorem strN_drop (cs : List Nat) (M L : Nat) (h : cs.length ≤ L) : (strN cs).extract M L = strN (cs.drop M) := by
  unfold strN
  apply ByteArray.ext
  rw [ByteArray.data_extract]
  apply Array.toList_inj.1
  have h2 : (List.drop M (List.map UInt8.ofNat cs)).length ≤ L - M := by rw [List.length_drop, List.length_map]; omega
  simp [List.map_drop]
  exact List.take_of_length_le h2

set_option maxHeartbeats 1600000 in
theorem pointed_any (cs : List Nat) (n : Nat) (w : World) (hl : cs.length ≤ 100000) (hn : n ≤ 1000) :
    Calls Tryz.prog 80 #[.string (strN cs), .int .i64 (n : Int)] w fun e w' => e = .returned (.string (strN (pnt cs n))) ∧ Below w.heap.size w w' := by
  by_cases h0 : n = 0
  · subst h0
    go_enter Tryz.func80, Tryz.ntmps80
    go_wp2_with fail
    go_ret
    exact ⟨rfl, Below.refl _ _⟩
  · have hnI : ((n : Int) == 0) = false := beq_eq_false_iff_ne.2 (by omega)
    have hsz := strN_size cs
    obtain ⟨Z, hZ⟩ : ∃ Z, n + 1 - cs.length = Z := ⟨_, rfl⟩
    have hmx : max (0 : Int) ((n : Int) + 1 - (cs.length : Int)) = (Z : Int) := by omega
    have hp : Hid (pnt cs n = (List.replicate Z 48 ++ cs).take ((List.replicate Z 48 ++ cs).length - n) ++ [46] ++ (List.replicate Z 48 ++ cs).drop ((List.replicate Z 48 ++ cs).length - n)) := by
      show _ = _
      unfold pnt
      rw [if_neg h0, hZ]
    have hrep : ∀ w, Calls Tryz.prog 115 #[.string ⟨#[48]⟩, .int .i64 (Z : Int)] w fun e w' => e = .returned (.string (strN (List.replicate Z 48))) ∧ Below w.heap.size w w' := fun w => by
      have h := Any.strings_Repeat Tryz.lays105 Tryz.Builder_Extra_105 ⟨#[48]⟩ Z w (by omega) (by show 1 * Z ≤ _; omega)
      have e : (⟨(Lib.repeatL [48] Z).toArray⟩ : ByteArray) = strN (List.replicate Z 48) := by
        unfold strN
        rw [List.map_replicate]
        congr 2
        clear hZ hmx hp h0 h
        induction Z with
        | zero => rfl
        | succ z ih => rw [Lib.repeatL, ih, List.replicate_succ]; rfl
      show Calls Tryz.prog 115 _ _ _
      rw [← e]
      exact h
    have HREP := Lib.hid hrep
    obtain ⟨cs2, hcs⟩ : ∃ c, List.replicate Z 48 ++ cs = c := ⟨_, rfl⟩
    have hadd : Hid (∀ W : World, (Op.stringOp .add (strN (List.replicate Z 48)) (strN cs)).run Tryz.prog W = .ok (.string (strN cs2)) W) := fun W => by rw [← hcs]; exact add_str _ _ (by simp; omega) W
    have hl2 : n < cs2.length ∧ cs2.length ≤ 102000 := by rw [← hcs]; simp; omega
    rw [hcs] at hp
    clear hrep hcs hZ
    go_enter Tryz.func80, Tryz.ntmps80
    go_wp2_with fail
    refine (HREP.out _).mono ?_
    rintro e w1 ⟨rfl, hb⟩
    have hadd1 := hadd.out w1
    clear HREP hadd
    obtain ⟨L, hL⟩ : ∃ L, cs2.length = L := ⟨_, rfl⟩
    obtain ⟨M, hM⟩ : ∃ M, L - n = M := ⟨_, rfl⟩
    have s2 : (strN cs2).size = L := by rw [strN_size, hL]
    have x1 : (strN cs2).extract 0 M = strN (cs2.take M) := strN_take _ _
    have x2 : (strN cs2).extract M L = strN (cs2.drop M) := strN_drop _ _ _ (Nat.le_of_eq hL)
    have w1' : IntKind.i64.wrap ((L : Int) - (n : Int)) = (M : Int) := by rw [IntWalk.i64_in _ (by omega)]; omega
    have hML : (M : Int) ≤ (L : Int) := by omega
    have a1 : ∀ W : World, (Op.stringOp .add (strN (cs2.take M)) ⟨#[46]⟩).run Tryz.prog W = .ok (.string (strN (cs2.take M ++ [46]))) W := fun W => add_str (cs2.take M) [46] (by rw [List.length_take]; simp; omega) W
    have a2 : ∀ W : World, (Op.stringOp .add (strN (cs2.take M ++ [46])) (strN (cs2.drop M))).run Tryz.prog W = .ok (.string (strN (cs2.take M ++ [46] ++ cs2.drop M))) W := fun W => add_str (cs2.take M ++ [46]) (cs2.drop M) (by simp; omega) W
    rw [hL, hM] at hp
    generalize strN cs2 = t at *
    generalize strN (cs2.take M) = t1 at *
    generalize strN (cs2.drop M) = t2 at *
    generalize strN (cs2.take M ++ [46]) = t3 at *
    have HPE := Lib.hid (congrArg strN hp.out)
    generalize strN (cs2.take M ++ [46] ++ cs2.drop M) = t4 at *
    clear hL hM hp
    subst s2
    go_wp2_with fail
    go_quiet (fail)
    go_wp2_with fail
    go_ret
    exact ⟨by rw [HPE.out]; rfl, ⟨hb.os, hb.tape, hb.output, hb.size, hb.block⟩⟩

theorem ten_len10 {k : Nat} (h : k ≤ 60) : (lim (10 ^ k)).length ≤ 10 := by
  refine lim_length_le (Nat.lt_of_le_of_lt (Nat.pow_le_pow_right (by omega) h) ?_)
  rw [show 60 = 6 * 10 from rfl, Nat.pow_mul]
  exact Nat.pow_lt_pow_left (by omega) (by omega)

theorem nrS_idem (s : Bool) (n d : Nat) : nrS (nrS s n d) (nrN n d) (nrD n d) = nrS s n d := by
  by_cases h : n = 0 ∨ d = 0
  · obtain ⟨e1, e2, e3⟩ := nr_zero (s := s) h
    rw [e1, e2, e3]
    rfl
  · have h1 : nrN n d ≠ 0 := fun hc => h (nrN_zero.1 hc)
    have h2 : nrD n d ≠ 0 := by have := nrD_pos n d; omega
    exact (nr_some h1 h2).1

theorem pnt_len (cs : List Nat) (n : Nat) : (pnt cs n).length ≤ cs.length + n + 2 := by
  unfold pnt
  split
  · omega
  · simp; omega

theorem prn_len_of {U k : Nat} (h : (lim U).length ≤ k) : (prn U).length ≤ 10 * k + 1 := by
  have h1 : U < 10 ^ (10 * k) := by
    have h2 := val_lt (dig_lim U)
    rw [val_lim] at h2
    rw [Nat.pow_mul]
    exact Nat.lt_of_lt_of_le h2 (Nat.le_trans (Nat.pow_le_pow_right (by omega) h) (Nat.pow_le_pow_left (by omega) _))
  have h3 := dec_length_le _ _ h1
  unfold prn
  split
  · simp
  · unfold digs
    rw [List.length_reverse, List.length_map]
    omega

set_option maxHeartbeats 3200000 in
theorem fixed_any (v : Value) (s : Bool) (n d : List Nat) (k : Int) (w : World) (dn : Dig n) (dd : Dig d) (h : Rt w 0 w.heap.size v s n d) (ln : n.length ≤ 70) (ld : d.length ≤ 70)
    (S : Bool) (N D K U : Nat) (hS : nrS s (val n) (val d) = S) (hN : nrN (val n) (val d) = N) (hD : nrD (val n) (val d) = D) (hK : hold60 k = (K : Int)) (hU : rhe (N * 10 ^ K) D = U) :
    Calls Tryz.prog 30 #[v, .int .i64 k] w fun e w' => e = .returned (.string (strN (sgn (nrS S U (10 ^ K)) ++ pnt (prn U) K))) ∧ Below w.heap.size w w' := by
  obtain ⟨vn, vd, rfl, hn, hd⟩ := h
  have hr := hold60_range k
  have hK60 : K ≤ 60 := by omega
  have hD0 : D ≠ 0 := by have := nrD_pos (val n) (val d); omega
  have lN : (lim N).length ≤ 70 := by rw [← hN]; exact Nat.le_trans (lim_len_mono (nrN_le _ _)) (Nat.le_trans (lim_val_length n dn) ln)
  have lD : (lim D).length ≤ 71 := by rw [← hD]; exact nrD_len2 dd (by omega) (by omega)
  have dN := dig_lim N
  have dD := dig_lim D
  have VN := Lib.hid (val_lim N)
  have VD := Lib.hid (val_lim D)
  have dU := dig_lim U
  have lT := ten_len10 hK60
  have lU : (lim U).length ≤ 90 := by
    rw [← hU]
    refine Nat.le_trans (lim_len_mono (rhe_le _ _)) ?_
    have l1 : (lim (N * 10 ^ K)).length ≤ 80 := lim_mul_len (dig_lim N) (dig_lim (10 ^ K)) (val_lim _).symm (val_lim _).symm lN lT
    exact Nat.le_trans (lim_add_len (dig_lim (N * 10 ^ K)) (dig_lim 1) (val_lim _).symm (val_lim _).symm l1 (lim_length_le (by omega) : (lim 1).length ≤ 80)) (by omega)
  have lP : (prn U).length ≤ 2000 := by
    have := prn_len_of lU
    omega
  have hnorm := fun w (hR : Rt w 0 w.heap.size (.agg #[.bool s, vn, vd]) s n d) => prNorm_any (.agg #[.bool s, vn, vd]) s n d w dn dd hR (by omega) (by omega)
  have E1 : nrS S (val (lim N)) (val (lim D)) = S := by rw [val_lim, val_lim, ← hS, ← hN, ← hD]; exact nrS_idem _ _ _
  have E2 : nrN (val (lim N)) (val (lim D)) = N := by rw [val_lim, val_lim, ← hN, ← hD]; exact (nr_idem _ _).1
  have E3 : nrD (val (lim N)) (val (lim D)) = D := by rw [val_lim, val_lim, ← hN, ← hD]; exact (nr_idem _ _).2
  rw [hS, hN, hD] at hnorm
  have HNORM := Lib.hid hnorm
  have hheld := fun w => dheld_any k w
  rw [hK] at hheld
  have HHELD := Lib.hid hheld
  have hKK : hold60 (K : Int) = (K : Int) := by unfold hold60; omega
  have hrnd := fun v w (hR : Rt w 0 w.heap.size v S (lim N) (lim D)) => round_any v S (lim N) (lim D) (K : Int) w dN dD hR (by omega) (by omega) S N D K U E1 E2 E3 hKK hU
  have HRND := Lib.hid hrnd
  have HU := Lib.hid hU
  obtain ⟨FS, hFS⟩ : ∃ z, nrS S U (10 ^ K) = z := ⟨_, rfl⟩
  obtain ⟨TXT, hTXT⟩ : ∃ z, strN (sgn FS ++ pnt (prn U) K) = z := ⟨_, rfl⟩
  have hadd : Hid (∀ W : World, (Op.stringOp .add (strN (sgn FS)) (strN (pnt (prn U) K))).run Tryz.prog W = .ok (.string TXT) W) := fun W => by
    rw [← hTXT]
    exact add_str _ _ (by have h1 := pnt_len (prn U) K; have h2 := sgn_len FS; omega) W
  rw [hFS, hTXT]
  have HFS := Lib.hid hFS
  clear hnorm hheld hS hN hD hK hr hU hFS hTXT hrnd E1 E2 E3 hKK
  go_enter Tryz.func30, Tryz.ntmps30
  go_wp2_with fail
  have b0 := Blk.new w 25 #[.bool s, vn, vd]
  have hB : Below w.heap.size w (w.alloc (.cells #[.bool s, vn, vd] 25)) := (Below.refl _ _).alloc (Nat.le_refl _) _
  generalize w.alloc (.cells #[.bool s, vn, vd] 25) = w2 at *
  replace hn := (hn.below hB (Nat.le_refl _)).up hB.size
  replace hd := (hd.below hB (Nat.le_refl _)).up hB.size
  have c0 := b0.cell 0
  have c1 := b0.cell 1
  have c2 := b0.cell 2
  go_wp2_with fail
  refine (HNORM.out _ ⟨vn, vd, rfl, hn, hd⟩).mono ?_
  rintro e w3 ⟨v3, rfl, ⟨an, ad, rfl, h1, h2⟩, hb⟩
  have q0 := b0.below hb b0.lt
  replace h1 := h1.low (show w.heap.size + 1 ≤ _ from b0.lt)
  replace h2 := h2.low (show w.heap.size + 1 ≤ _ from b0.lt)
  replace hB := hB.trans (hb.mono hB.size)
  have hl1 := h1
  have hl2 := h2
  obtain ⟨A6, c6, rfl, m6⟩ := nt_len hl1
  obtain ⟨A7, c7, rfl, m7⟩ := nt_len hl2
  have r0 := q0.cell 0
  have r1 := q0.cell 1
  have r2 := q0.cell 2
  have f0 := q0.free 0
  have f1 := q0.free 1
  have f2 := q0.free 2
  clear hl1 hl2 hb b0 c0 c1 c2 hn hd HNORM
  go_wp2_with fail
  refine (HHELD.out _).mono ?_
  rintro e w4 ⟨rfl, rfl⟩
  clear HHELD
  have p3 := ((q0.put 0 (.bool S)).put 1 (.slice A6 (lim N).length c6)).put 2 (.slice A7 (lim D).length c7)
  have hBB := ((hB.setCell (p := ⟨w.heap.size, 0, none⟩) (Nat.le_refl _) (.bool S)).setCell (p := ⟨w.heap.size, 1, none⟩) (Nat.le_refl _) (.slice A6 (lim N).length c6)).setCell (p := ⟨w.heap.size, 2, none⟩) (Nat.le_refl _) (.slice A7 (lim D).length c7)
  have t1 := ((h1.put3 (g := w.heap.size) (by omega) 0 (.bool S)).put3 (g := w.heap.size) (by omega) 1 (.slice A6 (lim N).length c6)).put3 (g := w.heap.size) (by omega) 2 (.slice A7 (lim D).length c7)
  have t2 := ((h2.put3 (g := w.heap.size) (by omega) 0 (.bool S)).put3 (g := w.heap.size) (by omega) 1 (.slice A6 (lim N).length c6)).put3 (g := w.heap.size) (by omega) 2 (.slice A7 (lim D).length c7)
  have P3 := Lib.hid p3
  have HBB := Lib.hid hBB
  have T1 := Lib.hid t1
  have T2 := Lib.hid t2
  clear p3 hBB t1 t2 h1 h2 hB q0
  go_wp2_with fail
  clear r0 r1 r2 f0 f1 f2
  replace P3 := P3.out
  replace HBB := HBB.out
  replace T1 := T1.out
  replace T2 := T2.out
  generalize ((World.setCell w3 ⟨w.heap.size, 0, none⟩ (.bool S)).setCell ⟨w.heap.size, 1, none⟩ (.slice A6 (lim N).length c6)).setCell ⟨w.heap.size, 2, none⟩ (.slice A7 (lim D).length c7) = w5 at *
  have c0 : w5.cell? ⟨w.heap.size, 0, none⟩ = some (.bool S) := by rw [P3.cell]; rfl
  have c1 : w5.cell? ⟨w.heap.size, 1, none⟩ = some (.slice A6 (lim N).length c6) := by rw [P3.cell]; rfl
  have c2 : w5.cell? ⟨w.heap.size, 2, none⟩ = some (.slice A7 (lim D).length c7) := by rw [P3.cell]; rfl
  have hg := P3.lt
  have hk5 : Below w5.heap.size w5 w5.drew := (Below.refl _ _).drew
  have hun := fun w (hR : Rt w 0 w.heap.size (.agg #[.bool S, .slice A6 (lim N).length c6, .slice A7 (lim D).length c7]) S (lim N) (lim D)) => units_any (.agg #[.bool S, .slice A6 (lim N).length c6, .slice A7 (lim D).length c7]) S (lim N) (lim D) K w dN dD hR (by omega) (by omega) hK60 (by rw [VD.out]; exact hD0)
  rw [VN.out, VD.out, HU.out] at hun
  have HUN := Lib.hid hun
  have HPR : Hid (∀ v w, Nt w 0 w.heap.size v (lim U) → Calls Tryz.prog 81 #[v] w fun e w' => e = .returned (.string (strN (prn U))) ∧ Below w.heap.size w w') := fun v w h => by
    have := print_any v (lim U) w dU h (by omega)
    rw [val_lim] at this
    exact this
  have HPT : Hid (∀ w, Calls Tryz.prog 80 #[.string (strN (prn U)), .int .i64 (K : Int)] w fun e w' => e = .returned (.string (strN (pnt (prn U) K))) ∧ Below w.heap.size w w') := fun w => pointed_any (prn U) K w (by omega) (by omega)
  clear hun P3
  generalize strN (prn U) = tp at *
  generalize strN (pnt (prn U) K) = tq at *
  have hadd1 := hadd.out
  clear hadd
  go_region_held3 (fun W => W.cell? ⟨w.heap.size, 0, none⟩ = some (.bool S) ∧ W.cell? ⟨w.heap.size, 1, none⟩ = some (.slice A6 (lim N).length c6) ∧ W.cell? ⟨w.heap.size, 2, none⟩ = some (.slice A7 (lim D).length c7))
    (first | exact s3_of hk10 c0 c1 c2 hg | exact s3_of hk9 c0 c1 c2 hg | exact s3_of hk8 c0 c1 c2 hg | exact s3_of hk7 c0 c1 c2 hg | exact s3_of hk6 c0 c1 c2 hg | exact s3_of hk5 c0 c1 c2 hg | fail)
    (first
      | (go_at_call 79; refine (HRND.out _ _ ⟨_, _, rfl, (T1.low (Nat.zero_le _)).drew, (T2.low (Nat.zero_le _)).drew⟩).mono ?_; rw [HFS.out]; rintro e w6 ⟨v6, rfl, ⟨rn, rd, rfl, h6n, h6d⟩, hb6⟩; have hk6 : Below w5.heap.size w5 w6 := Below.trans hk5 hb6)
      | (go_at_call 78; refine (sign_any (.agg #[.bool FS, rn, rd]) FS rn rd _ rfl).mono ?_; rintro e w7 ⟨rfl, hb7⟩; have hk7 : Below w5.heap.size w5 w7 := hk6.trans (hb7.mono hk6.size))
      | (go_at_call 82; refine (HUN.out _ ⟨_, _, rfl, (T1.low (Nat.zero_le _)).after hk7, (T2.low (Nat.zero_le _)).after hk7⟩).mono ?_; rintro e w8 ⟨v8, rfl, h8, hb8⟩; replace h8 := h8.low (Nat.zero_le _); have hk8 : Below w5.heap.size w5 w8 := hk7.trans (hb8.mono hk7.size))
      | (go_at_call 81; refine (HPR.out _ _ h8).mono ?_; rintro e w9 ⟨rfl, hb9⟩; have hk9 : Below w5.heap.size w5 w9 := hk8.trans (hb9.mono hk8.size))
      | (go_at_call 80; refine (HPT.out _).mono ?_; rintro e w10 ⟨rfl, hb10⟩; have hk10 : Below w5.heap.size w5 w10 := hk9.trans (hb10.mono hk9.size))
      | fail)
  have hBF := HBB.trans (hk10.mono HBB.size)
  clear hk5 hk6 hk7 hk8 hk9 hk10 hb6 hb7 hb8 hb9 hb10 h8 T1 T2 c0 c1 c2 h6n h6d
  go_wp2_with fail
  go_ret
  exact ⟨rfl, hBF⟩
end Go.Proofs.YtobmjcbjailclaaGreatDoor

/- The library's Cut at one byte and CutPrefix, on lists of bytes. Condition: none. -/
namespace Go.Proofs.YtobmjcbjailclaaGreatDoor
set_option maxRecDepth 100000
open Go.RowKit Go.Shelf Go.Lib

theorem ofNat_eq {a b : Nat} (ha : a < 256) (hb : b < 256) : (UInt8.ofNat a == UInt8.ofNat b) = (a == b) := by
  by_cases h : a = b
  · subst h; simp
  · have h1 : UInt8.ofNat a ≠ UInt8.ofNat b := fun hc => h (by
      have := congrArg UInt8.toNat hc
      simp only [UInt8.toNat_ofNat'] at this
      omega)
    rw [beq_eq_false_iff_ne.2 h1, beq_eq_false_iff_ne.2 h]

theorem index_of (c : Nat) (hc : c < 256) : ∀ l : List Nat, Byt l → Lib.indexByte (l.map UInt8.ofNat) (UInt8.ofNat c) = if l.contains c = true then ((l.takeWhile (· != c)).length : Int) else -1
  | [], _ => rfl
  | b :: l, h => by
    have hb : b < 256 := h b (by simp)
    have ih := index_of c hc l fun x hx => h x (by simp [hx])
    rw [List.map_cons, Lib.indexByte, ih, ofNat_eq hb hc]
    by_cases hbc : b = c
    · subst hbc
      simp
    · have e1 : (b == c) = false := beq_eq_false_iff_ne.2 hbc
      have e2 : (b != c) = true := bne_iff_ne.2 hbc
      rw [e1]
      simp only [Bool.false_eq_true, if_false]
      by_cases hm : c ∈ l
      · have e3 : l.contains c = true := by simpa using hm
        have e4 : (b :: l).contains c = true := by simp [hm]
        rw [if_pos e3, if_pos e4, if_neg (by simp), List.takeWhile_cons, if_pos e2, List.length_cons]
        omega
      · have e3 : ¬ l.contains c = true := by simpa using hm
        have e4 : ¬ (b :: l).contains c = true := by simp [hm]; exact fun h => hbc h.symm
        rw [if_neg e3, if_neg e4]
        rfl

theorem take_tw (p : Nat → Bool) : ∀ l : List Nat, l.take (l.takeWhile p).length = l.takeWhile p
  | [] => rfl
  | a :: l => by
    by_cases h : p a = true
    · rw [List.takeWhile_cons, if_pos h, List.length_cons, List.take_succ_cons, take_tw p l]
    · rw [List.takeWhile_cons, if_neg h]; rfl
theorem drop_tw (p : Nat → Bool) : ∀ l : List Nat, l.drop (l.takeWhile p).length = l.dropWhile p
  | [] => rfl
  | a :: l => by
    by_cases h : p a = true
    · rw [List.takeWhile_cons, if_pos h, List.length_cons, List.drop_succ_cons, drop_tw p l, List.dropWhile_cons, if_pos h]
    · rw [List.takeWhile_cons, if_neg h, List.dropWhile_cons, if_neg h]; rfl

theorem tw_lt {c : Nat} : ∀ l : List Nat, c ∈ l → (l.takeWhile (· != c)).length < l.length
  | a :: l, h => by
    by_cases ha : a = c
    · subst ha
      simp
    · have h1 : (a != c) = true := bne_iff_ne.2 ha
      rw [List.takeWhile_cons, if_pos h1, List.length_cons, List.length_cons]
      have := tw_lt l ((List.mem_cons.1 h).resolve_left fun h => ha h.symm)
      omega
theorem tw_none {c : Nat} : ∀ l : List Nat, c ∉ l → l.takeWhile (· != c) = l ∧ l.dropWhile (· != c) = []
  | [], _ => ⟨rfl, rfl⟩
  | a :: l, h => by
    have ha : a ≠ c := fun hc => h (by simp [hc])
    have h1 : (a != c) = true := bne_iff_ne.2 ha
    obtain ⟨e1, e2⟩ := tw_none l fun hc => h (List.mem_cons_of_mem _ hc)
    rw [List.takeWhile_cons, if_pos h1, List.dropWhile_cons, if_pos h1, e1, e2]
    exact ⟨rfl, rfl⟩

set_option maxHeartbeats 1600000 in
theorem slCut_any (l : List Nat) (hl : Byt l) (c : Nat) (hc : c < 256) (h9 : l.length ≤ 1000000) (w : World) :
    Calls Tryz.prog 69 #[.string (strN l), .string ⟨#[UInt8.ofNat c]⟩] w fun e w' => e = .returned (.tuple #[.string (strN (l.takeWhile (· != c))), .string (strN ((l.dropWhile (· != c)).drop 1)), .bool (l.contains c)]) ∧ Below w.heap.size w w' := by
  have hix : ∀ w, Calls Tryz.prog 104 #[.string (strN l), .string ⟨#[UInt8.ofNat c]⟩] w fun e w' => e = .returned (.int .i64 (if l.contains c = true then ((l.takeWhile (· != c)).length : Int) else -1)) ∧ w' = w := fun w => by
    have := Any.stringslite_Index_one Tryz.lays219 (strN l) (UInt8.ofNat c) w
    have e : (strN l).data.toList = l.map UInt8.ofNat := by unfold strN; simp
    rw [e, index_of c hc l hl] at this
    exact this
  have HIX := Lib.hid hix
  clear hix
  by_cases hm : c ∈ l
  · have e3 : l.contains c = true := by simpa using hm
    have hlt := tw_lt l hm
    obtain ⟨M, hM⟩ : ∃ M, (l.takeWhile (· != c)).length = M := ⟨_, rfl⟩
    have x1 : (strN l).extract 0 M = strN (l.takeWhile (· != c)) := by rw [strN_take, ← hM, take_tw]
    have x2 : (strN l).extract (M + 1) l.length = strN ((l.dropWhile (· != c)).drop 1) := by rw [strN_drop _ _ _ (Nat.le_refl _), ← hM, ← drop_tw, List.drop_drop, Nat.add_comm]
    rw [e3]
    have HI2 : Hid (∀ w, Calls Tryz.prog 104 #[.string (strN l), .string ⟨#[UInt8.ofNat c]⟩] w fun e w' => e = .returned (.int .i64 (M : Int)) ∧ w' = w) := fun w => by
      have := HIX.out w
      rw [if_pos e3, hM] at this
      exact this
    have s1 := strN_size l
    rw [hM] at hlt
    generalize strN (l.takeWhile (· != c)) = t1 at *
    generalize strN ((l.dropWhile (· != c)).drop 1) = t2 at *
    generalize strN l = t at *
    clear HIX hm e3 hM hl
    rw [← s1] at x2 hlt h9
    clear s1
    go_enter Tryz.func69, Tryz.ntmps69
    go_wp2_with fail
    refine (HI2.out _).mono ?_
    rintro e w1 ⟨rfl, rfl⟩
    clear HI2
    have p1 : (0 : Int) ≤ (M : Int) := by omega
    have p2 : (M : Int) ≤ (t.size : Int) := by omega
    have p3 : (M : Int) + 1 ≤ (t.size : Int) := by omega
    go_wp2_with fail
    go_quiet (fail)
    go_wp2_with fail
    go_ret3
    exact ⟨rfl, ⟨rfl, rfl, rfl, Nat.le_refl _, fun _ _ => rfl⟩⟩
  · have e3 : l.contains c = false := by simpa using hm
    obtain ⟨y1, y2⟩ := tw_none l hm
    rw [e3, y1, y2]
    have HI2 : Hid (∀ w, Calls Tryz.prog 104 #[.string (strN l), .string ⟨#[UInt8.ofNat c]⟩] w fun e w' => e = .returned (.int .i64 (-1)) ∧ w' = w) := fun w => by
      have := HIX.out w
      rw [if_neg (by rw [e3]; simp)] at this
      exact this
    generalize strN l = t at *
    clear HIX hm e3 y1 y2 hl
    go_enter Tryz.func69, Tryz.ntmps69
    go_wp2_with fail
    refine (HI2.out _).mono ?_
    rintro e w1 ⟨rfl, rfl⟩
    clear HI2
    go_wp2_with fail
    go_ret3
    exact ⟨rfl, Below.refl _ _⟩

theorem cut_any (l : List Nat) (hl : Byt l) (c : Nat) (hc : c < 256) (h9 : l.length ≤ 1000000) (w : World) :
    Calls Tryz.prog 26 #[.string (strN l), .string ⟨#[UInt8.ofNat c]⟩] w fun e w' => e = .returned (.tuple #[.string (strN (l.takeWhile (· != c))), .string (strN ((l.dropWhile (· != c)).drop 1)), .bool (l.contains c)]) ∧ Below w.heap.size w w' := by
  have hcon := fun w => slCut_any l hl c hc h9 w
  generalize strN (l.takeWhile (· != c)) = t1 at *
  generalize strN ((l.dropWhile (· != c)).drop 1) = t2 at *
  generalize strN l = t at *
  generalize l.contains c = b at *
  have HC := Lib.hid hcon
  clear hcon hl
  go_enter Tryz.func26, Tryz.ntmps26
  go_wp2_with fail
  refine (HC.out _).mono ?_
  rintro e w1 ⟨rfl, hb⟩
  clear HC
  go_wp2_with fail
  go_ret3
  exact ⟨rfl, hb⟩

/-- What stands behind a minus, and whether it stands there. -/
def strp (l : List Nat) : Bool × List Nat := match l with
  | [] => (false, [])
  | x :: r => if x = 45 then (true, r) else (false, x :: r)

theorem cutPrefix_any (l : List Nat) (hl : Byt l) (w : World) :
    Calls Tryz.prog 25 #[.string (strN l), .string ⟨#[45]⟩] w fun e w' => e = .returned (.tuple #[.string (strN (strp l).2), .bool (strp l).1]) ∧ w' = w := by
  have := Any.strings_CutPrefix Tryz.lays103 (strN l) ⟨#[45]⟩ w
  have e : (strN l).data.toList = l.map UInt8.ofNat := by unfold strN; simp
  rw [e] at this
  have e1 : Lib.hasPrefix (l.map UInt8.ofNat) [45] = (strp l).1 ∧ Lib.trimPrefix (l.map UInt8.ofNat) [45] = (strp l).2.map UInt8.ofNat := by
    cases l with
    | nil => exact ⟨rfl, rfl⟩
    | cons x r =>
      have hx : x < 256 := hl x (by simp)
      have hp : Lib.hasPrefix ((x :: r).map UInt8.ofNat) [45] = ((45 : Nat) == x) := by
        unfold Lib.hasPrefix
        rw [List.map_cons, List.isPrefixOf, ← ofNat_eq (by omega : 45 < 256) hx]
        show ((UInt8.ofNat 45 == UInt8.ofNat x) && _) = _
        simp
      by_cases h : x = 45
      · subst h
        unfold Lib.trimPrefix
        rw [hp]
        exact ⟨rfl, rfl⟩
      · have h2 : ((45 : Nat) == x) = false := beq_eq_false_iff_ne.2 fun hc => h hc.symm
        have e : strp (x :: r) = (false, x :: r) := if_neg h
        rw [e]
        unfold Lib.trimPrefix
        rw [hp, h2]
        exact ⟨rfl, rfl⟩
  show Calls Tryz.prog 25 _ _ _
  have e2 : (⟨((strp l).2.map UInt8.ofNat).toArray⟩ : ByteArray) = strN (strp l).2 := rfl
  rw [show (⟨#[45]⟩ : ByteArray).data.toList = [45] from rfl, e1.1, e1.2, e2] at this
  exact this
end Go.Proofs.YtobmjcbjailclaaGreatDoor

/- The reference's count of leading digits, its powers of ten, its whole numbers, whether a number is 0. Condition: bounds. -/
namespace Go.Proofs.YtobmjcbjailclaaGreatDoor
set_option maxRecDepth 100000
open Go.RowKit Go.Shelf

theorem tw_get {p : Nat → Bool} : ∀ (l : List Nat) (k : Nat) (_ : k < (l.takeWhile p).length) (h' : k < l.length), p l[k] = true
  | a :: l, 0, h, _ => by
    by_cases ha : p a = true
    · exact ha
    · rw [List.takeWhile_cons, if_neg ha] at h; simp at h
  | a :: l, k + 1, h, h' => by
    by_cases ha : p a = true
    · rw [List.takeWhile_cons, if_pos ha, List.length_cons] at h
      exact tw_get l k (by omega) (by simpa using h')
    · rw [List.takeWhile_cons, if_neg ha] at h; simp at h
theorem tw_end {p : Nat → Bool} : ∀ (l : List Nat) (h' : (l.takeWhile p).length < l.length), p (l[(l.takeWhile p).length]'h') = false
  | a :: l, h' => by
    by_cases ha : p a = true
    · simp only [List.takeWhile_cons, if_pos ha, List.length_cons] at h' ⊢
      exact tw_end l (by omega)
    · simp only [List.takeWhile_cons, if_neg ha] at h' ⊢
      simpa using ha
theorem tw_le (p : Nat → Bool) (l : List Nat) : (l.takeWhile p).length ≤ l.length := by
  have := (List.takeWhile_sublist p (l := l)).length_le
  exact this

theorem strN_get (l : List Nat) (hl : Byt l) (k : Nat) (h : k < (strN l).size) (h' : k < l.length) : ((strN l)[k]'h).toNat = l[k] := by
  rw [← byts_get _ k h]
  have e := byts_of l hl
  have : (byts (strN l))[k]? = l[k]? := by rw [e]
  rw [List.getElem?_eq_getElem (by rw [byts_length]; exact h), List.getElem?_eq_getElem h'] at this
  exact Option.some.inj this

set_option maxHeartbeats 3200000 in
theorem run_any (l : List Nat) (hl : Byt l) (h9 : l.length ≤ 1000000) (w : World) :
    Calls Tryz.prog 32 #[.string (strN l)] w fun e w' => e = .returned (.int .i64 ((l.takeWhile isD).length : Int)) ∧ w = w' := by
  obtain ⟨K, hK⟩ : ∃ K, (l.takeWhile isD).length = K := ⟨_, rfl⟩
  have hKl : K ≤ l.length := by rw [← hK]; exact tw_le _ _
  have hs := strN_size l
  have hget : ∀ k (h : k < (strN l).size), ((strN l)[k]'h).toNat = l[k]'(by rw [hs] at h; exact h) := fun k h => strN_get l hl k h _
  have hin : ∀ k (h : k < K) (h' : k < (strN l).size), 48 ≤ ((strN l)[k]'h').toNat ∧ ((strN l)[k]'h').toNat ≤ 57 := fun k h h' => by
    rw [hget k h']
    have := tw_get (p := isD) l k (by omega) (by omega)
    unfold isD at this
    exact of_decide_eq_true this
  have hout : ∀ (h' : K < (strN l).size), ¬ (48 ≤ ((strN l)[K]'h').toNat ∧ ((strN l)[K]'h').toNat ≤ 57) := fun h' => by
    rw [hget K h']
    have h2 : (l.takeWhile isD).length < l.length := by omega
    have := tw_end (p := isD) l h2
    simp only [hK] at this
    unfold isD at this
    exact of_decide_eq_false this
  rw [hK]
  clear hget hK
  rw [← hs] at hKl h9
  generalize strN l = t at *
  have HIN := Lib.hid hin
  have HOUT := Lib.hid hout
  clear hin hout hl hs
  go_enter Tryz.func32, Tryz.ntmps32
  go_wp2_with fail
  go_loop [3] (fun n => ∃ k : Nat, k ≤ K ∧ n = .int .i64 (k : Int)) (fun n => K - (RowKit.intOf n).toNat)
  case atStart => exact ⟨0, Nat.zero_le _, rfl⟩
  case round =>
    obtain ⟨k, hk, rfl⟩ := hrel
    by_cases hlt : k < K
    · have hkt : k < t.size := by omega
      obtain ⟨x1, x2⟩ := HIN.out k hlt hkt
      have y0 : (k : Int) < (t.size : Int) := by omega
      have y1 : (48 : Int) ≤ ((t[k]'hkt).toNat : Int) := by omega
      have y2 : ((t[k]'hkt).toNat : Int) ≤ 57 := by omega
      go_wp2_with fail
      go_round
      case rel => exact ⟨k + 1, by omega, by go_num⟩
      case measure => simp [RowKit.intOf]; omega
    · obtain rfl : k = K := by omega
      by_cases hkt : k < t.size
      · have hn := HOUT.out hkt
        have y0 : (k : Int) < (t.size : Int) := by omega
        by_cases z1 : 48 ≤ (t[k]'hkt).toNat
        · have y1 : (48 : Int) ≤ ((t[k]'hkt).toNat : Int) := by omega
          have y2 : ¬ ((t[k]'hkt).toNat : Int) ≤ 57 := by omega
          clear hn
          go_wp2_with fail
          go_ret
          exact ⟨rfl, rfl⟩
        · have y1 : ¬ (48 : Int) ≤ ((t[k]'hkt).toNat : Int) := by omega
          clear hn
          go_wp2_with fail
          go_ret
          exact ⟨rfl, rfl⟩
      · have y0 : ¬ (k : Int) < (t.size : Int) := by omega
        go_wp2_with fail
        go_ret
        exact ⟨rfl, rfl⟩

end Go.Proofs.YtobmjcbjailclaaGreatDoor

/- The program's 'Width', 'Is' of balls, 'last', 'Dec' of digits by their contracts. Condition: bounds on lengths. -/
namespace Go.Proofs.YtobmjcbjailclaaGreatDoor
set_option maxRecDepth 100000
open Go.RowKit

/-- A value that is a ball of these two numbers. -/
def BQ (w : World) (L B : Nat) (v : Value) (p q : Rat) (k : Nat) : Prop :=
  ∃ s vn vd t vm vc, v = .agg #[.bool s, vn, vd, .bool t, vm, vc] ∧ RQ w L B (.agg #[.bool s, vn, vd]) p k ∧ RQ w L B (.agg #[.bool t, vm, vc]) q k

theorem RQ.slices {w : World} {L B : Nat} {s : Bool} {vn vd : Value} {q : Rat} {k : Nat} (h : RQ w L B (.agg #[.bool s, vn, vd]) q k) :
    ∃ A1 n1 k1 A2 n2 k2, vn = .slice A1 n1 k1 ∧ vd = .slice A2 n2 k2 ∧ n1 ≤ k ∧ n2 ≤ k := by
  obtain ⟨s', n, d, ⟨un, ud, e, hn, hd⟩, _, _, ln, ld, _⟩ := h
  obtain ⟨A1, k1, rfl, _⟩ := nt_len hn
  obtain ⟨A2, k2, rfl, _⟩ := nt_len hd
  simp at e
  obtain ⟨rfl, rfl, rfl⟩ := e
  exact ⟨A1, _, k1, A2, _, k2, rfl, rfl, ln, ld⟩

set_option maxHeartbeats 3200000 in
theorem width_q (v : Value) (p q : Rat) (k : Nat) (w : World) (h : BQ w 0 w.heap.size v p q k) (hk : k ≤ 400) : Calls Tryz.prog 41 #[v] w (GivesF (q - p) w) := by
  obtain ⟨s, vn, vd, t, vm, vc, rfl, h1, h2⟩ := h
  have h1' := h1
  have h2' := h2
  obtain ⟨A1, n1, k1, A2, n2, k2, rfl, rfl, l1, l2⟩ := h1'.slices
  obtain ⟨A3, n3, k3, A4, n4, k4, rfl, rfl, l3, l4⟩ := h2'.slices
  have H1 := Lib.hid h1
  have H2 := Lib.hid h2
  clear h1 h2 h1' h2'
  go_enter Tryz.func41, Tryz.ntmps41
  go_wp2_with fail
  have b2 := Blk.new (w.alloc (.cells #[.bool s, .slice A1 n1 k1, .slice A2 n2 k2, .bool t, .slice A3 n3 k3, .slice A4 n4 k4] 36)) 25 #[.bool false, .slice none 0 0, .slice none 0 0]
  have hB : Below w.heap.size w ((w.alloc (.cells #[.bool s, .slice A1 n1 k1, .slice A2 n2 k2, .bool t, .slice A3 n3 k3, .slice A4 n4 k4] 36)).alloc (.cells #[.bool false, .slice none 0 0, .slice none 0 0] 25)) := ((Below.refl _ _).alloc (Nat.le_refl _) _).alloc (by simp) _
  have es : (w.alloc (.cells #[.bool s, .slice A1 n1 k1, .slice A2 n2 k2, .bool t, .slice A3 n3 k3, .slice A4 n4 k4] 36)).heap.size = w.heap.size + 1 := by simp
  rw [es] at b2
  clear es
  generalize ((w.alloc (.cells #[.bool s, .slice A1 n1 k1, .slice A2 n2 k2, .bool t, .slice A3 n3 k3, .slice A4 n4 k4] 36)).alloc (.cells #[.bool false, .slice none 0 0, .slice none 0 0] 25)) = w2 at *
  go_fit (prSub_q _ _ q p k k _ (H2.out.after hB) (H1.out.after hB) hk hk)
  rintro e w3 ⟨v3, rfl, ⟨xn, xd, rfl, hxn, hxd⟩, hb3⟩
  have q3 := b2.below hb3 b2.lt
  have hB3 := hB.trans (hb3.mono hB.size)
  replace hxn := hxn.low (show w.heap.size + 1 + 1 ≤ _ from b2.lt)
  replace hxd := hxd.low (show w.heap.size + 1 + 1 ≤ _ from b2.lt)
  obtain ⟨A5, k5, rfl, m5⟩ := nt_len hxn
  obtain ⟨A6, k6, rfl, m6⟩ := nt_len hxd
  have r0 := q3.cell 0
  have r1 := q3.cell 1
  have r2 := q3.cell 2
  have f0 := q3.free 0
  have f1 := q3.free 1
  have f2 := q3.free 2
  obtain ⟨e0, e1, e2, hR, hBf⟩ := store3 q3 hB3 (by omega) (qS (q - p)) (.slice A5 (lim (qN (q - p))).length k5) (.slice A6 (lim (q - p).den).length k6) hxn hxd
  have HR := Lib.hid hR
  have HBF := Lib.hid hBf
  clear q3 hB hB3 hb3 b2 hxn hxd hR hBf H1 H2
  unfold St3 at *
  go_wp2_with fail
  clear r0 r1 r2 f0 f1 f2
  generalize ((World.setCell w3 ⟨w.heap.size + 1, 0, none⟩ (.bool (qS (q - p)))).setCell ⟨w.heap.size + 1, 1, none⟩ (.slice A5 (lim (qN (q - p))).length k5)).setCell ⟨w.heap.size + 1, 2, none⟩ (.slice A6 (lim (q - p).den).length k6) = WW at *
  refine bodyPost_ret (v := .agg #[.bool (qS (q - p)), .slice A5 (lim (qN (q - p))).length k5, .slice A6 (lim (q - p).den).length k6]) ?_ rfl (by show GivesF _ _ _ _; exact ⟨_, rfl, HR.out, HBF.out⟩)
  simp [results, Tryz.results41, go_sem, e0, e1, e2]
set_option maxHeartbeats 3200000 in
theorem ballIs_any (s t : Bool) (vn vd vm vc : Value) (n d m c : List Nat) (p q : Rat) (w : World) (dn : Dig n) (dd : Dig d) (dm : Dig m) (dc : Dig c) (h1 : Rt w 0 w.heap.size (.agg #[.bool s, vn, vd]) s n d) (h2 : Rt w 0 w.heap.size (.agg #[.bool t, vm, vc]) t m c)
    (ln : n.length ≤ 400) (ld : d.length ≤ 400) (lm : m.length ≤ 400) (lc : c.length ≤ 400) (hp : qv s (val n) (val d) = p) (hq : qv t (val m) (val c) = q) :
    Calls Tryz.prog 39 #[.agg #[.bool s, vn, vd, .bool t, vm, vc]] w fun e w' => e = .returned (.bool (isR s n d && (isR t m c && decide (cmpQ p q ≤ 0)))) ∧ Below w.heap.size w w' := by
  have I1 : Hid (∀ W, Below w.heap.size w W → Calls Tryz.prog 85 #[.agg #[.bool s, vn, vd]] W fun e w' => e = .returned (.bool (isR s n d)) ∧ Below W.heap.size W w') := fun W hb => prIs_any _ s n d W dn dd (h1.after hb) (by omega) (by omega)
  have I2 : Hid (∀ W, Below w.heap.size w W → Calls Tryz.prog 85 #[.agg #[.bool t, vm, vc]] W fun e w' => e = .returned (.bool (isR t m c)) ∧ Below W.heap.size W w') := fun W hb => prIs_any _ t m c W dm dc (h2.after hb) (by omega) (by omega)
  have I3 : Hid (∀ W, Below w.heap.size w W → Calls Tryz.prog 40 #[.agg #[.bool s, vn, vd], .agg #[.bool t, vm, vc]] W fun e w' => e = .returned (.int .i64 (cmpQ p q)) ∧ Below W.heap.size W w') := fun W hb => prCmp_q _ _ p q 400 400 W ⟨s, n, d, h1.after hb, dn, dd, ln, ld, hp⟩ ⟨t, m, c, h2.after hb, dm, dc, lm, lc, hq⟩ (Nat.le_refl _) (Nat.le_refl _)
  have x1 : RQ w 0 w.heap.size (.agg #[.bool s, vn, vd]) p 400 := ⟨s, n, d, h1, dn, dd, ln, ld, hp⟩
  have x2 : RQ w 0 w.heap.size (.agg #[.bool t, vm, vc]) q 400 := ⟨t, m, c, h2, dm, dc, lm, lc, hq⟩
  obtain ⟨A1, n1, k1, A2, n2, k2, rfl, rfl, l1, l2⟩ := x1.slices
  obtain ⟨A3, n3, k3, A4, n4, k4, rfl, rfl, l3, l4⟩ := x2.slices
  generalize isR s n d = c1 at *
  generalize isR t m c = c2 at *
  have hB : Below w.heap.size w (w.alloc (.cells #[.bool s, .slice A1 n1 k1, .slice A2 n2 k2, .bool t, .slice A3 n3 k3, .slice A4 n4 k4] 36)) := (Below.refl _ _).alloc (Nat.le_refl _) _
  have b1 := Blk.new w 36 #[.bool s, .slice A1 n1 k1, .slice A2 n2 k2, .bool t, .slice A3 n3 k3, .slice A4 n4 k4]
  clear x1 x2 h1 h2 dn dd dm dc ln ld lm lc hp hq
  cases c1
  · go_enter Tryz.func39, Tryz.ntmps39
    go_wp2_with fail
    go_fit (I1.out _ hB)
    rintro e w2 ⟨rfl, hb2⟩
    have HBF := Lib.hid (hB.trans (hb2.mono hB.size))
    clear hB hb2 I1 I2 I3 b1
    go_wp2_with fail
    go_ret
    exact ⟨rfl, HBF.out⟩
  · cases c2
    · go_enter Tryz.func39, Tryz.ntmps39
      go_wp2_with fail
      go_fit (I1.out _ hB)
      rintro e w2 ⟨rfl, hb2⟩
      have HB2 := Lib.hid (hB.trans (hb2.mono hB.size))
      have b2 := b1.below hb2 b1.lt
      have r3 := b2.cell 3
      have r4 := b2.cell 4
      have r5 := b2.cell 5
      clear hB hb2 I1 I3 b1
      go_wp2_with fail
      go_fit (I2.out _ HB2.out)
      rintro e w3 ⟨rfl, hb3⟩
      have HBF := Lib.hid (HB2.out.trans (hb3.mono HB2.out.size))
      clear hb3 I2 r3 r4 r5 b2
      go_wp2_with fail
      go_ret
      exact ⟨rfl, HBF.out⟩
    · generalize cmpQ p q = cz at *
      go_enter Tryz.func39, Tryz.ntmps39
      go_wp2_with fail
      go_fit (I1.out _ hB)
      rintro e w2 ⟨rfl, hb2⟩
      have HB2 := Lib.hid (hB.trans (hb2.mono hB.size))
      have b2 := b1.below hb2 b1.lt
      have r3 := b2.cell 3
      have r4 := b2.cell 4
      have r5 := b2.cell 5
      clear hB hb2 I1 b1
      go_wp2_with fail
      go_fit (I2.out _ HB2.out)
      rintro e w3 ⟨rfl, hb3⟩
      have HB3 := Lib.hid (HB2.out.trans (hb3.mono HB2.out.size))
      have b3 := b2.below hb3 b2.lt
      clear r3 r4 r5
      have r0 := b3.cell 0
      have r1 := b3.cell 1
      have r2 := b3.cell 2
      have r3 := b3.cell 3
      have r4 := b3.cell 4
      have r5 := b3.cell 5
      clear hb3 I2 b2
      go_wp2_with fail
      go_fit (I3.out _ HB3.out)
      rintro e w4 ⟨rfl, hb4⟩
      have HBF := Lib.hid (HB3.out.trans (hb4.mono HB3.out.size))
      clear hb4 I3 r0 r1 r2 r3 r4 r5 b3
      go_wp2_with fail
      go_ret
      exact ⟨rfl, HBF.out⟩

set_option maxHeartbeats 3200000 in
theorem last_any (d : Nat) (w : World) (hd : d ≤ 30) : Calls Tryz.prog 42 #[.int .i64 (d : Int)] w (GivesT false 1 (10 ^ d) w) := by
  have lt := ten_len hd
  have dt := dig_lim (10 ^ d)
  have HV := Lib.hid (val_lim (10 ^ d))
  have HV1 : Hid (val (lim 1) = 1) := val_lim 1
  have d1 := dig_lim 1
  have l1 : (lim 1).length ≤ 1 := by rw [lim_one (by omega) (by omega)]; simp
  have hlow := nr_low (s := false) (n := 1) (d := 10 ^ d) (Nat.gcd_one_left _) (by omega) (Nat.ne_of_gt (Nat.pow_pos (by omega)))
  have HL := Lib.hid hlow
  clear hlow
  have HT := fun W => tens_any d W hd
  replace HT := Lib.hid HT
  generalize 10 ^ d = X at *
  have b0 := Blk.new w 25 #[.bool false, .slice none 0 0, .slice none 0 0]
  have hB : Below w.heap.size w (w.alloc (.cells #[.bool false, .slice none 0 0, .slice none 0 0] 25)) := (Below.refl _ _).alloc (Nat.le_refl _) _
  go_enter Tryz.func42, Tryz.ntmps42
  go_wp2_with fail
  go_fit (of_any' 1 _ rfl _ (by omega))
  rintro e w3 ⟨v3, rfl, h3, hb3⟩
  have q3 := b0.below hb3 b0.lt
  have hB3 := hB.trans (hb3.mono hB.size)
  replace h3 := h3.low (Nat.zero_le _)
  clear b0 hB hb3
  go_wp2_with fail
  go_fit (HT.out _)
  rintro e w4 ⟨v4, rfl, h4, hb4⟩
  have q4 := q3.below hb4 q3.lt
  have hB4 := hB3.trans (hb4.mono hB3.size)
  replace h4 := h4.low (Nat.zero_le _)
  replace h3 := h3.after hb4
  clear q3 hB3 hb4 HT
  go_wp2_with fail
  go_fit (prOf_any false _ _ (lim 1) (lim X) _ d1 dt h3 h4 (by omega) (by omega))
  rw [HV1.out, HV.out, HL.out.1, HL.out.2.1, HL.out.2.2]
  rintro e w5 ⟨v5, rfl, ⟨xn, xd, rfl, hxn, hxd⟩, hb5⟩
  have q5 := q4.below hb5 q4.lt
  have hB5 := hB4.trans (hb5.mono hB4.size)
  replace hxn := hxn.low (show w.heap.size + 1 ≤ _ from q4.lt)
  replace hxd := hxd.low (show w.heap.size + 1 ≤ _ from q4.lt)
  obtain ⟨A5, k5, rfl, m5⟩ := nt_len hxn
  obtain ⟨A6, k6, rfl, m6⟩ := nt_len hxd
  have r0 := q5.cell 0
  have r1 := q5.cell 1
  have r2 := q5.cell 2
  have f0 := q5.free 0
  have f1 := q5.free 1
  have f2 := q5.free 2
  obtain ⟨e0, e1, e2, hR, hBf⟩ := store3 q5 hB5 (Nat.le_refl _) false (.slice A5 (lim 1).length k5) (.slice A6 (lim X).length k6) hxn hxd
  have HR := Lib.hid hR
  have HBF := Lib.hid hBf
  clear q4 q5 hB4 hB5 hb5 hxn hxd h3 h4 hR hBf
  unfold St3 at *
  go_wp2_with fail
  clear r0 r1 r2 f0 f1 f2
  generalize ((World.setCell w5 ⟨w.heap.size, 0, none⟩ (.bool false)).setCell ⟨w.heap.size, 1, none⟩ (.slice A5 (lim 1).length k5)).setCell ⟨w.heap.size, 2, none⟩ (.slice A6 (lim X).length k6) = WW at *
  refine bodyPost_ret (v := .agg #[.bool false, .slice A5 (lim 1).length k5, .slice A6 (lim X).length k6]) ?_ rfl ⟨_, rfl, HR.out, HBF.out⟩
  simp [results, Tryz.results42, go_sem, e0, e1, e2]

/-- What a number is told by, with so many digits behind the point. -/
def fixT (q : Rat) (K : Nat) : List Nat := sgn (nrS (qS q) (rhe (qN q * 10 ^ K) q.den) (10 ^ K)) ++ pnt (prn (rhe (qN q * 10 ^ K) q.den)) K

theorem fixed_q (v : Value) (q : Rat) (k K : Nat) (w : World) (h : RQ w 0 w.heap.size v q k) (hk : k ≤ 70) (hK : K ≤ 60) :
    Calls Tryz.prog 30 #[v, .int .i64 (K : Int)] w fun e w' => e = .returned (.string (strN (fixT q K))) ∧ Below w.heap.size w w' := by
  obtain ⟨s, n, d, hR, dn, dd, ln, ld, rfl⟩ := h
  obtain ⟨e1, e2, e3⟩ := nr_q s (val n) (val d)
  exact fixed_any v s n d K w dn dd hR (by omega) (by omega) _ _ _ K _ e1 e2 e3 (by unfold hold60; omega) rfl

/-- A power of a tenth. -/
def tenth (d : Nat) : Rat := qv false 1 (10 ^ d)

theorem RQ.tenth {w w' : World} {v : Value} {d : Nat} (hd : d ≤ 30) (h : Rt w' w.heap.size w'.heap.size v false (lim 1) (lim (10 ^ d))) : RQ w' 0 w'.heap.size v (tenth d) 30 :=
  ⟨_, _, _, h.low (Nat.zero_le _), dig_lim _, dig_lim _, by rw [lim_one (by omega) (by omega)]; simp, ten_len hd, by rw [val_lim, val_lim]; rfl⟩
end Go.Proofs.YtobmjcbjailclaaGreatDoor
