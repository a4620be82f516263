/- Several texts in one: Parse, RefParse, RefParseNo, TextC, TopText, TopNum, StrAdd, DecC, CutC. Condition: each says its own. -/
import Derived.Deep.DeepFit
import Derived.Laws.Concat
import Derived.Shelf.Strings.Search2
import Derived.Shelf.Small.Wraps
import Derived.Test.YtchokmhfgikglaaGreatDoorPk2
import Derived.Test.YtchokmhfgikglaaGreatDoorPk3
import Derived.Test.YtchokmhfgikglaaGreatDoorPk4
import Derived.Test.YtchokmhfgikglaaGreatDoorPk5
import Derived.Test.YtchokmhfgikglaaGreatDoorPk8
import Derived.Test.YtchokmhfgikglaaGreatDoorPk9
import Derived.Test.YtchokmhfgikglaaGreatDoorPk14
namespace Go.Proofs.YtchokmhfgikglaaGreatDoor
set_option maxRecDepth 100000
open Go.RowKit Go.Shelf Go.Lib

/-- A text's bytes as numbers. -/
def byts (s : ByteArray) : List Nat := s.data.toList.map (·.toNat)
/-- A text of digits that may be read. -/
def okS (s : ByteArray) : Prop := 1 ≤ s.size ∧ s.size ≤ 400 ∧ ∀ x ∈ byts s, 48 ≤ x ∧ x ≤ 57
/-- The number that digits tell. -/
def numS (s : ByteArray) : Nat := undec ((byts s).map (· - 48))

theorem byts_length (s : ByteArray) : (byts s).length = s.size := by unfold byts; rw [List.length_map]; rfl
theorem byts_get (s : ByteArray) (i : Nat) (h : i < s.size) : (byts s)[i]'(by rw [byts_length]; exact h) = (s[i]'h).toNat := by
  unfold byts
  rw [List.getElem_map]
  rfl

theorem dropWhile_nil {α : Type} (p : α → Bool) : ∀ l : List α, l.dropWhile p = [] ↔ ∀ x ∈ l, p x = true
  | [] => by simp
  | a :: r => by
    rw [List.dropWhile_cons]
    by_cases h : p a = true
    · rw [if_pos h, dropWhile_nil p r]
      simp [h]
    · rw [if_neg h]
      simp [h]

theorem digit_in (b : UInt8) : ([48, 49, 50, 51, 52, 53, 54, 55, 56, 57] : List UInt8).contains b = decide (48 ≤ b.toNat ∧ b.toNat ≤ 57) := by
  have h : ∀ n : Fin 256, ([48, 49, 50, 51, 52, 53, 54, 55, 56, 57] : List UInt8).contains (UInt8.ofNat n.val) = decide (48 ≤ n.val ∧ n.val ≤ 57) := by decide +kernel
  have := h ⟨b.toNat, b.toNat_lt⟩
  simpa using this

theorem trim_digits (l : List UInt8) : Lib.trimS l [48, 49, 50, 51, 52, 53, 54, 55, 56, 57] = [] ↔ ∀ x ∈ l.map (·.toNat), 48 ≤ x ∧ x ≤ 57 := by
  have hp : ∀ x : UInt8, ([48, 49, 50, 51, 52, 53, 54, 55, 56, 57] : List UInt8).contains x = true ↔ (48 ≤ x.toNat ∧ x.toNat ≤ 57) := fun x => by rw [digit_in, decide_eq_true_iff]
  unfold Lib.trimS Lib.trimLeftS
  rw [dropWhile_nil]
  constructor
  · intro h
    have h2 : Lib.trimRightS l [48, 49, 50, 51, 52, 53, 54, 55, 56, 57] = [] := by
      unfold Lib.trimRightS at h ⊢
      rw [List.reverse_eq_nil_iff]
      cases hd : List.dropWhile (fun x => ([48, 49, 50, 51, 52, 53, 54, 55, 56, 57] : List UInt8).contains x) l.reverse with
      | nil => rfl
      | cons x r =>
        have h3 := h x (by rw [hd]; simp)
        have h4 := List.head_dropWhile_not (p := fun x => ([48, 49, 50, 51, 52, 53, 54, 55, 56, 57] : List UInt8).contains x) (l := l.reverse) (by rw [hd]; simp)
        simp only [hd, List.head_cons] at h4
        rw [h3] at h4
        cases h4
    unfold Lib.trimRightS at h2
    rw [List.reverse_eq_nil_iff, dropWhile_nil] at h2
    intro x hx
    obtain ⟨y, hy, rfl⟩ := List.mem_map.1 hx
    exact (hp y).1 (h2 y (List.mem_reverse.2 hy))
  · intro h
    have h2 : Lib.trimRightS l [48, 49, 50, 51, 52, 53, 54, 55, 56, 57] = [] := by
      unfold Lib.trimRightS
      rw [List.reverse_eq_nil_iff, dropWhile_nil]
      intro x hx
      exact (hp x).2 (h _ (List.mem_map.2 ⟨x, List.mem_reverse.1 hx, rfl⟩))
    rw [h2]
    simp

set_option maxHeartbeats 3200000 in
theorem trimAll (s : ByteArray) (w : World) (hs : s.size ≤ 400) :
    Calls Tryz.prog 37 #[.string s, .string ⟨#[48, 49, 50, 51, 52, 53, 54, 55, 56, 57]⟩] w fun e w' => e = .returned (.string ⟨(Lib.trimS s.data.toList [48, 49, 50, 51, 52, 53, 54, 55, 56, 57]).toArray⟩) ∧ Below w.heap.size w w' :=
  Any.strings_Trim_laid Tryz.lays160 (by kernel_rfl) s ⟨#[48, 49, 50, 51, 52, 53, 54, 55, 56, 57]⟩ w (by omega) (by decide) (ascii_of_all (by decide))

theorem undec_take (s : ByteArray) (k : Nat) (h : k < s.size) : undec (((byts s).take (k + 1)).map (· - 48)) = undec (((byts s).take k).map (· - 48)) * 10 + ((s[k]'h).toNat - 48) := by
  have h1 : k < (byts s).length := by rw [byts_length]; exact h
  rw [List.take_add_one, List.getElem?_eq_getElem h1, Option.toList_some, List.map_append, List.map_singleton, undec_snoc, byts_get s k h]

theorem undec_len (s : ByteArray) (k : Nat) (hk : okS s) : (lim (undec (((byts s).take k).map (· - 48)))).length ≤ 400 := by
  have hl : (((byts s).take k).map (· - 48)).length ≤ 400 := by rw [List.length_map, List.length_take, byts_length]; have := hk.2.1; omega
  have h1 : undec (((byts s).take k).map (· - 48)) < 10 ^ (((byts s).take k).map (· - 48)).length := undec_lt fun x hx => by
    obtain ⟨y, hy, rfl⟩ := List.mem_map.1 hx
    have := hk.2.2 y (List.mem_of_mem_take hy)
    omega
  exact lim_ten h1 hl

set_option maxHeartbeats 3200000 in
theorem parse_any (s : ByteArray) (w : World) (hk : okS s) :
    Calls Tryz.prog 136 #[.string s] w (GivesB (lim (numS s)) true w) := by
  have hemp : s.toList.isEmpty = false := by
    rw [ByteArray.toList_eq]
    have := hk.1
    cases h : s.data.toList with
    | nil =>
      have h2 : s.size = s.data.toList.length := rfl
      rw [h, List.length_nil] at h2
      omega
    | cons => rfl
  have hbig : decide ((400 : Int) < (s.size : Int)) = false := decide_eq_false (by have := hk.2.1; omega)
  have htr := trimAll s w hk.2.1
  rw [(trim_digits s.data.toList).2 hk.2.2] at htr
  have hs4 := hk.2.1
  have HK := Lib.hid hk
  clear hk
  go_enter Tryz.func136, Tryz.ntmps136
  go_wp2_with fail
  refine htr.mono ?_
  rintro e w1 ⟨rfl, hb⟩
  go_wp2_with fail
  go_loopw [4, 20] (fun a i wr => ∃ k : Nat, k ≤ s.size ∧ i = .int .i64 (k : Int) ∧ Nt wr w.heap.size wr.heap.size a (lim (undec (((byts s).take k).map (· - 48)))) ∧ Below w.heap.size w wr) (fun _ i _ => s.size - (RowKit.intOf i).toNat)
  case atStart => exact ⟨0, Nat.zero_le _, rfl, by rw [List.take_zero, List.map_nil, show undec [] = 0 from rfl, lim_zero]; exact Nt.nil _ _ _, hb⟩
  case round =>
    obtain ⟨k, hk, rfl, ha, hB⟩ := hrel
    have hll := undec_len s k HK.out
    by_cases hlt : k < s.size
    · have HU := Lib.hid (undec_take s k hlt)
      have hkI : (k : Int) < (s.size : Int) := by omega
      have hdg := HK.out.2.2 _ (List.getElem_mem (by rw [byts_length]; exact hlt : k < (byts s).length))
      rw [byts_get s k hlt] at hdg
      generalize undec (((byts s).take k).map (· - 48)) = m at *
      have ten : Hid (∀ W : World, Nt (W.alloc (.cells #[.int .u32 10] 122)) 0 (W.alloc (.cells #[.int .u32 10] 122)).heap.size (.slice (some ⟨W.heap.size, 0, none⟩) 1 1) [10]) := fun W => (nt_laid W 122 [10] (by simp)).1
      obtain ⟨d, hd⟩ : ∃ d, s[k].toNat = 48 + d := ⟨s[k].toNat - 48, by omega⟩
      have hd9 : d < 10 := by omega
      have hdI : ((s[k].toNat : Nat) : Int) = 48 + (d : Int) := by omega
      have hu : IntKind.u8.wrap (d : Int) = (d : Int) := by unfold IntKind.wrap; simp [IntKind.bits, IntKind.signed]; omega
      have hsb : (48 : Int) + (d : Int) - 48 = (d : Int) := by omega
      have hu64 : IntKind.u64.wrap (d : Int) = (d : Int) := IntWalk.u64_in _ (by omega)
      rw [hd, Nat.add_sub_cancel_left] at HU
      have HA : Hid (∀ o, Nt (wr.alloc o) 0 (wr.alloc o).heap.size u4 (lim m)) := fun o => ((ha.low (Nat.zero_le _)).alloc (Nat.le_refl _) o).up (by simp)
      have DL := Lib.hid (dig_lim m)
      have D10 : Dig [10] := by intro x hx; simp at hx; omega
      have VM : Hid (val (lim m) = m) := val_lim m
      have HOF : Hid (∀ W, Calls Tryz.prog 52 #[.int .u64 (d : Int)] W (Gives (lim d) W)) := fun W => of_any d W (by omega)
      have hnx : Hid ((lim (undec (((byts s).take (k + 1)).map (· - 48)))).length ≤ 400) := undec_len s (k + 1) HK.out
      have HL3 : Hid ((lim (val (lim m) * val [10])).length ≤ 100000) := by
        show _ ≤ _
        exact Nat.le_trans (lim_mul_len DL.out D10 rfl rfl hll (by simp : [10].length ≤ 1)) (by omega)
      have HL4 : Hid ((lim d).length ≤ 100000) := by
        show _ ≤ _
        have : (lim d).length ≤ 1 := lim_length_le (by omega)
        omega
      have HV5 : Hid (val (lim (val (lim m) * val [10])) + val (lim d) = undec (((byts s).take (k + 1)).map (· - 48))) := by
        show _ = _
        rw [val_lim, val_lim, val_lim, HU.out]
        rfl
      clear hd hdg ha
      go_wp2_with fail
      go_region_held3 (fun W => Below wr.heap.size wr W)
        (first | assumption | exact Below.drew (Below.refl _ _) | exact Below.drew (by assumption) | exact Below.alloc (Below.drew (Below.refl _ _)) (Nat.le_refl _) _)
        (first
          | (go_at_call 140; refine (mul_any _ _ (lim m) [10] _ DL.out D10 (HA.out _).drew (ten.out _).drew (by omega) (by simp)).mono ?_; rintro e3 w3 ⟨v3, rfl, h3, hb3⟩; have hbk : Below wr.heap.size wr w3 := Below.trans (Below.drew (Below.alloc (Below.refl _ _) (Nat.le_refl _) _)) (hb3.mono (by simp)))
          | (go_at_call 52; refine (HOF.out _).mono ?_; rintro e4 w4 ⟨v4, rfl, h4, hb4⟩; have hbk4 : Below wr.heap.size wr w4 := hbk.trans (hb4.mono hbk.size); replace h3 := (h3.low (Nat.zero_le _)).after hb4; replace h4 := h4.low (Nat.zero_le _))
          | (go_at_call 208; refine (add_any _ _ _ _ _ (dig_lim _) (dig_lim _) h3 h4 HL3.out HL4.out).mono ?_; rintro e5 w5 ⟨v5, rfl, h5, hb5⟩; have hbk5 : Below wr.heap.size wr w5 := hbk4.trans (hb5.mono hbk4.size))
          | fail)
      all_goals
        rw [HV5.out] at h5
        replace h5 := h5.low (Nat.le_trans hB.size hbk4.size)
        have hBB := hB.trans (hbk5.mono hB.size)
        clear hb3 hbk hb4 hbk4 h3 h4 hb5 hbk5 HU HA HV5
        go_wp2_with fail
        refine ⟨⟨k + 1, by omega, by go_num, h5, hBB⟩, ?_⟩
        simp [RowKit.intOf]
        omega
    · obtain rfl : k = s.size := by omega
      have hall : Hid (undec (((byts s).take s.size).map (· - 48)) = numS s) := by
        show _ = _
        rw [List.take_of_length_le (by rw [byts_length]; omega)]
        rfl
      rw [hall.out] at ha
      go_wp2_with fail
      go_ret2
      exact ⟨_, rfl, ha, hB⟩

theorem isEmpty_size (s : ByteArray) : s.toList.isEmpty = decide (s.size = 0) := by
  rw [ByteArray.toList_eq]
  have h2 : s.size = s.data.toList.length := rfl
  rw [h2]
  cases s.data.toList <;> simp

set_option maxHeartbeats 3200000 in
theorem parse_no (s : ByteArray) (w : World) (hk : ¬ okS s) :
    Calls Tryz.prog 136 #[.string s] w (GivesB [] false w) := by
  have hem := isEmpty_size s
  by_cases h1 : s.size = 0
  · rw [h1] at hem
    replace hem : s.toList.isEmpty = true := hem
    clear hk h1
    go_enter Tryz.func136, Tryz.ntmps136
    go_wp2_with fail
    go_ret2
    exact ⟨_, rfl, Nt.nil _ _ _, Below.refl _ _⟩
  · replace hem : s.toList.isEmpty = false := hem.trans (decide_eq_false h1)
    by_cases h2 : s.size ≤ 400
    · have hbig : decide ((400 : Int) < (s.size : Int)) = false := decide_eq_false (by omega)
      have htr := trimAll s w h2
      have hne : Lib.trimS s.data.toList [48, 49, 50, 51, 52, 53, 54, 55, 56, 57] ≠ [] := fun h => hk ⟨by omega, h2, (trim_digits _).1 h⟩
      have hte : (⟨(Lib.trimS s.data.toList [48, 49, 50, 51, 52, 53, 54, 55, 56, 57]).toArray⟩ : ByteArray).toList.isEmpty = false := by
        rw [ByteArray.toList_mk]
        cases h : Lib.trimS s.data.toList [48, 49, 50, 51, 52, 53, 54, 55, 56, 57] with
        | nil => exact absurd h hne
        | cons => rfl
      generalize (⟨(Lib.trimS s.data.toList [48, 49, 50, 51, 52, 53, 54, 55, 56, 57]).toArray⟩ : ByteArray) = t at htr hte
      clear hk h1 hne h2
      go_enter Tryz.func136, Tryz.ntmps136
      go_wp2_with fail
      refine htr.mono ?_
      rintro e w1 ⟨rfl, hb⟩
      clear htr
      go_wp2_with fail
      go_ret2
      exact ⟨_, rfl, Nt.nil _ _ _, hb⟩
    · have hbig : decide ((400 : Int) < (s.size : Int)) = true := decide_eq_true (by omega)
      clear hk h1 h2
      go_enter Tryz.func136, Tryz.ntmps136
      go_wp2_with fail
      go_ret2
      exact ⟨_, rfl, Nt.nil _ _ _, Below.refl _ _⟩
end Go.Proofs.YtchokmhfgikglaaGreatDoor

namespace Go.Proofs.YtchokmhfgikglaaGreatDoor
set_option maxRecDepth 100000
open Go.RowKit Go.Shelf Go.Lib

set_option maxHeartbeats 3200000 in
theorem refParse_any (s : ByteArray) (w : World) (hk : okS s) :
    Calls Tryz.prog 148 #[.string s] w (GivesB (lim (numS s)) true w) := by
  have hsm : decide ((s.size : Int) < 1) = false := decide_eq_false (by have := hk.1; omega)
  have hbig : decide ((400 : Int) < (s.size : Int)) = false := decide_eq_false (by have := hk.2.1; omega)
  have hs4 := hk.2.1
  have HK := Lib.hid hk
  clear hk
  go_enter Tryz.func148, Tryz.ntmps148
  have hb : Below w.heap.size w w := Below.refl _ _
  go_wp2_with fail
  go_loopw [4, 5] (fun a i wr => ∃ k : Nat, k ≤ s.size ∧ i = .int .i64 (k : Int) ∧ Nt wr w.heap.size wr.heap.size a (lim (undec (((byts s).take k).map (· - 48)))) ∧ Below w.heap.size w wr) (fun _ i _ => s.size - (RowKit.intOf i).toNat)
  case atStart => exact ⟨0, Nat.zero_le _, rfl, by rw [List.take_zero, List.map_nil, show undec [] = 0 from rfl, lim_zero]; exact Nt.nil _ _ _, hb⟩
  case round =>
    obtain ⟨k, hk, rfl, ha, hB⟩ := hrel
    have hll := undec_len s k HK.out
    by_cases hlt : k < s.size
    · have HU := Lib.hid (undec_take s k hlt)
      have hkI : (k : Int) < (s.size : Int) := by omega
      have hdg := HK.out.2.2 _ (List.getElem_mem (by rw [byts_length]; exact hlt : k < (byts s).length))
      rw [byts_get s k hlt] at hdg
      generalize undec (((byts s).take k).map (· - 48)) = m at *
      have ten : Hid (∀ W : World, Nt (W.alloc (.cells #[.int .u32 10] 122)) 0 (W.alloc (.cells #[.int .u32 10] 122)).heap.size (.slice (some ⟨W.heap.size, 0, none⟩) 1 1) [10]) := fun W => (nt_laid W 122 [10] (by simp)).1
      obtain ⟨d, hd⟩ : ∃ d, s[k].toNat = 48 + d := ⟨s[k].toNat - 48, by omega⟩
      have hd9 : d < 10 := by omega
      have hdI : ((s[k].toNat : Nat) : Int) = 48 + (d : Int) := by omega
      have hu : IntKind.u8.wrap (d : Int) = (d : Int) := by unfold IntKind.wrap; simp [IntKind.bits, IntKind.signed]; omega
      have hsb : (48 : Int) + (d : Int) - 48 = (d : Int) := by omega
      have hu32 : IntKind.u32.wrap (d : Int) = (d : Int) := by unfold IntKind.wrap; simp [IntKind.bits, IntKind.signed]; omega
      rw [hd, Nat.add_sub_cancel_left] at HU
      have HA : Hid (∀ o, Nt (wr.alloc o) 0 (wr.alloc o).heap.size u4 (lim m)) := fun o => ((ha.low (Nat.zero_le _)).alloc (Nat.le_refl _) o).up (by simp)
      have DL := Lib.hid (dig_lim m)
      have D10 : Dig [10] := by intro x hx; simp at hx; omega
      have VM : Hid (val (lim m) = m) := val_lim m
      have dl : Hid (∀ W : World, Nt (W.alloc (.cells #[.int .u32 (d : Int)] 122)) 0 (W.alloc (.cells #[.int .u32 (d : Int)] 122)).heap.size (.slice (some ⟨W.heap.size, 0, none⟩) 1 1) [d]) := fun W => (nt_laid W 122 [d] (by simp)).1
      have DD : Dig [d] := by intro x hx; simp at hx; omega
      have hnx : Hid ((lim (undec (((byts s).take (k + 1)).map (· - 48)))).length ≤ 400) := undec_len s (k + 1) HK.out
      have HL3 : Hid ((lim (val (lim m) * val [10])).length ≤ 100000) := by
        show _ ≤ _
        exact Nat.le_trans (lim_mul_len DL.out D10 rfl rfl hll (by simp : [10].length ≤ 1)) (by omega)
      have HV5 : Hid (val (lim (val (lim m) * val [10])) + val [d] = undec (((byts s).take (k + 1)).map (· - 48))) := by
        show _ = _
        rw [val_lim, val_lim, HU.out]
        simp [val]
      have HZ : ∀ o : Obj, (wr.alloc o).heap.size = wr.heap.size + 1 := fun o => by simp
      have HA1 : Hid (∀ o, Nt (wr.alloc o).drew 0 (wr.alloc o).drew.heap.size u4 (lim m)) := fun o => HA.out o
      have HA2 : Hid (∀ o o', Nt ((wr.alloc o).alloc o').drew 0 ((wr.alloc o).alloc o').drew.heap.size u4 (lim m)) := fun o o' => ((HA.out o).alloc (Nat.le_refl _) o').up (by simp)
      have T1 : Hid (∀ W : World, Nt (W.alloc (.cells #[.int .u32 10] 122)).drew 0 (W.alloc (.cells #[.int .u32 10] 122)).drew.heap.size (.slice (some ⟨W.heap.size, 0, none⟩) 1 1) [10]) := fun W => ten.out W
      have T2 : Hid (∀ o, Nt ((wr.alloc (.cells #[.int .u32 10] 122)).alloc o).drew 0 ((wr.alloc (.cells #[.int .u32 10] 122)).alloc o).drew.heap.size (.slice (some ⟨wr.heap.size, 0, none⟩) 1 1) [10]) := fun o => ((ten.out wr).alloc (Nat.le_refl _) o).up (by simp)
      have D3 : Hid (∀ o, Nt ((wr.alloc (.cells #[.int .u32 (d : Int)] 122)).alloc o).drew 0 ((wr.alloc (.cells #[.int .u32 (d : Int)] 122)).alloc o).drew.heap.size (.slice (some ⟨wr.heap.size, 0, none⟩) 1 1) [d]) := fun o => ((dl.out wr).alloc (Nat.le_refl _) o).up (by simp)
      have T3 : Hid (∀ o, Nt ((wr.alloc o).alloc (.cells #[.int .u32 10] 122)).drew 0 ((wr.alloc o).alloc (.cells #[.int .u32 10] 122)).drew.heap.size (.slice (some ⟨wr.heap.size + 1, 0, none⟩) 1 1) [10]) := fun o => by have h := ten.out (wr.alloc o); rw [HZ o] at h; exact h
      have D2 : Hid (∀ o, Nt ((wr.alloc o).alloc (.cells #[.int .u32 (d : Int)] 122)).drew 0 ((wr.alloc o).alloc (.cells #[.int .u32 (d : Int)] 122)).drew.heap.size (.slice (some ⟨wr.heap.size + 1, 0, none⟩) 1 1) [d]) := fun o => by have h := dl.out (wr.alloc o); rw [HZ o] at h; exact h
      have HBB : Hid (∀ o o', Below wr.heap.size wr ((wr.alloc o).alloc o').drew) := fun o o' => Below.drew (Below.alloc (Below.alloc (Below.refl _ _) (Nat.le_refl _) _) (by simp) _)
      have HB1 : Hid (∀ o, Below wr.heap.size wr (wr.alloc o).drew) := fun o => Below.drew (Below.alloc (Below.refl _ _) (Nat.le_refl _) _)
      clear HZ
      have HLM : Hid ((lim m).length ≤ 100000) := Nat.le_trans hll (by omega)
      have H1 : Hid ([10].length ≤ 100000) := by show 1 ≤ _; omega
      have HD1 : Hid ([d].length ≤ 100000) := by show 1 ≤ _; omega
      clear hd hdg ha
      go_wp2_with fail
      go_region_held3 (fun W => Below wr.heap.size wr W)
        (with_reducible (first | assumption | exact Below.drew (Below.refl _ _) | exact HB1.out _ | exact HBB.out _ _ | exact Below.alloc hbk hbk.size _))
        (first
          | (go_at_call 151; go_fit (refMul_any _ _ (lim m) [10] _ DL.out D10 (HA2.out _ _) (T2.out _) HLM.out H1.out); rintro e3 w3 ⟨v3, rfl, h3, hb3⟩; have h4 := (D2.out _).after hb3; have hbk : Below wr.heap.size wr w3 := Below.trans (HBB.out _ _) (hb3.mono (HBB.out _ _).size))
          | (go_at_call 151; go_fit (refMul_any _ _ (lim m) [10] _ DL.out D10 (HA2.out _ _) (T3.out _) HLM.out H1.out); rintro e3 w3 ⟨v3, rfl, h3, hb3⟩; have h4 := (D3.out _).after hb3; have hbk : Below wr.heap.size wr w3 := Below.trans (HBB.out _ _) (hb3.mono (HBB.out _ _).size))
          | (go_at_call 151; go_fit (refMul_any _ _ (lim m) [10] _ DL.out D10 (HA1.out _) (T1.out _) HLM.out H1.out); rintro e3 w3 ⟨v3, rfl, h3, hb3⟩; have hbk : Below wr.heap.size wr w3 := Below.trans (HB1.out _) (hb3.mono (HB1.out _).size))
          | (go_at_call 150; go_fit (refAdd_any _ _ _ _ _ (dig_lim _) DD (h3.low (Nat.zero_le _)) h4 HL3.out HD1.out); rintro e5 w5 ⟨v5, rfl, h5, hb5⟩; have hbk4 : Below wr.heap.size wr w3 := hbk; have hbk5 : Below wr.heap.size wr w5 := hbk4.trans (hb5.mono hbk4.size))
          | (go_at_call 150; have hh := Nt.up (B' := (w3.alloc (.cells #[.int .u32 (d : Int)] 122)).heap.size) ((h3.low (Nat.zero_le _)).alloc (Nat.le_refl _) (.cells #[.int .u32 (d : Int)] 122)) (by simp); go_fit (refAdd_any _ _ _ _ _ (dig_lim _) DD hh (dl.out _) HL3.out HD1.out); rintro e5 w5 ⟨v5, rfl, h5, hb5⟩; have hbk4 : Below wr.heap.size wr (w3.alloc (.cells #[.int .u32 (d : Int)] 122)) := Below.alloc hbk hbk.size _; have hbk5 : Below wr.heap.size wr w5 := hbk4.trans (hb5.mono hbk4.size))
          | fail)
      all_goals
        rw [HV5.out] at h5
        replace h5 := h5.low (Nat.le_trans hB.size hbk4.size)
        have hBB := hB.trans (hbk5.mono hB.size)
        clear hb3 hbk hbk4 h3 hb5 hbk5 HU HA HV5
        go_wp2_with fail
        refine ⟨⟨k + 1, by omega, by go_num, h5, hBB⟩, ?_⟩
        simp [RowKit.intOf]
        omega
    · obtain rfl : k = s.size := by omega
      have hall : Hid (undec (((byts s).take s.size).map (· - 48)) = numS s) := by
        show _ = _
        rw [List.take_of_length_le (by rw [byts_length]; omega)]
        rfl
      rw [hall.out] at ha
      go_wp2_with fail
      go_ret2
      exact ⟨_, rfl, ha, hB⟩

end Go.Proofs.YtchokmhfgikglaaGreatDoor

namespace Go.Proofs.YtchokmhfgikglaaGreatDoor
set_option maxRecDepth 100000
open Go.RowKit Go.Shelf Go.Lib

theorem undec_len2 (s : ByteArray) (k : Nat) (h4 : s.size ≤ 400) (hg : ∀ x ∈ (byts s).take k, 48 ≤ x ∧ x ≤ 57) : (lim (undec (((byts s).take k).map (· - 48)))).length ≤ 400 := by
  have hl : (((byts s).take k).map (· - 48)).length ≤ 400 := by rw [List.length_map, List.length_take, byts_length]; omega
  have h1 : undec (((byts s).take k).map (· - 48)) < 10 ^ (((byts s).take k).map (· - 48)).length := undec_lt fun x hx => by
    obtain ⟨y, hy, rfl⟩ := List.mem_map.1 hx
    have := hg y hy
    omega
  exact lim_ten h1 hl

set_option maxHeartbeats 3200000 in
theorem refParse_bad (s : ByteArray) (w : World) (h1 : 1 ≤ s.size) (h4 : s.size ≤ 400) (hbad : ∃ x ∈ byts s, ¬ (48 ≤ x ∧ x ≤ 57)) :
    Calls Tryz.prog 148 #[.string s] w (GivesB [] false w) := by
  have hsm : decide ((s.size : Int) < 1) = false := decide_eq_false (by omega)
  have hbig : decide ((400 : Int) < (s.size : Int)) = false := decide_eq_false (by omega)
  have HBAD := Lib.hid hbad
  clear hbad
  go_enter Tryz.func148, Tryz.ntmps148
  have hb : Below w.heap.size w w := Below.refl _ _
  go_wp2_with fail
  go_loopw [4, 5] (fun a i wr => ∃ k : Nat, k ≤ s.size ∧ i = .int .i64 (k : Int) ∧ Nt wr w.heap.size wr.heap.size a (lim (undec (((byts s).take k).map (· - 48)))) ∧ Hid (∀ x ∈ (byts s).take k, 48 ≤ x ∧ x ≤ 57) ∧ Below w.heap.size w wr) (fun _ i _ => s.size - (RowKit.intOf i).toNat)
  case atStart => exact ⟨0, Nat.zero_le _, rfl, by rw [List.take_zero, List.map_nil, show undec [] = 0 from rfl, lim_zero]; exact Nt.nil _ _ _, Lib.hid (fun x hx => by rw [List.take_zero] at hx; cases hx), hb⟩
  case round =>
    obtain ⟨k, hk, rfl, ha, HG, hB⟩ := hrel
    have hll := undec_len2 s k h4 HG.out
    by_cases hlt : k < s.size
    · have HU := Lib.hid (undec_take s k hlt)
      have hkI : (k : Int) < (s.size : Int) := by omega
      by_cases hdg : ¬ (48 ≤ (s[k]'hlt).toNat ∧ (s[k]'hlt).toNat ≤ 57)
      · have hor : ((s[k].toNat : Nat) : Int) < 48 ∨ (57 : Int) < ((s[k].toNat : Nat) : Int) := by omega
        clear hdg HU ha
        rcases hor with h | h
        · go_wp2_with fail
          go_ret2
          exact ⟨_, rfl, Nt.nil _ _ _, hB⟩
        · have h2 : ¬ ((s[k].toNat : Nat) : Int) < 48 := by omega
          go_wp2_with fail
          go_ret2
          exact ⟨_, rfl, Nt.nil _ _ _, hB⟩
      replace hdg := Decidable.not_not.1 hdg
      have HG2 : Hid (∀ x ∈ (byts s).take (k + 1), 48 ≤ x ∧ x ≤ 57) := fun x hx => by
        have h1 : k < (byts s).length := by rw [byts_length]; exact hlt
        rw [List.take_add_one, List.getElem?_eq_getElem h1, Option.toList_some, List.mem_append, List.mem_singleton] at hx
        rcases hx with hx | rfl
        · exact HG.out x hx
        · rw [byts_get s k hlt]; exact hdg
      generalize undec (((byts s).take k).map (· - 48)) = m at *
      have ten : Hid (∀ W : World, Nt (W.alloc (.cells #[.int .u32 10] 122)) 0 (W.alloc (.cells #[.int .u32 10] 122)).heap.size (.slice (some ⟨W.heap.size, 0, none⟩) 1 1) [10]) := fun W => (nt_laid W 122 [10] (by simp)).1
      obtain ⟨d, hd⟩ : ∃ d, s[k].toNat = 48 + d := ⟨s[k].toNat - 48, by omega⟩
      have hd9 : d < 10 := by omega
      have hdI : ((s[k].toNat : Nat) : Int) = 48 + (d : Int) := by omega
      have hu : IntKind.u8.wrap (d : Int) = (d : Int) := by unfold IntKind.wrap; simp [IntKind.bits, IntKind.signed]; omega
      have hsb : (48 : Int) + (d : Int) - 48 = (d : Int) := by omega
      have hu32 : IntKind.u32.wrap (d : Int) = (d : Int) := by unfold IntKind.wrap; simp [IntKind.bits, IntKind.signed]; omega
      rw [hd, Nat.add_sub_cancel_left] at HU
      have HA : Hid (∀ o, Nt (wr.alloc o) 0 (wr.alloc o).heap.size u4 (lim m)) := fun o => ((ha.low (Nat.zero_le _)).alloc (Nat.le_refl _) o).up (by simp)
      have DL := Lib.hid (dig_lim m)
      have D10 : Dig [10] := by intro x hx; simp at hx; omega
      have VM : Hid (val (lim m) = m) := val_lim m
      have dl : Hid (∀ W : World, Nt (W.alloc (.cells #[.int .u32 (d : Int)] 122)) 0 (W.alloc (.cells #[.int .u32 (d : Int)] 122)).heap.size (.slice (some ⟨W.heap.size, 0, none⟩) 1 1) [d]) := fun W => (nt_laid W 122 [d] (by simp)).1
      have DD : Dig [d] := by intro x hx; simp at hx; omega
      have hnx : Hid ((lim (undec (((byts s).take (k + 1)).map (· - 48)))).length ≤ 400) := undec_len2 s (k + 1) h4 HG2.out
      have HL3 : Hid ((lim (val (lim m) * val [10])).length ≤ 100000) := by
        show _ ≤ _
        exact Nat.le_trans (lim_mul_len DL.out D10 rfl rfl hll (by simp : [10].length ≤ 1)) (by omega)
      have HV5 : Hid (val (lim (val (lim m) * val [10])) + val [d] = undec (((byts s).take (k + 1)).map (· - 48))) := by
        show _ = _
        rw [val_lim, val_lim, HU.out]
        simp [val]
      have HZ : ∀ o : Obj, (wr.alloc o).heap.size = wr.heap.size + 1 := fun o => by simp
      have HA1 : Hid (∀ o, Nt (wr.alloc o).drew 0 (wr.alloc o).drew.heap.size u4 (lim m)) := fun o => HA.out o
      have HA2 : Hid (∀ o o', Nt ((wr.alloc o).alloc o').drew 0 ((wr.alloc o).alloc o').drew.heap.size u4 (lim m)) := fun o o' => ((HA.out o).alloc (Nat.le_refl _) o').up (by simp)
      have T1 : Hid (∀ W : World, Nt (W.alloc (.cells #[.int .u32 10] 122)).drew 0 (W.alloc (.cells #[.int .u32 10] 122)).drew.heap.size (.slice (some ⟨W.heap.size, 0, none⟩) 1 1) [10]) := fun W => ten.out W
      have T2 : Hid (∀ o, Nt ((wr.alloc (.cells #[.int .u32 10] 122)).alloc o).drew 0 ((wr.alloc (.cells #[.int .u32 10] 122)).alloc o).drew.heap.size (.slice (some ⟨wr.heap.size, 0, none⟩) 1 1) [10]) := fun o => ((ten.out wr).alloc (Nat.le_refl _) o).up (by simp)
      have D3 : Hid (∀ o, Nt ((wr.alloc (.cells #[.int .u32 (d : Int)] 122)).alloc o).drew 0 ((wr.alloc (.cells #[.int .u32 (d : Int)] 122)).alloc o).drew.heap.size (.slice (some ⟨wr.heap.size, 0, none⟩) 1 1) [d]) := fun o => ((dl.out wr).alloc (Nat.le_refl _) o).up (by simp)
      have T3 : Hid (∀ o, Nt ((wr.alloc o).alloc (.cells #[.int .u32 10] 122)).drew 0 ((wr.alloc o).alloc (.cells #[.int .u32 10] 122)).drew.heap.size (.slice (some ⟨wr.heap.size + 1, 0, none⟩) 1 1) [10]) := fun o => by have h := ten.out (wr.alloc o); rw [HZ o] at h; exact h
      have D2 : Hid (∀ o, Nt ((wr.alloc o).alloc (.cells #[.int .u32 (d : Int)] 122)).drew 0 ((wr.alloc o).alloc (.cells #[.int .u32 (d : Int)] 122)).drew.heap.size (.slice (some ⟨wr.heap.size + 1, 0, none⟩) 1 1) [d]) := fun o => by have h := dl.out (wr.alloc o); rw [HZ o] at h; exact h
      have HBB : Hid (∀ o o', Below wr.heap.size wr ((wr.alloc o).alloc o').drew) := fun o o' => Below.drew (Below.alloc (Below.alloc (Below.refl _ _) (Nat.le_refl _) _) (by simp) _)
      have HB1 : Hid (∀ o, Below wr.heap.size wr (wr.alloc o).drew) := fun o => Below.drew (Below.alloc (Below.refl _ _) (Nat.le_refl _) _)
      clear HZ
      have HLM : Hid ((lim m).length ≤ 100000) := Nat.le_trans hll (by omega)
      have H1 : Hid ([10].length ≤ 100000) := by show 1 ≤ _; omega
      have HD1 : Hid ([d].length ≤ 100000) := by show 1 ≤ _; omega
      clear hd hdg ha
      go_wp2_with fail
      go_region_held3 (fun W => Below wr.heap.size wr W)
        (with_reducible (first | assumption | exact Below.drew (Below.refl _ _) | exact HB1.out _ | exact HBB.out _ _ | exact Below.alloc hbk hbk.size _))
        (first
          | (go_at_call 151; go_fit (refMul_any _ _ (lim m) [10] _ DL.out D10 (HA2.out _ _) (T2.out _) HLM.out H1.out); rintro e3 w3 ⟨v3, rfl, h3, hb3⟩; have h4 := (D2.out _).after hb3; have hbk : Below wr.heap.size wr w3 := Below.trans (HBB.out _ _) (hb3.mono (HBB.out _ _).size))
          | (go_at_call 151; go_fit (refMul_any _ _ (lim m) [10] _ DL.out D10 (HA2.out _ _) (T3.out _) HLM.out H1.out); rintro e3 w3 ⟨v3, rfl, h3, hb3⟩; have h4 := (D3.out _).after hb3; have hbk : Below wr.heap.size wr w3 := Below.trans (HBB.out _ _) (hb3.mono (HBB.out _ _).size))
          | (go_at_call 151; go_fit (refMul_any _ _ (lim m) [10] _ DL.out D10 (HA1.out _) (T1.out _) HLM.out H1.out); rintro e3 w3 ⟨v3, rfl, h3, hb3⟩; have hbk : Below wr.heap.size wr w3 := Below.trans (HB1.out _) (hb3.mono (HB1.out _).size))
          | (go_at_call 150; go_fit (refAdd_any _ _ _ _ _ (dig_lim _) DD (h3.low (Nat.zero_le _)) h4 HL3.out HD1.out); rintro e5 w5 ⟨v5, rfl, h5, hb5⟩; have hbk4 : Below wr.heap.size wr w3 := hbk; have hbk5 : Below wr.heap.size wr w5 := hbk4.trans (hb5.mono hbk4.size))
          | (go_at_call 150; have hh := Nt.up (B' := (w3.alloc (.cells #[.int .u32 (d : Int)] 122)).heap.size) ((h3.low (Nat.zero_le _)).alloc (Nat.le_refl _) (.cells #[.int .u32 (d : Int)] 122)) (by simp); go_fit (refAdd_any _ _ _ _ _ (dig_lim _) DD hh (dl.out _) HL3.out HD1.out); rintro e5 w5 ⟨v5, rfl, h5, hb5⟩; have hbk4 : Below wr.heap.size wr (w3.alloc (.cells #[.int .u32 (d : Int)] 122)) := Below.alloc hbk hbk.size _; have hbk5 : Below wr.heap.size wr w5 := hbk4.trans (hb5.mono hbk4.size))
          | fail)
      all_goals
        rw [HV5.out] at h5
        replace h5 := h5.low (Nat.le_trans hB.size hbk4.size)
        have hBB := hB.trans (hbk5.mono hB.size)
        clear hb3 hbk hbk4 h3 hb5 hbk5 HU HA HV5
        go_wp2_with fail
        refine ⟨⟨k + 1, by omega, by go_num, h5, HG2.out, hBB⟩, ?_⟩
        simp [RowKit.intOf]
        omega
    · obtain rfl : k = s.size := by omega
      obtain ⟨x, hx, hn⟩ := HBAD.out
      have := HG.out x (by rw [List.take_of_length_le (by rw [byts_length]; omega)]; exact hx)
      exact absurd this hn

set_option maxHeartbeats 3200000 in
theorem refParse_no (s : ByteArray) (w : World) (hk : ¬ okS s) :
    Calls Tryz.prog 148 #[.string s] w (GivesB [] false w) := by
  by_cases h1 : 1 ≤ s.size
  · by_cases h2 : s.size ≤ 400
    · refine refParse_bad s w h1 h2 ?_
      apply Classical.byContradiction
      intro hc
      refine hk ⟨h1, h2, fun x hx => ?_⟩
      apply Classical.byContradiction
      intro hn
      exact hc ⟨x, hx, hn⟩
    · have hsm : decide ((s.size : Int) < 1) = false := decide_eq_false (by omega)
      have hbig : decide ((400 : Int) < (s.size : Int)) = true := decide_eq_true (by omega)
      clear hk h1 h2
      go_enter Tryz.func148, Tryz.ntmps148
      go_wp2_with fail
      go_ret2
      exact ⟨_, rfl, Nt.nil _ _ _, Below.refl _ _⟩
  · have hsm : decide ((s.size : Int) < 1) = true := decide_eq_true (by omega)
    clear hk h1
    go_enter Tryz.func148, Tryz.ntmps148
    go_wp2_with fail
    go_ret2
    exact ⟨_, rfl, Nt.nil _ _ _, Below.refl _ _⟩
end Go.Proofs.YtchokmhfgikglaaGreatDoor

namespace Go.Proofs.YtchokmhfgikglaaGreatDoor
set_option maxRecDepth 100000
open Go.RowKit Go.Shelf Go.Lib

/-- Bytes. -/
def Byt (l : List Nat) : Prop := ∀ x ∈ l, x < 256

theorem byts_of (l : List Nat) (h : Byt l) : byts (strN l) = l := by
  unfold byts strN
  simp only [List.map_map]
  conv => rhs; rw [← List.map_id l]
  apply List.map_congr_left
  intro x hx
  have := h x hx
  simp [UInt8.toNat_ofNat']
  omega

theorem okS_okD (l : List Nat) (h : Byt l) : okS (strN l) ↔ okD l = true := by
  unfold okS okD isD
  rw [strN_size, byts_of l h]
  simp only [Bool.and_eq_true, decide_eq_true_eq, List.all_eq_true]

theorem parse_l (l : List Nat) (h : Byt l) (w : World) : Calls Tryz.prog 136 #[.string (strN l)] w (GivesB (if okD l = true then lim (numD l) else []) (okD l) w) := by
  by_cases hk : okD l = true
  · rw [if_pos hk, hk]
    have := parse_any (strN l) w ((okS_okD l h).2 hk)
    unfold numS at this
    rw [byts_of l h] at this
    exact this
  · have hf : okD l = false := by simpa using hk
    rw [if_neg hk, hf]
    exact parse_no (strN l) w (fun h' => hk ((okS_okD l h).1 h'))

theorem refParse_l (l : List Nat) (h : Byt l) (w : World) : Calls Tryz.prog 148 #[.string (strN l)] w (GivesB (if okD l = true then lim (numD l) else []) (okD l) w) := by
  by_cases hk : okD l = true
  · rw [if_pos hk, hk]
    have := refParse_any (strN l) w ((okS_okD l h).2 hk)
    unfold numS at this
    rw [byts_of l h] at this
    exact this
  · have hf : okD l = false := by simpa using hk
    rw [if_neg hk, hf]
    exact refParse_no (strN l) w (fun h' => hk ((okS_okD l h).1 h'))
end Go.Proofs.YtchokmhfgikglaaGreatDoor

namespace Go.Proofs.YtchokmhfgikglaaGreatDoor

/-- What parts numbers: a blank, a comma, a line's end. -/
def isG (x : Nat) : Bool := x == 32 || x == 44 || x == 10

/-- The words between what parts them; 'cur': what of a word has come. -/
def wordsA : List Nat → List Nat → List (List Nat)
  | cur, [] => if cur = [] then [] else [cur]
  | cur, c :: r => if isG c = true then (if cur = [] then wordsA [] r else cur :: wordsA [] r) else wordsA (cur ++ [c]) r
def wordsG (l : List Nat) : List (List Nat) := wordsA [] l

theorem wordsA_nil : wordsA [] [] = [] := rfl
theorem wordsA_gap {c : Nat} {r : List Nat} (h : isG c = true) : wordsA [] (c :: r) = wordsA [] r := by
  rw [wordsA, if_pos h, if_pos rfl]
theorem wordsA_more {cur r : List Nat} {c : Nat} (h : isG c = false) : wordsA cur (c :: r) = wordsA (cur ++ [c]) r := by
  rw [wordsA, if_neg (by rw [h]; simp)]
theorem wordsA_end {cur : List Nat} (h : cur ≠ []) : wordsA cur [] = [cur] := by
  rw [wordsA, if_neg h]
theorem wordsA_stop {cur r : List Nat} {c : Nat} (h : cur ≠ []) (hc : isG c = true) : wordsA cur (c :: r) = cur :: wordsA [] r := by
  rw [wordsA, if_pos hc, if_neg h]
/-- A word ends where nothing follows, or what parts. -/
theorem wordsA_word {cur b : List Nat} (h : cur ≠ []) (hb : b = [] ∨ ∃ c r, b = c :: r ∧ isG c = true) : wordsA cur b = cur :: wordsA [] b := by
  rcases hb with rfl | ⟨c, r, rfl, hc⟩
  · rw [wordsA_end h, wordsA_nil]
  · rw [wordsA_stop h hc, wordsA_gap hc]

/-- A text without what stands between a number sign and the line's end; 'off': such a sign stood. -/
def plainG : Bool → List Nat → List Nat
  | _, [] => []
  | off, c :: r => if (if c = 10 then false else if c = 35 then true else off) = true then plainG true r else c :: plainG false r

theorem plainG_nl {off : Bool} {r : List Nat} : plainG off (10 :: r) = 10 :: plainG false r := by rw [plainG]; simp
theorem plainG_on {c : Nat} {r : List Nat} (h : c ≠ 10) : plainG true (c :: r) = plainG true r := by
  rw [plainG]
  by_cases h35 : c = 35 <;> simp [h, h35]
theorem plainG_hash {off : Bool} {r : List Nat} : plainG off (35 :: r) = plainG true r := by rw [plainG]; simp
theorem plainG_off {c : Nat} {r : List Nat} (h : c ≠ 10) (h35 : c ≠ 35) : plainG false (c :: r) = c :: plainG false r := by
  rw [plainG]
  simp [h, h35]
/-- One byte more. -/
theorem plainG_cases (off : Bool) (c : Nat) (r : List Nat) : plainG off (c :: r) = plainG true r ∨ plainG off (c :: r) = c :: plainG false r := by
  rw [plainG]
  generalize (if c = 10 then false else if c = 35 then true else off) = b
  cases b
  · exact Or.inr rfl
  · exact Or.inl rfl

theorem plainG_len (off : Bool) (l : List Nat) : (plainG off l).length ≤ l.length := by
  induction l generalizing off with
  | nil => exact Nat.le_refl _
  | cons c r ih =>
    have h1 := ih true
    have h2 := ih false
    rcases plainG_cases off c r with e | e <;> rw [e] <;> simp only [List.length_cons] <;> omega

theorem plainG_byt {l : List Nat} (h : Byt l) (off : Bool) : Byt (plainG off l) := by
  induction l generalizing off with
  | nil => intro x hx; simp [plainG] at hx
  | cons c r ih =>
    have hr : Byt r := fun x hx => h x (by simp [hx])
    rcases plainG_cases off c r with e | e
    · rw [e]; exact ih hr true
    · rw [e]
      intro x hx
      rcases List.mem_cons.1 hx with rfl | hx
      · exact h _ (by simp)
      · exact ih hr false x hx

/-- Lines. -/
def linesG : List Nat → List (List Nat)
  | [] => [[]]
  | c :: r => if c = 10 then [] :: linesG r else match linesG r with
    | [] => [[c]]
    | x :: xs => (c :: x) :: xs
theorem linesG_ne (l : List Nat) : linesG l ≠ [] := by
  cases l with
  | nil => simp [linesG]
  | cons c r =>
    unfold linesG
    split
    · simp
    · cases linesG r <;> simp

/-- Lines put together. -/
def unlinesG : List (List Nat) → List Nat
  | [] => []
  | [x] => x
  | x :: y :: r => x ++ 10 :: unlinesG (y :: r)

def cutG (l : List Nat) : List Nat := l.takeWhile (· != 35)

theorem unlinesG_cons {x : List Nat} {xs : List (List Nat)} (h : xs ≠ []) : unlinesG (x :: xs) = x ++ 10 :: unlinesG xs := by
  cases xs with
  | nil => exact absurd rfl h
  | cons y r => rfl

/-- Cut line by line it is what is left byte by byte. -/
theorem plainG_lines (l : List Nat) : unlinesG ((linesG l).map cutG) = plainG false l ∧
    (∀ x xs, linesG l = x :: xs → (if xs = [] then [] else 10 :: unlinesG (xs.map cutG)) = plainG true l) := by
  induction l with
  | nil =>
    refine ⟨rfl, fun x xs h => ?_⟩
    simp only [linesG, List.cons.injEq] at h
    obtain ⟨rfl, rfl⟩ := h
    rfl
  | cons c r ih =>
    obtain ⟨i1, i2⟩ := ih
    obtain ⟨y, ys, hy⟩ := List.exists_cons_of_ne_nil (linesG_ne r)
    by_cases h10 : c = 10
    · subst h10
      have e : linesG (10 :: r) = [] :: linesG r := by rw [linesG, if_pos rfl]
      have p : ∀ off, plainG off (10 :: r) = 10 :: plainG false r := fun off => plainG_nl
      rw [e]
      refine ⟨?_, fun x xs h => ?_⟩
      · rw [List.map_cons, unlinesG_cons (by simp [linesG_ne]), i1, p]
        rfl
      · simp only [List.cons.injEq] at h
        obtain ⟨rfl, rfl⟩ := h
        rw [if_neg (linesG_ne r), i1, p]
    · have e : linesG (c :: r) = (c :: y) :: ys := by
        rw [linesG, if_neg h10, hy]
      have hi2 := i2 y ys hy
      rw [hy] at i1
      refine ⟨?_, fun x xs h => ?_⟩
      · rw [e, List.map_cons]
        by_cases h35 : c = 35
        · subst h35
          have p : plainG false (35 :: r) = plainG true r := plainG_hash
          have ec : cutG (35 :: y) = [] := by unfold cutG; rw [List.takeWhile_cons]; rfl
          rw [p, ec, ← hi2]
          by_cases hys : ys = []
          · subst hys; rfl
          · rw [if_neg hys, unlinesG_cons (by simpa using hys)]; rfl
        · have p : plainG false (c :: r) = c :: plainG false r := plainG_off h10 h35
          have ec : cutG (c :: y) = c :: cutG y := by unfold cutG; rw [List.takeWhile_cons, if_pos (by simp [h35])]
          rw [p, ec, ← i1, List.map_cons]
          by_cases hys : ys = []
          · subst hys; rfl
          · rw [unlinesG_cons (by simpa using hys), unlinesG_cons (by simpa using hys)]; rfl
      · rw [e] at h
        simp only [List.cons.injEq] at h
        obtain ⟨rfl, rfl⟩ := h
        have p : plainG true (c :: r) = plainG true r := plainG_on h10
        rw [p, ← hi2]

theorem plainG_of_lines (l : List Nat) : unlinesG ((linesG l).map cutG) = plainG false l := (plainG_lines l).1
end Go.Proofs.YtchokmhfgikglaaGreatDoor

namespace Go.Proofs.YtchokmhfgikglaaGreatDoor

/-- Is it a sign? -/
def isS (x : Nat) : Bool := x == 43 || x == 45

/-- A text's sign, and what stands behind it. -/
def signG : List Nat → Bool × List Nat
  | [] => (false, [])
  | c :: r => if c = 45 then (true, r) else if c = 43 then (false, r) else (false, c :: r)

theorem signG_cons (c : Nat) (r : List Nat) : signG (c :: r) = if c = 45 then (true, r) else if c = 43 then (false, r) else (false, c :: r) := rfl

/-- What stands behind an 'e': a power of ten, or none. -/
def expG (l : List Nat) : Option Int :=
  if 1 ≤ (signG l).2.length ∧ (signG l).2.length ≤ 2 ∧ (signG l).2.all isD = true ∧ numD (signG l).2 ≤ 30 then some (if (signG l).1 = true then -(numD (signG l).2 : Int) else (numD (signG l).2 : Int)) else none

theorem isD_noS {x : Nat} (h : isD x = true) : isS x = false := by
  unfold isD at h
  have := of_decide_eq_true h
  unfold isS
  simp
  omega

/-- The other way: all signs are cut; one at most may have stood there. -/
theorem sign_ways (l : List Nat) : (l.length - (l.dropWhile isS).length ≤ 1 ∧ 1 ≤ (l.dropWhile isS).length ∧ (l.dropWhile isS).length ≤ 2 ∧ (l.dropWhile isS).all isD = true) ↔
    (1 ≤ (signG l).2.length ∧ (signG l).2.length ≤ 2 ∧ (signG l).2.all isD = true) := by
  cases l with
  | nil => simp [signG]
  | cons c r =>
    by_cases hc : isS c = true
    · have e1 : (c :: r).dropWhile isS = r.dropWhile isS := by rw [List.dropWhile_cons, if_pos hc]
      have e2 : (signG (c :: r)).2 = r := by
        rw [signG_cons]
        split
        · rfl
        · split
          · rfl
          · unfold isS at hc; simp at hc; omega
      rw [e1, e2]
      cases r with
      | nil => simp
      | cons d t =>
        by_cases hd : isS d = true
        · have e3 : (d :: t).dropWhile isS = t.dropWhile isS := by rw [List.dropWhile_cons, if_pos hd]
          have hl : (t.dropWhile isS).length ≤ t.length := (List.dropWhile_sublist _).length_le
          have hn : isD d = false := by
            cases h : isD d
            · rfl
            · have := isD_noS h; rw [hd] at this; cases this
          rw [e3]
          constructor
          · rintro ⟨h, -⟩
            simp only [List.length_cons] at h
            omega
          · rintro ⟨-, -, h⟩
            simp [hn] at h
        · have e3 : (d :: t).dropWhile isS = d :: t := by rw [List.dropWhile_cons, if_neg hd]
          rw [e3]
          constructor
          · rintro ⟨-, h⟩; exact h
          · intro h
            exact ⟨by simp only [List.length_cons]; omega, h⟩
    · have e1 : (c :: r).dropWhile isS = c :: r := by rw [List.dropWhile_cons, if_neg hc]
      have e2 : (signG (c :: r)).2 = c :: r := by
        unfold isS at hc
        simp at hc
        rw [signG_cons, if_neg (by omega), if_neg (by omega)]
      rw [e1, e2]
      constructor
      · rintro ⟨-, h⟩; exact h
      · intro h
        exact ⟨by omega, h⟩

/-- Where it is one, the text is its sign and its digits. -/
theorem sign_text {l : List Nat} (h : (signG l).2.all isD = true) : l = (signG l).2 ∧ (signG l).1 = false ∨ l = 43 :: (signG l).2 ∧ (signG l).1 = false ∨ l = 45 :: (signG l).2 ∧ (signG l).1 = true := by
  cases l with
  | nil => exact Or.inl ⟨rfl, rfl⟩
  | cons c r =>
    rw [signG_cons]
    split
    · rename_i hc; subst hc; exact Or.inr (Or.inr ⟨rfl, rfl⟩)
    · split
      · rename_i hc; subst hc; exact Or.inr (Or.inl ⟨rfl, rfl⟩)
      · exact Or.inl ⟨rfl, rfl⟩

/-- The value of a row of two digits at most. -/
theorem numD_two {r : List Nat} (h : r.length ≤ 2) (hd : r.all isD = true) : numD r < 100 := by
  have : numD r < 10 ^ r.length := by
    unfold numD
    have h1 := undec_lt (l := r.map (· - 48)) fun x hx => by
      obtain ⟨y, hy, rfl⟩ := List.mem_map.1 hx
      have := List.all_eq_true.1 hd y hy
      unfold isD at this
      have := of_decide_eq_true this
      omega
    rw [List.length_map] at h1
    exact h1
  exact Nat.lt_of_lt_of_le this (Nat.le_trans (Nat.pow_le_pow_right (by omega) h) (by decide))
end Go.Proofs.YtchokmhfgikglaaGreatDoor

namespace Go.Proofs.YtchokmhfgikglaaGreatDoor
set_option maxRecDepth 100000
open Go.RowKit

theorem strN_append (a b : List Nat) : strN a ++ strN b = strN (a ++ b) := by
  unfold strN
  rw [ByteArray.mk_append_mk, List.map_append]

theorem add_str (a b : List Nat) (h : a.length + b.length ≤ 1000000) {P : Program} (w : World) : (Op.stringOp .add (strN a) (strN b)).run P w = .ok (.string (strN (a ++ b))) w := by
  rw [run_string_add_sum w _ _ (by rw [strN_size, strN_size]; omega), strN_append]
end Go.Proofs.YtchokmhfgikglaaGreatDoor

namespace Go.Proofs.YtchokmhfgikglaaGreatDoor
set_option maxRecDepth 100000
open Go.RowKit Go.Shelf Go.Lib

/-- A sign as bytes. -/
def sgn (s : Bool) : List Nat := if s then [45] else []

theorem sgn_len (s : Bool) : (sgn s).length ≤ 1 := by cases s <;> simp [sgn]

set_option maxHeartbeats 1600000 in
theorem sign_any (v : Value) (s : Bool) (vn vd : Value) (w : World) (hv : v = .agg #[.bool s, vn, vd]) :
    Calls Tryz.prog 49 #[v] w fun e w' => e = .returned (.string (strN (sgn s))) ∧ Below w.heap.size w w' := by
  subst hv
  have hB : Below w.heap.size w (w.alloc (.cells #[.bool s, vn, vd] 60)) := (Below.refl _ _).alloc (Nat.le_refl _) _
  cases s
  · go_enter Tryz.func49, Tryz.ntmps49
    go_wp2_with fail
    go_ret
    exact ⟨rfl, hB⟩
  · go_enter Tryz.func49, Tryz.ntmps49
    go_wp2_with fail
    go_ret
    exact ⟨rfl, hB⟩

/-- Digits with a point ahead of the last so many. -/
def pnt (cs : List Nat) (n : Nat) : List Nat := if n = 0 then cs else
  (List.replicate (n + 1 - cs.length) 48 ++ cs).take ((List.replicate (n + 1 - cs.length) 48 ++ cs).length - n) ++ [46] ++ (List.replicate (n + 1 - cs.length) 48 ++ cs).drop ((List.replicate (n + 1 - cs.length) 48 ++ cs).length - n)

theorem strN_take (cs : List Nat) (M : Nat) : (strN cs).extract 0 M = strN (cs.take M) := by
  unfold strN
  apply ByteArray.ext
  rw [ByteArray.data_extract]
  apply Array.toList_inj.1
  simp [List.map_take]
theorem strN_drop (cs : List Nat) (M L : Nat) (h : cs.length ≤ L) : (strN cs).extract M L = strN (cs.drop M) := by
  unfold strN
  apply ByteArray.ext
  rw [ByteArray.data_extract]
  apply Array.toList_inj.1
  have h2 : (List.drop M (List.map UInt8.ofNat cs)).length ≤ L - M := by rw [List.length_drop, List.length_map]; omega
  simp [List.map_drop]
  exact List.take_of_length_le h2

theorem prn_len_of {U k : Nat} (h : (lim U).length ≤ k) : (prn U).length ≤ 10 * k + 1 := by
  have h1 : U < 10 ^ (10 * k) := by
    have h2 := val_lt (dig_lim U)
    rw [val_lim] at h2
    rw [Nat.pow_mul]
    exact Nat.lt_of_lt_of_le h2 (Nat.le_trans (Nat.pow_le_pow_right (by omega) h) (Nat.pow_le_pow_left (by omega) _))
  have h3 := dec_length_le _ _ h1
  unfold prn
  split
  · simp
  · unfold digs
    rw [List.length_reverse, List.length_map]
    omega

end Go.Proofs.YtchokmhfgikglaaGreatDoor

namespace Go.Proofs.YtchokmhfgikglaaGreatDoor
set_option maxRecDepth 100000
open Go.RowKit Go.Shelf Go.Lib

theorem ofNat_eq {a b : Nat} (ha : a < 256) (hb : b < 256) : (UInt8.ofNat a == UInt8.ofNat b) = (a == b) := by
  by_cases h : a = b
  · subst h; simp
  · have h1 : UInt8.ofNat a ≠ UInt8.ofNat b := fun hc => h (by
      have := congrArg UInt8.toNat hc
      simp only [UInt8.toNat_ofNat'] at this
      omega)
    rw [beq_eq_false_iff_ne.2 h1, beq_eq_false_iff_ne.2 h]

theorem index_of (c : Nat) (hc : c < 256) : ∀ l : List Nat, Byt l → Lib.indexByte (l.map UInt8.ofNat) (UInt8.ofNat c) = if l.contains c = true then ((l.takeWhile (· != c)).length : Int) else -1
  | [], _ => rfl
  | b :: l, h => by
    have hb : b < 256 := h b (by simp)
    have ih := index_of c hc l fun x hx => h x (by simp [hx])
    rw [List.map_cons, Lib.indexByte, ih, ofNat_eq hb hc]
    by_cases hbc : b = c
    · subst hbc
      simp
    · have e1 : (b == c) = false := beq_eq_false_iff_ne.2 hbc
      have e2 : (b != c) = true := bne_iff_ne.2 hbc
      rw [e1]
      simp only [Bool.false_eq_true, if_false]
      by_cases hm : c ∈ l
      · have e3 : l.contains c = true := by simpa using hm
        have e4 : (b :: l).contains c = true := by simp [hm]
        rw [if_pos e3, if_pos e4, if_neg (by simp), List.takeWhile_cons, if_pos e2, List.length_cons]
        omega
      · have e3 : ¬ l.contains c = true := by simpa using hm
        have e4 : ¬ (b :: l).contains c = true := by simp [hm]; exact fun h => hbc h.symm
        rw [if_neg e3, if_neg e4]
        rfl

theorem take_tw (p : Nat → Bool) : ∀ l : List Nat, l.take (l.takeWhile p).length = l.takeWhile p
  | [] => rfl
  | a :: l => by
    by_cases h : p a = true
    · rw [List.takeWhile_cons, if_pos h, List.length_cons, List.take_succ_cons, take_tw p l]
    · rw [List.takeWhile_cons, if_neg h]; rfl
theorem drop_tw (p : Nat → Bool) : ∀ l : List Nat, l.drop (l.takeWhile p).length = l.dropWhile p
  | [] => rfl
  | a :: l => by
    by_cases h : p a = true
    · rw [List.takeWhile_cons, if_pos h, List.length_cons, List.drop_succ_cons, drop_tw p l, List.dropWhile_cons, if_pos h]
    · rw [List.takeWhile_cons, if_neg h, List.dropWhile_cons, if_neg h]; rfl

theorem tw_lt {c : Nat} : ∀ l : List Nat, c ∈ l → (l.takeWhile (· != c)).length < l.length
  | a :: l, h => by
    by_cases ha : a = c
    · subst ha
      simp
    · have h1 : (a != c) = true := bne_iff_ne.2 ha
      rw [List.takeWhile_cons, if_pos h1, List.length_cons, List.length_cons]
      have := tw_lt l ((List.mem_cons.1 h).resolve_left fun h => ha h.symm)
      omega
theorem tw_none {c : Nat} : ∀ l : List Nat, c ∉ l → l.takeWhile (· != c) = l ∧ l.dropWhile (· != c) = []
  | [], _ => ⟨rfl, rfl⟩
  | a :: l, h => by
    have ha : a ≠ c := fun hc => h (by simp [hc])
    have h1 : (a != c) = true := bne_iff_ne.2 ha
    obtain ⟨e1, e2⟩ := tw_none l fun hc => h (List.mem_cons_of_mem _ hc)
    rw [List.takeWhile_cons, if_pos h1, List.dropWhile_cons, if_pos h1, e1, e2]
    exact ⟨rfl, rfl⟩

set_option maxHeartbeats 1600000 in
theorem slCut_any (l : List Nat) (hl : Byt l) (c : Nat) (hc : c < 256) (h9 : l.length ≤ 1000000) (w : World) :
    Calls Tryz.prog 133 #[.string (strN l), .string ⟨#[UInt8.ofNat c]⟩] w fun e w' => e = .returned (.tuple #[.string (strN (l.takeWhile (· != c))), .string (strN ((l.dropWhile (· != c)).drop 1)), .bool (l.contains c)]) ∧ Below w.heap.size w w' := by
  have hix : ∀ w, Calls Tryz.prog 166 #[.string (strN l), .string ⟨#[UInt8.ofNat c]⟩] w fun e w' => e = .returned (.int .i64 (if l.contains c = true then ((l.takeWhile (· != c)).length : Int) else -1)) ∧ w' = w := fun w => by
    have := Any.stringslite_Index_one Tryz.lays219 (strN l) (UInt8.ofNat c) w
    have e : (strN l).data.toList = l.map UInt8.ofNat := by unfold strN; simp
    rw [e, index_of c hc l hl] at this
    exact this
  have HIX := Lib.hid hix
  clear hix
  by_cases hm : c ∈ l
  · have e3 : l.contains c = true := by simpa using hm
    have hlt := tw_lt l hm
    obtain ⟨M, hM⟩ : ∃ M, (l.takeWhile (· != c)).length = M := ⟨_, rfl⟩
    have x1 : (strN l).extract 0 M = strN (l.takeWhile (· != c)) := by rw [strN_take, ← hM, take_tw]
    have x2 : (strN l).extract (M + 1) l.length = strN ((l.dropWhile (· != c)).drop 1) := by rw [strN_drop _ _ _ (Nat.le_refl _), ← hM, ← drop_tw, List.drop_drop, Nat.add_comm]
    rw [e3]
    have HI2 : Hid (∀ w, Calls Tryz.prog 166 #[.string (strN l), .string ⟨#[UInt8.ofNat c]⟩] w fun e w' => e = .returned (.int .i64 (M : Int)) ∧ w' = w) := fun w => by
      have := HIX.out w
      rw [if_pos e3, hM] at this
      exact this
    have s1 := strN_size l
    rw [hM] at hlt
    generalize strN (l.takeWhile (· != c)) = t1 at *
    generalize strN ((l.dropWhile (· != c)).drop 1) = t2 at *
    generalize strN l = t at *
    clear HIX hm e3 hM hl
    rw [← s1] at x2 hlt h9
    clear s1
    go_enter Tryz.func133, Tryz.ntmps133
    go_wp2_with fail
    refine (HI2.out _).mono ?_
    rintro e w1 ⟨rfl, rfl⟩
    clear HI2
    have p1 : (0 : Int) ≤ (M : Int) := by omega
    have p2 : (M : Int) ≤ (t.size : Int) := by omega
    have p3 : (M : Int) + 1 ≤ (t.size : Int) := by omega
    go_wp2_with fail
    go_quiet (fail)
    go_wp2_with fail
    go_ret3
    exact ⟨rfl, ⟨rfl, rfl, rfl, Nat.le_refl _, fun _ _ => rfl⟩⟩
  · have e3 : l.contains c = false := by simpa using hm
    obtain ⟨y1, y2⟩ := tw_none l hm
    rw [e3, y1, y2]
    have HI2 : Hid (∀ w, Calls Tryz.prog 166 #[.string (strN l), .string ⟨#[UInt8.ofNat c]⟩] w fun e w' => e = .returned (.int .i64 (-1)) ∧ w' = w) := fun w => by
      have := HIX.out w
      rw [if_neg (by rw [e3]; simp)] at this
      exact this
    generalize strN l = t at *
    clear HIX hm e3 y1 y2 hl
    go_enter Tryz.func133, Tryz.ntmps133
    go_wp2_with fail
    refine (HI2.out _).mono ?_
    rintro e w1 ⟨rfl, rfl⟩
    clear HI2
    go_wp2_with fail
    go_ret3
    exact ⟨rfl, Below.refl _ _⟩

theorem cut_any (l : List Nat) (hl : Byt l) (c : Nat) (hc : c < 256) (h9 : l.length ≤ 1000000) (w : World) :
    Calls Tryz.prog 69 #[.string (strN l), .string ⟨#[UInt8.ofNat c]⟩] w fun e w' => e = .returned (.tuple #[.string (strN (l.takeWhile (· != c))), .string (strN ((l.dropWhile (· != c)).drop 1)), .bool (l.contains c)]) ∧ Below w.heap.size w w' := by
  have hcon := fun w => slCut_any l hl c hc h9 w
  generalize strN (l.takeWhile (· != c)) = t1 at *
  generalize strN ((l.dropWhile (· != c)).drop 1) = t2 at *
  generalize strN l = t at *
  generalize l.contains c = b at *
  have HC := Lib.hid hcon
  clear hcon hl
  go_enter Tryz.func69, Tryz.ntmps69
  go_wp2_with fail
  refine (HC.out _).mono ?_
  rintro e w1 ⟨rfl, hb⟩
  clear HC
  go_wp2_with fail
  go_ret3
  exact ⟨rfl, hb⟩

/-- What stands behind a minus, and whether it stands there. -/
def strp (l : List Nat) : Bool × List Nat := match l with
  | [] => (false, [])
  | x :: r => if x = 45 then (true, r) else (false, x :: r)

theorem cutPrefix_any (l : List Nat) (hl : Byt l) (w : World) :
    Calls Tryz.prog 135 #[.string (strN l), .string ⟨#[45]⟩] w fun e w' => e = .returned (.tuple #[.string (strN (strp l).2), .bool (strp l).1]) ∧ w' = w := by
  have := Any.strings_CutPrefix Tryz.lays103 (strN l) ⟨#[45]⟩ w
  have e : (strN l).data.toList = l.map UInt8.ofNat := by unfold strN; simp
  rw [e] at this
  have e1 : Lib.hasPrefix (l.map UInt8.ofNat) [45] = (strp l).1 ∧ Lib.trimPrefix (l.map UInt8.ofNat) [45] = (strp l).2.map UInt8.ofNat := by
    cases l with
    | nil => exact ⟨rfl, rfl⟩
    | cons x r =>
      have hx : x < 256 := hl x (by simp)
      have hp : Lib.hasPrefix ((x :: r).map UInt8.ofNat) [45] = ((45 : Nat) == x) := by
        unfold Lib.hasPrefix
        rw [List.map_cons, List.isPrefixOf, ← ofNat_eq (by omega : 45 < 256) hx]
        show ((UInt8.ofNat 45 == UInt8.ofNat x) && _) = _
        simp
      by_cases h : x = 45
      · subst h
        unfold Lib.trimPrefix
        rw [hp]
        exact ⟨rfl, rfl⟩
      · have h2 : ((45 : Nat) == x) = false := beq_eq_false_iff_ne.2 fun hc => h hc.symm
        have e : strp (x :: r) = (false, x :: r) := if_neg h
        rw [e]
        unfold Lib.trimPrefix
        rw [hp, h2]
        exact ⟨rfl, rfl⟩
  show Calls Tryz.prog 135 _ _ _
  have e2 : (⟨((strp l).2.map UInt8.ofNat).toArray⟩ : ByteArray) = strN (strp l).2 := rfl
  rw [show (⟨#[45]⟩ : ByteArray).data.toList = [45] from rfl, e1.1, e1.2, e2] at this
  exact this
end Go.Proofs.YtchokmhfgikglaaGreatDoor
