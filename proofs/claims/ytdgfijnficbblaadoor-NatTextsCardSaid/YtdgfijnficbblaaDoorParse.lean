/- The program's 'Parse' of digits by its contract. Condition: none. -/
import Derived.Test.YtdgfijnficbblaaDoorPrint
import Derived.Test.YtdgfijnficbblaaDoorOfs
import Derived.Test.YtdgfijnficbblaaDoorAdds2
import Derived.Test.YtdgfijnficbblaaDoorRefSub
namespace Go.Proofs.YtdgfijnficbblaaDoor
open Go.RowKit Go.Shelf Go.Lib

/-- A text's bytes as numbers. -/
def byts (s : ByteArray) : List Nat := s.data.toList.map (·.toNat)
/-- A text of digits that may be read. -/
def okS (s : ByteArray) : Prop := 1 ≤ s.size ∧ s.size ≤ 400 ∧ ∀ x ∈ byts s, 48 ≤ x ∧ x ≤ 57
/-- The number that digits tell. -/
def numS (s : ByteArray) : Nat := undec ((byts s).map (· - 48))

theorem byts_length (s : ByteArray) : (byts s).length = s.size := by unfold byts; rw [List.length_map]; rfl
theorem byts_get (s : ByteArray) (i : Nat) (h : i < s.size) : (byts s)[i]'(by rw [byts_length]; exact h) = (s[i]'h).toNat := by
  unfold byts
  rw [List.getElem_map]
  rfl

theorem dropWhile_nil {α : Type} (p : α → Bool) : ∀ l : List α, l.dropWhile p = [] ↔ ∀ x ∈ l, p x = true
  | [] => by simp
  | a :: r => by
    rw [List.dropWhile_cons]
    by_cases h : p a = true
    · rw [if_pos h, dropWhile_nil p r]
      simp [h]
    · rw [if_neg h]
      simp [h]

theorem digit_in (b : UInt8) : ([48, 49, 50, 51, 52, 53, 54, 55, 56, 57] : List UInt8).contains b = decide (48 ≤ b.toNat ∧ b.toNat ≤ 57) := by
  have h : ∀ n : Fin 256, ([48, 49, 50, 51, 52, 53, 54, 55, 56, 57] : List UInt8).contains (UInt8.ofNat n.val) = decide (48 ≤ n.val ∧ n.val ≤ 57) := by decide +kernel
  have := h ⟨b.toNat, b.toNat_lt⟩
  simpa using this

theorem trim_digits (l : List UInt8) : Lib.trimS l [48, 49, 50, 51, 52, 53, 54, 55, 56, 57] = [] ↔ ∀ x ∈ l.map (·.toNat), 48 ≤ x ∧ x ≤ 57 := by
  have hp : ∀ x : UInt8, ([48, 49, 50, 51, 52, 53, 54, 55, 56, 57] : List UInt8).contains x = true ↔ (48 ≤ x.toNat ∧ x.toNat ≤ 57) := fun x => by rw [digit_in, decide_eq_true_iff]
  unfold Lib.trimS Lib.trimLeftS
  rw [dropWhile_nil]
  constructor
  · intro h
    have h2 : Lib.trimRightS l [48, 49, 50, 51, 52, 53, 54, 55, 56, 57] = [] := by
      unfold Lib.trimRightS at h ⊢
      rw [List.reverse_eq_nil_iff]
      cases hd : List.dropWhile (fun x => ([48, 49, 50, 51, 52, 53, 54, 55, 56, 57] : List UInt8).contains x) l.reverse with
      | nil => rfl
      | cons x r =>
        have h3 := h x (by rw [hd]; simp)
        have h4 := List.head_dropWhile_not (p := fun x => ([48, 49, 50, 51, 52, 53, 54, 55, 56, 57] : List UInt8).contains x) (l := l.reverse) (by rw [hd]; simp)
        simp only [hd, List.head_cons] at h4
        rw [h3] at h4
        cases h4
    unfold Lib.trimRightS at h2
    rw [List.reverse_eq_nil_iff, dropWhile_nil] at h2
    intro x hx
    obtain ⟨y, hy, rfl⟩ := List.mem_map.1 hx
    exact (hp y).1 (h2 y (List.mem_reverse.2 hy))
  · intro h
    have h2 : Lib.trimRightS l [48, 49, 50, 51, 52, 53, 54, 55, 56, 57] = [] := by
      unfold Lib.trimRightS
      rw [List.reverse_eq_nil_iff, dropWhile_nil]
      intro x hx
      exact (hp x).2 (h _ (List.mem_map.2 ⟨x, List.mem_reverse.1 hx, rfl⟩))
    rw [h2]
    simp

set_option maxHeartbeats 3200000 in
theorem trimAll (s : ByteArray) (w : World) (hs : s.size ≤ 400) :
    Calls Tryd.prog 12 #[.string s, .string ⟨#[48, 49, 50, 51, 52, 53, 54, 55, 56, 57]⟩] w fun e w' => e = .returned (.string ⟨(Lib.trimS s.data.toList [48, 49, 50, 51, 52, 53, 54, 55, 56, 57]).toArray⟩) ∧ Below w.heap.size w w' :=
  Any.strings_Trim_laid Tryd.lays160 (by kernel_rfl) s ⟨#[48, 49, 50, 51, 52, 53, 54, 55, 56, 57]⟩ w (by omega) (by decide) (ascii_of_all (by decide))

theorem undec_take (s : ByteArray) (k : Nat) (h : k < s.size) : undec (((byts s).take (k + 1)).map (· - 48)) = undec (((byts s).take k).map (· - 48)) * 10 + ((s[k]'h).toNat - 48) := by
  have h1 : k < (byts s).length := by rw [byts_length]; exact h
  rw [List.take_add_one, List.getElem?_eq_getElem h1, Option.toList_some, List.map_append, List.map_singleton, undec_snoc, byts_get s k h]

theorem lim_ten {n l m : Nat} (h : n < 10 ^ l) (hl : l ≤ m) : (lim n).length ≤ m :=
  lim_length_le (Nat.lt_of_lt_of_le h (Nat.le_trans (Nat.pow_le_pow_left (by omega : 10 ≤ 4294967296) _) (Nat.pow_le_pow_right (by decide) hl)))

theorem undec_len (s : ByteArray) (k : Nat) (hk : okS s) : (lim (undec (((byts s).take k).map (· - 48)))).length ≤ 400 := by
  have hl : (((byts s).take k).map (· - 48)).length ≤ 400 := by rw [List.length_map, List.length_take, byts_length]; have := hk.2.1; omega
  have h1 : undec (((byts s).take k).map (· - 48)) < 10 ^ (((byts s).take k).map (· - 48)).length := undec_lt fun x hx => by
    obtain ⟨y, hy, rfl⟩ := List.mem_map.1 hx
    have := hk.2.2 y (List.mem_of_mem_take hy)
    omega
  exact lim_ten h1 hl

set_option maxHeartbeats 3200000 in
theorem parse_any (s : ByteArray) (w : World) (hk : okS s) :
    Calls Tryd.prog 5 #[.string s] w (GivesB (lim (numS s)) true w) := by
  have hemp : s.toList.isEmpty = false := by
    rw [ByteArray.toList_eq]
    have := hk.1
    cases h : s.data.toList with
    | nil =>
      have h2 : s.size = s.data.toList.length := rfl
      rw [h, List.length_nil] at h2
      omega
    | cons => rfl
  have hbig : decide ((400 : Int) < (s.size : Int)) = false := decide_eq_false (by have := hk.2.1; omega)
  have htr := trimAll s w hk.2.1
  rw [(trim_digits s.data.toList).2 hk.2.2] at htr
  have hs4 := hk.2.1
  have HK := Lib.hid hk
  clear hk
  go_enter Tryd.func5, Tryd.ntmps5
  go_wp2_with fail
  refine htr.mono ?_
  rintro e w1 ⟨rfl, hb⟩
  go_wp2_with fail
  go_loopw [4, 20] (fun a i wr => ∃ k : Nat, k ≤ s.size ∧ i = .int .i64 (k : Int) ∧ Nt wr w.heap.size wr.heap.size a (lim (undec (((byts s).take k).map (· - 48)))) ∧ Below w.heap.size w wr) (fun _ i _ => s.size - (RowKit.intOf i).toNat)
  case atStart => exact ⟨0, Nat.zero_le _, rfl, by rw [List.take_zero, List.map_nil, show undec [] = 0 from rfl, lim_zero]; exact Nt.nil _ _ _, hb⟩
  case round =>
    obtain ⟨k, hk, rfl, ha, hB⟩ := hrel
    have hll := undec_len s k HK.out
    by_cases hlt : k < s.size
    · have HU := Lib.hid (undec_take s k hlt)
      have hkI : (k : Int) < (s.size : Int) := by omega
      have hdg := HK.out.2.2 _ (List.getElem_mem (by rw [byts_length]; exact hlt : k < (byts s).length))
      rw [byts_get s k hlt] at hdg
      generalize undec (((byts s).take k).map (· - 48)) = m at *
      have ten : Hid (∀ W : World, Nt (W.alloc (.cells #[.int .u32 10] 33)) 0 (W.alloc (.cells #[.int .u32 10] 33)).heap.size (.slice (some ⟨W.heap.size, 0, none⟩) 1 1) [10]) := fun W => (nt_laid W 33 [10] (by simp)).1
      obtain ⟨d, hd⟩ : ∃ d, s[k].toNat = 48 + d := ⟨s[k].toNat - 48, by omega⟩
      have hd9 : d < 10 := by omega
      have hdI : ((s[k].toNat : Nat) : Int) = 48 + (d : Int) := by omega
      have hu : IntKind.u8.wrap (d : Int) = (d : Int) := by unfold IntKind.wrap; simp [IntKind.bits, IntKind.signed]; omega
      have hsb : (48 : Int) + (d : Int) - 48 = (d : Int) := by omega
      have hu64 : IntKind.u64.wrap (d : Int) = (d : Int) := IntWalk.u64_in _ (by omega)
      rw [hd, Nat.add_sub_cancel_left] at HU
      have HA : Hid (∀ o, Nt (wr.alloc o) 0 (wr.alloc o).heap.size u4 (lim m)) := fun o => ((ha.low (Nat.zero_le _)).alloc (Nat.le_refl _) o).up (by simp)
      have DL := Lib.hid (dig_lim m)
      have D10 : Dig [10] := by intro x hx; simp at hx; omega
      have VM : Hid (val (lim m) = m) := val_lim m
      have HOF : Hid (∀ W, Calls Tryd.prog 15 #[.int .u64 (d : Int)] W (Gives (lim d) W)) := fun W => of_any d W (by omega)
      have hnx : Hid ((lim (undec (((byts s).take (k + 1)).map (· - 48)))).length ≤ 400) := undec_len s (k + 1) HK.out
      have HL3 : Hid ((lim (val (lim m) * val [10])).length ≤ 100000) := by
        show _ ≤ _
        exact Nat.le_trans (lim_mul_len DL.out D10 rfl rfl hll (by simp : [10].length ≤ 1)) (by omega)
      have HL4 : Hid ((lim d).length ≤ 100000) := by
        show _ ≤ _
        have : (lim d).length ≤ 1 := lim_length_le (by omega)
        omega
      have HV5 : Hid (val (lim (val (lim m) * val [10])) + val (lim d) = undec (((byts s).take (k + 1)).map (· - 48))) := by
        show _ = _
        rw [val_lim, val_lim, val_lim, HU.out]
        rfl
      clear hd hdg ha
      go_wp2_with fail
      go_region_held3 (fun W => Below wr.heap.size wr W)
        (first | assumption | exact Below.drew (Below.refl _ _) | exact Below.drew (by assumption) | exact Below.alloc (Below.drew (Below.refl _ _)) (Nat.le_refl _) _)
        (first
          | (go_at_call 14; refine (mul_any _ _ (lim m) [10] _ DL.out D10 (HA.out _).drew (ten.out _).drew (by omega) (by simp)).mono ?_; rintro e3 w3 ⟨v3, rfl, h3, hb3⟩; have hbk : Below wr.heap.size wr w3 := Below.trans (Below.drew (Below.alloc (Below.refl _ _) (Nat.le_refl _) _)) (hb3.mono (by simp)))
          | (go_at_call 15; refine (HOF.out _).mono ?_; rintro e4 w4 ⟨v4, rfl, h4, hb4⟩; have hbk4 : Below wr.heap.size wr w4 := hbk.trans (hb4.mono hbk.size); replace h3 := (h3.low (Nat.zero_le _)).after hb4; replace h4 := h4.low (Nat.zero_le _))
          | (go_at_call 13; refine (add_any _ _ _ _ _ (dig_lim _) (dig_lim _) h3 h4 HL3.out HL4.out).mono ?_; rintro e5 w5 ⟨v5, rfl, h5, hb5⟩; have hbk5 : Below wr.heap.size wr w5 := hbk4.trans (hb5.mono hbk4.size))
          | fail)
      all_goals
        rw [HV5.out] at h5
        replace h5 := h5.low (Nat.le_trans hB.size hbk4.size)
        have hBB := hB.trans (hbk5.mono hB.size)
        clear hb3 hbk hb4 hbk4 h3 h4 hb5 hbk5 HU HA HV5
        go_wp2_with fail
        refine ⟨⟨k + 1, by omega, by go_num, h5, hBB⟩, ?_⟩
        simp [RowKit.intOf]
        omega
    · obtain rfl : k = s.size := by omega
      have hall : Hid (undec (((byts s).take s.size).map (· - 48)) = numS s) := by
        show _ = _
        rw [List.take_of_length_le (by rw [byts_length]; omega)]
        rfl
      rw [hall.out] at ha
      go_wp2_with fail
      go_ret2
      exact ⟨_, rfl, ha, hB⟩

theorem isEmpty_size (s : ByteArray) : s.toList.isEmpty = decide (s.size = 0) := by
  rw [ByteArray.toList_eq]
  have h2 : s.size = s.data.toList.length := rfl
  rw [h2]
  cases s.data.toList <;> simp

set_option maxHeartbeats 3200000 in
theorem parse_no (s : ByteArray) (w : World) (hk : ¬ okS s) :
    Calls Tryd.prog 5 #[.string s] w (GivesB [] false w) := by
  have hem := isEmpty_size s
  by_cases h1 : s.size = 0
  · rw [h1] at hem
    replace hem : s.toList.isEmpty = true := hem
    clear hk h1
    go_enter Tryd.func5, Tryd.ntmps5
    go_wp2_with fail
    go_ret2
    exact ⟨_, rfl, Nt.nil _ _ _, Below.refl _ _⟩
  · replace hem : s.toList.isEmpty = false := hem.trans (decide_eq_false h1)
    by_cases h2 : s.size ≤ 400
    · have hbig : decide ((400 : Int) < (s.size : Int)) = false := decide_eq_false (by omega)
      have htr := trimAll s w h2
      have hne : Lib.trimS s.data.toList [48, 49, 50, 51, 52, 53, 54, 55, 56, 57] ≠ [] := fun h => hk ⟨by omega, h2, (trim_digits _).1 h⟩
      have hte : (⟨(Lib.trimS s.data.toList [48, 49, 50, 51, 52, 53, 54, 55, 56, 57]).toArray⟩ : ByteArray).toList.isEmpty = false := by
        rw [ByteArray.toList_mk]
        cases h : Lib.trimS s.data.toList [48, 49, 50, 51, 52, 53, 54, 55, 56, 57] with
        | nil => exact absurd h hne
        | cons => rfl
      generalize (⟨(Lib.trimS s.data.toList [48, 49, 50, 51, 52, 53, 54, 55, 56, 57]).toArray⟩ : ByteArray) = t at htr hte
      clear hk h1 hne h2
      go_enter Tryd.func5, Tryd.ntmps5
      go_wp2_with fail
      refine htr.mono ?_
      rintro e w1 ⟨rfl, hb⟩
      clear htr
      go_wp2_with fail
      go_ret2
      exact ⟨_, rfl, Nt.nil _ _ _, hb⟩
    · have hbig : decide ((400 : Int) < (s.size : Int)) = true := decide_eq_true (by omega)
      clear hk h1 h2
      go_enter Tryd.func5, Tryd.ntmps5
      go_wp2_with fail
      go_ret2
      exact ⟨_, rfl, Nt.nil _ _ _, Below.refl _ _⟩
end Go.Proofs.YtdgfijnficbblaaDoor
