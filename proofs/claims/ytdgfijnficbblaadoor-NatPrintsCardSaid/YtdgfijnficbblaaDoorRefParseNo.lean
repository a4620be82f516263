/- The reference's 'Parse' of texts that are no digits, or too many. Condition: none. -/
import Derived.Test.YtdgfijnficbblaaDoorRefParse
namespace Go.Proofs.YtdgfijnficbblaaDoor
open Go.RowKit Go.Shelf Go.Lib

theorem undec_len2 (s : ByteArray) (k : Nat) (h4 : s.size ≤ 400) (hg : ∀ x ∈ (byts s).take k, 48 ≤ x ∧ x ≤ 57) : (lim (undec (((byts s).take k).map (· - 48)))).length ≤ 400 := by
  have hl : (((byts s).take k).map (· - 48)).length ≤ 400 := by rw [List.length_map, List.length_take, byts_length]; omega
  have h1 : undec (((byts s).take k).map (· - 48)) < 10 ^ (((byts s).take k).map (· - 48)).length := undec_lt fun x hx => by
    obtain ⟨y, hy, rfl⟩ := List.mem_map.1 hx
    have := hg y hy
    omega
  exact lim_ten h1 hl

set_option maxHeartbeats 3200000 in
theorem refParse_bad (s : ByteArray) (w : World) (h1 : 1 ≤ s.size) (h4 : s.size ≤ 400) (hbad : ∃ x ∈ byts s, ¬ (48 ≤ x ∧ x ≤ 57)) :
    Calls Tryd.prog 6 #[.string s] w (GivesB [] false w) := by
  have hsm : decide ((s.size : Int) < 1) = false := decide_eq_false (by omega)
  have hbig : decide ((400 : Int) < (s.size : Int)) = false := decide_eq_false (by omega)
  have HBAD := Lib.hid hbad
  clear hbad
  go_enter Tryd.func6, Tryd.ntmps6
  have hb : Below w.heap.size w w := Below.refl _ _
  go_wp2_with fail
  go_loopw [4, 5] (fun a i wr => ∃ k : Nat, k ≤ s.size ∧ i = .int .i64 (k : Int) ∧ Nt wr w.heap.size wr.heap.size a (lim (undec (((byts s).take k).map (· - 48)))) ∧ Hid (∀ x ∈ (byts s).take k, 48 ≤ x ∧ x ≤ 57) ∧ Below w.heap.size w wr) (fun _ i _ => s.size - (RowKit.intOf i).toNat)
  case atStart => exact ⟨0, Nat.zero_le _, rfl, by rw [List.take_zero, List.map_nil, show undec [] = 0 from rfl, lim_zero]; exact Nt.nil _ _ _, Lib.hid (fun x hx => by rw [List.take_zero] at hx; cases hx), hb⟩
  case round =>
    obtain ⟨k, hk, rfl, ha, HG, hB⟩ := hrel
    have hll := undec_len2 s k h4 HG.out
    by_cases hlt : k < s.size
    · have HU := Lib.hid (undec_take s k hlt)
      have hkI : (k : Int) < (s.size : Int) := by omega
      by_cases hdg : ¬ (48 ≤ (s[k]'hlt).toNat ∧ (s[k]'hlt).toNat ≤ 57)
      · have hor : ((s[k].toNat : Nat) : Int) < 48 ∨ (57 : Int) < ((s[k].toNat : Nat) : Int) := by omega
        clear hdg HU ha
        rcases hor with h | h
        · go_wp2_with fail
          go_ret2
          exact ⟨_, rfl, Nt.nil _ _ _, hB⟩
        · have h2 : ¬ ((s[k].toNat : Nat) : Int) < 48 := by omega
          go_wp2_with fail
          go_ret2
          exact ⟨_, rfl, Nt.nil _ _ _, hB⟩
      replace hdg := Decidable.not_not.1 hdg
      have HG2 : Hid (∀ x ∈ (byts s).take (k + 1), 48 ≤ x ∧ x ≤ 57) := fun x hx => by
        have h1 : k < (byts s).length := by rw [byts_length]; exact hlt
        rw [List.take_add_one, List.getElem?_eq_getElem h1, Option.toList_some, List.mem_append, List.mem_singleton] at hx
        rcases hx with hx | rfl
        · exact HG.out x hx
        · rw [byts_get s k hlt]; exact hdg
      generalize undec (((byts s).take k).map (· - 48)) = m at *
      have ten : Hid (∀ W : World, Nt (W.alloc (.cells #[.int .u32 10] 33)) 0 (W.alloc (.cells #[.int .u32 10] 33)).heap.size (.slice (some ⟨W.heap.size, 0, none⟩) 1 1) [10]) := fun W => (nt_laid W 33 [10] (by simp)).1
      obtain ⟨d, hd⟩ : ∃ d, s[k].toNat = 48 + d := ⟨s[k].toNat - 48, by omega⟩
      have hd9 : d < 10 := by omega
      have hdI : ((s[k].toNat : Nat) : Int) = 48 + (d : Int) := by omega
      have hu : IntKind.u8.wrap (d : Int) = (d : Int) := by unfold IntKind.wrap; simp [IntKind.bits, IntKind.signed]; omega
      have hsb : (48 : Int) + (d : Int) - 48 = (d : Int) := by omega
      have hu32 : IntKind.u32.wrap (d : Int) = (d : Int) := by unfold IntKind.wrap; simp [IntKind.bits, IntKind.signed]; omega
      rw [hd, Nat.add_sub_cancel_left] at HU
      have HA : Hid (∀ o, Nt (wr.alloc o) 0 (wr.alloc o).heap.size u4 (lim m)) := fun o => ((ha.low (Nat.zero_le _)).alloc (Nat.le_refl _) o).up (by simp)
      have DL := Lib.hid (dig_lim m)
      have D10 : Dig [10] := by intro x hx; simp at hx; omega
      have VM : Hid (val (lim m) = m) := val_lim m
      have dl : Hid (∀ W : World, Nt (W.alloc (.cells #[.int .u32 (d : Int)] 33)) 0 (W.alloc (.cells #[.int .u32 (d : Int)] 33)).heap.size (.slice (some ⟨W.heap.size, 0, none⟩) 1 1) [d]) := fun W => (nt_laid W 33 [d] (by simp)).1
      have DD : Dig [d] := by intro x hx; simp at hx; omega
      have hnx : Hid ((lim (undec (((byts s).take (k + 1)).map (· - 48)))).length ≤ 400) := undec_len2 s (k + 1) h4 HG2.out
      have HL3 : Hid ((lim (val (lim m) * val [10])).length ≤ 100000) := by
        show _ ≤ _
        exact Nat.le_trans (lim_mul_len DL.out D10 rfl rfl hll (by simp : [10].length ≤ 1)) (by omega)
      have HV5 : Hid (val (lim (val (lim m) * val [10])) + val [d] = undec (((byts s).take (k + 1)).map (· - 48))) := by
        show _ = _
        rw [val_lim, val_lim, HU.out]
        simp [val]
      have HZ : ∀ o : Obj, (wr.alloc o).heap.size = wr.heap.size + 1 := fun o => by simp
      have HA1 : Hid (∀ o, Nt (wr.alloc o).drew 0 (wr.alloc o).drew.heap.size u4 (lim m)) := fun o => HA.out o
      have HA2 : Hid (∀ o o', Nt ((wr.alloc o).alloc o').drew 0 ((wr.alloc o).alloc o').drew.heap.size u4 (lim m)) := fun o o' => ((HA.out o).alloc (Nat.le_refl _) o').up (by simp)
      have T1 : Hid (∀ W : World, Nt (W.alloc (.cells #[.int .u32 10] 33)).drew 0 (W.alloc (.cells #[.int .u32 10] 33)).drew.heap.size (.slice (some ⟨W.heap.size, 0, none⟩) 1 1) [10]) := fun W => ten.out W
      have T2 : Hid (∀ o, Nt ((wr.alloc (.cells #[.int .u32 10] 33)).alloc o).drew 0 ((wr.alloc (.cells #[.int .u32 10] 33)).alloc o).drew.heap.size (.slice (some ⟨wr.heap.size, 0, none⟩) 1 1) [10]) := fun o => ((ten.out wr).alloc (Nat.le_refl _) o).up (by simp)
      have D3 : Hid (∀ o, Nt ((wr.alloc (.cells #[.int .u32 (d : Int)] 33)).alloc o).drew 0 ((wr.alloc (.cells #[.int .u32 (d : Int)] 33)).alloc o).drew.heap.size (.slice (some ⟨wr.heap.size, 0, none⟩) 1 1) [d]) := fun o => ((dl.out wr).alloc (Nat.le_refl _) o).up (by simp)
      have T3 : Hid (∀ o, Nt ((wr.alloc o).alloc (.cells #[.int .u32 10] 33)).drew 0 ((wr.alloc o).alloc (.cells #[.int .u32 10] 33)).drew.heap.size (.slice (some ⟨wr.heap.size + 1, 0, none⟩) 1 1) [10]) := fun o => by have h := ten.out (wr.alloc o); rw [HZ o] at h; exact h
      have D2 : Hid (∀ o, Nt ((wr.alloc o).alloc (.cells #[.int .u32 (d : Int)] 33)).drew 0 ((wr.alloc o).alloc (.cells #[.int .u32 (d : Int)] 33)).drew.heap.size (.slice (some ⟨wr.heap.size + 1, 0, none⟩) 1 1) [d]) := fun o => by have h := dl.out (wr.alloc o); rw [HZ o] at h; exact h
      have HBB : Hid (∀ o o', Below wr.heap.size wr ((wr.alloc o).alloc o').drew) := fun o o' => Below.drew (Below.alloc (Below.alloc (Below.refl _ _) (Nat.le_refl _) _) (by simp) _)
      have HB1 : Hid (∀ o, Below wr.heap.size wr (wr.alloc o).drew) := fun o => Below.drew (Below.alloc (Below.refl _ _) (Nat.le_refl _) _)
      clear HZ
      have HLM : Hid ((lim m).length ≤ 100000) := Nat.le_trans hll (by omega)
      have H1 : Hid ([10].length ≤ 100000) := by show 1 ≤ _; omega
      have HD1 : Hid ([d].length ≤ 100000) := by show 1 ≤ _; omega
      clear hd hdg ha
      go_wp2_with fail
      go_region_held3 (fun W => Below wr.heap.size wr W)
        (with_reducible (first | assumption | exact Below.drew (Below.refl _ _) | exact HB1.out _ | exact HBB.out _ _ | exact Below.alloc hbk hbk.size _))
        (first
          | (go_at_call 17; go_fit (refMul_any _ _ (lim m) [10] _ DL.out D10 (HA2.out _ _) (T2.out _) HLM.out H1.out); rintro e3 w3 ⟨v3, rfl, h3, hb3⟩; have h4 := (D2.out _).after hb3; have hbk : Below wr.heap.size wr w3 := Below.trans (HBB.out _ _) (hb3.mono (HBB.out _ _).size))
          | (go_at_call 17; go_fit (refMul_any _ _ (lim m) [10] _ DL.out D10 (HA2.out _ _) (T3.out _) HLM.out H1.out); rintro e3 w3 ⟨v3, rfl, h3, hb3⟩; have h4 := (D3.out _).after hb3; have hbk : Below wr.heap.size wr w3 := Below.trans (HBB.out _ _) (hb3.mono (HBB.out _ _).size))
          | (go_at_call 17; go_fit (refMul_any _ _ (lim m) [10] _ DL.out D10 (HA1.out _) (T1.out _) HLM.out H1.out); rintro e3 w3 ⟨v3, rfl, h3, hb3⟩; have hbk : Below wr.heap.size wr w3 := Below.trans (HB1.out _) (hb3.mono (HB1.out _).size))
          | (go_at_call 16; go_fit (refAdd_any _ _ _ _ _ (dig_lim _) DD (h3.low (Nat.zero_le _)) h4 HL3.out HD1.out); rintro e5 w5 ⟨v5, rfl, h5, hb5⟩; have hbk4 : Below wr.heap.size wr w3 := hbk; have hbk5 : Below wr.heap.size wr w5 := hbk4.trans (hb5.mono hbk4.size))
          | (go_at_call 16; have hh := Nt.up (B' := (w3.alloc (.cells #[.int .u32 (d : Int)] 33)).heap.size) ((h3.low (Nat.zero_le _)).alloc (Nat.le_refl _) (.cells #[.int .u32 (d : Int)] 33)) (by simp); go_fit (refAdd_any _ _ _ _ _ (dig_lim _) DD hh (dl.out _) HL3.out HD1.out); rintro e5 w5 ⟨v5, rfl, h5, hb5⟩; have hbk4 : Below wr.heap.size wr (w3.alloc (.cells #[.int .u32 (d : Int)] 33)) := Below.alloc hbk hbk.size _; have hbk5 : Below wr.heap.size wr w5 := hbk4.trans (hb5.mono hbk4.size))
          | fail)
      all_goals
        rw [HV5.out] at h5
        replace h5 := h5.low (Nat.le_trans hB.size hbk4.size)
        have hBB := hB.trans (hbk5.mono hB.size)
        clear hb3 hbk hbk4 h3 hb5 hbk5 HU HA HV5
        go_wp2_with fail
        refine ⟨⟨k + 1, by omega, by go_num, h5, HG2.out, hBB⟩, ?_⟩
        simp [RowKit.intOf]
        omega
    · obtain rfl : k = s.size := by omega
      obtain ⟨x, hx, hn⟩ := HBAD.out
      have := HG.out x (by rw [List.take_of_length_le (by rw [byts_length]; omega)]; exact hx)
      exact absurd this hn

set_option maxHeartbeats 3200000 in
theorem refParse_no (s : ByteArray) (w : World) (hk : ¬ okS s) :
    Calls Tryd.prog 6 #[.string s] w (GivesB [] false w) := by
  by_cases h1 : 1 ≤ s.size
  · by_cases h2 : s.size ≤ 400
    · refine refParse_bad s w h1 h2 ?_
      apply Classical.byContradiction
      intro hc
      refine hk ⟨h1, h2, fun x hx => ?_⟩
      apply Classical.byContradiction
      intro hn
      exact hc ⟨x, hx, hn⟩
    · have hsm : decide ((s.size : Int) < 1) = false := decide_eq_false (by omega)
      have hbig : decide ((400 : Int) < (s.size : Int)) = true := decide_eq_true (by omega)
      clear hk h1 h2
      go_enter Tryd.func6, Tryd.ntmps6
      go_wp2_with fail
      go_ret2
      exact ⟨_, rfl, Nt.nil _ _ _, Below.refl _ _⟩
  · have hsm : decide ((s.size : Int) < 1) = true := decide_eq_true (by omega)
    clear hk h1
    go_enter Tryd.func6, Tryd.ntmps6
    go_wp2_with fail
    go_ret2
    exact ⟨_, rfl, Nt.nil _ _ _, Below.refl _ _⟩
end Go.Proofs.YtdgfijnficbblaaDoor
