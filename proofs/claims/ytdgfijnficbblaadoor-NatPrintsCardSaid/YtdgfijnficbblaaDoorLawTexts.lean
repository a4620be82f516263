/- 'NatTexts' and 'NatPrints' return true at any rows of limbs and any text. No condition. -/
import Derived.Test.YtdgfijnficbblaaDoorLawLaws
import Derived.Test.YtdgfijnficbblaaDoorRefPrint
import Derived.Test.YtdgfijnficbblaaDoorRefParseNo
namespace Go.Proofs.YtdgfijnficbblaaDoor
open Go.RowKit

/-- What Parse gives. -/
theorem parse_both (s : ByteArray) : ∃ (x : List Nat) (b : Bool), x.length ≤ 400 ∧ (∀ w, Calls Tryd.prog 5 #[.string s] w (GivesB x b w)) ∧ (∀ w, Calls Tryd.prog 6 #[.string s] w (GivesB x b w)) := by
  by_cases h : okS s
  · refine ⟨_, _, ?_, fun w => parse_any s w h, fun w => refParse_any s w h⟩
    have := undec_len s s.size h
    rw [List.take_of_length_le (by rw [byts_length]; omega)] at this
    exact this
  · exact ⟨_, _, by simp, fun w => parse_no s w h, fun w => refParse_no s w h⟩

set_option maxHeartbeats 3200000 in
theorem lawTexts_any (u : Value) (s : ByteArray) (a : List Nat) (w : World) (da : Dig a) (ha : Nt w 0 w.heap.size u a) (hs : s.size ≤ maxLen) :
    Calls Tryd.prog 3 #[u, .string s] w fun e w' => e = .returned (.bool true) ∧ Below w.heap.size w w' := by
  unfold maxLen at hs
  by_cases la : a.length ≤ 20
  · by_cases ls : s.size ≤ 450
    · obtain ⟨A1, c1, rfl, m1⟩ := nt_len ha
      obtain ⟨x, b, hx, hp, hq⟩ := parse_both s
      have HP := Lib.hid hp
      have HQ := Lib.hid hq
      have b1 : decide ((20 : Int) < (a.length : Int)) = false := decide_eq_false (by omega)
      have b2 : decide ((450 : Int) < (s.size : Int)) = false := decide_eq_false (by omega)
      have EQ : Hid (eqb x x = true) := eqb_eq rfl
      clear hp hq
      go_enter Tryd.func3, Tryd.ntmps3
      have hB : Below w.heap.size w w := Below.refl _ _
      go_wp2_with fail
      refine (HP.out _).mono ?_
      rintro e w1 ⟨v1, rfl, h1, hb⟩
      replace ha := ha.after hb
      replace hB := hB.trans (hb.mono hB.size)
      replace h1 := h1.low (Nat.zero_le _)
      clear hb
      go_wp2_with fail
      refine (HQ.out _).mono ?_
      rintro e w2 ⟨v2, rfl, h2, hb⟩
      replace ha := ha.after hb
      replace h1 := h1.after hb
      replace hB := hB.trans (hb.mono hB.size)
      replace h2 := h2.low (Nat.zero_le _)
      clear hb HP HQ
      go_wp2_with fail
      refine (print_any _ a _ da ha (by omega)).mono ?_
      rintro e w3 ⟨rfl, hb⟩
      replace ha := ha.after hb
      replace h1 := h1.after hb
      replace h2 := h2.after hb
      replace hB := hB.trans (hb.mono hB.size)
      clear hb
      go_wp2_with fail
      refine (refPrint_any _ a _ da ha (by omega)).mono ?_
      rintro e w4 ⟨rfl, hb⟩
      replace h1 := h1.after hb
      replace h2 := h2.after hb
      replace hB := hB.trans (hb.mono hB.size)
      clear hb ha
      generalize strN (prn (val a)) = t
      have ht : (t.toList == t.toList) = true := beq_self_eq_true _
      go_wp2_with fail
      refine (limbs_any _ _ x x _ h1 h2).mono ?_
      rw [EQ.out]
      rintro e w5 ⟨rfl, hb⟩
      replace hB := hB.trans (hb.mono hB.size)
      clear hb h1 h2
      go_wp2_with fail
      refine (known_any _).mono ?_
      rintro e w6 ⟨rfl, hb⟩
      replace hB := hB.trans (hb.mono hB.size)
      clear hb
      go_wp2_with fail
      go_ret
      exact ⟨rfl, hB⟩
    · obtain ⟨A1, c1, rfl, m1⟩ := nt_len ha
      have b1 : decide ((20 : Int) < (a.length : Int)) = false := decide_eq_false (by omega)
      have b2 : decide ((450 : Int) < (s.size : Int)) = true := decide_eq_true (by omega)
      clear ha
      go_enter Tryd.func3, Tryd.ntmps3
      go_wp2_with fail
      go_ret
      exact ⟨rfl, Below.refl _ _⟩
  · obtain ⟨A1, c1, rfl, m1⟩ := nt_len ha
    have b1 : decide ((20 : Int) < (a.length : Int)) = true := decide_eq_true (by omega)
    clear ha
    go_enter Tryd.func3, Tryd.ntmps3
    go_wp2_with fail
    go_ret
    exact ⟨rfl, Below.refl _ _⟩

theorem byts_strN (cs : List Nat) (h : ∀ x ∈ cs, x < 256) : byts (strN cs) = cs := by
  unfold byts strN
  simp only [List.map_map]
  conv => rhs; rw [← List.map_id cs]
  apply List.map_congr_left
  intro x hx
  have := h x hx
  simp [UInt8.toNat_ofNat']
  omega

theorem prn_bytes (n : Nat) : ∀ x ∈ prn n, 48 ≤ x ∧ x ≤ 57 := by
  intro x hx
  unfold prn at hx
  split at hx
  · rw [List.mem_singleton] at hx; omega
  · unfold digs at hx
    obtain ⟨u, hu, rfl⟩ := List.mem_map.1 (List.mem_reverse.1 hx)
    have := dec_lt n u hu
    omega

theorem prn_num (n : Nat) : undec ((prn n).map (· - 48)) = n := by
  unfold prn
  split
  · rename_i h; rw [h]; rfl
  · unfold digs
    rw [List.map_reverse, List.map_map]
    have : (dec n).map ((· - 48) ∘ (48 + ·)) = dec n := by
      conv => rhs; rw [← List.map_id (dec n)]
      apply List.map_congr_left
      intro x _
      show 48 + x - 48 = x
      omega
    rw [this, undec_dec]

theorem prn_first (n : Nat) : (prn n).length = 1 ∨ (1 < (prn n).length ∧ ∃ x r, prn n = x :: r ∧ x ≠ 48) := by
  unfold prn
  split
  · left; rfl
  · rename_i h
    have h1 : 0 < (dec n).length := by rw [dec_pos h]; simp
    by_cases h2 : (dec n).length = 1
    · left; unfold digs; simp [h2]
    · right
      refine ⟨by unfold digs; simp; omega, ?_⟩
      have hne : dec n ≠ [] := List.ne_nil_of_length_pos h1
      have hl := dec_last n (dec n).dropLast ((dec n).getLast hne) (List.dropLast_concat_getLast hne).symm
      refine ⟨48 + (dec n).getLast hne, ((dec n).dropLast.map (48 + ·)).reverse, ?_, by omega⟩
      unfold digs
      conv => lhs; rw [← List.dropLast_concat_getLast hne]
      simp

theorem prn_len {a : List Nat} (da : Dig a) (la : a.length ≤ 20) : 1 ≤ (prn (val a)).length ∧ (prn (val a)).length ≤ 200 := by
  have h1 : val a < 10 ^ (10 * 20) := by
    rw [Nat.pow_mul]
    exact Nat.lt_of_lt_of_le (val_lt da) (Nat.le_trans (Nat.pow_le_pow_right (by omega) la) (Nat.pow_le_pow_left (by omega) _))
  have h2 := dec_length_le _ _ h1
  unfold prn
  split
  · simp
  · rename_i h
    unfold digs
    rw [List.length_reverse, List.length_map]
    have : 0 < (dec (val a)).length := by rw [dec_pos h]; simp
    omega

set_option maxHeartbeats 3200000 in
theorem lawPrints_any (u : Value) (a : List Nat) (w : World) (da : Dig a) (ha : Nt w 0 w.heap.size u a) :
    Calls Tryd.prog 4 #[u] w fun e w' => e = .returned (.bool true) ∧ Below w.heap.size w w' := by
  by_cases la : a.length ≤ 20
  · obtain ⟨A1, c1, rfl, m1⟩ := nt_len ha
    obtain ⟨hl1, hl2⟩ := prn_len da la
    have hpr := print_any _ a w da ha (by omega)
    have hby : byts (strN (prn (val a))) = prn (val a) := byts_strN _ fun x hx => by have := prn_bytes _ x hx; omega
    have hok : okS (strN (prn (val a))) := ⟨by rw [strN_size]; exact hl1, by rw [strN_size]; omega, by rw [hby]; exact prn_bytes _⟩
    have hnm : numS (strN (prn (val a))) = val a := by unfold numS; rw [hby]; exact prn_num _
    have hps : ∀ w, Calls Tryd.prog 5 #[.string (strN (prn (val a)))] w (GivesB (lim (val a)) true w) := fun w => by have := parse_any _ w hok; rw [hnm] at this; exact this
    have hfs := prn_first (val a)
    have hsz := strN_size (prn (val a))
    have hgt : ∀ x r, prn (val a) = x :: r → ∀ h : 0 < (strN (prn (val a))).size, ((strN (prn (val a)))[0]'h).toNat = x := fun x r hx h => by
      have e : (byts (strN (prn (val a))))[0]? = some x := by rw [hby, hx]; rfl
      rw [List.getElem?_eq_getElem (by rw [byts_length]; exact h)] at e
      rw [← byts_get _ 0 h]
      exact Option.some.inj e
    have b1 : decide ((20 : Int) < (a.length : Int)) = false := decide_eq_false (by omega)
    have EQ : Hid (eqb (lim (val a)) (lim (val a)) = true) := eqb_eq rfl
    generalize strN (prn (val a)) = t at *
    have HPR := Lib.hid hpr
    have HPS := Lib.hid hps
    have HGT := Lib.hid hgt
    have hL : ∃ L, (prn (val a)).length = L := ⟨_, rfl⟩
    clear hpr hps hgt hok hnm hby
    rcases hfs with h1 | ⟨h1, x, r, hx, hx48⟩
    · have s1 : t.size = 1 := hsz.trans h1
      clear hsz h1 hl1 hl2 hL HGT
      go_enter Tryd.func4, Tryd.ntmps4
      have hB : Below w.heap.size w w := Below.refl _ _
      go_wp2_with fail
      refine HPR.out.mono ?_
      rintro e w1 ⟨rfl, hb⟩
      replace ha := ha.after hb
      replace hB := hB.trans (hb.mono hB.size)
      clear hb
      go_wp2_with fail
      refine (HPS.out _).mono ?_
      rintro e w2 ⟨v2, rfl, h2, hb⟩
      replace ha := ha.after hb
      replace hB := hB.trans (hb.mono hB.size)
      replace h2 := h2.low (Nat.zero_le _)
      clear hb HPR HPS
      go_wp2_with fail
      refine (refTrim_any _ a _ da ha (by omega)).mono ?_
      rintro e w3 ⟨v3, rfl, h3, hb⟩
      replace h2 := h2.after hb
      replace hB := hB.trans (hb.mono hB.size)
      replace h3 := h3.low (Nat.zero_le _)
      clear hb ha
      go_wp2_with fail
      refine (limbs_any _ _ _ _ _ h2 h3).mono ?_
      rw [EQ.out]
      rintro e w5 ⟨rfl, hb⟩
      replace hB := hB.trans (hb.mono hB.size)
      clear hb h2 h3
      go_wp2_with fail
      refine (known_any _).mono ?_
      rintro e w6 ⟨rfl, hb⟩
      replace hB := hB.trans (hb.mono hB.size)
      clear hb
      go_wp2_with fail
      go_ret
      exact ⟨rfl, hB⟩
    · have s1 : (1 : Int) < (t.size : Int) := by omega
      have s2 : ((t.size : Int) == 1) = false := beq_eq_false_iff_ne.2 (by omega)
      have s3 : 0 < t.size := by omega
      have s4 := HGT.out x r hx s3
      have s5 : (((t[0]'s3).toNat : Int) != 48) = true := bne_iff_ne.2 (by omega)
      clear hsz h1 hl1 hl2 hL HGT s4 hx48 hx
      go_enter Tryd.func4, Tryd.ntmps4
      have hB : Below w.heap.size w w := Below.refl _ _
      go_wp2_with fail
      refine HPR.out.mono ?_
      rintro e w1 ⟨rfl, hb⟩
      replace ha := ha.after hb
      replace hB := hB.trans (hb.mono hB.size)
      clear hb
      go_wp2_with fail
      refine (HPS.out _).mono ?_
      rintro e w2 ⟨v2, rfl, h2, hb⟩
      replace ha := ha.after hb
      replace hB := hB.trans (hb.mono hB.size)
      replace h2 := h2.low (Nat.zero_le _)
      clear hb HPR HPS
      go_wp2_with fail
      refine (refTrim_any _ a _ da ha (by omega)).mono ?_
      rintro e w3 ⟨v3, rfl, h3, hb⟩
      replace h2 := h2.after hb
      replace hB := hB.trans (hb.mono hB.size)
      replace h3 := h3.low (Nat.zero_le _)
      clear hb ha
      go_wp2_with fail
      refine (limbs_any _ _ _ _ _ h2 h3).mono ?_
      rw [EQ.out]
      rintro e w5 ⟨rfl, hb⟩
      replace hB := hB.trans (hb.mono hB.size)
      clear hb h2 h3
      go_wp2_with fail
      refine (known_any _).mono ?_
      rintro e w6 ⟨rfl, hb⟩
      replace hB := hB.trans (hb.mono hB.size)
      clear hb
      go_wp2_with fail
      go_ret
      exact ⟨rfl, hB⟩
  · obtain ⟨A1, c1, rfl, m1⟩ := nt_len ha
    have b1 : decide ((20 : Int) < (a.length : Int)) = true := decide_eq_true (by omega)
    clear ha
    go_enter Tryd.func4, Tryd.ntmps4
    go_wp2_with fail
    go_ret
    exact ⟨rfl, Below.refl _ _⟩
end Go.Proofs.YtdgfijnficbblaaDoor
