/- The program's 'DivMod' and 'Gcd' by their contracts. Condition: a bound on lengths. -/
import Derived.Test.YtobmjcbjailclaaGreatDoorLongs
import Derived.Test.YtobmjcbjailclaaGreatDoorOfs
import Derived.Test.YtobmjcbjailclaaGreatDoorRefGcd
namespace Go.Proofs.YtobmjcbjailclaaGreatDoor
set_option maxRecDepth 100000
open Go.RowKit

theorem canon_top {l : List Nat} {m : Nat} (hc : Canon l) (hl : l.length = m + 1) : l.getD m 0 ≠ 0 := by
  rw [getD_in0 (by omega)]
  refine hc _ (l.take m) ?_
  have e := List.take_append_drop m l
  rw [List.drop_eq_getElem_cons (by omega), List.drop_eq_nil_of_le (by omega)] at e
  exact e.symm

theorem of_any' (n : Nat) (z : Int) (hz : z = (n : Int)) (w : World) (hn : n < 18446744073709551616) :
    Calls Tryz.prog 54 #[.int .u64 z] w (Gives (lim n) w) := by
  subst hz
  exact of_any n w hn

set_option maxHeartbeats 3200000 in
theorem divZero_any (u v : Value) (a b : List Nat) (w : World) (da : Dig a) (db : Dig b) (ha : Nt w 0 w.heap.size u a) (hb_ : Nt w 0 w.heap.size v b) (h0 : val b = 0) :
    Calls Tryz.prog 75 #[u, v] w (GivesD (lim (val a / val b)) (lim (remN (val a) (val b))) (decide (val b ≠ 0)) w) := by
  have e1 : lim (val a / val b) = [] := by rw [h0, Nat.div_zero]; exact lim_zero
  have e2 : lim (remN (val a) (val b)) = [] := by unfold remN; rw [if_pos h0]; exact lim_zero
  have e3 : decide (val b ≠ 0) = false := by rw [h0]; rfl
  have e4 : lim (val b) = [] := by rw [h0]; exact lim_zero
  rw [e1, e2, e3]
  have E4 := Lib.hid e4
  clear e1 e2 e3 e4 h0
  go_enter Tryz.func75, Tryz.ntmps75
  go_wp2_with fail
  refine (trim_any _ a _ _ _ da ha).mono ?_
  rintro e w1 ⟨v1, rfl, h1, rfl⟩
  go_wp2_with fail
  refine (trim_any _ b _ _ _ db hb_).mono ?_
  rintro e w1 ⟨v2, rfl, h2, rfl⟩
  rw [E4.out] at h2
  obtain ⟨A, c, rfl, hc, hm, _, hx⟩ := h2
  go_wp2
  go_ret3
  exact ⟨_, _, rfl, Nt.nil _ _ _, Nt.nil _ _ _, Below.refl _ _⟩

set_option maxHeartbeats 3200000 in
theorem divLess_any (u v : Value) (a b : List Nat) (w : World) (da : Dig a) (db : Dig b) (ha : Nt w 0 w.heap.size u a) (hb_ : Nt w 0 w.heap.size v b) (la : a.length ≤ 80000) (lb : b.length ≤ 80000) (h0 : val b ≠ 0) (hlt : val a < val b) :
    Calls Tryz.prog 75 #[u, v] w (GivesD (lim (val a / val b)) (lim (remN (val a) (val b))) (decide (val b ≠ 0)) w) := by
  have e1 : lim (val a / val b) = [] := by rw [Nat.div_eq_of_lt hlt]; exact lim_zero
  have e2 : remN (val a) (val b) = val a := by unfold remN; rw [if_neg h0, Nat.mod_eq_of_lt hlt]
  have e3 : decide (val b ≠ 0) = true := decide_eq_true h0
  have e4 : (lim (val b)).length ≠ 0 := fun h => h0 (lim_eq_nil.1 (List.eq_nil_of_length_eq_zero h))
  rw [e1, e2, e3]
  have E4 := Lib.hid e4
  have l1 : (lim (val a)).length ≤ 80000 := Nat.le_trans (lim_val_length a da) la
  have l2 : (lim (val b)).length ≤ 80000 := Nat.le_trans (lim_val_length b db) lb
  have C : Hid (cmpN (val a) (val b) = -1) := cmpN_lt hlt
  have d1 := dig_lim (val a)
  have d2 := dig_lim (val b)
  have V1 := Lib.hid (val_lim (val a))
  have V2 := Lib.hid (val_lim (val b))
  clear e1 e2 e3 e4 h0 hlt la lb
  go_enter Tryz.func75, Tryz.ntmps75
  go_wp2_with fail
  refine (trim_any _ a _ _ _ da ha).mono ?_
  rintro e w1 ⟨v1, rfl, h1, rfl⟩
  go_wp2_with fail
  refine (trim_any _ b _ _ _ db hb_).mono ?_
  rintro e w1 ⟨v2, rfl, h2, rfl⟩
  have h2' := h2
  obtain ⟨A, c, rfl, hc, hm, _, hx⟩ := h2'
  have hne : ¬ (lim (val b)).length = 0 := E4.out
  clear ha hb_ da db hx
  go_wp2_with fail
  refine (cmp_any _ _ (lim (val a)) (lim (val b)) _ d1 d2 h1 h2 (by omega) (by omega)).mono ?_
  rintro e w2 ⟨rfl, hb⟩
  rw [V1.out, V2.out, C.out]
  replace h1 := h1.after hb
  clear h2
  go_wp2_with fail
  refine (Trim_any _ (lim (val a)) _ d1 h1 (by omega)).mono ?_
  rintro e w3 ⟨v3, rfl, h3, hb3⟩
  rw [V1.out] at h3
  go_wp2
  go_ret3
  exact ⟨_, _, rfl, Nt.nil _ _ _, h3.low hb.size, hb.trans (hb3.mono hb.size)⟩

set_option maxHeartbeats 3200000 in
theorem divOne_any (u v : Value) (a b : List Nat) (w : World) (da : Dig a) (db : Dig b) (ha : Nt w 0 w.heap.size u a) (hb_ : Nt w 0 w.heap.size v b) (la : a.length ≤ 80000) (h0 : val b ≠ 0) (hle : val b ≤ val a) (h1b : val b < 4294967296) :
    Calls Tryz.prog 75 #[u, v] w (GivesD (lim (val a / val b)) (lim (remN (val a) (val b))) (decide (val b ≠ 0)) w) := by
  have e2 : remN (val a) (val b) = val a % val b := by unfold remN; rw [if_neg h0]
  have e3 : decide (val b ≠ 0) = true := decide_eq_true h0
  have e4 : lim (val b) = [val b] := lim_one h1b h0
  rw [e2, e3]
  have E4 := Lib.hid e4
  have l1 : (lim (val a)).length ≤ 80000 := Nat.le_trans (lim_val_length a da) la
  have C : Hid (¬ cmpN (val a) (val b) < 0) := fun h => by have := cmpN_neg.1 h; omega
  have d1 := dig_lim (val a)
  have V1 := Lib.hid (val_lim (val a))
  have V2 : Hid (val [val b] = val b) := val_one _
  have hB0 : 0 < val b := by omega
  have hrl : val a % val b < 4294967296 := Nat.lt_trans (Nat.mod_lt _ hB0) h1b
  have db1 : Dig [val b] := dig_one h1b
  clear e2 e3 e4 h0 hle la
  go_enter Tryz.func75, Tryz.ntmps75
  go_wp2_with fail
  refine (trim_any _ a _ _ _ da ha).mono ?_
  rintro e w1 ⟨v1, rfl, h1, rfl⟩
  go_wp2_with fail
  refine (trim_any _ b _ _ _ db hb_).mono ?_
  rintro e w1 ⟨v2, rfl, h2, rfl⟩
  rw [E4.out] at h2
  have h2' := h2
  generalize val b = B at *
  obtain ⟨A, c, rfl, hc, hm, _, hx⟩ := h2'
  obtain ⟨ba, oa, rfl, _, hba, hcella⟩ := hx (by simp)
  have hc0 := hcella 0 (by simp)
  simp only [List.getElem_cons_zero, Nat.add_zero] at hc0
  clear ha hb_ da db hx hcella
  go_wp2_with fail
  refine (cmp_any _ _ (lim (val a)) [B] _ d1 db1 h1 h2 (by omega) (by simp)).mono ?_
  rintro e w2 ⟨rfl, hb⟩
  rw [V1.out, V2.out]
  have hcz := C.out
  generalize cmpN (val a) B = cz at *
  replace h1 := h1.after hb
  have hc1 := (hb.cell (p := ⟨ba, oa, none⟩) hba).trans hc0
  clear h2 hc0
  go_wp2_with fail
  refine (small_any _ (lim (val a)) B _ d1 h1 (by omega) hB0 h1b).mono ?_
  rintro e w3 ⟨v3, rfl, h3, hb3⟩
  rw [V1.out] at h3 ⊢
  replace h3 := h3.low hb.size
  replace hb := hb.trans (hb3.mono hb.size)
  generalize val a % B = r at *
  clear hc1 h1 hb3
  go_wp2_with fail
  refine (of_any r _ (by omega)).mono ?_
  rintro e w4 ⟨v4, rfl, h4, hb4⟩
  replace h3 := h3.after hb4
  replace h4 := h4.low hb.size
  go_wp2
  go_ret3
  exact ⟨_, _, rfl, h3, h4, hb.trans (hb4.mono hb.size)⟩

set_option maxHeartbeats 3200000 in
theorem divLong_any (u v : Value) (a b : List Nat) (w : World) (da : Dig a) (db : Dig b) (ha : Nt w 0 w.heap.size u a) (hb_ : Nt w 0 w.heap.size v b) (la : a.length ≤ 80000) (h0 : val b ≠ 0) (hle : val b ≤ val a) (h1b : ¬ val b < 4294967296) :
    Calls Tryz.prog 75 #[u, v] w (GivesD (lim (val a / val b)) (lim (remN (val a) (val b))) (decide (val b ≠ 0)) w) := by
  have e2 : remN (val a) (val b) = val a % val b := by unfold remN; rw [if_neg h0]
  have e3 : decide (val b ≠ 0) = true := decide_eq_true h0
  have e4 : 2 ≤ (lim (val b)).length := by
    have := lim_length_lt (n := val b) (k := 1) (by omega)
    omega
  rw [e2, e3]
  obtain ⟨e, he⟩ : ∃ e, (lim (val b)).length = e + 2 := ⟨(lim (val b)).length - 2, by omega⟩
  have hlm := lim_len_mono hle
  have ht := canon_top (canon_lim (val b)) he
  have l1 : (lim (val a)).length ≤ 80000 := Nat.le_trans (lim_val_length a da) la
  have C : Hid (¬ cmpN (val a) (val b) < 0) := fun h => by have := cmpN_neg.1 h; omega
  have d1 := dig_lim (val a)
  have d2 := dig_lim (val b)
  have V1 := Lib.hid (val_lim (val a))
  have V2 := Lib.hid (val_lim (val b))
  have HT := Lib.hid ht
  have HE := Lib.hid he
  have n0 : ¬ (lim (val b)).length = 0 := by omega
  have n1 : ¬ (lim (val b)).length = 1 := by omega
  have HLM := Lib.hid hlm
  clear e2 e3 h0 hle la h1b ht e4 he hlm
  go_enter Tryz.func75, Tryz.ntmps75
  go_wp2_with fail
  refine (trim_any _ a _ _ _ da ha).mono ?_
  rintro e9 w1 ⟨v1, rfl, h1, rfl⟩
  go_wp2_with fail
  refine (trim_any _ b _ _ _ db hb_).mono ?_
  rintro e9 w1 ⟨v2, rfl, h2, rfl⟩
  have h2' := h2
  obtain ⟨A, c, rfl, hc, hm, _, hx⟩ := h2'
  clear ha hb_ da db hx
  go_wp2_with fail
  refine (cmp_any _ _ (lim (val a)) (lim (val b)) _ d1 d2 h1 h2 (by omega) (by have := HLM.out; omega)).mono ?_
  rintro e9 w2 ⟨rfl, hb⟩
  rw [V1.out, V2.out]
  have hcz := C.out
  generalize cmpN (val a) (val b) = cz at *
  replace h1 := h1.after hb
  replace h2 := h2.after hb
  have hlong := long_any _ _ (lim (val a)) (lim (val b)) e w2 d1 d2 h1 h2 l1 HE.out (by have := HLM.out; have := HE.out; omega) HT.out
  rw [V1.out, V2.out] at hlong
  have HLONG := Lib.hid hlong
  clear hlong h1 h2 HE HLM HT
  go_wp2_with fail
  refine HLONG.out.mono ?_
  rintro e9 w3 ⟨v3, v4, rfl, h3, h4, hb3⟩
  go_wp2
  go_ret3
  exact ⟨_, _, rfl, h3.low hb.size, h4.low hb.size, hb.trans (hb3.mono hb.size)⟩

theorem div_any (u v : Value) (a b : List Nat) (w : World) (da : Dig a) (db : Dig b) (ha : Nt w 0 w.heap.size u a) (hb_ : Nt w 0 w.heap.size v b) (la : a.length ≤ 80000) (lb : b.length ≤ 80000) :
    Calls Tryz.prog 75 #[u, v] w (GivesD (lim (val a / val b)) (lim (remN (val a) (val b))) (decide (val b ≠ 0)) w) := by
  by_cases h0 : val b = 0
  · exact divZero_any u v a b w da db ha hb_ h0
  by_cases hlt : val a < val b
  · exact divLess_any u v a b w da db ha hb_ la lb h0 hlt
  by_cases h1 : val b < 4294967296
  · exact divOne_any u v a b w da db ha hb_ la h0 (by omega) h1
  · exact divLong_any u v a b w da db ha hb_ la h0 (by omega) h1

set_option maxHeartbeats 3200000 in
theorem gcd_any (u v : Value) (a b : List Nat) (w : World) (da : Dig a) (db : Dig b) (ha : Nt w 0 w.heap.size u a) (hb_ : Nt w 0 w.heap.size v b) (la : a.length ≤ 1000) (lb : b.length ≤ 1000) :
    Calls Tryz.prog 74 #[u, v] w (Gives (lim (Nat.gcd (val a) (val b))) w) := by
  obtain ⟨G, hG⟩ : ∃ G, Nat.gcd (val a) (val b) = G := ⟨_, rfl⟩
  rw [hG]
  have hg := Lib.hid hG
  clear hG
  go_enter Tryz.func74, Tryz.ntmps74
  have hB : Below w.heap.size w w := Below.refl _ _
  go_wp2_with fail
  refine (Trim_any _ a _ da ha (by omega)).mono ?_
  rintro e w1 ⟨v1, rfl, h1, hb⟩
  replace hb_ := hb_.after hb
  replace hB := hB.trans (hb.mono hB.size)
  clear hb ha
  go_wp2_with fail
  refine (Trim_any _ b _ db hb_ (by omega)).mono ?_
  rintro e w2 ⟨v2, rfl, h2, hb⟩
  replace h1 := h1.after hb
  replace h2 := h2.low hB.size
  replace hB := hB.trans (hb.mono hB.size)
  clear hb hb_
  have l1 : (lim (val a)).length ≤ 1000 := Nat.le_trans (lim_length_le (val_lt da)) la
  have l2 : (lim (val b)).length ≤ 1000 := Nat.le_trans (lim_length_le (val_lt db)) lb
  go_wp2_with fail
  go_loopw [0, 1] (fun x y wr => ∃ (X Y : Nat), Nt wr w.heap.size wr.heap.size x (lim X) ∧ Nt wr w.heap.size wr.heap.size y (lim Y) ∧ Hid (Nat.gcd X Y = G) ∧ (lim X).length ≤ 1000 ∧ (lim Y).length ≤ 1000 ∧ Below w.heap.size w wr)
    (fun _ y wr => rdN wr y)
  case atStart => exact ⟨_, _, h1, h2, hg, l1, l2, hB⟩
  case round =>
    obtain ⟨X, Y, hx, hy, HG, m1, m2, hb⟩ := hrel
    have vX := Lib.hid (val_lim X)
    have vY := Lib.hid (val_lim Y)
    have RY := Lib.hid (rdN_of hy)
    clear hB h1 h2 hg l1 l2 da db la lb
    by_cases hY : Y = 0
    · subst hY
      have hgx := HG.out
      rw [Nat.gcd_zero_right] at hgx
      rw [lim_zero] at hy
      have hx' := hx
      rw [hgx] at hx'
      obtain ⟨A, c, rfl, hc, hm, _, _⟩ := hy
      clear hx HG hgx
      go_wp2
      go_ret
      exact ⟨_, rfl, hx', hb⟩
    · have hne : (lim Y).length ≠ 0 := fun h => hY (lim_eq_nil.1 (List.eq_nil_of_length_eq_zero h))
      have hdiv := div_any _ _ (lim X) (lim Y) _ (dig_lim X) (dig_lim Y) (hx.low (Nat.zero_le _)) (hy.low (Nat.zero_le _)) (by omega) (by omega)
      rw [val_lim, val_lim] at hdiv
      have HDIV := Lib.hid hdiv
      have hy' := Lib.hid hy
      obtain ⟨A, c, rfl, hc, hm, _, _⟩ := hy
      have hst := Lib.hid (gcd_step (X := X) hY)
      have hlt : remN X Y < Y := by unfold remN; rw [if_neg hY]; exact Nat.mod_lt _ (by omega)
      have hlr := Nat.le_trans (lim_len_mono (Nat.le_of_lt hlt)) m2
      have HG2 : Hid (Nat.gcd Y (remN X Y) = G) := by show _ = _; rw [hst.out]; exact HG.out
      generalize remN X Y = R at *
      generalize decide (Y ≠ 0) = dY at *
      clear hdiv hst HG
      go_wp2_with fail
      refine HDIV.out.mono ?_
      rintro e w5 ⟨v5, v6, rfl, h5, h6, hb5⟩
      have hy5 := hy'.out.after hb5
      replace h6 := h6.low hb.size
      have hb6 := hb.trans (hb5.mono hb.size)
      have hR5 := Lib.hid (rdN_of h6)
      clear HDIV h5 hb5 hy'
      go_wp2_with fail
      refine ⟨⟨Y, R, hy5, h6, HG2, m2, hlr, hb6⟩, ?_⟩
      rw [hR5.out, RY.out, val_lim, vY.out]
      exact hlt
end Go.Proofs.YtobmjcbjailclaaGreatDoor
