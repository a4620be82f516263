/- The reference's 'DivMod' and 'Gcd' by their contracts. Condition: a bound on lengths. -/
import Derived.Test.YtobmjcbjailclaaGreatDoorRefLong
namespace Go.Proofs.YtobmjcbjailclaaGreatDoor
set_option maxRecDepth 100000
open Go.RowKit

theorem refDiv_any (u v : Value) (a b : List Nat) (w : World) (da : Dig a) (db : Dig b) (ha : Nt w 0 w.heap.size u a) (hb_ : Nt w 0 w.heap.size v b) (la : a.length ≤ 1000) (lb : b.length ≤ 1000) :
    Calls Tryz.prog 65 #[u, v] w (GivesD (lim (val a / val b)) (lim (remN (val a) (val b))) (decide (val b ≠ 0)) w) := by
  by_cases h0 : val b = 0
  · exact refDivZero_any u v a b w db hb_ (by omega) h0
  by_cases h1 : val a < 18446744073709551616
  · by_cases h2 : val b < 18446744073709551616
    · exact refDivTwo_any u v a b w da db ha hb_ (by omega) (by omega) h0 h1 h2
    · exact refDivLong_tf u v a b w da db ha hb_ la lb h0 (decide_eq_true h1) (decide_eq_false h2)
  · by_cases h2 : val b < 18446744073709551616
    · by_cases h3 : val b < 4294967296
      · exact refDivOne_any u v a b w da db ha hb_ (by omega) (by omega) h0 h1 h3
      · exact refDivLong_ft u v a b w da db ha hb_ la lb h0 (decide_eq_false h1) (decide_eq_true h2) h3
    · exact refDivLong_ff u v a b w da db ha hb_ la lb h0 (decide_eq_false h1) (decide_eq_false h2)

/-- The number that a slice's limbs make. -/
def rdN (w : World) (v : Value) : Nat :=
  match v with
  | .slice (some p) n _ => val ((List.range n).map fun j => match w.cell? ⟨p.block, p.off + j, none⟩ with
    | some (.int _ z) => z.toNat
    | _ => 0)
  | _ => 0

theorem rdN_of {w : World} {L B : Nat} {v : Value} {x : List Nat} (h : Nt w L B v x) : rdN w v = val x := by
  obtain ⟨A, c, rfl, hc, hm, hA, hx⟩ := h
  by_cases h0 : 0 < x.length
  · obtain ⟨b, off, rfl, _, _, hcell⟩ := hx h0
    unfold rdN
    show val _ = val x
    congr 1
    apply List.ext_getElem
    · simp
    · intro i h1 h2
      rw [List.getElem_map, List.getElem_range, hcell i h2]
      simp
  · obtain rfl : x = [] := List.eq_nil_of_length_eq_zero (by omega)
    unfold rdN
    cases A <;> rfl

theorem gcd_step {X Y : Nat} (h : Y ≠ 0) : Nat.gcd Y (remN X Y) = Nat.gcd X Y := by
  unfold remN
  rw [if_neg h, Nat.gcd_comm Y, ← Nat.gcd_rec, Nat.gcd_comm]

theorem lim_len_mono {X Y : Nat} (h : X ≤ Y) : (lim X).length ≤ (lim Y).length := by
  refine lim_length_le ?_
  have := val_lt (dig_lim Y)
  rw [val_lim] at this
  omega

set_option maxHeartbeats 3200000 in
theorem refGcd_any (u v : Value) (a b : List Nat) (w : World) (da : Dig a) (db : Dig b) (ha : Nt w 0 w.heap.size u a) (hb_ : Nt w 0 w.heap.size v b) (la : a.length ≤ 1000) (lb : b.length ≤ 1000) :
    Calls Tryz.prog 64 #[u, v] w (Gives (lim (Nat.gcd (val a) (val b))) w) := by
  obtain ⟨G, hG⟩ : ∃ G, Nat.gcd (val a) (val b) = G := ⟨_, rfl⟩
  rw [hG]
  have hg := Lib.hid hG
  clear hG
  go_enter Tryz.func64, Tryz.ntmps64
  have hB : Below w.heap.size w w := Below.refl _ _
  go_wp2_with fail
  refine (refTrim_any _ a _ da ha (by omega)).mono ?_
  rintro e w1 ⟨v1, rfl, h1, hb⟩
  replace hb_ := hb_.after hb
  replace hB := hB.trans (hb.mono hB.size)
  clear hb ha
  go_wp2_with fail
  refine (refTrim_any _ b _ db hb_ (by omega)).mono ?_
  rintro e w2 ⟨v2, rfl, h2, hb⟩
  replace h1 := h1.after hb
  replace h2 := h2.low hB.size
  replace hB := hB.trans (hb.mono hB.size)
  clear hb hb_
  have l1 : (lim (val a)).length ≤ 1000 := Nat.le_trans (lim_length_le (val_lt da)) la
  have l2 : (lim (val b)).length ≤ 1000 := Nat.le_trans (lim_length_le (val_lt db)) lb
  go_wp2_with fail
  go_loopw [5, 6] (fun x y wr => ∃ (X Y : Nat), Nt wr w.heap.size wr.heap.size x (lim X) ∧ Nt wr w.heap.size wr.heap.size y (lim Y) ∧ Hid (Nat.gcd X Y = G) ∧ (lim X).length ≤ 1000 ∧ (lim Y).length ≤ 1000 ∧ Below w.heap.size w wr)
    (fun _ y wr => rdN wr y)
  case atStart => exact ⟨_, _, h1, h2, hg, l1, l2, hB⟩
  case round =>
    obtain ⟨X, Y, hx, hy, HG, m1, m2, hb⟩ := hrel
    have vX := Lib.hid (val_lim X)
    have vY := Lib.hid (val_lim Y)
    have RY := Lib.hid (rdN_of hy)
    clear hB h1 h2 hg l1 l2 da db la lb
    by_cases hY : Y = 0
    · subst hY
      have hgx := HG.out
      rw [Nat.gcd_zero_right] at hgx
      rw [lim_zero] at hy
      have hx' := hx
      rw [hgx] at hx'
      obtain ⟨A, c, rfl, hc, hm, _, _⟩ := hy
      clear hx HG hgx
      go_wp2
      go_ret
      exact ⟨_, rfl, hx', hb⟩
    · have hne : (lim Y).length ≠ 0 := fun h => hY (lim_eq_nil.1 (List.eq_nil_of_length_eq_zero h))
      have hdiv := refDiv_any _ _ (lim X) (lim Y) _ (dig_lim X) (dig_lim Y) (hx.low (Nat.zero_le _)) (hy.low (Nat.zero_le _)) m1 m2
      rw [val_lim, val_lim] at hdiv
      have HDIV := Lib.hid hdiv
      have hy' := Lib.hid hy
      obtain ⟨A, c, rfl, hc, hm, _, _⟩ := hy
      have hst := Lib.hid (gcd_step (X := X) hY)
      have hlt : remN X Y < Y := by unfold remN; rw [if_neg hY]; exact Nat.mod_lt _ (by omega)
      have hlr := Nat.le_trans (lim_len_mono (Nat.le_of_lt hlt)) m2
      have HG2 : Hid (Nat.gcd Y (remN X Y) = G) := by show _ = _; rw [hst.out]; exact HG.out
      generalize remN X Y = R at *
      generalize decide (Y ≠ 0) = dY at *
      clear hdiv hst HG
      go_wp2_with fail
      refine HDIV.out.mono ?_
      rintro e w5 ⟨v5, v6, rfl, h5, h6, hb5⟩
      have hy5 := hy'.out.after hb5
      replace h6 := h6.low hb.size
      have hb6 := hb.trans (hb5.mono hb.size)
      have hR5 := Lib.hid (rdN_of h6)
      clear HDIV h5 hb5 hy'
      go_wp2_with fail
      refine ⟨⟨Y, R, hy5, h6, HG2, m2, hlr, hb6⟩, ?_⟩
      rw [hR5.out, RY.out, val_lim, vY.out]
      exact hlt
end Go.Proofs.YtobmjcbjailclaaGreatDoor
