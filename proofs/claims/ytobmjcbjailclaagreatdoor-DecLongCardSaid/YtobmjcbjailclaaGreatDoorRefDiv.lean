/- The reference's 'DivMod' by its contract, but for the division bit by bit. Condition: a bound on lengths. -/
import Derived.Test.YtobmjcbjailclaaGreatDoorRefSmall
import Derived.Test.YtobmjcbjailclaaGreatDoorOfs
import Derived.Deep.RegionHeld3
import Derived.Deep.DrawnRows
namespace Go.Proofs.YtobmjcbjailclaaGreatDoor
set_option maxRecDepth 100000
open Go.RowKit

theorem refOf_any' (n : Nat) (z : Int) (hz : z = (n : Int)) (w : World) (hn : n < 18446744073709551616) :
    Calls Tryz.prog 83 #[.int .u64 z] w (Gives (lim n) w) := by
  subst hz
  exact refOf_any n w hn

/-- What is left: 0, if it is by 0. -/
def remN (a b : Nat) : Nat := if b = 0 then 0 else a % b

/-- What a division hands back. -/
def GivesD (x y : List Nat) (b : Bool) (w : World) (e : Ending) (w' : World) : Prop :=
  ∃ v1 v2, e = .returned (.tuple #[v1, v2, .bool b]) ∧ Nt w' w.heap.size w'.heap.size v1 x ∧ Nt w' w.heap.size w'.heap.size v2 y ∧ Below w.heap.size w w'

set_option maxHeartbeats 3200000 in
theorem refDivZero_any (u v : Value) (a b : List Nat) (w : World) (db : Dig b) (hb_ : Nt w 0 w.heap.size v b) (lb : b.length ≤ 90000) (h0 : val b = 0) :
    Calls Tryz.prog 65 #[u, v] w (GivesD (lim (val a / val b)) (lim (remN (val a) (val b))) (decide (val b ≠ 0)) w) := by
  have e1 : lim (val a / val b) = [] := by rw [h0, Nat.div_zero]; exact lim_zero
  have e2 : lim (remN (val a) (val b)) = [] := by unfold remN; rw [if_pos h0]; exact lim_zero
  have e3 : decide (val b ≠ 0) = false := by rw [h0]; rfl
  have e4 : lim (val b) = [] := by rw [h0]; exact lim_zero
  rw [e1, e2, e3]
  have E4 := Lib.hid e4
  clear e1 e2 e3 e4 h0
  go_enter Tryz.func65, Tryz.ntmps65
  go_wp2_with fail
  refine (refTrim_any _ b _ db hb_ (by omega)).mono ?_
  rintro e w1 ⟨v1, rfl, h1, hb⟩
  rw [E4.out] at h1
  obtain ⟨A, c, rfl, hc, hm, _, hx⟩ := h1
  go_wp2
  go_ret3
  exact ⟨_, _, rfl, Nt.nil _ _ _, Nt.nil _ _ _, hb⟩

set_option maxHeartbeats 3200000 in
theorem refDivTwo_any (u v : Value) (a b : List Nat) (w : World) (da : Dig a) (db : Dig b) (ha : Nt w 0 w.heap.size u a) (hb_ : Nt w 0 w.heap.size v b) (la : a.length ≤ 90000) (lb : b.length ≤ 90000) (h0 : val b ≠ 0)
    (h1 : val a < 18446744073709551616) (h2 : val b < 18446744073709551616) :
    Calls Tryz.prog 65 #[u, v] w (GivesD (lim (val a / val b)) (lim (remN (val a) (val b))) (decide (val b ≠ 0)) w) := by
  have e2 : remN (val a) (val b) = val a % val b := by unfold remN; rw [if_neg h0]
  have e3 : decide (val b ≠ 0) = true := decide_eq_true h0
  have e4 : (lim (val b)).length ≠ 0 := fun h => h0 (lim_eq_nil.1 (List.eq_nil_of_length_eq_zero h))
  have t1 : toN (val a) = val a := if_pos h1
  have t2 : toN (val b) = val b := if_pos h2
  have d1 : decide (val a < 18446744073709551616) = true := decide_eq_true h1
  have d2 : decide (val b < 18446744073709551616) = true := decide_eq_true h2
  rw [e2, e3]
  have E4 := Lib.hid e4
  have T1 := Lib.hid t1
  have T2 := Lib.hid t2
  have D1 := Lib.hid d1
  have D2 := Lib.hid d2
  have b0 : ¬ val b = 0 := h0
  have hq : val a / val b < 18446744073709551616 := Nat.lt_of_le_of_lt (Nat.div_le_self _ _) h1
  have hr : val a % val b < 18446744073709551616 := Nat.lt_of_le_of_lt (Nat.mod_le _ _) h1
  obtain ⟨q, hq0⟩ : ∃ q, val a / val b = q := ⟨_, rfl⟩
  obtain ⟨r, hr0⟩ : ∃ r, val a % val b = r := ⟨_, rfl⟩
  have hdv : ((val a : Nat) : Int) / ((val b : Nat) : Int) = (q : Int) := by rw [← hq0]; exact (Int.natCast_ediv _ _).symm
  have hmd : ((val a : Nat) : Int) % ((val b : Nat) : Int) = (r : Int) := by rw [← hr0]; exact (Int.natCast_emod _ _).symm
  rw [hq0] at hq ⊢
  rw [hr0] at hr ⊢
  clear e2 e3 e4 t1 t2 d1 d2 hq0 hr0 h0
  go_enter Tryz.func65, Tryz.ntmps65
  have hB : Below w.heap.size w w := Below.refl _ _
  go_wp2_with fail
  refine (refTrim_any _ b _ db hb_ (by omega)).mono ?_
  rintro e w1 ⟨v1, rfl, h3, hb⟩
  obtain ⟨A, c, rfl, hc, hm, _, hx⟩ := h3
  have hne : ¬ (lim (val b)).length = 0 := E4.out
  replace ha := ha.after hb
  replace hb_ := hb_.after hb
  replace hB := hB.trans (hb.mono hB.size)
  clear hb hx
  go_wp2_with fail
  refine (refTo_any _ a _ da ha (by omega)).mono ?_
  rintro e w2 ⟨rfl, hb⟩
  rw [T1.out, D1.out]
  replace ha := ha.after hb
  replace hb_ := hb_.after hb
  replace hB := hB.trans (hb.mono hB.size)
  clear hb
  go_wp2_with fail
  refine (refTo_any _ b _ db hb_ (by omega)).mono ?_
  rintro e w3 ⟨rfl, hb⟩
  rw [T2.out, D2.out]
  replace hB := hB.trans (hb.mono hB.size)
  clear hb ha hb_
  generalize val b = B at *
  generalize val a = A2 at *
  go_wp2_with fail
  have z1 : IntKind.u64.wrap (q : Int) = (q : Int) := IntWalk.u64_in _ (by omega)
  have z2 : Hid ((A2 : Int).tmod (B : Int) = (r : Int)) := by show _ = _; rw [Int.tmod_eq_emod_of_nonneg (by omega)]; exact hmd
  go_region_held3 (fun W => Below w3.heap.size w3 W)
    (first | assumption | exact Below.drew (Below.refl _ _))
    (first
      | (have hbk1 := hbk; go_at_call 83; refine (refOf_any' r ((A2 : Int).tmod (B : Int)) z2.out _ hr).mono ?_; rintro e w5 ⟨v5, rfl, h5, hb5⟩; have hbk5 : Below w3.heap.size w3 w5 := hbk1.trans (hb5.mono hbk1.size))
      | (go_at_call 83; refine (refOf_any q _ hq).mono ?_; rintro e w4 ⟨v4, rfl, h4, hb4⟩; have hbk : Below w3.heap.size w3 w4 := Below.trans (Below.drew (Below.refl _ _)) hb4)
      | fail)
  clear hdv hmd z1 z2
  replace h4 := (h4.low (show w.heap.size ≤ w3.drew.heap.size from hB.size)).after hb5
  replace h5 := h5.low (Nat.le_trans hB.size hbk.size)
  go_wp2
  go_ret3
  exact ⟨_, _, rfl, h4, h5, hB.trans (hbk5.mono hB.size)⟩

set_option maxHeartbeats 3200000 in
theorem refDivOne_any (u v : Value) (a b : List Nat) (w : World) (da : Dig a) (db : Dig b) (ha : Nt w 0 w.heap.size u a) (hb_ : Nt w 0 w.heap.size v b) (la : a.length ≤ 90000) (lb : b.length ≤ 90000) (h0 : val b ≠ 0)
    (h1 : ¬ val a < 18446744073709551616) (h2 : val b < 4294967296) :
    Calls Tryz.prog 65 #[u, v] w (GivesD (lim (val a / val b)) (lim (remN (val a) (val b))) (decide (val b ≠ 0)) w) := by
  have e2 : remN (val a) (val b) = val a % val b := by unfold remN; rw [if_neg h0]
  have e3 : decide (val b ≠ 0) = true := decide_eq_true h0
  have e4 : (lim (val b)).length ≠ 0 := fun h => h0 (lim_eq_nil.1 (List.eq_nil_of_length_eq_zero h))
  have t1 : toN (val a) = 0 := if_neg h1
  have t2 : toN (val b) = val b := if_pos (by omega)
  have d1 : decide (val a < 18446744073709551616) = false := decide_eq_false h1
  have d2 : decide (val b < 18446744073709551616) = true := decide_eq_true (by omega)
  rw [e2, e3]
  have E4 := Lib.hid e4
  have T1 := Lib.hid t1
  have T2 := Lib.hid t2
  have D1 := Lib.hid d1
  have D2 := Lib.hid d2
  have b0 : 0 < val b := by omega
  have hr : val a % val b < 18446744073709551616 := by have := Nat.mod_lt (val a) b0; omega
  have hsm : ∀ (w' : World), Nt w' 0 w'.heap.size u a → Calls Tryz.prog 102 #[u, .int .u64 ((val b : Nat) : Int)] w' (GivesR (lim (val a / val b)) (val a % val b) w') := fun w' h' => refSmall_any u a (val b) w' da h' la b0 (by omega)
  have HSM := Lib.hid hsm
  obtain ⟨r, hr0⟩ : ∃ r, val a % val b = r := ⟨_, rfl⟩
  rw [hr0] at hr ⊢
  have HR0 := Lib.hid hr0
  clear e2 e3 e4 t1 t2 d1 d2 h0 h1 hsm hr0
  go_enter Tryz.func65, Tryz.ntmps65
  have hB : Below w.heap.size w w := Below.refl _ _
  go_wp2_with fail
  refine (refTrim_any _ b _ db hb_ (by omega)).mono ?_
  rintro e w1 ⟨v1, rfl, h3, hb⟩
  obtain ⟨A, c, rfl, hc, hm, _, hx⟩ := h3
  have hne : ¬ (lim (val b)).length = 0 := E4.out
  replace ha := ha.after hb
  replace hb_ := hb_.after hb
  replace hB := hB.trans (hb.mono hB.size)
  clear hb hx
  go_wp2_with fail
  refine (refTo_any _ a _ da ha (by omega)).mono ?_
  rintro e w2 ⟨rfl, hb⟩
  rw [T1.out, D1.out]
  replace ha := ha.after hb
  replace hb_ := hb_.after hb
  replace hB := hB.trans (hb.mono hB.size)
  clear hb
  go_wp2_with fail
  refine (refTo_any _ b _ db hb_ (by omega)).mono ?_
  rintro e w3 ⟨rfl, hb⟩
  rw [T2.out, D2.out]
  replace ha := ha.after hb
  replace hB := hB.trans (hb.mono hB.size)
  clear hb hb_ T1 T2 D1 D2 E4
  generalize val b = B at *
  have hsm2 := HSM.out w3 ha
  rw [HR0.out] at hsm2
  have HS2 := Lib.hid hsm2
  clear hsm2 HSM HR0
  generalize val a / B = q at *
  have h2i : (B : Int) < 4294967296 := by omega
  go_wp2_with fail
  refine HS2.out.mono ?_
  rintro e w4 ⟨v4, rfl, h4, hb⟩
  replace h4 := h4.low hB.size
  replace hB := hB.trans (hb.mono hB.size)
  clear hb ha
  go_wp2_with fail
  refine (refOf_any r _ hr).mono ?_
  rintro e w5 ⟨v5, rfl, h5, hb⟩
  replace h5 := h5.low hB.size
  replace h4 := h4.after hb
  replace hB := hB.trans (hb.mono hB.size)
  clear hb
  go_wp2
  go_ret3
  exact ⟨_, _, rfl, h4, h5, hB⟩
end Go.Proofs.YtobmjcbjailclaaGreatDoor
