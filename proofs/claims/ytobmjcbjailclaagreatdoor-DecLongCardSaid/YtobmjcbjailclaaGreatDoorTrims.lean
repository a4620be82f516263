/- 'Is', 'trim', 'Trim', 'slices.Clone', 'limbs' and the reference's 'Trim' and 'at' by their contracts. Condition: a bound on lengths. -/
import Derived.Test.YtobmjcbjailclaaGreatDoorRows
import Derived.Test.YtobmjcbjailclaaGreatDoorNt
import Derived.Maps.AppendAt
import Derived.WalkLawsBesides
import Derived.WalkSpells
import Derived.Deep.QuietTactic
import Derived.BigQuiet
namespace Go.Proofs.YtobmjcbjailclaaGreatDoor
set_option maxRecDepth 100000
open Go.RowKit

theorem Tryz.info32 : (Tryz.prog.info? 43).map (fun i => (i.zero, i.size, i.bytes)) = some (some (.int .u32 0), 1, 4) := by kernel_rfl

/-- A call that leaves the world alone, inside a region that draws. -/
theorem quiet_of {P : Program} {f : FuncId} {args : Array Value} {w : World} {n : Nat} {v : Value} (h : Calls P f args (w.drewN n) fun e w' => e = .returned v ∧ w.drewN n = w') :
    Calls P f args (w.drewN n) fun e w'' => e = .returned v ∧ ∃ m, w'' = w.drewN m := h.mono fun _ _ ⟨he, hm⟩ => ⟨he, n, hm.symm⟩

/-- Is a row of limbs trimmed? -/
def cb (x : List Nat) : Bool := x.length == 0 || x.getD (x.length - 1) 0 != 0

theorem cb_iff (x : List Nat) : cb x = true ↔ Canon x := by
  unfold cb
  constructor
  · intro h
    refine canon_of_last ?_
    by_cases h0 : x.length = 0
    · exact .inl (List.eq_nil_of_length_eq_zero h0)
    · refine .inr ⟨by omega, ?_⟩
      have hb : (x.length == 0) = false := by simp; simpa using h0
      rw [hb, Bool.false_or, List.getD_eq_getElem?_getD, List.getElem?_eq_getElem (by omega)] at h
      simpa using h
  · intro hc
    by_cases h0 : x.length = 0
    · simp [h0]
    · have := hc x[x.length - 1] (x.take (x.length - 1)) (by
        have := List.take_append_drop (x.length - 1) x
        rw [List.drop_eq_getElem_cons (by omega)] at this
        have e : x.length - 1 + 1 = x.length := by omega
        rw [e, List.drop_length] at this
        exact this.symm)
      rw [List.getD_eq_getElem?_getD, List.getElem?_eq_getElem (by omega)]
      simp [this]

theorem cb_nil : cb [] = true := rfl
theorem cb_last {x : List Nat} (h : x.length - 1 < x.length) : cb x = (x[x.length - 1] != 0) := by
  unfold cb
  have hb : (x.length == 0) = false := by simp; rintro rfl; simp at h
  rw [hb, Bool.false_or, List.getD_eq_getElem?_getD, List.getElem?_eq_getElem h]
  rfl

set_option maxHeartbeats 800000 in
theorem is_any (v : Value) (x : List Nat) (L B : Nat) (w : World) (h : Nt w L B v x) :
    Calls Tryz.prog 118 #[v] w fun e w' => e = .returned (.bool (cb x)) ∧ w = w' := by
  obtain ⟨A, c, rfl, hc, hm, _, hx⟩ := h
  unfold maxLen at hm
  by_cases h0 : x.length = 0
  · have hz : ((x.length : Int) == 0) = true := by simp [h0]
    have e : cb x = true := by rw [List.eq_nil_of_length_eq_zero h0]; exact cb_nil
    have E := Lib.hid e
    clear e hx
    go_enter Tryz.func118, Tryz.ntmps118
    go_wp2
    go_ret
    exact ⟨by rw [E.out]; rfl, rfl⟩
  · have h1' : 1 ≤ x.length := by omega
    have hlt : x.length - 1 < x.length := by omega
    obtain ⟨b, off, rfl, _, _, hcell⟩ := hx h1'
    have hz : ((x.length : Int) == 0) = false := beq_false (by omega)
    have hc1 := hcell (x.length - 1) hlt
    have e : cb x = (x[x.length - 1] != 0) := cb_last hlt
    have E := Lib.hid e
    clear e hcell hx
    generalize x[x.length - 1] = y at *
    go_enter Tryz.func118, Tryz.ntmps118
    go_wp2
    go_ret
    exact ⟨by rw [E.out, ← bne_zero]; rfl, rfl⟩

set_option maxHeartbeats 800000 in
theorem trim_any (v : Value) (x : List Nat) (L B : Nat) (w : World) (hd : Dig x) (h : Nt w L B v x) :
    Calls Tryz.prog 91 #[v] w fun e w' => ∃ v', e = .returned v' ∧ Nt w L B v' (lim (val x)) ∧ w = w' := by
  obtain ⟨A, c, rfl, hc, hm, hA0, hx⟩ := h
  have hm' := hm
  unfold maxLen at hm
  go_enter Tryz.func91, Tryz.ntmps91
  go_wp2_with fail
  go_loop [0] (fun t => ∃ n, n ≤ x.length ∧ t = .slice A n c ∧ val (x.take n) = val x) (fun t => lenOf t)
  case atStart => exact ⟨_, Nat.le_refl _, rfl, by rw [List.take_length]⟩
  case round =>
    obtain ⟨n, hn, rfl, hv⟩ := hrel
    have hlen : (x.take n).length = n := by rw [List.length_take]; omega
    have hN : Nt w L B (.slice A n c) (x.take n) := ⟨A, c, by rw [hlen], by omega, hm', hA0, fun h0 => by
      rw [hlen] at h0
      obtain ⟨b, off, hA, hl, hb, hcell⟩ := hx (by omega)
      exact ⟨b, off, hA, hl, hb, fun j hj => by
        rw [hlen] at hj
        rw [hcell j (by omega)]
        simp⟩⟩
    by_cases hcn : cb (x.take n) = true
    · have HC := Lib.hid hcn
      have e : lim (val x) = x.take n := lim_val_take hd hv.symm ((cb_iff _).1 hcn)
      have E := Lib.hid e
      have V := Lib.hid hv
      clear hcn e hx hv
      go_wp2_with fail
      refine (is_any _ (x.take n) L B _ hN).mono ?_
      rintro e w1 ⟨rfl, rfl⟩
      rw [HC.out]
      clear hlen
      go_wp2
      go_ret
      exact ⟨_, rfl, by rw [E.out]; exact hN, rfl⟩
    · have hcf : cb (x.take n) = false := by simpa using hcn
      have HC := Lib.hid hcf
      have hn0 : 1 ≤ n := by
        rcases Nat.eq_zero_or_pos n with h0 | h0
        · subst h0; exact absurd cb_nil hcn
        · exact h0
      have hz : x[n - 1] = 0 := by
        have := cb_last (x := x.take n) (by omega)
        rw [hcf] at this
        simp [hlen] at this
        exact this
      have hv2 : val (x.take (n - 1)) = val x := by
        have := val_take_succ x (n - 1) (by omega)
        have e : n - 1 + 1 = n := by omega
        rw [e, hz, hv] at this
        omega
      have V := Lib.hid hv2
      clear hcn hcf hx hv hz hv2
      go_wp2_with fail
      refine (is_any _ (x.take n) L B _ hN).mono ?_
      rintro e w1 ⟨rfl, rfl⟩
      rw [HC.out]
      clear hlen hN
      go_wp2
      go_round
      case rel => exact ⟨n - 1, by omega, rfl, V.out⟩
      case measure => simp [lenOf]; omega

theorem limBd {x : List Nat} (hd : Dig x) : (lim (val x)).length ≤ x.length := lim_val_length x hd

set_option maxHeartbeats 800000 in
/-- 'slices.Clone': the same limbs in a new row. -/
theorem clone_any (v : Value) (x : List Nat) (w : World) (h : Nt w 0 w.heap.size v x) (hl : x.length ≤ 1000000) :
    Calls Tryz.prog 112 #[v] w (Gives x w) := by
  obtain ⟨i0, hi, hz0, hz1, hz2⟩ := info_parts Tryz.info32
  have hr := h.rd
  obtain ⟨A, c, rfl, hc, hm, hA0, hx⟩ := h
  have hll : (lv x).length = x.length := lv_length x
  have HL := Lib.hid hll
  have hk : (lv x).length ≤ 1000000 := by rw [hll]; exact hl
  clear hll
  have e1 := fun w => Lib.run_eql_slice_nil (P := Tryz.prog) w 23 43 A x.length c 0 0 Tryz.underlying23
  rcases A with _ | ad
  · have h0 : x = [] := by
      rcases Nat.eq_zero_or_pos x.length with h0 | h0
      · exact List.eq_nil_of_length_eq_zero h0
      · obtain ⟨b, off, hA, _⟩ := hx h0
        cases hA
    subst h0
    have hc0 := hA0 rfl
    subst hc0
    clear hx HL hk e1
    have e1 := fun w => Lib.run_eql_slice_nil (P := Tryz.prog) w 23 43 none 0 0 0 0 Tryz.underlying23
    go_enter Tryz.func112, Tryz.ntmps112
    go_wp2
    go_ret
    exact ⟨_, rfl, Nt.nil _ _ _, Below.refl _ _⟩
  · clear hx
    go_enter Tryz.func112, Tryz.ntmps112
    go_wp2_with (at_builtin; refine wpList_append_rd rfl _ _ 23 rfl w.heap.size 43 i0 (.int .u32 0) 4 Tryz.underlying23 hi hz0 hz1 hz2 rfl _ _ _ rfl (World.ownsRow_lit w #[] 0 (Nat.le_refl _) (by decide) rfl) w.heap.size _ _ rfl (hr.alloc (Nat.le_refl _) _) (lv_one x) ?c1 ?c2 ?c3 ?_)
    case c1 => unfold maxLen; omega
    case c2 => omega
    case c3 => simp
    intro u1 w2 hown1 hg1
    have hr2 : Nt w2 w.heap.size w2.heap.size u1 x := Nt.of_own hown1
    have hb2 : Below w.heap.size w w2 := ((Below.refl _ _).alloc (Nat.le_refl _) _).grown hg1 (by simp) (fun k hk => by simp [Value.ownBlock] at hk; omega)
    clear hown1 hg1 hi hz0 hz1 hz2 hr e1
    go_wp2
    go_ret
    exact ⟨_, rfl, hr2, hb2⟩

/-- 'Trim': a number's limbs, in a new row. -/
theorem Trim_any (v : Value) (x : List Nat) (w : World) (hd : Dig x) (h : Nt w 0 w.heap.size v x) (hl : x.length ≤ 1000000) :
    Calls Tryz.prog 73 #[v] w (Gives (lim (val x)) w) := by
  have hk := limBd hd
  go_enter Tryz.func73, Tryz.ntmps73
  go_wp2_with fail
  refine (trim_any _ x _ _ _ hd h).mono ?_
  rintro e w1 ⟨v1, rfl, h1, rfl⟩
  go_wp2_with fail
  refine (clone_any _ _ _ h1 (by omega)).mono ?_
  rintro e w2 ⟨v2, rfl, h2, hb⟩
  go_wp2_with fail
  go_ret
  exact ⟨_, rfl, h2, hb⟩

/-- Two rows of limbs held against each other. -/
def eqb (x y : List Nat) : Bool := decide (x = y)
theorem eqb_rfl (x : List Nat) : eqb x x = true := decide_eq_true rfl

/-- The first n limbs of a slice. -/
theorem nt_take {w : World} {L B n c : Nat} {A : Option Addr} {x : List Nat} (h : Nt w L B (.slice A x.length c) x) (hn : n ≤ x.length) (hc : x.length ≤ c) (hm : c ≤ maxLen) : Nt w L B (.slice A n c) (x.take n) := by
  obtain ⟨A', c', he, _, _, hA0, hx⟩ := h
  injection he with e1 e2 e3
  subst e1
  subst e3
  have hlen : (x.take n).length = n := by rw [List.length_take]; omega
  refine ⟨A, c, by rw [hlen], by omega, hm, hA0, fun h0 => ?_⟩
  rw [hlen] at h0
  obtain ⟨b, off, hA, hl, hb, hcell⟩ := hx (by omega)
  exact ⟨b, off, hA, hl, hb, fun j hj => by
    rw [hlen] at hj
    rw [hcell j (by omega)]
    simp⟩

theorem drop_last_zero {x : List Nat} {n : Nat} (hn : 1 ≤ n) (hl : n ≤ x.length) (hz : x[n - 1]'(by omega) = 0) (hv : val (x.take n) = val x) : val (x.take (n - 1)) = val x := by
  have := val_take_succ x (n - 1) (by omega)
  have e : n - 1 + 1 = n := by omega
  rw [e, hz, hv] at this
  omega

theorem canon_take {x : List Nat} {n : Nat} (hn : 1 ≤ n) (hl : n ≤ x.length) (hz : x[n - 1]'(by omega) ≠ 0) : Canon (x.take n) := by
  have hlen : (x.take n).length = n := by rw [List.length_take]; omega
  refine canon_of_last (.inr ⟨by omega, ?_⟩)
  simpa [hlen] using hz

set_option maxHeartbeats 1600000 in
theorem refTrim_any (v : Value) (x : List Nat) (w : World) (hd : Dig x) (h : Nt w 0 w.heap.size v x) (hl : x.length ≤ 1000000) :
    Calls Tryz.prog 63 #[v] w (Gives (lim (val x)) w) := by
  obtain ⟨i0, hi, hz0, hz1, hz2⟩ := info_parts Tryz.info32
  obtain ⟨A, c, rfl, hc, hm, hA0, hx⟩ := h
  have hN : Nt w 0 w.heap.size (.slice A x.length c) x := ⟨A, c, rfl, hc, hm, hA0, hx⟩
  have hm' := hm
  unfold maxLen at hm
  go_enter Tryz.func63, Tryz.ntmps63
  go_wp2_with fail
  go_loop [3] (fun t => ∃ n, n ≤ x.length ∧ t = .int .i64 (n : Nat) ∧ val (x.take n) = val x) (fun t => (intOf t).toNat)
  case atStart => exact ⟨_, Nat.le_refl _, rfl, by rw [List.take_length]⟩
  case round =>
    obtain ⟨n, hn, rfl, hv⟩ := hrel
    -- the end: what is left is a number's limbs
    have fin : Canon (x.take n) → Hid (lim (val x) = x.take n) := fun hcn => lim_val_take hd hv.symm hcn
    by_cases hn0 : n = 0
    · have E := fin (by subst hn0; simp; exact Canon.nil)
      have V := Lib.hid hv
      have hgt : ¬ (0 : Int) < (n : Int) := by omega
      clear hv fin hx hn0
      have hr := (nt_take hN hn hc hm').rd
      have hk : (lv (x.take n)).length ≤ 1000000 := by rw [lv_length, List.length_take]; omega
      generalize hy : x.take n = y at *
      clear hy hN hd
      go_wp2_with (at_builtin; refine wpList_append_rd rfl _ _ 23 rfl w.heap.size 43 i0 (.int .u32 0) 4 Tryz.underlying23 hi hz0 hz1 hz2 rfl _ _ _ rfl (World.ownsRow_lit w #[] 0 (Nat.le_refl _) (by decide) rfl) w.heap.size _ _ rfl (hr.alloc (Nat.le_refl _) _) (lv_one _) (by unfold maxLen; omega) (by omega) (by simp) ?_)
      intro u1 w2 hown1 hg1
      have hr2 : Nt w2 w.heap.size w2.heap.size u1 y := Nt.of_own hown1
      have hb2 : Below w.heap.size w w2 := ((Below.refl _ _).alloc (Nat.le_refl _) _).grown hg1 (by simp) (fun k hk => by simp [Value.ownBlock] at hk; omega)
      clear hown1 hg1 hi hz0 hz1 hz2 hr
      go_wp2
      go_ret
      exact ⟨_, rfl, by rw [E.out]; exact hr2, hb2⟩
    · have hn1 : 1 ≤ n := by omega
      have hlt : n - 1 < x.length := by omega
      obtain ⟨b, off, rfl, _, _, hcell⟩ := hx (by omega)
      have hc1 := hcell (n - 1) hlt
      clear hcell hx
      by_cases hz : x[n - 1] = 0
      · have V := Lib.hid (drop_last_zero hn1 hn hz hv)
        rw [hz] at hc1
        clear hv fin hz hN
        go_wp2_with fail
        go_round
        case rel => exact ⟨n - 1, by omega, by go_num, V.out⟩
        case measure => simp [intOf]; omega
      · have E := fin (canon_take hn1 hn hz)
        have V := Lib.hid hv
        have hzb : (((x[n - 1] : Nat) : Int) == 0) = false := beq_false (by omega)
        clear hv fin hz
        generalize x[n - 1] = p at *
        have hr := (nt_take hN hn hc hm').rd
        have hk : (lv (x.take n)).length ≤ 1000000 := by rw [lv_length, List.length_take]; omega
        generalize hy : x.take n = y at *
        clear hy hN hd
        go_wp2_with (at_builtin; refine wpList_append_rd rfl _ _ 23 rfl w.heap.size 43 i0 (.int .u32 0) 4 Tryz.underlying23 hi hz0 hz1 hz2 rfl _ _ _ rfl (World.ownsRow_lit w #[] 0 (Nat.le_refl _) (by decide) rfl) w.heap.size _ _ rfl (hr.alloc (Nat.le_refl _) _) (lv_one _) (by unfold maxLen; omega) (by omega) (by simp) ?_)
        intro u1 w2 hown1 hg1
        have hr2 : Nt w2 w.heap.size w2.heap.size u1 y := Nt.of_own hown1
        have hb2 : Below w.heap.size w w2 := ((Below.refl _ _).alloc (Nat.le_refl _) _).grown hg1 (by simp) (fun k hk => by simp [Value.ownBlock] at hk; omega)
        clear hown1 hg1 hi hz0 hz1 hz2 hr
        go_wp2
        go_ret
        exact ⟨_, rfl, by rw [E.out]; exact hr2, hb2⟩

theorem at_any (v : Value) (x : List Nat) (i : Nat) (w : World) (L B : Nat) (hd : Dig x) (h : Nt w L B v x) (hl : x.length ≤ 1000000) :
    Calls Tryz.prog 84 #[v, .int .i64 (i : Int)] w fun e w' => e = .returned (.int .u64 ((x.getD i 0 : Nat) : Int)) ∧ w = w' := by
  obtain ⟨A, c, rfl, hc, hm, hA0, hx⟩ := h
  by_cases hlt : i < x.length
  · obtain ⟨b, off, rfl, _, _, hcell⟩ := hx (by omega)
    have hc1 := hcell i hlt
    have hI : (i : Int) < (x.length : Int) := by omega
    have hdi := hd.at hlt
    have e : x.getD i 0 = x[i] := by rw [List.getD_eq_getElem?_getD, List.getElem?_eq_getElem hlt]; rfl
    have E := Lib.hid e
    clear e hcell hx
    generalize x[i] = y at *
    go_enter Tryz.func84, Tryz.ntmps84
    go_wp2
    go_ret
    exact ⟨by rw [E.out]; rfl, rfl⟩
  · have hI : ¬ (i : Int) < (x.length : Int) := by omega
    clear hx
    go_enter Tryz.func84, Tryz.ntmps84
    go_wp2
    go_ret
    exact ⟨rfl, rfl⟩
end Go.Proofs.YtobmjcbjailclaaGreatDoor
