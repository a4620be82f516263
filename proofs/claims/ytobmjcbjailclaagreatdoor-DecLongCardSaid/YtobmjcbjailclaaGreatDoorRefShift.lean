/- The reference's 'Shift' by its contract: to the right, and both together. Condition: a bound on lengths. -/
import Derived.Test.YtobmjcbjailclaaGreatDoorRefShiftL
namespace Go.Proofs.YtobmjcbjailclaaGreatDoor
set_option maxRecDepth 100000
open Go.RowKit

theorem at_any' (v : Value) (x : List Nat) (i : Nat) (z : Int) (hz : z = (i : Int)) (w : World) (L B : Nat) (hd : Dig x) (h : Nt w L B v x) (hl : x.length ≤ 1000000) :
    Calls Tryz.prog 84 #[v, .int .i64 z] w fun e w' => e = .returned (.int .u64 ((x.getD i 0 : Nat) : Int)) ∧ w = w' := by
  subst hz
  exact at_any v x i w L B hd h hl

/-- A slice's part from its L-th limb on. -/
theorem Nt.drop {w : World} {lo B b off c L : Nat} {p : List Nat} (h : Nt w lo B (.slice (some ⟨b, off, none⟩) p.length c) p) (hL : L < p.length) : Nt w lo B (.slice (some ⟨b, off + L, none⟩) (p.length - L) (c - L)) (p.drop L) := by
  obtain ⟨A', c', he, hc, hm, _, hx⟩ := h
  have hl : (p.drop L).length = p.length - L := List.length_drop
  obtain ⟨b', off', rfl, h1, h2, hcell⟩ := hx (by omega)
  simp only [Value.slice.injEq, Option.some.injEq, Addr.mk.injEq, and_true, true_and] at he
  obtain ⟨⟨rfl, rfl⟩, rfl⟩ := he
  refine ⟨some ⟨b, off + L, none⟩, c - L, by rw [hl], by rw [hl]; omega, by omega, fun h => (by cases h), fun _ => ⟨b, off + L, rfl, h1, h2, fun k hk => ?_⟩⟩
  rw [hl] at hk
  rw [Nat.add_assoc, hcell (L + k) (by omega), List.getElem_drop]

set_option maxHeartbeats 3200000 in
theorem refShiftRight_any (v : Value) (x : List Nat) (n : Int) (j : Nat) (w : World) (hd : Dig x) (h : Nt w 0 w.heap.size v x) (hl : x.length ≤ 90000) (hj : held12 n = -(j : Int)) (hj0 : 1 ≤ j) (hj1 : j ≤ 4096) :
    Calls Tryz.prog 94 #[v, .int .i64 n] w (Gives (lim (val x / 2 ^ j)) w) := by
  have f1 : (if n < -4096 then (-4096 : Int) else n) = -(j : Int) := by
    unfold held12 at hj
    by_cases h1 : n < -4096
    · rw [if_pos h1]; omega
    · rw [if_neg h1]; omega
  have hxl := limBd' hd _ hl
  have vx := val_lim (val x)
  have hdp := dig_lim (val x)
  have VS : Hid (lim (val x / 2 ^ j) = lim (val (lim (val x)) / 2 ^ j)) := by rw [vx]; exact rfl
  clear vx
  obtain ⟨L, hL⟩ : ∃ L, j / 32 = L := ⟨_, rfl⟩
  obtain ⟨s, hs⟩ : ∃ s, j % 32 = s := ⟨_, rfl⟩
  have l1 : (j : Int) / 32 = (L : Int) := by omega
  have l2 : (j : Int) % 32 = (s : Int) := by omega
  have hs31 : s ≤ 31 := by omega
  have l3 : (-(j : Int)) < 0 := by omega
  have HLJ : Hid (L = j / 32 ∧ s = j % 32) := ⟨hL.symm, hs.symm⟩
  have l4 : L ≤ 128 := by omega
  clear hL hs
  obtain ⟨i0, hi, hz0, hz1, hz2⟩ := info_parts Tryz.info32
  go_enter Tryz.func94, Tryz.ntmps94
  go_wp2_with fail
  refine (refTrim_any _ x _ hd h (by omega)).mono ?_
  rintro e w1 ⟨v1, rfl, h1', hb0⟩
  have h1 := h1'.low (Nat.zero_le _)
  generalize lim (val x) = p at *
  clear h hd hl h1'
  have h1' := h1
  obtain ⟨A, c, rfl, hc, hm, _, hx⟩ := h1
  by_cases hLp : p.length ≤ L
  · have e0 : lim (val p / 2 ^ j) = [] := by
      have q1 := val_lt hdp
      have q2 : 4294967296 ^ p.length ≤ 2 ^ j := by
        rw [base_pow]
        exact Nat.pow_le_pow_right (by omega) (by have := HLJ.out; omega)
      rw [Nat.div_eq_of_lt (by omega)]
      exact lim_zero
    have E := Lib.hid e0
    have hge : ¬ (L : Int) < (p.length : Int) := by omega
    clear e0 hx
    go_wp2
    go_ret
    exact ⟨_, rfl, by rw [VS.out, E.out]; exact Nt.nil _ _ _, hb0⟩
  · obtain ⟨b, off, rfl, _, hbl, hcell⟩ := hx (by omega)
    have hlt : (L : Int) < (p.length : Int) := by omega
    have hcL : ¬ c = L := by omega
    have hn := h1'.drop (L := L) (by omega)
    unfold maxLen at hm
    have hql : (p.drop L).length = p.length - L := List.length_drop
    have hdq := hdp.drop L
    have hfin : val (p.drop L) / 2 ^ s = val p / 2 ^ j := by
      have := shift_right_eq hdp j
      rw [← HLJ.out.1, ← HLJ.out.2] at this
      exact this
    have HFIN := Lib.hid hfin
    have HQL := Lib.hid hql
    clear hfin hql hcell hx h1'
    go_wp2_with fail
    generalize p.drop L = q at *
    have HL1 : Hid (q.length = p.length - L) := HQL
    have hl1 : q.length ≤ 90000 := by have := HL1.out; omega
    have hl2 : p.length - L = q.length := HL1.out.symm
    rw [hl2] at hn ⊢
    generalize decide (0 < j) = bj at *
    clear HQL HL1 hl2 l1 l2 l3 f1 hlt hcL hc hm hLp hdp hj0 hj
    go_loopw [8, 9] (fun o i wr => ∃ (k : Nat) (cs : List Nat), k ≤ q.length ∧ i = .int .i64 (k : Nat) ∧ Dig cs ∧ RightIn q cs s k ∧ Own wr w1.heap.size 43 o cs ∧ Below w1.heap.size w1 wr)
      (fun _ i _ => q.length - (intOf i).toNat)
    case atStart => exact ⟨0, [], Nat.zero_le _, rfl, Dig.nil, rightIn_zero _ _, Own.nil _ _ _, Below.refl _ _⟩
    case round =>
      obtain ⟨k, cs, hk, rfl, hdc, hs0, hown, hb⟩ := hrel
      by_cases hlt : k < q.length
      · have b1 := dig_getD hdq k
        have b2 := dig_getD hdq (k + 1)
        have HS := rightIn_step hdq hs31 hs0
        have hcl : cs.length ≤ 1000000 := by have := hs0.1; omega
        have hat1 := at_any _ q k wr 0 w1.heap.size hdq (hn.below hb (Nat.le_refl _)) (by omega)
        have hat2 := at_any' _ q (k + 1) ((k : Int) + 1) (by omega) wr 0 w1.heap.size hdq (hn.below hb (Nat.le_refl _)) (by omega)
        clear hs0
        generalize q.getD k 0 = v1 at *
        generalize q.getD (k + 1) 0 = v2 at *
        obtain ⟨m, hm0⟩ : ∃ m, v2 * 4294967296 = m := ⟨_, rfl⟩
        rw [hm0] at HS
        have hW2 : (v2 : Int) * 4294967296 = (m : Int) := by omega
        have hm1 : m < 18446744073709551616 := by omega
        have hor : bits BinOp.or IntKind.u64 (v1 : Int) (m : Int) = ((v1 ||| m : Nat) : Int) := u64_or_nat _ _ (by omega) (by omega)
        generalize (v1 ||| m) = r at *
        obtain ⟨d, hd0⟩ : ∃ d, r / 2 ^ s = d := ⟨_, rfl⟩
        have hdv : (r : Int) / 2 ^ s = (d : Int) := by
          rw [← hd0, Int.natCast_ediv, Int.natCast_pow]; rfl
        rw [hd0] at HS
        clear hd0 hm0
        have hdc2 := hdc.append (Dig.cons (Nat.mod_lt d (by omega : 4294967296 > 0)) Dig.nil)
        have T1 := Lib.hid hat1
        have T2 := Lib.hid hat2
        clear hat1 hat2 hdc
        go_wp2_with fail
        refine T1.out.mono ?_
        rintro e w2 ⟨rfl, rfl⟩
        go_wp2_with fail
        refine T2.out.mono ?_
        rintro e w2 ⟨rfl, rfl⟩
        go_wp2_with (at_builtin; refine wpList_append_limb rfl _ _ 23 rfl w1.heap.size 43 i0 Tryz.underlying23 hi hz0 hz1 hz2 _ cs rfl hown _ (d % 4294967296) (congrArg (Value.int .u32) (by omega)) rfl hcl hb.size ?_)
        intro v' w3 hown1 hg1
        have hb1 := hb.trans hg1
        clear hown hg1 hb hcl T1 T2
        go_wp2
        go_roundw
        case rel => exact ⟨k + 1, _, by omega, by go_num, hdc2, HS, hown1, hb1⟩
        case measure => simp [intOf]; omega
      · obtain rfl : k = q.length := by omega
        have hv := rightIn_end hs0
        rw [HFIN.out] at hv
        have hcl : cs.length ≤ 1000000 := by have := hs0.1; omega
        have V := Lib.hid hv
        have hr := hown.nt
        clear hs0 hv hown hi hz0 hz1 hz2
        go_wp2_with fail
        refine (refTrim_any _ cs _ hdc (hr.low (Nat.zero_le _)) hcl).mono ?_
        rintro e w2 ⟨v3, rfl, h3, hb3⟩
        rw [V.out] at h3
        go_wp2
        go_ret
        exact ⟨_, rfl, by rw [VS.out]; exact h3.low (Nat.le_trans hb0.size hb.size), hb0.trans ((hb.trans (hb3.mono hb.size)).mono hb0.size)⟩

theorem refShift_any (v : Value) (x : List Nat) (n : Int) (w : World) (hd : Dig x) (h : Nt w 0 w.heap.size v x) (hl : x.length ≤ 90000) :
    Calls Tryz.prog 94 #[v, .int .i64 n] w (Gives (lim (shiftN (val x) n)) w) := by
  by_cases hn : held12 n < 0
  · have e : shiftN (val x) n = val x / 2 ^ (-(held12 n)).toNat := by unfold shiftN; rw [if_pos hn]
    rw [e]
    refine refShiftRight_any v x n (-(held12 n)).toNat w hd h (by omega) (by omega) (by omega) ?_
    unfold held12 at hn ⊢
    omega
  · have e : shiftN (val x) n = val x * 2 ^ (held12 n).toNat := by unfold shiftN; rw [if_neg hn]
    rw [e]
    by_cases h1 : (4096 : Int) < n
    · have e2 : (held12 n).toNat = 4096 := by unfold held12; omega
      rw [e2]
      exact refShiftLeft_out v x n 4096 w hd h hl h1 rfl
    · have e2 : (held12 n).toNat = n.toNat := by unfold held12; omega
      rw [e2]
      unfold held12 at hn
      exact refShiftLeft_in v x n n.toNat w hd h hl (by omega) (by omega)
end Go.Proofs.YtobmjcbjailclaaGreatDoor
