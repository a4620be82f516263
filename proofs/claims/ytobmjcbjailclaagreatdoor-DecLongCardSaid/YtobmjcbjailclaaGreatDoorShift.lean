/- 'Shift' by its contract: to the right. Condition: a bound on lengths. -/
import Derived.Test.YtobmjcbjailclaaGreatDoorLeft
namespace Go.Proofs.YtobmjcbjailclaaGreatDoor
set_option maxRecDepth 100000
open Go.RowKit

set_option maxHeartbeats 3200000 in
theorem shiftRight_any (v : Value) (x : List Nat) (n : Int) (j : Nat) (w : World) (hd : Dig x) (h : Nt w 0 w.heap.size v x) (hl : x.length ≤ 100000) (hj : held12 n = -(j : Int)) (hj0 : 1 ≤ j) (hj1 : j ≤ 4096) :
    Calls Tryz.prog 117 #[v, .int .i64 n] w (Gives (lim (val x / 2 ^ j)) w) := by
  have f1 : (if n < -4096 then (-4096 : Int) else n) = -(j : Int) := by
    unfold held12 at hj
    by_cases h1 : n < -4096
    · rw [if_pos h1]; omega
    · rw [if_neg h1]; omega
  have hxl := limBd' hd _ hl
  have vx := val_lim (val x)
  have hdp := dig_lim (val x)
  have VS : Hid (lim (val x / 2 ^ j) = lim (val (lim (val x)) / 2 ^ j)) := by rw [vx]; exact rfl
  clear vx
  obtain ⟨L, hL⟩ : ∃ L, j / 32 = L := ⟨_, rfl⟩
  obtain ⟨s, hs⟩ : ∃ s, j % 32 = s := ⟨_, rfl⟩
  have l1 : (j : Int) / 32 = (L : Int) := by omega
  have l2 : (j : Int) % 32 = (s : Int) := by omega
  have hs31 : s ≤ 31 := by omega
  have l3 : (-(j : Int)) < 0 := by omega
  have HLJ : Hid (L = j / 32 ∧ s = j % 32) := ⟨hL.symm, hs.symm⟩
  have l4 : L ≤ 128 := by omega
  clear hL hs
  go_enter Tryz.func117, Tryz.ntmps117
  go_wp2_with fail
  refine (trim_any _ x _ _ _ hd h).mono ?_
  rintro e w1 ⟨v1, rfl, h1, rfl⟩
  generalize lim (val x) = p at *
  clear h hd hl
  have h1' := h1
  obtain ⟨A, c, rfl, hc, hm, _, hx⟩ := h1
  by_cases hLp : p.length ≤ L
  · have e0 : lim (val p / 2 ^ j) = [] := by
      have q1 := val_lt hdp
      have q2 : 4294967296 ^ p.length ≤ 2 ^ j := by
        rw [base_pow]
        exact Nat.pow_le_pow_right (by omega) (by have := HLJ.out; omega)
      rw [Nat.div_eq_of_lt (by omega)]
      exact lim_zero
    have E := Lib.hid e0
    have hge : ¬ (L : Int) < (p.length : Int) := by omega
    clear e0 hx
    go_wp2
    go_ret
    exact ⟨_, rfl, by rw [VS.out, E.out]; exact Nt.nil _ _ _, Below.refl _ _⟩
  · obtain ⟨b, off, rfl, _, hbl, hcell⟩ := hx (by omega)
    have hlt : (L : Int) < (p.length : Int) := by omega
    have hmk := make_limbs (p.length - L) ((p.length : Int) - (L : Int)) (by omega) (by omega)
    have hcL : ¬ c = L := by omega
    unfold maxLen at hm
    have hql : (p.drop L).length = p.length - L := List.length_drop
    have hdq := hdp.drop L
    have hcq : ∀ k (h : k < p.length - L), w.cell? ⟨b, off + L + k, none⟩ = some (.int .u32 (((p.drop L).getD k 0 : Nat) : Int)) := fun k hk => by
      rw [Nat.add_assoc, hcell (L + k) (by omega), List.getD_eq_getElem?_getD, List.getElem?_drop, List.getElem?_eq_getElem (by omega)]
      rfl
    have hfin : val (p.drop L) / 2 ^ s = val p / 2 ^ j := by
      have := shift_right_eq hdp j
      rw [← HLJ.out.1, ← HLJ.out.2] at this
      exact this
    have HFIN := Lib.hid hfin
    have HQL := Lib.hid hql
    have HCQ := Lib.hid hcq
    clear hfin hql hcq hcell hx h1'
    go_wp2_with fail
    generalize p.drop L = q at *
    go_loopw [8, 9, 10, 40] (fun _ _ _ i wr => ∃ (k : Nat) (cs : List Nat), k ≤ p.length - L ∧ i = .int .i64 (k : Nat) ∧ Dig cs ∧ Hid (cs.length = p.length - L) ∧ RightAt q cs s k ∧ Lb wr w.heap.size 43 cs ∧ Below w.heap.size w wr)
      (fun _ _ _ i _ => p.length - L - (intOf i).toNat)
    case atStart => exact ⟨0, _, Nat.zero_le _, rfl, dig_zeros _, List.length_replicate, rightAt_zero _ _ _, Lb.made w _ _, (Below.refl _ _).alloc (Nat.le_refl _) _⟩
    case round =>
      obtain ⟨k, cs, hk, rfl, hdc, HL, hs0, hB, hb⟩ := hrel
      have hcl : p.length - L ≤ cs.length ∧ cs.length ≤ p.length - L := by have := HL.out; omega
      by_cases hlk : k < p.length - L
      · have hca := (hb.cell (p := ⟨b, off + L + k, none⟩) hbl).trans (HCQ.out k hlk)
        have b1 := dig_getD hdq k
        have hp := shr_parts b1 hs31
        have hkn : k < cs.length := by omega
        have hcc := hB.cell k hkn
        have hck : cs[k] = 0 := by rw [← getD_at hkn]; exact hs0.2.1 k (Nat.le_refl _)
        rw [hck] at hcc
        have hfr := hB.free k
        have hi1 : (k : Int) < ((p.length - L : Nat) : Int) := by omega
        clear hmk
        rcases Nat.eq_zero_or_pos k with hk0 | hk0
        · subst hk0
          rw [Nat.add_zero] at hca
          have HS := rightAt_first hs0 hkn
          generalize q.getD 0 0 = v at *
          have W : (v : Int) * 4294967296 / 2 ^ s = ((v * 2 ^ (32 - s) : Nat) : Int) := by
            have e := congrArg (fun z : Nat => (z : Int)) hp.1
            simp only [Int.natCast_ediv, Int.natCast_mul, Int.natCast_pow] at e ⊢
            exact e
          obtain ⟨m, hm0⟩ : ∃ m, v * 2 ^ (32 - s) = m := ⟨_, rfl⟩
          rw [hm0] at W hp
          have hhi : (m : Int) / 4294967296 = ((v / 2 ^ s : Nat) : Int) := by
            rw [← hp.2.2.1]
            have := hp.2.1
            omega
          have hgl : v / 2 ^ s < 4294967296 := by rw [← hp.2.2.1]; have := hp.2.1; omega
          have hor : bits BinOp.or IntKind.u32 0 ((v / 2 ^ s : Nat) : Int) = ((v / 2 ^ s : Nat) : Int) := by
            have e := u32_or_nat 0 (v / 2 ^ s) (by omega) hgl
            rw [Nat.zero_or] at e
            exact e
          have hm1 := hp.2.1
          have hB1 := hB.put 0 (v / 2 ^ s)
          have hd1 := hdc.set 0 (v / 2 ^ s) hgl
          have hb1 : Below w.heap.size w (wr.setCell ⟨w.heap.size, 0, none⟩ (.int .u32 ((v / 2 ^ s : Nat) : Int))) := hb.setCell (Nat.le_refl _) _
          have HL1 : Hid ((cs.set 0 (v / 2 ^ s)).length = p.length - L) := by have := HL.out; show _ = _; rw [List.length_set]; exact this
          clear hdc HL hB hb hcl hck hs0 hp hm0
          generalize cs.set 0 (v / 2 ^ s) = c1 at *
          generalize v / 2 ^ s = g at *
          go_wp2
          go_roundw
          case rel => exact ⟨1, c1, by omega, by go_num, hd1, HL1, HS, hB1, hb1⟩
          case measure => simp [intOf]; omega
        · have HS := rightAt_step' hdq hs31 hk0 hs0 hkn
          have b0 := shr_parts (dig_getD hdq (k - 1)) hs31
          have hlt0 : q.getD (k - 1) 0 / 2 ^ s < 4294967296 := Nat.lt_of_le_of_lt (Nat.div_le_self _ _) (dig_getD hdq (k - 1))
          generalize q.getD (k - 1) 0 / 2 ^ s = z at *
          generalize q.getD k 0 = v at *
          have W : (v : Int) * 4294967296 / 2 ^ s = ((v * 2 ^ (32 - s) : Nat) : Int) := by
            have e := congrArg (fun z : Nat => (z : Int)) hp.1
            simp only [Int.natCast_ediv, Int.natCast_mul, Int.natCast_pow] at e ⊢
            exact e
          obtain ⟨m, hm0⟩ : ∃ m, v * 2 ^ (32 - s) = m := ⟨_, rfl⟩
          rw [hm0] at W hp
          have hhi : (m : Int) / 4294967296 = ((v / 2 ^ s : Nat) : Int) := by
            rw [← hp.2.2.1]
            have := hp.2.1
            omega
          have hgl : v / 2 ^ s < 4294967296 := by rw [← hp.2.2.1]; have := hp.2.1; omega
          have hor : bits BinOp.or IntKind.u32 0 ((v / 2 ^ s : Nat) : Int) = ((v / 2 ^ s : Nat) : Int) := by
            have e := u32_or_nat 0 (v / 2 ^ s) (by omega) hgl
            rw [Nat.zero_or] at e
            exact e
          have hm1 := hp.2.1
          have hB1 := hB.put k (v / 2 ^ s)
          have hd1 := hdc.set k (v / 2 ^ s) hgl
          have hb1 : Below w.heap.size w (wr.setCell ⟨w.heap.size, k, none⟩ (.int .u32 ((v / 2 ^ s : Nat) : Int))) := hb.setCell (Nat.le_refl _) _
          have HL1 : Hid ((cs.set k (v / 2 ^ s)).length = p.length - L) := by have := HL.out; show _ = _; rw [List.length_set]; exact this
          have hlo : (m : Int) % 4294967296 = ((m % 4294967296 : Nat) : Int) := by omega
          rw [hm0] at HS
          have hor2 : bits BinOp.or IntKind.u32 (z : Int) ((m : Int) % 4294967296) = ((z ||| m % 4294967296 : Nat) : Int) := by rw [hlo]; exact u32_or_nat _ _ hlt0 (Nat.mod_lt _ (by omega))
          clear hlo
          have hkl : k - 1 < (cs.set k (v / 2 ^ s)).length := by rw [List.length_set]; omega
          have hc1 := hB1.cell (k - 1) hkl
          have hcz : (cs.set k (v / 2 ^ s))[k - 1] = z := by rw [← getD_at hkl]; exact HS.2
          rw [hcz] at hc1
          have hf1 := hB1.free (k - 1)
          have hdl : (z ||| m % 4294967296) < 4294967296 := Nat.or_lt_two_pow (n := 32) (by omega) (by omega)
          have hd2 := hd1.set (k - 1) (z ||| m % 4294967296) hdl
          have hB2 := hB1.put (k - 1) (z ||| m % 4294967296)
          have hb2 := hb1.setCell (p := ⟨w.heap.size, k - 1, none⟩) (Nat.le_refl _) (.int .u32 ((z ||| m % 4294967296 : Nat) : Int))
          have HL2 : Hid (((cs.set k (v / 2 ^ s)).set (k - 1) (z ||| m % 4294967296)).length = p.length - L) := by have := HL1.out; show _ = _; rw [List.length_set]; exact this
          have hS2 := HS.1
          clear hdc HL hB hb hcl hck hs0 hp hm0 HS hd1 hB1 hb1 HL1 hcz hkl b0
          generalize (cs.set k (v / 2 ^ s)).set (k - 1) (z ||| m % 4294967296) = c2 at *
          generalize (z ||| m % 4294967296) = d at *
          generalize v / 2 ^ s = g at *
          go_wp2
          go_roundw
          case rel => exact ⟨k + 1, c2, by omega, by go_num, hd2, HL2, hS2, hB2, hb2⟩
          case measure => simp [intOf]; omega
      · obtain rfl : k = p.length - L := by omega
        have hv : val cs = val p / 2 ^ j := by
          have := HQL.out
          rw [← this] at hs0
          rw [rightAt_end hs0 (by omega), HFIN.out]
        have hl2 := HL.out
        have hr := hB.reads (n := p.length - L) (by omega) (by unfold maxLen; omega)
        rw [hl2, List.take_of_length_le (by omega)] at hr
        have V := Lib.hid hv
        clear hv HL hs0 hB hcl hl2 hmk
        go_wp2_with fail
        refine (trim_any _ cs _ _ _ hdc hr).mono ?_
        rintro e w2 ⟨v3, rfl, h3, rfl⟩
        rw [V.out] at h3
        go_wp2
        go_ret
        exact ⟨_, rfl, by rw [VS.out]; exact h3, hb⟩
end Go.Proofs.YtobmjcbjailclaaGreatDoor
