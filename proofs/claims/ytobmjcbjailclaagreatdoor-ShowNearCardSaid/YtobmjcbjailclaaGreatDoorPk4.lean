/- Several texts in one: Left, Shift, ShiftL, ShiftAny, Ofs, RefDiv, RefShift, Adds. Condition: each says its own. -/
import Derived.Laws.CopyOwn
import Derived.Deep.RegionHeld3
import Derived.Deep.DrawnRows
import Derived.Outline
import Derived.Test.YtobmjcbjailclaaGreatDoorPk1
import Derived.Test.YtobmjcbjailclaaGreatDoorPk2
import Derived.Test.YtobmjcbjailclaaGreatDoorPk3
/- 'left' by its contract. Condition: a bound on lengths; a shift below 32. -/
namespace Go.Proofs.YtobmjcbjailclaaGreatDoor
set_option maxRecDepth 100000
open Go.RowKit

def LeftPost (a : List Nat) (s n : Nat) (w : World) (e : Ending) (w' : World) : Prop :=
  ∃ c, e = .returned (.slice (some ⟨w.heap.size, 0, none⟩) n n) ∧ Lb w' w.heap.size 43 c ∧ c.length = n ∧ Dig c ∧ val c = val a * 2 ^ s ∧ Below w.heap.size w w'

theorem leftAt_set {a c : List Nat} {s h k d : Nat} (hl : LeftAt a c s h k) : LeftAt a (c.set k d) s h k := by
  unfold LeftAt at hl ⊢
  rw [List.take_set_of_le (Nat.le_refl _)]
  exact hl

set_option maxHeartbeats 3200000 in
theorem left_any (v : Value) (a : List Nat) (s n : Nat) (w : World) (hd : Dig a) (h : Nt w 0 w.heap.size v a) (hl : a.length ≤ 100000) (hs : s ≤ 31) (hn1 : a.length ≤ n) (hn2 : n ≤ a.length + 1) (hf : n = a.length → val a * 2 ^ s < 4294967296 ^ a.length) :
    Calls Tryz.prog 133 #[v, .int .u64 (s : Int), .int .i64 (n : Int)] w (LeftPost a s n w) := by
  obtain ⟨A, c, rfl, hc, hm, _, hx⟩ := h
  have hmk := make_limbs n (n : Int) rfl (by omega)
  have HF := Lib.hid hf
  clear hf
  go_enter Tryz.func133, Tryz.ntmps133
  go_wp2_with fail
  go_loopw [8, 9, 10, 15] (fun _ _ _ i wr => ∃ (k h : Nat) (cs : List Nat), k ≤ a.length ∧ i = .int .i64 (k : Nat) ∧ Dig cs ∧ Hid (cs.length = n) ∧ LeftAt a cs s h k ∧ Hid (k < n → cs.getD k 0 = h) ∧ Bare cs (k + 1) ∧ Lb wr w.heap.size 43 cs ∧ Below w.heap.size w wr)
    (fun _ _ _ i _ => a.length - (intOf i).toNat)
  case atStart => exact ⟨0, 0, _, Nat.zero_le _, rfl, dig_zeros _, List.length_replicate, leftAt_zero _ _ _, fun _ => bare_zeros n 0 0 (Nat.le_refl _), bare_zeros _ _, Lb.made w _ _, (Below.refl _ _).alloc (Nat.le_refl _) _⟩
  case round =>
    obtain ⟨k, h, cs, hk, rfl, hdc, HL, hs0, HC, hbare, hB, hb⟩ := hrel
    have hcl : n ≤ cs.length ∧ cs.length ≤ n := by have := HL.out; omega
    by_cases hlt : k < a.length
    · have b1 := hd.at hlt
      obtain ⟨ba, oa, rfl, _, hba, hcella⟩ := hx (by omega)
      have hca := (hb.cell (p := ⟨ba, oa + k, none⟩) hba).trans (hcella k hlt)
      have hkn : k < cs.length := by omega
      have HS := leftAt_step hd hs hs0 hkn
      rw [getD_at hlt] at HS
      have hp := shl_parts b1 hs
      have hcc := hB.cell k hkn
      have hck : cs[k] = h := by have := HC.out (by omega); rw [getD_at hkn] at this; exact this
      rw [hck] at hcc
      have hfr := hB.free k
      clear hcella hmk
      have hhs := hs0.2
      have hTW := two_pow_le hs
      generalize a[k] = v at *
      have W : IntKind.u64.wrap ((v : Int) * 2 ^ s) = ((v * 2 ^ s : Nat) : Int) := by
        have e : ((v * 2 ^ s : Nat) : Int) = (v : Int) * 2 ^ s := by rw [Int.natCast_mul, Int.natCast_pow]; rfl
        rw [← e]
        have := hp.1
        exact IntWalk.u64_in _ (by omega)
      obtain ⟨m, hm0⟩ : ∃ m, v * 2 ^ s = m := ⟨_, rfl⟩
      rw [hm0] at W HS hp
      clear hm0
      have hmb := hp.2.1
      have hor : bits BinOp.or IntKind.u32 (h : Int) ((m : Int) % 4294967296) = ((h ||| m % 4294967296 : Nat) : Int) := by
        have e : (m : Int) % 4294967296 = ((m % 4294967296 : Nat) : Int) := by omega
        rw [e]
        exact u32_or_nat _ _ (by omega) (Nat.mod_lt _ (by omega))
      have hhi : (m : Int) / 4294967296 % 4294967296 = ((m / 4294967296 : Nat) : Int) := by omega
      have hd1 := hdc.set k (h ||| m % 4294967296) HS.2
      have hB1 := hB.put k (h ||| m % 4294967296)
      have hb1 : Below w.heap.size w (wr.setCell ⟨w.heap.size, k, none⟩ (.int .u32 ((h ||| m % 4294967296 : Nat) : Int))) := hb.setCell (Nat.le_refl _) _
      have HL1 : Hid ((cs.set k (h ||| m % 4294967296)).length = n) := by have := HL.out; show _ = _; rw [List.length_set]; exact this
      have hba1 : Bare (cs.set k (h ||| m % 4294967296)) (k + 1) := hbare.set (Nat.lt_succ_self k)
      have hS1 := HS.1
      have hdor := HS.2
      clear hdc HL hbare hB hb HC hck hs0 HS hp hx
      generalize cs.set k (h ||| m % 4294967296) = c1 at *
      clear hcl hkn
      have hcl : n ≤ c1.length ∧ c1.length ≤ n := by have := HL1.out; omega
      generalize (h ||| m % 4294967296) = d at *
      by_cases hnn : k + 1 < n
      · have hI : (k : Int) + 1 < (n : Int) := by omega
        have hc2 := hB1.cell (k + 1) (by omega)
        have hf2 := hB1.free (k + 1)
        have hd2 := hd1.set (k + 1) (m / 4294967296) (by omega)
        have hB2 := hB1.put (k + 1) (m / 4294967296)
        have hb2 := hb1.setCell (p := ⟨w.heap.size, k + 1, none⟩) (Nat.le_refl _) (.int .u32 ((m / 4294967296 : Nat) : Int))
        have HL2 : Hid ((c1.set (k + 1) (m / 4294967296)).length = n) := by have := HL1.out; show _ = _; rw [List.length_set]; exact this
        have HC2 : Hid (k + 1 < n → (c1.set (k + 1) (m / 4294967296)).getD (k + 1) 0 = m / 4294967296) := fun _ => getD_set_same (by omega)
        have hba2 : Bare (c1.set (k + 1) (m / 4294967296)) (k + 1 + 1) := (hba1.more (Nat.le_succ _)).set (Nat.lt_succ_self _)
        have hS2 := leftAt_set (d := m / 4294967296) hS1
        clear hd1 hB1 hb1 HL1 hba1 hS1
        generalize c1.set (k + 1) (m / 4294967296) = c2 at *
        generalize c1[k + 1] = old at *
        go_wp2
        go_roundw
        case rel => exact ⟨k + 1, m / 4294967296, c2, by omega, by go_num, hd2, HL2, hS2, HC2, hba2, hB2, hb2⟩
        case measure => simp [intOf]; omega
      · have hI : ¬ (k : Int) + 1 < (n : Int) := by omega
        have HC2 : Hid (k + 1 < n → c1.getD (k + 1) 0 = m / 4294967296) := fun hx => absurd hx hnn
        have hba2 : Bare c1 (k + 1 + 1) := hba1.more (Nat.le_succ _)
        clear hba1
        go_wp2
        go_roundw
        case rel => exact ⟨k + 1, m / 4294967296, c1, by omega, by go_num, hd1, HL1, hS1, HC2, hba2, hB1, hb1⟩
        case measure => simp [intOf]; omega
    · obtain rfl : k = a.length := by omega
      have hv : val cs = val a * 2 ^ s := by
        by_cases hn : n = a.length
        · exact leftAt_fit hs0 (by have := HL.out; omega) (HF.out hn)
        · exact leftAt_end hs0 (by have := HL.out; omega) hbare (HC.out (by omega))
      have HV := Lib.hid hv
      clear hv hs0 HC hbare hx hmk hcl
      go_wp2
      go_ret
      exact ⟨cs, rfl, hB, HL.out, hdc, HV.out, hb⟩
end Go.Proofs.YtobmjcbjailclaaGreatDoor

/- 'Shift' by its contract: to the right. Condition: a bound on lengths. -/
namespace Go.Proofs.YtobmjcbjailclaaGreatDoor
set_option maxRecDepth 100000
open Go.RowKit

set_option maxHeartbeats 3200000 in
theorem shiftRight_any (v : Value) (x : List Nat) (n : Int) (j : Nat) (w : World) (hd : Dig x) (h : Nt w 0 w.heap.size v x) (hl : x.length ≤ 100000) (hj : held12 n = -(j : Int)) (hj0 : 1 ≤ j) (hj1 : j ≤ 4096) :
    Calls Tryz.prog 117 #[v, .int .i64 n] w (Gives (lim (val x / 2 ^ j)) w) := by
  have f1 : (if n < -4096 then (-4096 : Int) else n) = -(j : Int) := by
    unfold held12 at hj
    by_cases h1 : n < -4096
    · rw [if_pos h1]; omega
    · rw [if_neg h1]; omega
  have hxl := limBd' hd _ hl
  have vx := val_lim (val x)
  have hdp := dig_lim (val x)
  have VS : Hid (lim (val x / 2 ^ j) = lim (val (lim (val x)) / 2 ^ j)) := by rw [vx]; exact rfl
  clear vx
  obtain ⟨L, hL⟩ : ∃ L, j / 32 = L := ⟨_, rfl⟩
  obtain ⟨s, hs⟩ : ∃ s, j % 32 = s := ⟨_, rfl⟩
  have l1 : (j : Int) / 32 = (L : Int) := by omega
  have l2 : (j : Int) % 32 = (s : Int) := by omega
  have hs31 : s ≤ 31 := by omega
  have l3 : (-(j : Int)) < 0 := by omega
  have HLJ : Hid (L = j / 32 ∧ s = j % 32) := ⟨hL.symm, hs.symm⟩
  have l4 : L ≤ 128 := by omega
  clear hL hs
  go_enter Tryz.func117, Tryz.ntmps117
  go_wp2_with fail
  refine (trim_any _ x _ _ _ hd h).mono ?_
  rintro e w1 ⟨v1, rfl, h1, rfl⟩
  generalize lim (val x) = p at *
  clear h hd hl
  have h1' := h1
  obtain ⟨A, c, rfl, hc, hm, _, hx⟩ := h1
  by_cases hLp : p.length ≤ L
  · have e0 : lim (val p / 2 ^ j) = [] := by
      have q1 := val_lt hdp
      have q2 : 4294967296 ^ p.length ≤ 2 ^ j := by
        rw [base_pow]
        exact Nat.pow_le_pow_right (by omega) (by have := HLJ.out; omega)
      rw [Nat.div_eq_of_lt (by omega)]
      exact lim_zero
    have E := Lib.hid e0
    have hge : ¬ (L : Int) < (p.length : Int) := by omega
    clear e0 hx
    go_wp2
    go_ret
    exact ⟨_, rfl, by rw [VS.out, E.out]; exact Nt.nil _ _ _, Below.refl _ _⟩
  · obtain ⟨b, off, rfl, _, hbl, hcell⟩ := hx (by omega)
    have hlt : (L : Int) < (p.length : Int) := by omega
    have hmk := make_limbs (p.length - L) ((p.length : Int) - (L : Int)) (by omega) (by omega)
    have hcL : ¬ c = L := by omega
    unfold maxLen at hm
    have hql : (p.drop L).length = p.length - L := List.length_drop
    have hdq := hdp.drop L
    have hcq : ∀ k (h : k < p.length - L), w.cell? ⟨b, off + L + k, none⟩ = some (.int .u32 (((p.drop L).getD k 0 : Nat) : Int)) := fun k hk => by
      rw [Nat.add_assoc, hcell (L + k) (by omega), List.getD_eq_getElem?_getD, List.getElem?_drop, List.getElem?_eq_getElem (by omega)]
      rfl
    have hfin : val (p.drop L) / 2 ^ s = val p / 2 ^ j := by
      have := shift_right_eq hdp j
      rw [← HLJ.out.1, ← HLJ.out.2] at this
      exact this
    have HFIN := Lib.hid hfin
    have HQL := Lib.hid hql
    have HCQ := Lib.hid hcq
    clear hfin hql hcq hcell hx h1'
    go_wp2_with fail
    generalize p.drop L = q at *
    go_loopw [8, 9, 10, 40] (fun _ _ _ i wr => ∃ (k : Nat) (cs : List Nat), k ≤ p.length - L ∧ i = .int .i64 (k : Nat) ∧ Dig cs ∧ Hid (cs.length = p.length - L) ∧ RightAt q cs s k ∧ Lb wr w.heap.size 43 cs ∧ Below w.heap.size w wr)
      (fun _ _ _ i _ => p.length - L - (intOf i).toNat)
    case atStart => exact ⟨0, _, Nat.zero_le _, rfl, dig_zeros _, List.length_replicate, rightAt_zero _ _ _, Lb.made w _ _, (Below.refl _ _).alloc (Nat.le_refl _) _⟩
    case round =>
      obtain ⟨k, cs, hk, rfl, hdc, HL, hs0, hB, hb⟩ := hrel
      have hcl : p.length - L ≤ cs.length ∧ cs.length ≤ p.length - L := by have := HL.out; omega
      by_cases hlk : k < p.length - L
      · have hca := (hb.cell (p := ⟨b, off + L + k, none⟩) hbl).trans (HCQ.out k hlk)
        have b1 := dig_getD hdq k
        have hp := shr_parts b1 hs31
        have hkn : k < cs.length := by omega
        have hcc := hB.cell k hkn
        have hck : cs[k] = 0 := by rw [← getD_at hkn]; exact hs0.2.1 k (Nat.le_refl _)
        rw [hck] at hcc
        have hfr := hB.free k
        have hi1 : (k : Int) < ((p.length - L : Nat) : Int) := by omega
        clear hmk
        rcases Nat.eq_zero_or_pos k with hk0 | hk0
        · subst hk0
          rw [Nat.add_zero] at hca
          have HS := rightAt_first hs0 hkn
          generalize q.getD 0 0 = v at *
          have W : (v : Int) * 4294967296 / 2 ^ s = ((v * 2 ^ (32 - s) : Nat) : Int) := by
            have e := congrArg (fun z : Nat => (z : Int)) hp.1
            simp only [Int.natCast_ediv, Int.natCast_mul, Int.natCast_pow] at e ⊢
            exact e
          obtain ⟨m, hm0⟩ : ∃ m, v * 2 ^ (32 - s) = m := ⟨_, rfl⟩
          rw [hm0] at W hp
          have hhi : (m : Int) / 4294967296 = ((v / 2 ^ s : Nat) : Int) := by
            rw [← hp.2.2.1]
            have := hp.2.1
            omega
          have hgl : v / 2 ^ s < 4294967296 := by rw [← hp.2.2.1]; have := hp.2.1; omega
          have hor : bits BinOp.or IntKind.u32 0 ((v / 2 ^ s : Nat) : Int) = ((v / 2 ^ s : Nat) : Int) := by
            have e := u32_or_nat 0 (v / 2 ^ s) (by omega) hgl
            rw [Nat.zero_or] at e
            exact e
          have hm1 := hp.2.1
          have hB1 := hB.put 0 (v / 2 ^ s)
          have hd1 := hdc.set 0 (v / 2 ^ s) hgl
          have hb1 : Below w.heap.size w (wr.setCell ⟨w.heap.size, 0, none⟩ (.int .u32 ((v / 2 ^ s : Nat) : Int))) := hb.setCell (Nat.le_refl _) _
          have HL1 : Hid ((cs.set 0 (v / 2 ^ s)).length = p.length - L) := by have := HL.out; show _ = _; rw [List.length_set]; exact this
          clear hdc HL hB hb hcl hck hs0 hp hm0
          generalize cs.set 0 (v / 2 ^ s) = c1 at *
          generalize v / 2 ^ s = g at *
          go_wp2
          go_roundw
          case rel => exact ⟨1, c1, by omega, by go_num, hd1, HL1, HS, hB1, hb1⟩
          case measure => simp [intOf]; omega
        · have HS := rightAt_step' hdq hs31 hk0 hs0 hkn
          have b0 := shr_parts (dig_getD hdq (k - 1)) hs31
          have hlt0 : q.getD (k - 1) 0 / 2 ^ s < 4294967296 := Nat.lt_of_le_of_lt (Nat.div_le_self _ _) (dig_getD hdq (k - 1))
          generalize q.getD (k - 1) 0 / 2 ^ s = z at *
          generalize q.getD k 0 = v at *
          have W : (v : Int) * 4294967296 / 2 ^ s = ((v * 2 ^ (32 - s) : Nat) : Int) := by
            have e := congrArg (fun z : Nat => (z : Int)) hp.1
            simp only [Int.natCast_ediv, Int.natCast_mul, Int.natCast_pow] at e ⊢
            exact e
          obtain ⟨m, hm0⟩ : ∃ m, v * 2 ^ (32 - s) = m := ⟨_, rfl⟩
          rw [hm0] at W hp
          have hhi : (m : Int) / 4294967296 = ((v / 2 ^ s : Nat) : Int) := by
            rw [← hp.2.2.1]
            have := hp.2.1
            omega
          have hgl : v / 2 ^ s < 4294967296 := by rw [← hp.2.2.1]; have := hp.2.1; omega
          have hor : bits BinOp.or IntKind.u32 0 ((v / 2 ^ s : Nat) : Int) = ((v / 2 ^ s : Nat) : Int) := by
            have e := u32_or_nat 0 (v / 2 ^ s) (by omega) hgl
            rw [Nat.zero_or] at e
            exact e
          have hm1 := hp.2.1
          have hB1 := hB.put k (v / 2 ^ s)
          have hd1 := hdc.set k (v / 2 ^ s) hgl
          have hb1 : Below w.heap.size w (wr.setCell ⟨w.heap.size, k, none⟩ (.int .u32 ((v / 2 ^ s : Nat) : Int))) := hb.setCell (Nat.le_refl _) _
          have HL1 : Hid ((cs.set k (v / 2 ^ s)).length = p.length - L) := by have := HL.out; show _ = _; rw [List.length_set]; exact this
          have hlo : (m : Int) % 4294967296 = ((m % 4294967296 : Nat) : Int) := by omega
          rw [hm0] at HS
          have hor2 : bits BinOp.or IntKind.u32 (z : Int) ((m : Int) % 4294967296) = ((z ||| m % 4294967296 : Nat) : Int) := by rw [hlo]; exact u32_or_nat _ _ hlt0 (Nat.mod_lt _ (by omega))
          clear hlo
          have hkl : k - 1 < (cs.set k (v / 2 ^ s)).length := by rw [List.length_set]; omega
          have hc1 := hB1.cell (k - 1) hkl
          have hcz : (cs.set k (v / 2 ^ s))[k - 1] = z := by rw [← getD_at hkl]; exact HS.2
          rw [hcz] at hc1
          have hf1 := hB1.free (k - 1)
          have hdl : (z ||| m % 4294967296) < 4294967296 := Nat.or_lt_two_pow (n := 32) (by omega) (by omega)
          have hd2 := hd1.set (k - 1) (z ||| m % 4294967296) hdl
          have hB2 := hB1.put (k - 1) (z ||| m % 4294967296)
          have hb2 := hb1.setCell (p := ⟨w.heap.size, k - 1, none⟩) (Nat.le_refl _) (.int .u32 ((z ||| m % 4294967296 : Nat) : Int))
          have HL2 : Hid (((cs.set k (v / 2 ^ s)).set (k - 1) (z ||| m % 4294967296)).length = p.length - L) := by have := HL1.out; show _ = _; rw [List.length_set]; exact this
          have hS2 := HS.1
          clear hdc HL hB hb hcl hck hs0 hp hm0 HS hd1 hB1 hb1 HL1 hcz hkl b0
          generalize (cs.set k (v / 2 ^ s)).set (k - 1) (z ||| m % 4294967296) = c2 at *
          generalize (z ||| m % 4294967296) = d at *
          generalize v / 2 ^ s = g at *
          go_wp2
          go_roundw
          case rel => exact ⟨k + 1, c2, by omega, by go_num, hd2, HL2, hS2, hB2, hb2⟩
          case measure => simp [intOf]; omega
      · obtain rfl : k = p.length - L := by omega
        have hv : val cs = val p / 2 ^ j := by
          have := HQL.out
          rw [← this] at hs0
          rw [rightAt_end hs0 (by omega), HFIN.out]
        have hl2 := HL.out
        have hr := hB.reads (n := p.length - L) (by omega) (by unfold maxLen; omega)
        rw [hl2, List.take_of_length_le (by omega)] at hr
        have V := Lib.hid hv
        clear hv HL hs0 hB hcl hl2 hmk
        go_wp2_with fail
        refine (trim_any _ cs _ _ _ hdc hr).mono ?_
        rintro e w2 ⟨v3, rfl, h3, rfl⟩
        rw [V.out] at h3
        go_wp2
        go_ret
        exact ⟨_, rfl, by rw [VS.out]; exact h3, hb⟩
end Go.Proofs.YtobmjcbjailclaaGreatDoor

/- 'Shift' by its contract: to the left; both together. Condition: a bound on lengths. -/
namespace Go.Proofs.YtobmjcbjailclaaGreatDoor
set_option maxRecDepth 100000
open Go.RowKit
attribute [local go_sem ↓] Go.wp_at_zero Go.wp_at_succ

theorem left_any' (v : Value) (a : List Nat) (s n : Nat) (z t : Int) (hz : z = (n : Int)) (ht : t = (s : Int)) (w : World) (hd : Dig a) (h : Nt w 0 w.heap.size v a) (hl : a.length ≤ 100000) (hs : s ≤ 31) (hn1 : a.length ≤ n) (hn2 : n ≤ a.length + 1) (hf : n = a.length → val a * 2 ^ s < 4294967296 ^ a.length) :
    Calls Tryz.prog 133 #[v, .int .u64 t, .int .i64 z] w (LeftPost a s n w) := by
  subst hz; subst ht
  exact left_any v a s n w hd h hl hs hn1 hn2 hf

theorem Tryz.size32 : (Tryz.prog.info? 43).map (·.size) = some 1 := by kernel_rfl

theorem splice_val (N L : Nat) (c : List Nat) (h : N = L + c.length) : splice (lv (List.replicate N 0)) L (lv c) = lv (List.replicate L 0 ++ c) := by
  subst h
  unfold splice lv
  rw [List.map_replicate, List.length_map, List.take_replicate, List.drop_replicate, List.map_append, List.map_replicate, Nat.min_eq_left (by omega), Nat.sub_self]
  simp

theorem step_copy_limbs {P : Program} {ops : Array Oper} {o : Oper} {a : Act} {w : World} {K : Act → World → Prop} {Q : Exit → Act → World → Prop} {E : Prop} (hgd : o.guard = none) (d s : Operand) (dT sT : TypeId)
    (ho : o.op = .call { callee := .builtin .copy, args := #[d, s], argTypes := #[dT, sT] }) (elem : TypeId) (hu : P.underlying dT = some (.slice elem)) (hsz : (P.info? elem).map (·.size) = some 1)
    (g L dLen n g2 N : Nat) (hd : a.eval d = .slice (some ⟨g, L, none⟩) dLen dLen) (hs : a.eval s = .slice (some ⟨g2, 0, none⟩) n n) (t t2 : TypeId) (c : List Nat)
    (hB : Lb w g t (List.replicate N 0)) (hC : Lb w g2 t2 c) (hcn : c.length = n) (hdn : dLen = n) (hN : N = L + n) (B : Nat) (w0 : World) (hb : Below B w0 w) (hBg : B ≤ g)
    (h : ∀ w', Lb w' g t (List.replicate L 0 ++ c) → Below B w0 w' → K (a.put o.dst (goInt (lv c).length)) w') :
    if Region.wanted o (yielded ops a.tmps) = true then Oper.wp P o a w K Q else E := by
  subst hdn hN
  refine step_copy_splice hgd d s dT sT ho elem hu hsz _ _ _ _ _ _ hd hs g L (lv (List.replicate (L + dLen) 0)) t hB (lv c) ?_ ?_ ?_ (lv_one _) B w0 hb hBg ?_
  · rw [lv_length, hcn]; exact (Nat.min_self _).symm
  · intro _
    refine ⟨rfl, _, rfl, fun j v hv => ?_⟩
    have hj : j < c.length := by
      rw [← lv_length]
      exact (List.getElem?_eq_some_iff.1 hv).1
    rw [lv_at, List.getElem?_eq_getElem hj] at hv
    have := hC.cell j hj
    rw [show (Addr.mk g2 0 none).add j = ⟨g2, j, none⟩ by simp [Addr.add]; exact fun h => h.symm]
    rw [this]
    exact hv
  · rw [lv_length, lv_length, List.length_replicate, hcn]; exact Nat.le_refl _
  · intro w' hg hb'
    have e := hg.out
    rw [splice_val _ _ _ (by rw [hcn])] at e
    exact h w' e hb'

set_option maxHeartbeats 3200000 in
theorem shiftLeft_in (v : Value) (x : List Nat) (n : Int) (j : Nat) (w : World) (hd : Dig x) (h : Nt w 0 w.heap.size v x) (hl : x.length ≤ 90000) (hj1 : j ≤ 4096) (hn : n = (j : Int)) :
    Calls Tryz.prog 117 #[v, .int .i64 n] w (Gives (lim (val x * 2 ^ j)) w) := by
  subst hn
  have g1 : ¬ (j : Int) < -4096 := by omega
  have g2 : ¬ (4096 : Int) < (j : Int) := by omega
  have hxl := limBd' hd _ hl
  have vx := val_lim (val x)
  have hdp := dig_lim (val x)
  have VS : Hid (lim (val x * 2 ^ j) = lim (val (lim (val x)) * 2 ^ j)) := by rw [vx]; exact rfl
  clear vx
  obtain ⟨L, hL⟩ : ∃ L, j / 32 = L := ⟨_, rfl⟩
  obtain ⟨s, hs⟩ : ∃ s, j % 32 = s := ⟨_, rfl⟩
  have l1 : (j : Int) / 32 = (L : Int) := by omega
  have l2 : (j : Int) % 32 = (s : Int) := by omega
  have hs31 : s ≤ 31 := by omega
  have l3 : ¬ (j : Int) < 0 := by omega
  have HLJ : Hid (L = j / 32 ∧ s = j % 32) := ⟨hL.symm, hs.symm⟩
  have l4 : L ≤ 128 := by omega
  clear hL hs
  go_enter Tryz.func117, Tryz.ntmps117
  go_wp2_with fail
  refine (trim_any _ x _ _ _ hd h).mono ?_
  rintro e w1 ⟨v1, rfl, h1, rfl⟩
  generalize lim (val x) = p at *
  clear h hd hl
  have h1' := h1
  obtain ⟨A, c, rfl, hc, hm, _, hx⟩ := h1
  have hmk := make_limbs (L + p.length + 1) ((L : Int) + (p.length : Int) + 1) (by omega) (by omega)
  go_wp2_with fail
  have hB0 := Lb.made w 43 (L + p.length + 1)
  have hb0 : Below w.heap.size w (w.alloc (.cells (madeCells #[.int .u32 0] (L + p.length + 1)) 43)) := (Below.refl _ _).alloc (Nat.le_refl _) _
  generalize w.alloc (.cells (madeCells #[.int .u32 0] (L + p.length + 1)) 43) = w0 at *
  have hn0 : Nt w0 0 w0.heap.size (.slice A p.length c) p := h1'.after hb0
  have z1 : IntKind.i64.wrap ((p.length : Int) + 1) = ((p.length + 1 : Nat) : Int) := by rw [IntWalk.i64_in _ (by omega)]; rfl
  have z2 : IntKind.u64.wrap ((j : Int).tmod 32) = (s : Int) := by rw [Int.tmod_eq_emod_of_nonneg (by omega), l2, IntWalk.u64_in _ (by omega)]
  have hlf := left_any' (.slice A p.length c) p s (p.length + 1) (IntKind.i64.wrap ((p.length : Int) + 1)) (IntKind.u64.wrap ((j : Int).tmod 32)) z1 z2 w0.drew hdp hn0.drew (by omega) hs31 (by omega) (by omega) (by omega)
  have HLF := Lib.hid hlf
  have hlg := hB0.lt
  clear hlf hx hmk h1' z1 z2
  unfold maxLen at hm
  have i1 : (0 : Int) ≤ (L : Int) := by omega
  have i2 : (L : Int) ≤ (L : Int) + (p.length : Int) + 1 := by omega
  go_region_held3 (fun W => Below w.heap.size w W)
    (first | assumption | exact hb0.drew | exact hb0.trans (Below.mono (by assumption) hb0.size))
    (first
      | (go_at_call 133; refine HLF.out.mono ?_; rintro e w2 ⟨cl, rfl, hcB, hcl, hdc, hcv, hb2⟩; have hbk : Below w0.heap.size w0 w2 := Below.trans (Below.drew (Below.refl _ _)) hb2; have hB2 := hB0.drew.below hb2 hlg; have HCL := Lib.hid hcl; have HCV := Lib.hid hcv; clear hcl hcv)
      | (refine step_copy_limbs (by rfl) (.tmp 83) (.tmp 91) 23 23 (by rfl) 43 Tryz.underlying23 Tryz.size32 w.heap.size L _ (p.length + 1) w0.heap.size (L + p.length + 1) (by rfl) (by rfl) 43 43 cl hB2 hcB HCL.out (by omega) (by omega) w.heap.size w (hb0.trans (hbk.mono hb0.size)) (Nat.le_refl _) ?_; intro w3 hB3 hb3)
      | fail)
  have hdz : Dig (List.replicate L 0 ++ cl) := by
    intro y hy
    rcases List.mem_append.1 hy with hy | hy
    · exact dig_zeros L y hy
    · exact hdc y hy
  have hl2 : (List.replicate L 0 ++ cl).length = L + p.length + 1 := by rw [List.length_append, List.length_replicate, HCL.out]; rfl
  have hr := hB3.reads (n := L + p.length + 1) (by omega) (by unfold maxLen; omega)
  rw [hl2, List.take_of_length_le (by omega)] at hr
  have hv : val (List.replicate L 0 ++ cl) = val p * 2 ^ j := by
    rw [val_append, val_zeros, Nat.zero_add, List.length_replicate, HCV.out, HLJ.out.1, HLJ.out.2, shift_left_eq]
  have V := Lib.hid hv
  clear hv hl2 hB3 hB2 hcB hbk hdc HCL HCV hB0 hn0 HLF hlg hb0 hb2
  go_wp2_with fail
  refine (trim_any _ _ _ _ _ hdz hr).mono ?_
  rintro e w4 ⟨v3, rfl, h3, rfl⟩
  rw [V.out] at h3
  go_wp2
  go_ret
  exact ⟨_, rfl, by rw [VS.out]; exact h3, hb3⟩

set_option maxHeartbeats 3200000 in
theorem shiftLeft_out (v : Value) (x : List Nat) (n : Int) (j : Nat) (w : World) (hd : Dig x) (h : Nt w 0 w.heap.size v x) (hl : x.length ≤ 90000) (hn : (4096 : Int) < n) (he : (4096 : Int) = (j : Int)) :
    Calls Tryz.prog 117 #[v, .int .i64 n] w (Gives (lim (val x * 2 ^ j)) w) := by
  have hj1 : j ≤ 4096 := by omega
  have g1 : ¬ n < -4096 := by omega
  have g3 : ¬ n < -(j : Int) := by omega
  have g2 : (j : Int) < n := by omega
  clear hn
  have hxl := limBd' hd _ hl
  have vx := val_lim (val x)
  have hdp := dig_lim (val x)
  have VS : Hid (lim (val x * 2 ^ j) = lim (val (lim (val x)) * 2 ^ j)) := by rw [vx]; exact rfl
  clear vx
  obtain ⟨L, hL⟩ : ∃ L, j / 32 = L := ⟨_, rfl⟩
  obtain ⟨s, hs⟩ : ∃ s, j % 32 = s := ⟨_, rfl⟩
  have l1 : (j : Int) / 32 = (L : Int) := by omega
  have l2 : (j : Int) % 32 = (s : Int) := by omega
  have hs31 : s ≤ 31 := by omega
  have l3 : ¬ (j : Int) < 0 := by omega
  have HLJ : Hid (L = j / 32 ∧ s = j % 32) := ⟨hL.symm, hs.symm⟩
  have l4 : L ≤ 128 := by omega
  clear hL hs
  go_enter Tryz.func117, Tryz.ntmps117
  go_wp2_with fail
  refine (trim_any _ x _ _ _ hd h).mono ?_
  rintro e w1 ⟨v1, rfl, h1, rfl⟩
  generalize lim (val x) = p at *
  clear h hd hl
  have h1' := h1
  obtain ⟨A, c, rfl, hc, hm, _, hx⟩ := h1
  have hmk := make_limbs (L + p.length + 1) ((L : Int) + (p.length : Int) + 1) (by omega) (by omega)
  go_wp2_with fail
  have hB0 := Lb.made w 43 (L + p.length + 1)
  have hb0 : Below w.heap.size w (w.alloc (.cells (madeCells #[.int .u32 0] (L + p.length + 1)) 43)) := (Below.refl _ _).alloc (Nat.le_refl _) _
  generalize w.alloc (.cells (madeCells #[.int .u32 0] (L + p.length + 1)) 43) = w0 at *
  have hn0 : Nt w0 0 w0.heap.size (.slice A p.length c) p := h1'.after hb0
  have z1 : IntKind.i64.wrap ((p.length : Int) + 1) = ((p.length + 1 : Nat) : Int) := by rw [IntWalk.i64_in _ (by omega)]; rfl
  have z2 : IntKind.u64.wrap ((j : Int).tmod 32) = (s : Int) := by rw [Int.tmod_eq_emod_of_nonneg (by omega), l2, IntWalk.u64_in _ (by omega)]
  have hlf := left_any' (.slice A p.length c) p s (p.length + 1) (IntKind.i64.wrap ((p.length : Int) + 1)) (IntKind.u64.wrap ((j : Int).tmod 32)) z1 z2 w0.drew hdp hn0.drew (by omega) hs31 (by omega) (by omega) (by omega)
  have HLF := Lib.hid hlf
  have hlg := hB0.lt
  clear hlf hx hmk h1' z1 z2
  unfold maxLen at hm
  have i1 : (0 : Int) ≤ (L : Int) := by omega
  have i2 : (L : Int) ≤ (L : Int) + (p.length : Int) + 1 := by omega
  go_region_held3 (fun W => Below w.heap.size w W)
    (first | assumption | exact hb0.drew | exact hb0.trans (Below.mono (by assumption) hb0.size))
    (first
      | (go_at_call 133; refine HLF.out.mono ?_; rintro e w2 ⟨cl, rfl, hcB, hcl, hdc, hcv, hb2⟩; have hbk : Below w0.heap.size w0 w2 := Below.trans (Below.drew (Below.refl _ _)) hb2; have hB2 := hB0.drew.below hb2 hlg; have HCL := Lib.hid hcl; have HCV := Lib.hid hcv; clear hcl hcv)
      | (refine step_copy_limbs (by rfl) (.tmp 83) (.tmp 91) 23 23 (by rfl) 43 Tryz.underlying23 Tryz.size32 w.heap.size L _ (p.length + 1) w0.heap.size (L + p.length + 1) (by rfl) (by rfl) 43 43 cl hB2 hcB HCL.out (by omega) (by omega) w.heap.size w (hb0.trans (hbk.mono hb0.size)) (Nat.le_refl _) ?_; intro w3 hB3 hb3)
      | fail)
  have hdz : Dig (List.replicate L 0 ++ cl) := by
    intro y hy
    rcases List.mem_append.1 hy with hy | hy
    · exact dig_zeros L y hy
    · exact hdc y hy
  have hl2 : (List.replicate L 0 ++ cl).length = L + p.length + 1 := by rw [List.length_append, List.length_replicate, HCL.out]; rfl
  have hr := hB3.reads (n := L + p.length + 1) (by omega) (by unfold maxLen; omega)
  rw [hl2, List.take_of_length_le (by omega)] at hr
  have hv : val (List.replicate L 0 ++ cl) = val p * 2 ^ j := by
    rw [val_append, val_zeros, Nat.zero_add, List.length_replicate, HCV.out, HLJ.out.1, HLJ.out.2, shift_left_eq]
  have V := Lib.hid hv
  clear hv hl2 hB3 hB2 hcB hbk hdc HCL HCV hB0 hn0 HLF hlg hb0 hb2
  go_wp2_with fail
  refine (trim_any _ _ _ _ _ hdz hr).mono ?_
  rintro e w4 ⟨v3, rfl, h3, rfl⟩
  rw [V.out] at h3
  go_wp2
  go_ret
  exact ⟨_, rfl, by rw [VS.out]; exact h3, hb3⟩
end Go.Proofs.YtobmjcbjailclaaGreatDoor

/- 'Shift' by its contract, at any whole number. Condition: a bound on lengths. -/
namespace Go.Proofs.YtobmjcbjailclaaGreatDoor
set_option maxRecDepth 100000
open Go.RowKit

theorem shift_any (v : Value) (x : List Nat) (n : Int) (w : World) (hd : Dig x) (h : Nt w 0 w.heap.size v x) (hl : x.length ≤ 90000) :
    Calls Tryz.prog 117 #[v, .int .i64 n] w (Gives (lim (shiftN (val x) n)) w) := by
  by_cases hn : held12 n < 0
  · have e : shiftN (val x) n = val x / 2 ^ (-(held12 n)).toNat := by unfold shiftN; rw [if_pos hn]
    rw [e]
    refine shiftRight_any v x n (-(held12 n)).toNat w hd h (by omega) (by omega) (by omega) ?_
    unfold held12 at hn ⊢
    omega
  · have e : shiftN (val x) n = val x * 2 ^ (held12 n).toNat := by unfold shiftN; rw [if_neg hn]
    rw [e]
    by_cases h1 : (4096 : Int) < n
    · have e2 : (held12 n).toNat = 4096 := by unfold held12; omega
      rw [e2]
      exact shiftLeft_out v x n 4096 w hd h hl h1 rfl
    · have e2 : (held12 n).toNat = n.toNat := by unfold held12; omega
      rw [e2]
      unfold held12 at hn
      exact shiftLeft_in v x n n.toNat w hd h hl (by omega) (by omega)

/-- A row of limbs, laid anew. -/
theorem nt_laid (w : World) (e : TypeId) (x : List Nat) (hx : x.length ≤ 1000) : Nt (w.alloc (.cells (lv x).toArray e)) 0 (w.alloc (.cells (lv x).toArray e)).heap.size (.slice (some ⟨w.heap.size, 0, none⟩) x.length x.length) x ∧ Below w.heap.size w (w.alloc (.cells (lv x).toArray e)) := by
  have hs : (w.alloc (.cells (lv x).toArray e)).heap.size = w.heap.size + 1 := by simp
  refine ⟨?_, (Below.refl _ _).alloc (Nat.le_refl _) _⟩
  rw [hs]
  exact (nt_new w e x hx).low (Nat.zero_le _)
end Go.Proofs.YtobmjcbjailclaaGreatDoor

/- 'Of' and the reference's: a number of 64 bits as limbs. No condition. -/
namespace Go.Proofs.YtobmjcbjailclaaGreatDoor
set_option maxRecDepth 100000
open Go.RowKit

theorem val_two (n : Nat) : val [n % 4294967296, n / 4294967296] = n := by
  simp only [val]
  omega

theorem lv_two (n : Nat) : (lv [n % 4294967296, n / 4294967296]).toArray = #[.int .u32 ((n : Int) % 4294967296), .int .u32 ((n : Int) / 4294967296)] := by
  simp [lv]

theorem two_laid (n : Nat) (w : World) (e : TypeId) (W : World) (hW : W = w.alloc (.cells #[.int .u32 ((n : Int) % 4294967296), .int .u32 ((n : Int) / 4294967296)] e)) :
    Nt W w.heap.size W.heap.size (.slice (some ⟨w.heap.size, 0, none⟩) 2 2) [n % 4294967296, n / 4294967296] ∧ Below w.heap.size w W := by
  subst hW
  rw [← lv_two]
  have hs : (w.alloc (.cells (lv [n % 4294967296, n / 4294967296]).toArray e)).heap.size = w.heap.size + 1 := by simp
  refine ⟨?_, (Below.refl _ _).alloc (Nat.le_refl _) _⟩
  rw [hs]
  exact nt_new w e [n % 4294967296, n / 4294967296] (by simp)

theorem dig_two {n : Nat} (hn : n < 18446744073709551616) : Dig [n % 4294967296, n / 4294967296] := Dig.cons (Nat.mod_lt _ (by omega)) (dig_one (by omega))

set_option maxHeartbeats 800000 in
theorem of_any (n : Nat) (w : World) (hn : n < 18446744073709551616) :
    Calls Tryz.prog 54 #[.int .u64 (n : Int)] w (Gives (lim n) w) := by
  have hd := dig_two hn
  have V := Lib.hid (val_two n)
  go_enter Tryz.func54, Tryz.ntmps54
  go_wp2_with fail
  obtain ⟨W, hW⟩ : ∃ W, w.alloc (.cells #[.int .u32 ((n : Int) % 4294967296), .int .u32 ((n : Int) / 4294967296)] 43) = W := ⟨_, rfl⟩
  obtain ⟨hl, hb⟩ := two_laid n w _ W hW.symm
  rw [hW]
  clear hW
  refine (trim_any _ _ _ _ _ hd hl).mono ?_
  rintro e w2 ⟨v2, rfl, h2, rfl⟩
  rw [V.out] at h2
  go_wp2
  go_ret
  exact ⟨_, rfl, h2, hb⟩

set_option maxHeartbeats 800000 in
theorem refOf_any (n : Nat) (w : World) (hn : n < 18446744073709551616) :
    Calls Tryz.prog 83 #[.int .u64 (n : Int)] w (Gives (lim n) w) := by
  have hd := dig_two hn
  have V := Lib.hid (val_two n)
  go_enter Tryz.func83, Tryz.ntmps83
  go_wp2_with fail
  obtain ⟨W, hW⟩ : ∃ W, w.alloc (.cells #[.int .u32 ((n : Int) % 4294967296), .int .u32 ((n : Int) / 4294967296)] 43) = W := ⟨_, rfl⟩
  obtain ⟨hl, hb⟩ := two_laid n w _ W hW.symm
  rw [hW]
  clear hW
  refine (refTrim_any _ _ _ hd (hl.low (Nat.zero_le _)) (by simp)).mono ?_
  rintro e w2 ⟨v2, rfl, h2, hb2⟩
  rw [V.out] at h2
  go_wp2
  go_ret
  exact ⟨_, rfl, h2.low hb.size, hb.trans (hb2.mono hb.size)⟩
end Go.Proofs.YtobmjcbjailclaaGreatDoor

/- The reference's 'DivMod' by its contract, but for the division bit by bit. Condition: a bound on lengths. -/
namespace Go.Proofs.YtobmjcbjailclaaGreatDoor
set_option maxRecDepth 100000
open Go.RowKit

theorem refOf_any' (n : Nat) (z : Int) (hz : z = (n : Int)) (w : World) (hn : n < 18446744073709551616) :
    Calls Tryz.prog 83 #[.int .u64 z] w (Gives (lim n) w) := by
  subst hz
  exact refOf_any n w hn

/-- What is left: 0, if it is by 0. -/
def remN (a b : Nat) : Nat := if b = 0 then 0 else a % b

/-- What a division hands back. -/
def GivesD (x y : List Nat) (b : Bool) (w : World) (e : Ending) (w' : World) : Prop :=
  ∃ v1 v2, e = .returned (.tuple #[v1, v2, .bool b]) ∧ Nt w' w.heap.size w'.heap.size v1 x ∧ Nt w' w.heap.size w'.heap.size v2 y ∧ Below w.heap.size w w'

set_option maxHeartbeats 3200000 in
theorem refDivZero_any (u v : Value) (a b : List Nat) (w : World) (db : Dig b) (hb_ : Nt w 0 w.heap.size v b) (lb : b.length ≤ 90000) (h0 : val b = 0) :
    Calls Tryz.prog 65 #[u, v] w (GivesD (lim (val a / val b)) (lim (remN (val a) (val b))) (decide (val b ≠ 0)) w) := by
  have e1 : lim (val a / val b) = [] := by rw [h0, Nat.div_zero]; exact lim_zero
  have e2 : lim (remN (val a) (val b)) = [] := by unfold remN; rw [if_pos h0]; exact lim_zero
  have e3 : decide (val b ≠ 0) = false := by rw [h0]; rfl
  have e4 : lim (val b) = [] := by rw [h0]; exact lim_zero
  rw [e1, e2, e3]
  have E4 := Lib.hid e4
  clear e1 e2 e3 e4 h0
  go_enter Tryz.func65, Tryz.ntmps65
  go_wp2_with fail
  refine (refTrim_any _ b _ db hb_ (by omega)).mono ?_
  rintro e w1 ⟨v1, rfl, h1, hb⟩
  rw [E4.out] at h1
  obtain ⟨A, c, rfl, hc, hm, _, hx⟩ := h1
  go_wp2
  go_ret3
  exact ⟨_, _, rfl, Nt.nil _ _ _, Nt.nil _ _ _, hb⟩

set_option maxHeartbeats 3200000 in
theorem refDivTwo_any (u v : Value) (a b : List Nat) (w : World) (da : Dig a) (db : Dig b) (ha : Nt w 0 w.heap.size u a) (hb_ : Nt w 0 w.heap.size v b) (la : a.length ≤ 90000) (lb : b.length ≤ 90000) (h0 : val b ≠ 0)
    (h1 : val a < 18446744073709551616) (h2 : val b < 18446744073709551616) :
    Calls Tryz.prog 65 #[u, v] w (GivesD (lim (val a / val b)) (lim (remN (val a) (val b))) (decide (val b ≠ 0)) w) := by
  have e2 : remN (val a) (val b) = val a % val b := by unfold remN; rw [if_neg h0]
  have e3 : decide (val b ≠ 0) = true := decide_eq_true h0
  have e4 : (lim (val b)).length ≠ 0 := fun h => h0 (lim_eq_nil.1 (List.eq_nil_of_length_eq_zero h))
  have t1 : toN (val a) = val a := if_pos h1
  have t2 : toN (val b) = val b := if_pos h2
  have d1 : decide (val a < 18446744073709551616) = true := decide_eq_true h1
  have d2 : decide (val b < 18446744073709551616) = true := decide_eq_true h2
  rw [e2, e3]
  have E4 := Lib.hid e4
  have T1 := Lib.hid t1
  have T2 := Lib.hid t2
  have D1 := Lib.hid d1
  have D2 := Lib.hid d2
  have b0 : ¬ val b = 0 := h0
  have hq : val a / val b < 18446744073709551616 := Nat.lt_of_le_of_lt (Nat.div_le_self _ _) h1
  have hr : val a % val b < 18446744073709551616 := Nat.lt_of_le_of_lt (Nat.mod_le _ _) h1
  obtain ⟨q, hq0⟩ : ∃ q, val a / val b = q := ⟨_, rfl⟩
  obtain ⟨r, hr0⟩ : ∃ r, val a % val b = r := ⟨_, rfl⟩
  have hdv : ((val a : Nat) : Int) / ((val b : Nat) : Int) = (q : Int) := by rw [← hq0]; exact (Int.natCast_ediv _ _).symm
  have hmd : ((val a : Nat) : Int) % ((val b : Nat) : Int) = (r : Int) := by rw [← hr0]; exact (Int.natCast_emod _ _).symm
  rw [hq0] at hq ⊢
  rw [hr0] at hr ⊢
  clear e2 e3 e4 t1 t2 d1 d2 hq0 hr0 h0
  go_enter Tryz.func65, Tryz.ntmps65
  have hB : Below w.heap.size w w := Below.refl _ _
  go_wp2_with fail
  refine (refTrim_any _ b _ db hb_ (by omega)).mono ?_
  rintro e w1 ⟨v1, rfl, h3, hb⟩
  obtain ⟨A, c, rfl, hc, hm, _, hx⟩ := h3
  have hne : ¬ (lim (val b)).length = 0 := E4.out
  replace ha := ha.after hb
  replace hb_ := hb_.after hb
  replace hB := hB.trans (hb.mono hB.size)
  clear hb hx
  go_wp2_with fail
  refine (refTo_any _ a _ da ha (by omega)).mono ?_
  rintro e w2 ⟨rfl, hb⟩
  rw [T1.out, D1.out]
  replace ha := ha.after hb
  replace hb_ := hb_.after hb
  replace hB := hB.trans (hb.mono hB.size)
  clear hb
  go_wp2_with fail
  refine (refTo_any _ b _ db hb_ (by omega)).mono ?_
  rintro e w3 ⟨rfl, hb⟩
  rw [T2.out, D2.out]
  replace hB := hB.trans (hb.mono hB.size)
  clear hb ha hb_
  generalize val b = B at *
  generalize val a = A2 at *
  go_wp2_with fail
  have z1 : IntKind.u64.wrap (q : Int) = (q : Int) := IntWalk.u64_in _ (by omega)
  have z2 : Hid ((A2 : Int).tmod (B : Int) = (r : Int)) := by show _ = _; rw [Int.tmod_eq_emod_of_nonneg (by omega)]; exact hmd
  go_region_held3 (fun W => Below w3.heap.size w3 W)
    (first | assumption | exact Below.drew (Below.refl _ _))
    (first
      | (have hbk1 := hbk; go_at_call 83; refine (refOf_any' r ((A2 : Int).tmod (B : Int)) z2.out _ hr).mono ?_; rintro e w5 ⟨v5, rfl, h5, hb5⟩; have hbk5 : Below w3.heap.size w3 w5 := hbk1.trans (hb5.mono hbk1.size))
      | (go_at_call 83; refine (refOf_any q _ hq).mono ?_; rintro e w4 ⟨v4, rfl, h4, hb4⟩; have hbk : Below w3.heap.size w3 w4 := Below.trans (Below.drew (Below.refl _ _)) hb4)
      | fail)
  clear hdv hmd z1 z2
  replace h4 := (h4.low (show w.heap.size ≤ w3.drew.heap.size from hB.size)).after hb5
  replace h5 := h5.low (Nat.le_trans hB.size hbk.size)
  go_wp2
  go_ret3
  exact ⟨_, _, rfl, h4, h5, hB.trans (hbk5.mono hB.size)⟩

set_option maxHeartbeats 3200000 in
theorem refDivOne_any (u v : Value) (a b : List Nat) (w : World) (da : Dig a) (db : Dig b) (ha : Nt w 0 w.heap.size u a) (hb_ : Nt w 0 w.heap.size v b) (la : a.length ≤ 90000) (lb : b.length ≤ 90000) (h0 : val b ≠ 0)
    (h1 : ¬ val a < 18446744073709551616) (h2 : val b < 4294967296) :
    Calls Tryz.prog 65 #[u, v] w (GivesD (lim (val a / val b)) (lim (remN (val a) (val b))) (decide (val b ≠ 0)) w) := by
  have e2 : remN (val a) (val b) = val a % val b := by unfold remN; rw [if_neg h0]
  have e3 : decide (val b ≠ 0) = true := decide_eq_true h0
  have e4 : (lim (val b)).length ≠ 0 := fun h => h0 (lim_eq_nil.1 (List.eq_nil_of_length_eq_zero h))
  have t1 : toN (val a) = 0 := if_neg h1
  have t2 : toN (val b) = val b := if_pos (by omega)
  have d1 : decide (val a < 18446744073709551616) = false := decide_eq_false h1
  have d2 : decide (val b < 18446744073709551616) = true := decide_eq_true (by omega)
  rw [e2, e3]
  have E4 := Lib.hid e4
  have T1 := Lib.hid t1
  have T2 := Lib.hid t2
  have D1 := Lib.hid d1
  have D2 := Lib.hid d2
  have b0 : 0 < val b := by omega
  have hr : val a % val b < 18446744073709551616 := by have := Nat.mod_lt (val a) b0; omega
  have hsm : ∀ (w' : World), Nt w' 0 w'.heap.size u a → Calls Tryz.prog 102 #[u, .int .u64 ((val b : Nat) : Int)] w' (GivesR (lim (val a / val b)) (val a % val b) w') := fun w' h' => refSmall_any u a (val b) w' da h' la b0 (by omega)
  have HSM := Lib.hid hsm
  obtain ⟨r, hr0⟩ : ∃ r, val a % val b = r := ⟨_, rfl⟩
  rw [hr0] at hr ⊢
  have HR0 := Lib.hid hr0
  clear e2 e3 e4 t1 t2 d1 d2 h0 h1 hsm hr0
  go_enter Tryz.func65, Tryz.ntmps65
  have hB : Below w.heap.size w w := Below.refl _ _
  go_wp2_with fail
  refine (refTrim_any _ b _ db hb_ (by omega)).mono ?_
  rintro e w1 ⟨v1, rfl, h3, hb⟩
  obtain ⟨A, c, rfl, hc, hm, _, hx⟩ := h3
  have hne : ¬ (lim (val b)).length = 0 := E4.out
  replace ha := ha.after hb
  replace hb_ := hb_.after hb
  replace hB := hB.trans (hb.mono hB.size)
  clear hb hx
  go_wp2_with fail
  refine (refTo_any _ a _ da ha (by omega)).mono ?_
  rintro e w2 ⟨rfl, hb⟩
  rw [T1.out, D1.out]
  replace ha := ha.after hb
  replace hb_ := hb_.after hb
  replace hB := hB.trans (hb.mono hB.size)
  clear hb
  go_wp2_with fail
  refine (refTo_any _ b _ db hb_ (by omega)).mono ?_
  rintro e w3 ⟨rfl, hb⟩
  rw [T2.out, D2.out]
  replace ha := ha.after hb
  replace hB := hB.trans (hb.mono hB.size)
  clear hb hb_ T1 T2 D1 D2 E4
  generalize val b = B at *
  have hsm2 := HSM.out w3 ha
  rw [HR0.out] at hsm2
  have HS2 := Lib.hid hsm2
  clear hsm2 HSM HR0
  generalize val a / B = q at *
  have h2i : (B : Int) < 4294967296 := by omega
  go_wp2_with fail
  refine HS2.out.mono ?_
  rintro e w4 ⟨v4, rfl, h4, hb⟩
  replace h4 := h4.low hB.size
  replace hB := hB.trans (hb.mono hB.size)
  clear hb ha
  go_wp2_with fail
  refine (refOf_any r _ hr).mono ?_
  rintro e w5 ⟨v5, rfl, h5, hb⟩
  replace h5 := h5.low hB.size
  replace h4 := h4.after hb
  replace hB := hB.trans (hb.mono hB.size)
  clear hb
  go_wp2
  go_ret3
  exact ⟨_, _, rfl, h4, h5, hB⟩
end Go.Proofs.YtobmjcbjailclaaGreatDoor

/- The reference's 'Shift' by its contract: to the right, and both together. Condition: a bound on lengths. -/
namespace Go.Proofs.YtobmjcbjailclaaGreatDoor
set_option maxRecDepth 100000
open Go.RowKit

theorem at_any' (v : Value) (x : List Nat) (i : Nat) (z : Int) (hz : z = (i : Int)) (w : World) (L B : Nat) (hd : Dig x) (h : Nt w L B v x) (hl : x.length ≤ 1000000) :
    Calls Tryz.prog 84 #[v, .int .i64 z] w fun e w' => e = .returned (.int .u64 ((x.getD i 0 : Nat) : Int)) ∧ w = w' := by
  subst hz
  exact at_any v x i w L B hd h hl

/-- A slice's part from its L-th limb on. -/
theorem Nt.drop {w : World} {lo B b off c L : Nat} {p : List Nat} (h : Nt w lo B (.slice (some ⟨b, off, none⟩) p.length c) p) (hL : L < p.length) : Nt w lo B (.slice (some ⟨b, off + L, none⟩) (p.length - L) (c - L)) (p.drop L) := by
  obtain ⟨A', c', he, hc, hm, _, hx⟩ := h
  have hl : (p.drop L).length = p.length - L := List.length_drop
  obtain ⟨b', off', rfl, h1, h2, hcell⟩ := hx (by omega)
  simp only [Value.slice.injEq, Option.some.injEq, Addr.mk.injEq, and_true, true_and] at he
  obtain ⟨⟨rfl, rfl⟩, rfl⟩ := he
  refine ⟨some ⟨b, off + L, none⟩, c - L, by rw [hl], by rw [hl]; omega, by omega, fun h => (by cases h), fun _ => ⟨b, off + L, rfl, h1, h2, fun k hk => ?_⟩⟩
  rw [hl] at hk
  rw [Nat.add_assoc, hcell (L + k) (by omega), List.getElem_drop]

set_option maxHeartbeats 3200000 in
theorem refShiftRight_any (v : Value) (x : List Nat) (n : Int) (j : Nat) (w : World) (hd : Dig x) (h : Nt w 0 w.heap.size v x) (hl : x.length ≤ 90000) (hj : held12 n = -(j : Int)) (hj0 : 1 ≤ j) (hj1 : j ≤ 4096) :
    Calls Tryz.prog 94 #[v, .int .i64 n] w (Gives (lim (val x / 2 ^ j)) w) := by
  have f1 : (if n < -4096 then (-4096 : Int) else n) = -(j : Int) := by
    unfold held12 at hj
    by_cases h1 : n < -4096
    · rw [if_pos h1]; omega
    · rw [if_neg h1]; omega
  have hxl := limBd' hd _ hl
  have vx := val_lim (val x)
  have hdp := dig_lim (val x)
  have VS : Hid (lim (val x / 2 ^ j) = lim (val (lim (val x)) / 2 ^ j)) := by rw [vx]; exact rfl
  clear vx
  obtain ⟨L, hL⟩ : ∃ L, j / 32 = L := ⟨_, rfl⟩
  obtain ⟨s, hs⟩ : ∃ s, j % 32 = s := ⟨_, rfl⟩
  have l1 : (j : Int) / 32 = (L : Int) := by omega
  have l2 : (j : Int) % 32 = (s : Int) := by omega
  have hs31 : s ≤ 31 := by omega
  have l3 : (-(j : Int)) < 0 := by omega
  have HLJ : Hid (L = j / 32 ∧ s = j % 32) := ⟨hL.symm, hs.symm⟩
  have l4 : L ≤ 128 := by omega
  clear hL hs
  obtain ⟨i0, hi, hz0, hz1, hz2⟩ := info_parts Tryz.info32
  go_enter Tryz.func94, Tryz.ntmps94
  go_wp2_with fail
  refine (refTrim_any _ x _ hd h (by omega)).mono ?_
  rintro e w1 ⟨v1, rfl, h1', hb0⟩
  have h1 := h1'.low (Nat.zero_le _)
  generalize lim (val x) = p at *
  clear h hd hl h1'
  have h1' := h1
  obtain ⟨A, c, rfl, hc, hm, _, hx⟩ := h1
  by_cases hLp : p.length ≤ L
  · have e0 : lim (val p / 2 ^ j) = [] := by
      have q1 := val_lt hdp
      have q2 : 4294967296 ^ p.length ≤ 2 ^ j := by
        rw [base_pow]
        exact Nat.pow_le_pow_right (by omega) (by have := HLJ.out; omega)
      rw [Nat.div_eq_of_lt (by omega)]
      exact lim_zero
    have E := Lib.hid e0
    have hge : ¬ (L : Int) < (p.length : Int) := by omega
    clear e0 hx
    go_wp2
    go_ret
    exact ⟨_, rfl, by rw [VS.out, E.out]; exact Nt.nil _ _ _, hb0⟩
  · obtain ⟨b, off, rfl, _, hbl, hcell⟩ := hx (by omega)
    have hlt : (L : Int) < (p.length : Int) := by omega
    have hcL : ¬ c = L := by omega
    have hn := h1'.drop (L := L) (by omega)
    unfold maxLen at hm
    have hql : (p.drop L).length = p.length - L := List.length_drop
    have hdq := hdp.drop L
    have hfin : val (p.drop L) / 2 ^ s = val p / 2 ^ j := by
      have := shift_right_eq hdp j
      rw [← HLJ.out.1, ← HLJ.out.2] at this
      exact this
    have HFIN := Lib.hid hfin
    have HQL := Lib.hid hql
    clear hfin hql hcell hx h1'
    go_wp2_with fail
    generalize p.drop L = q at *
    have HL1 : Hid (q.length = p.length - L) := HQL
    have hl1 : q.length ≤ 90000 := by have := HL1.out; omega
    have hl2 : p.length - L = q.length := HL1.out.symm
    rw [hl2] at hn ⊢
    generalize decide (0 < j) = bj at *
    clear HQL HL1 hl2 l1 l2 l3 f1 hlt hcL hc hm hLp hdp hj0 hj
    go_loopw [8, 9] (fun o i wr => ∃ (k : Nat) (cs : List Nat), k ≤ q.length ∧ i = .int .i64 (k : Nat) ∧ Dig cs ∧ RightIn q cs s k ∧ Own wr w1.heap.size 43 o cs ∧ Below w1.heap.size w1 wr)
      (fun _ i _ => q.length - (intOf i).toNat)
    case atStart => exact ⟨0, [], Nat.zero_le _, rfl, Dig.nil, rightIn_zero _ _, Own.nil _ _ _, Below.refl _ _⟩
    case round =>
      obtain ⟨k, cs, hk, rfl, hdc, hs0, hown, hb⟩ := hrel
      by_cases hlt : k < q.length
      · have b1 := dig_getD hdq k
        have b2 := dig_getD hdq (k + 1)
        have HS := rightIn_step hdq hs31 hs0
        have hcl : cs.length ≤ 1000000 := by have := hs0.1; omega
        have hat1 := at_any _ q k wr 0 w1.heap.size hdq (hn.below hb (Nat.le_refl _)) (by omega)
        have hat2 := at_any' _ q (k + 1) ((k : Int) + 1) (by omega) wr 0 w1.heap.size hdq (hn.below hb (Nat.le_refl _)) (by omega)
        clear hs0
        generalize q.getD k 0 = v1 at *
        generalize q.getD (k + 1) 0 = v2 at *
        obtain ⟨m, hm0⟩ : ∃ m, v2 * 4294967296 = m := ⟨_, rfl⟩
        rw [hm0] at HS
        have hW2 : (v2 : Int) * 4294967296 = (m : Int) := by omega
        have hm1 : m < 18446744073709551616 := by omega
        have hor : bits BinOp.or IntKind.u64 (v1 : Int) (m : Int) = ((v1 ||| m : Nat) : Int) := u64_or_nat _ _ (by omega) (by omega)
        generalize (v1 ||| m) = r at *
        obtain ⟨d, hd0⟩ : ∃ d, r / 2 ^ s = d := ⟨_, rfl⟩
        have hdv : (r : Int) / 2 ^ s = (d : Int) := by
          rw [← hd0, Int.natCast_ediv, Int.natCast_pow]; rfl
        rw [hd0] at HS
        clear hd0 hm0
        have hdc2 := hdc.append (Dig.cons (Nat.mod_lt d (by omega : 4294967296 > 0)) Dig.nil)
        have T1 := Lib.hid hat1
        have T2 := Lib.hid hat2
        clear hat1 hat2 hdc
        go_wp2_with fail
        refine T1.out.mono ?_
        rintro e w2 ⟨rfl, rfl⟩
        go_wp2_with fail
        refine T2.out.mono ?_
        rintro e w2 ⟨rfl, rfl⟩
        go_wp2_with (at_builtin; refine wpList_append_limb rfl _ _ 23 rfl w1.heap.size 43 i0 Tryz.underlying23 hi hz0 hz1 hz2 _ cs rfl hown _ (d % 4294967296) (congrArg (Value.int .u32) (by omega)) rfl hcl hb.size ?_)
        intro v' w3 hown1 hg1
        have hb1 := hb.trans hg1
        clear hown hg1 hb hcl T1 T2
        go_wp2
        go_roundw
        case rel => exact ⟨k + 1, _, by omega, by go_num, hdc2, HS, hown1, hb1⟩
        case measure => simp [intOf]; omega
      · obtain rfl : k = q.length := by omega
        have hv := rightIn_end hs0
        rw [HFIN.out] at hv
        have hcl : cs.length ≤ 1000000 := by have := hs0.1; omega
        have V := Lib.hid hv
        have hr := hown.nt
        clear hs0 hv hown hi hz0 hz1 hz2
        go_wp2_with fail
        refine (refTrim_any _ cs _ hdc (hr.low (Nat.zero_le _)) hcl).mono ?_
        rintro e w2 ⟨v3, rfl, h3, hb3⟩
        rw [V.out] at h3
        go_wp2
        go_ret
        exact ⟨_, rfl, by rw [VS.out]; exact h3.low (Nat.le_trans hb0.size hb.size), hb0.trans ((hb.trans (hb3.mono hb.size)).mono hb0.size)⟩

theorem refShift_any (v : Value) (x : List Nat) (n : Int) (w : World) (hd : Dig x) (h : Nt w 0 w.heap.size v x) (hl : x.length ≤ 90000) :
    Calls Tryz.prog 94 #[v, .int .i64 n] w (Gives (lim (shiftN (val x) n)) w) := by
  by_cases hn : held12 n < 0
  · have e : shiftN (val x) n = val x / 2 ^ (-(held12 n)).toNat := by unfold shiftN; rw [if_pos hn]
    rw [e]
    refine refShiftRight_any v x n (-(held12 n)).toNat w hd h (by omega) (by omega) (by omega) ?_
    unfold held12 at hn ⊢
    omega
  · have e : shiftN (val x) n = val x * 2 ^ (held12 n).toNat := by unfold shiftN; rw [if_neg hn]
    rw [e]
    by_cases h1 : (4096 : Int) < n
    · have e2 : (held12 n).toNat = 4096 := by unfold held12; omega
      rw [e2]
      exact refShiftLeft_out v x n 4096 w hd h hl h1 rfl
    · have e2 : (held12 n).toNat = n.toNat := by unfold held12; omega
      rw [e2]
      unfold held12 at hn
      exact refShiftLeft_in v x n n.toNat w hd h hl (by omega) (by omega)
end Go.Proofs.YtobmjcbjailclaaGreatDoor

/- 'Add' of the program and of the reference by their contracts. Condition: a bound on lengths. -/
namespace Go.Proofs.YtobmjcbjailclaaGreatDoor
set_option maxRecDepth 100000
open Go.RowKit

theorem sumAt_len {a b c : List Nat} {q k : Nat} (h : SumAt a b c q k) : c.length = k := h.1

set_option maxHeartbeats 1600000 in
theorem refAdd_any (u v : Value) (x y : List Nat) (w : World) (hdx : Dig x) (hdy : Dig y) (h : Nt w 0 w.heap.size u x) (h' : Nt w 0 w.heap.size v y) (hlx : x.length ≤ 100000) (hly : y.length ≤ 100000) :
    Calls Tryz.prog 35 #[u, v] w (Gives (lim (val x + val y)) w) := by
  obtain ⟨i0, hi, hz0, hz1, hz2⟩ := info_parts Tryz.info32
  have hn := h
  have hn' := h'
  obtain ⟨A, c, rfl, hc, hm, _, _⟩ := h
  obtain ⟨A', c', rfl, hc', hm', _, _⟩ := h'
  obtain ⟨M, hif, hM1, hM2, hM3⟩ : ∃ M : Nat, (if x.length < y.length then (y.length : Int) else (x.length : Int)) = (M : Int) ∧ x.length ≤ M ∧ y.length ≤ M ∧ M ≤ 100000 := by
    by_cases hxy : x.length < y.length
    · exact ⟨y.length, if_pos hxy, by omega, Nat.le_refl _, hly⟩
    · exact ⟨x.length, if_neg hxy, Nat.le_refl _, by omega, hlx⟩
  go_enter Tryz.func35, Tryz.ntmps35
  go_wp2_with fail
  go_loopw [5, 6, 7] (fun o s i wr => ∃ (k q : Nat) (cs : List Nat), k ≤ M + 1 ∧ i = .int .i64 (k : Nat) ∧ s = .int .u64 (q : Nat) ∧ q ≤ 1 ∧ Dig cs ∧ SumAt x y cs q k ∧ Own wr w.heap.size 43 o cs ∧ Below w.heap.size w wr)
    (fun _ _ i _ => M + 1 - (intOf i).toNat)
  case atStart => exact ⟨0, 0, [], Nat.zero_le _, rfl, rfl, by omega, Dig.nil, ⟨rfl, by simp [val]⟩, Own.nil _ _ _, Below.refl _ _⟩
  case round =>
    obtain ⟨k, q, cs, hk, rfl, rfl, hq, hdc, hs, hown, hb⟩ := hrel
    by_cases hlt : k < M + 1
    · have b1 := dig_getD hdx k
      have b2 := dig_getD hdy k
      have hcl := sumAt_len hs
      have HS := Lib.hid (sumAt_step hs rfl)
      have HC := Lib.hid hcl
      clear hcl hs
      generalize hp1 : x.getD k 0 = p1 at *
      generalize hp2 : y.getD k 0 = p2 at *
      have P1 := Lib.hid hp1
      have P2 := Lib.hid hp2
      clear hp1 hp2
      go_wp2_with fail
      refine (at_any _ x k _ 0 w.heap.size hdx (hn.below hb (Nat.le_refl _)) (by omega)).mono ?_
      rintro e w1 ⟨rfl, rfl⟩
      rw [P1.out]
      go_wp2_with fail
      refine (at_any _ y k _ 0 w.heap.size hdy (hn'.below hb (Nat.le_refl _)) (by omega)).mono ?_
      rintro e w1 ⟨rfl, rfl⟩
      rw [P2.out]
      have hkl : cs.length ≤ 1000000 := by rw [HC.out]; omega
      go_wp2_with (at_builtin; refine wpList_append_limb rfl _ _ 23 rfl w.heap.size 43 i0 Tryz.underlying23 hi hz0 hz1 hz2 _ cs rfl hown _ ((q + p1 + p2) % 4294967296) (congrArg (Value.int .u32) (by omega)) rfl hkl hb.size ?_)
      intro v' w1 hown1 hg1
      have hb1 := hb.trans hg1
      have hdc1 := hdc.append (Dig.cons (Nat.mod_lt (q + p1 + p2) (by omega)) Dig.nil)
      have hq1 : (q + p1 + p2) / 4294967296 ≤ 1 := by omega
      clear hown hg1 hb hkl
      go_wp2
      go_roundw
      case rel => exact ⟨k + 1, (q + p1 + p2) / 4294967296, cs ++ [(q + p1 + p2) % 4294967296], by omega, by go_num, by go_num, hq1, hdc1, HS.out, hown1, hb1⟩
      case measure => simp [intOf]; omega
    · obtain rfl : k = M + 1 := by omega
      have hv := sumAt_end hdx hdy hs hM1 hM2
      have hr := hown.nt
      have hcl := sumAt_len hs
      have hkl : cs.length ≤ 1000000 := by omega
      have V := Lib.hid hv
      clear hv hs hcl hown
      go_wp2_with fail
      refine (refTrim_any _ cs _ hdc (hr.low (Nat.zero_le _)) hkl).mono ?_
      rintro e w1 ⟨v1, rfl, h1, hb1⟩
      rw [V.out] at h1
      go_wp2
      go_ret
      exact ⟨_, rfl, h1.low hb.size, hb.trans (hb1.mono hb.size)⟩
end Go.Proofs.YtobmjcbjailclaaGreatDoor
