/- The reference's 'Mul' by its contract. Condition: a bound on lengths. -/
import Derived.Test.YtobmjcbjailclaaGreatDoorMuls
namespace Go.Proofs.YtobmjcbjailclaaGreatDoor
set_option maxRecDepth 100000
open Go.RowKit

set_option maxHeartbeats 3200000 in
theorem refMul_any (u v : Value) (p q : List Nat) (w : World) (hdp : Dig p) (hdq : Dig q) (h : Nt w 0 w.heap.size u p) (h' : Nt w 0 w.heap.size v q) (hlp : p.length ≤ 100000) (hlq : q.length ≤ 100000) :
    Calls Tryz.prog 36 #[u, v] w (Gives (lim (val p * val q)) w) := by
  have hn' := h'
  obtain ⟨Ap, cp, rfl, hcp, hmp, _, hxp⟩ := h
  obtain ⟨Aq, cq, rfl, hcq, hmq, _, _⟩ := h'
  have hmk := make_limbs (p.length + q.length) ((p.length : Int) + (q.length : Int)) (by omega) (by omega)
  go_enter Tryz.func36, Tryz.ntmps36
  go_wp2_with fail
  go_loopw [6, 7, 8] (fun i _ _ wr => ∃ (k : Nat) (cs : List Nat), k ≤ p.length ∧ i = .int .i64 (k : Nat) ∧ Dig cs ∧ Hid (cs.length = p.length + q.length) ∧ Hid (val cs = val (p.take k) * val q) ∧ Lb wr w.heap.size 43 cs ∧ Below w.heap.size w wr)
    (fun i _ _ _ => p.length - (intOf i).toNat)
  case atStart => exact ⟨0, _, Nat.zero_le _, rfl, dig_zeros _, List.length_replicate, by show _ = _; rw [val_zeros]; simp [val], Lb.made w _ _, (Below.refl _ _).alloc (Nat.le_refl _) _⟩
  case round =>
    obtain ⟨i, cs0, hi, rfl, hdc, HL, HV, hB, hb⟩ := hrel
    obtain ⟨wo, rfl⟩ : ∃ wo : World, wo = wr := ⟨_, rfl⟩
    by_cases hlt : i < p.length
    · have b1 := hdp.at hlt
      obtain ⟨ba, oa, rfl, _, hba, hcella⟩ := hxp (by omega)
      clear hmk
      go_wp2_with fail
      go_loopw [7, 8] (fun s j wi => ∃ (k t : Nat) (cs : List Nat), i + k ≤ p.length + q.length ∧ j = .int .i64 (k : Nat) ∧ s = .int .u64 (t : Nat) ∧ t < 4294967296 ∧ Dig cs ∧ Hid (cs.length = p.length + q.length) ∧ MulIn p q cs i t k ∧ Lb wi w.heap.size 43 cs ∧ Below w.heap.size w wi)
        (fun _ j _ => p.length + q.length - i - (intOf j).toNat)
      case atStart => exact ⟨0, 0, cs0, by omega, rfl, rfl, by omega, hdc, HL, mulIn_zero HV.out, hB, hb⟩
      case round =>
        clear hB hb hdc HL HV
        obtain ⟨k, t, cs, hk, rfl, rfl, ht, hdc, HL, hs, hB, hb⟩ := hrel
        have hcl : p.length + q.length ≤ cs.length ∧ cs.length ≤ p.length + q.length := by have := HL.out; omega
        by_cases hstop : q.length ≤ k ∧ t = 0
        · -- nothing is left to carry: the row is through
          obtain ⟨hqk, ht0⟩ := hstop
          have HV2 := Lib.hid (mulIn_done (by rw [ht0] at hs; exact hs) hqk)
          have hge : ¬ (k : Int) < (q.length : Int) := by omega
          have hgt : ¬ (0 : Int) < (t : Int) := by omega
          clear hs hxp hcella hcl ht0 hqk
          go_wp2
          go_roundw
          case rel => exact ⟨i + 1, cs, by omega, by go_num, hdc, HL, HV2, hB, hb⟩
          case measure => simp [intOf]; omega
        · have hik : i + k < cs.length := by
            refine Nat.lt_of_not_le fun hc => hstop ?_
            have hqk : q.length ≤ k := by omega
            exact ⟨hqk, mulIn_full hdp hdq hs hqk hlt (by omega)⟩
          have hik2 : i + k < p.length + q.length := by omega
          have hca := (hb.cell (p := ⟨ba, oa + i, none⟩) hba).trans (hcella i hlt)
          have b2 := dig_getD hdq k
          have b3 := hdc.at hik
          have HS := mulIn_step hs hik (s := t + p.getD i 0 * q.getD k 0 + cs.getD (i + k) 0) rfl
          rw [getD_at hlt, getD_at hik] at HS
          have hcc := hB.cell (i + k) hik
          have hfr := hB.free (i + k)
          have hcarry := mul_carry ht b1 b2 b3
          have hd2 := hdc.set (i + k) ((t + p[i] * q.getD k 0 + cs[i + k]) % 4294967296) (Nat.mod_lt _ (by omega))
          have hB2 := (hB.put (i + k) ((t + p[i] * q.getD k 0 + cs[i + k]) % 4294967296))
          have hb2 : Below w.heap.size w (wr.setCell ⟨w.heap.size, i + k, none⟩ (.int .u32 (((t + p[i] * q.getD k 0 + cs[i + k]) % 4294967296 : Nat) : Int))) := hb.setCell (Nat.le_refl _) _
          have HL2 : Hid ((cs.set (i + k) ((t + p[i] * q.getD k 0 + cs[i + k]) % 4294967296)).length = p.length + q.length) := by have := HL.out; show _ = _; rw [List.length_set]; exact this
          generalize cs.set (i + k) ((t + p[i] * q.getD k 0 + cs[i + k]) % 4294967296) = cs2 at *
          generalize cs[i + k] = old at *
          have hnr : Nt wr 0 w.heap.size (.slice Aq q.length cq) q := hn'.below hb (Nat.le_refl _)
          clear hdc HL hxp hcl hs hcella
          generalize hqe : q.getD k 0 = qk at *
          have QE := Lib.hid hqe
          clear hqe
          generalize p[i] = pk at *
          have ec : (((t + pk * qk + old) % 4294967296 : Nat) : Int) = ((t : Int) + (pk : Int) * (qk : Int) + (old : Int)) % 4294967296 := by
            have em : ((pk * qk : Nat) : Int) = (pk : Int) * (qk : Int) := Int.natCast_mul _ _
            generalize pk * qk = m at *
            omega
          have ed : (((t + pk * qk + old) / 4294967296 : Nat) : Int) = ((t : Int) + (pk : Int) * (qk : Int) + (old : Int)) / 4294967296 := by
            have em : ((pk * qk : Nat) : Int) = (pk : Int) * (qk : Int) := Int.natCast_mul _ _
            generalize pk * qk = m at *
            omega
          rw [ec] at hB2 hb2
          have ED := Lib.hid ed
          clear ec ed
          have hcb1 : (pk : Int) * (qk : Int) ≤ 18446744065119617025 := by
            have em : ((pk * qk : Nat) : Int) = (pk : Int) * (qk : Int) := Int.natCast_mul _ _
            omega
          have hcb0 : (0 : Int) ≤ (pk : Int) * (qk : Int) := Int.mul_nonneg (by omega) (by omega)
          have hcar := hcarry.2.1
          clear hcarry
          have hat : ∀ n, Calls Tryz.prog 84 #[.slice Aq q.length cq, .int .i64 (k : Int)] (wr.drewN n) fun e w'' => e = .returned (.int .u64 (qk : Int)) ∧ ∃ m, w'' = wr.drewN m := fun n => quiet_of (by
            have := at_any (.slice Aq q.length cq) q k (wr.drewN n) 0 w.heap.size hdq (hnr.drewN n) (by omega)
            rw [QE.out] at this
            exact this)
          have HAT := Lib.hid hat
          clear hat
          have i0 : (0 : Int) ≤ (i : Int) + (k : Int) := by omega
          have i1 : IntKind.i64.wrap ((i : Int) + (k : Int)) = (i : Int) + (k : Int) := IntWalk.i64_in _ (by omega)
          have i2 : ((i : Int) + (k : Int)).toNat = i + k := by omega
          have i3 : (i : Int) + (k : Int) < (p.length : Int) + (q.length : Int) := by omega
          have i4 : (i : Int) < (p.length : Int) := by omega
          have i5 : IntKind.u64.wrap ((pk : Int) * (qk : Int)) = (pk : Int) * (qk : Int) := IntWalk.u64_in _ (by omega)
          have i6 : IntKind.u64.wrap ((t : Int) + (pk : Int) * (qk : Int)) = (t : Int) + (pk : Int) * (qk : Int) := IntWalk.u64_in _ (by omega)
          have i7 : IntKind.u64.wrap ((t : Int) + (pk : Int) * (qk : Int) + (old : Int)) = (t : Int) + (pk : Int) * (qk : Int) + (old : Int) := IntWalk.u64_in _ (by omega)
          have hor : k < q.length ∨ (¬ k < q.length ∧ 0 < t) := by omega
          clear hstop
          rcases hor with hA | ⟨hA, hpos⟩
          all_goals
            go_wp2_with fail
            go_quiet ((go_at_call 84; exact HAT.out _))
            clear i0 i1 i2 i3 i4 i5 i6 i7
            go_wp2
            go_roundw
            case rel => exact ⟨k + 1, (t + pk * qk + old) / 4294967296, cs2, by omega, by go_num, by rw [ED.out], hcar, hd2, HL2, HS, hB2.drewN _, below_drewN hb2 _⟩
            case measure => simp [intOf]; omega
    · obtain rfl : i = p.length := by omega
      have hv := HV.out
      rw [List.take_length] at hv
      have hl2 := HL.out
      have hr := hB.reads (n := p.length + q.length) (by omega) (by unfold maxLen; omega)
      rw [hl2, List.take_of_length_le (by omega)] at hr
      have V := Lib.hid hv
      clear hv HV HL hB hxp hmk
      go_wp2_with fail
      refine (refTrim_any _ cs0 _ hdc (hr.low (Nat.zero_le _)) (by omega)).mono ?_
      rintro e w2 ⟨v3, rfl, h3, hb3⟩
      rw [V.out] at h3
      go_wp2
      go_ret
      exact ⟨_, rfl, h3.low hb.size, hb.trans (hb3.mono hb.size)⟩
end Go.Proofs.YtobmjcbjailclaaGreatDoor
