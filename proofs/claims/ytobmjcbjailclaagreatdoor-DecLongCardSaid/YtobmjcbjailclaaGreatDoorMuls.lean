/- 'Mul' of the program and of the reference by their contracts. Condition: a bound on lengths. -/
import Derived.Test.YtobmjcbjailclaaGreatDoorAdds2
import Derived.Test.YtobmjcbjailclaaGreatDoorNums
namespace Go.Proofs.YtobmjcbjailclaaGreatDoor
set_option maxRecDepth 100000
open Go.RowKit

set_option maxHeartbeats 3200000 in
theorem mul_any (u v : Value) (x y : List Nat) (w : World) (hdx : Dig x) (hdy : Dig y) (h : Nt w 0 w.heap.size u x) (h' : Nt w 0 w.heap.size v y) (hlx : x.length ≤ 100000) (hly : y.length ≤ 100000) :
    Calls Tryz.prog 72 #[u, v] w (Gives (lim (val x * val y)) w) := by
  have hxl := limBd' hdx _ hlx
  have hyl := limBd' hdy _ hly
  have vx := val_lim (val x)
  have vy := val_lim (val y)
  have hdp := dig_lim (val x)
  have hdq := dig_lim (val y)
  have VS : Hid (lim (val x * val y) = lim (val (lim (val x)) * val (lim (val y)))) := by rw [vx, vy]; exact rfl
  clear vx vy
  go_enter Tryz.func72, Tryz.ntmps72
  go_wp2_with fail
  refine (trim_any _ x _ _ _ hdx h).mono ?_
  rintro e w1 ⟨v1, rfl, h1, rfl⟩
  go_wp2_with fail
  refine (trim_any _ y _ _ _ hdy h').mono ?_
  rintro e w1 ⟨v2, rfl, h2, rfl⟩
  generalize lim (val x) = p at *
  generalize lim (val y) = q at *
  clear h h' hdx hdy hlx hly
  obtain ⟨Ap, cp, rfl, hcp, hmp, _, hxp⟩ := h1
  obtain ⟨Aq, cq, rfl, hcq, hmq, _, hxq⟩ := h2
  have hmk := make_limbs (p.length + q.length) ((p.length : Int) + (q.length : Int)) (by omega) (by omega)
  go_wp2_with fail
  go_loopw [6, 7, 8, 9, 10, 23] (fun _ _ _ _ _ i wr => ∃ (k : Nat) (cs : List Nat), k ≤ p.length ∧ i = .int .i64 (k : Nat) ∧ Dig cs ∧ Hid (cs.length = p.length + q.length) ∧ Hid (val cs = val (p.take k) * val q) ∧ Bare cs (k + q.length) ∧ Lb wr w.heap.size 43 cs ∧ Below w.heap.size w wr)
    (fun _ _ _ _ _ i _ => p.length - (intOf i).toNat)
  case atStart => exact ⟨0, _, Nat.zero_le _, rfl, dig_zeros _, List.length_replicate, by show _ = _; rw [val_zeros]; simp [val], bare_zeros _ _, Lb.made w _ _, (Below.refl _ _).alloc (Nat.le_refl _) _⟩
  case round =>
    obtain ⟨i, cs0, hi, rfl, hdc, HL, HV, hbare, hB, hb⟩ := hrel
    obtain ⟨wo, rfl⟩ : ∃ wo : World, wo = wr := ⟨_, rfl⟩
    by_cases hlt : i < p.length
    · have b1 := hdp.at hlt
      obtain ⟨ba, oa, rfl, _, hba, hcella⟩ := hxp (by omega)
      have hca := (hb.cell (p := ⟨ba, oa + i, none⟩) hba).trans (hcella i hlt)
      clear hcella hmk
      go_wp2_with fail
      go_loopw [8, 9, 10, 30] (fun s _ _ j wi => ∃ (k t : Nat) (cs : List Nat), k ≤ q.length ∧ j = .int .i64 (k : Nat) ∧ s = .int .u64 (t : Nat) ∧ t < 4294967296 ∧ Dig cs ∧ Hid (cs.length = p.length + q.length) ∧ MulIn p q cs i t k ∧ Bare cs (i + q.length) ∧ Lb wi w.heap.size 43 cs ∧ Below w.heap.size w wi)
        (fun _ _ _ j _ => q.length - (intOf j).toNat)
      case atStart => exact ⟨0, 0, cs0, Nat.zero_le _, rfl, rfl, by omega, hdc, HL, mulIn_zero HV.out, hbare, hB, hb⟩
      case round =>
        clear hbare hB hb hdc HL HV hca
        obtain ⟨k, t, cs, hk, rfl, rfl, ht, hdc, HL, hs, hbare, hB, hb⟩ := hrel
        have hcl : p.length + q.length ≤ cs.length ∧ cs.length ≤ p.length + q.length := by have := HL.out; omega
        by_cases hlq : k < q.length
        · obtain ⟨bb, ob, rfl, _, hbb, hcellb⟩ := hxq (by omega)
          have hcb := (hb.cell (p := ⟨bb, ob + k, none⟩) hbb).trans (hcellb k hlq)
          have b2 := hdq.at hlq
          have hik : i + k < cs.length := by omega
          have b3 := hdc.at hik
          have HS := mulIn_step hs hik (s := t + p.getD i 0 * q.getD k 0 + cs.getD (i + k) 0) rfl
          rw [getD_at hlt, getD_at hlq, getD_at hik] at HS
          have hcc := hB.cell (i + k) hik
          have hfr := hB.free (i + k)
          have hcarry := mul_carry ht b1 b2 b3
          have hd2 := hdc.set (i + k) ((t + p[i] * q[k] + cs[i + k]) % 4294967296) (Nat.mod_lt _ (by omega))
          have hB2 := hB.put (i + k) ((t + p[i] * q[k] + cs[i + k]) % 4294967296)
          have hb2 : Below w.heap.size w (wr.setCell ⟨w.heap.size, i + k, none⟩ (.int .u32 (((t + p[i] * q[k] + cs[i + k]) % 4294967296 : Nat) : Int))) := hb.setCell (Nat.le_refl _) _
          have HL2 : Hid ((cs.set (i + k) ((t + p[i] * q[k] + cs[i + k]) % 4294967296)).length = p.length + q.length) := by have := HL.out; show _ = _; rw [List.length_set]; exact this
          have hba2 := hbare.set (j := i + k) (d := (t + p[i] * q[k] + cs[i + k]) % 4294967296) (by omega)
          generalize cs.set (i + k) ((t + p[i] * q[k] + cs[i + k]) % 4294967296) = cs2 at *
          generalize cs[i + k] = old at *
          clear hdc hB hb hcellb HL hxp hxq hcl hs hbare
          generalize p[i] = pk at *
          generalize q[k] = qk at *
          have ec : (((t + pk * qk + old) % 4294967296 : Nat) : Int) = ((t : Int) + ((pk : Int) * (qk : Int) + (old : Int))) % 4294967296 := by
            have em : ((pk * qk : Nat) : Int) = (pk : Int) * (qk : Int) := Int.natCast_mul _ _
            generalize pk * qk = m at *
            omega
          have ed : (((t + pk * qk + old) / 4294967296 : Nat) : Int) = ((t : Int) + ((pk : Int) * (qk : Int) + (old : Int))) / 4294967296 := by
            have em : ((pk * qk : Nat) : Int) = (pk : Int) * (qk : Int) := Int.natCast_mul _ _
            generalize pk * qk = m at *
            omega
          rw [ec] at hB2 hb2
          have ED := Lib.hid ed
          clear ec ed
          have hcb1 : (pk : Int) * (qk : Int) ≤ 18446744065119617025 := by
            have em : ((pk * qk : Nat) : Int) = (pk : Int) * (qk : Int) := Int.natCast_mul _ _
            omega
          have hcb0 : (0 : Int) ≤ (pk : Int) * (qk : Int) := Int.mul_nonneg (by omega) (by omega)
          have hcar := hcarry.2.1
          clear hcarry
          go_wp2
          go_roundw
          case rel => exact ⟨k + 1, (t + pk * qk + old) / 4294967296, cs2, by omega, by go_num, by rw [ED.out], hcar, hd2, HL2, HS, hba2, hB2, hb2⟩
          case measure => simp [intOf]; omega
        · obtain rfl : k = q.length := by omega
          have hik : i + q.length < cs.length := by omega
          have hcc := hB.cell (i + q.length) hik
          have hfr := hB.free (i + q.length)
          have hd2 := hdc.set (i + q.length) t ht
          have hB2 := hB.put (i + q.length) t
          have hb2 : Below w.heap.size w (wr.setCell ⟨w.heap.size, i + q.length, none⟩ (.int .u32 (t : Int))) := hb.setCell (Nat.le_refl _) _
          have HL2 : Hid ((cs.set (i + q.length) t).length = p.length + q.length) := by have := HL.out; show _ = _; rw [List.length_set]; exact this
          have HV2 : Hid (val (cs.set (i + q.length) t) = val (p.take (i + 1)) * val q) := by
            show _ = _
            rw [val_set_zero hik (hbare _ (Nat.le_refl _))]
            exact mulIn_end hs (Nat.le_refl _)
          have hba2 := (hbare.more (Nat.le_succ _)).set (j := i + q.length) (d := t) (by omega)
          have hba3 : Bare (cs.set (i + q.length) t) (i + 1 + q.length) := by
            have e : i + 1 + q.length = (i + q.length).succ := by omega
            rw [e]; exact hba2
          generalize cs.set (i + q.length) t = cs2 at *
          generalize cs[i + q.length] = old at *
          clear hs hbare hdc HL hB hb hcl hxp hxq hba2
          generalize p[i] = pk at *
          go_wp2
          go_roundw
          case rel => exact ⟨i + 1, cs2, by omega, by go_num, hd2, HL2, HV2, hba3, hB2, hb2⟩
          case measure => simp [intOf]; omega
    · obtain rfl : i = p.length := by omega
      have hv := HV.out
      rw [List.take_length] at hv
      have hl2 := HL.out
      have hr := hB.reads (n := p.length + q.length) (by omega) (by unfold maxLen; omega)
      rw [hl2, List.take_of_length_le (by omega)] at hr
      have V := Lib.hid hv
      clear hv HV HL hbare hB hxp hxq hl2 hmk
      go_wp2_with fail
      refine (trim_any _ cs0 _ _ _ hdc hr).mono ?_
      rintro e w2 ⟨v3, rfl, h3, rfl⟩
      rw [V.out] at h3
      go_wp2
      go_ret
      exact ⟨_, rfl, by rw [VS.out]; exact h3, hb⟩
end Go.Proofs.YtobmjcbjailclaaGreatDoor
