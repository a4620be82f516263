/- Several texts in one: Muls, RefMul, Known, RefShiftL, Tos, RefTo, RefSmall, Bits, Cmps, Sub32. Condition: each says its own. -/
import Derived.Laws.BitsAllLaws
import Derived.Outline
import Derived.Lib.BitFns
import Derived.Test.YtchokmhfgikglaaGreatDoorPk1
import Derived.Test.YtchokmhfgikglaaGreatDoorPk2
namespace Go.Proofs.YtchokmhfgikglaaGreatDoor
set_option maxRecDepth 100000
open Go.RowKit

set_option maxHeartbeats 3200000 in
theorem mul_any (u v : Value) (x y : List Nat) (w : World) (hdx : Dig x) (hdy : Dig y) (h : Nt w 0 w.heap.size u x) (h' : Nt w 0 w.heap.size v y) (hlx : x.length ≤ 100000) (hly : y.length ≤ 100000) :
    Calls Tryz.prog 140 #[u, v] w (Gives (lim (val x * val y)) w) := by
  have hxl := limBd' hdx _ hlx
  have hyl := limBd' hdy _ hly
  have vx := val_lim (val x)
  have vy := val_lim (val y)
  have hdp := dig_lim (val x)
  have hdq := dig_lim (val y)
  have VS : Hid (lim (val x * val y) = lim (val (lim (val x)) * val (lim (val y)))) := by rw [vx, vy]; exact rfl
  clear vx vy
  go_enter Tryz.func140, Tryz.ntmps140
  go_wp2_with fail
  refine (trim_any _ x _ _ _ hdx h).mono ?_
  rintro e w1 ⟨v1, rfl, h1, rfl⟩
  go_wp2_with fail
  refine (trim_any _ y _ _ _ hdy h').mono ?_
  rintro e w1 ⟨v2, rfl, h2, rfl⟩
  generalize lim (val x) = p at *
  generalize lim (val y) = q at *
  clear h h' hdx hdy hlx hly
  obtain ⟨Ap, cp, rfl, hcp, hmp, _, hxp⟩ := h1
  obtain ⟨Aq, cq, rfl, hcq, hmq, _, hxq⟩ := h2
  have hmk := make_limbs (p.length + q.length) ((p.length : Int) + (q.length : Int)) (by omega) (by omega)
  go_wp2_with fail
  go_loopw [6, 7, 8, 9, 10, 23] (fun _ _ _ _ _ i wr => ∃ (k : Nat) (cs : List Nat), k ≤ p.length ∧ i = .int .i64 (k : Nat) ∧ Dig cs ∧ Hid (cs.length = p.length + q.length) ∧ Hid (val cs = val (p.take k) * val q) ∧ Bare cs (k + q.length) ∧ Lb wr w.heap.size 122 cs ∧ Below w.heap.size w wr)
    (fun _ _ _ _ _ i _ => p.length - (intOf i).toNat)
  case atStart => exact ⟨0, _, Nat.zero_le _, rfl, dig_zeros _, List.length_replicate, by show _ = _; rw [val_zeros]; simp [val], bare_zeros _ _, Lb.made w _ _, (Below.refl _ _).alloc (Nat.le_refl _) _⟩
  case round =>
    obtain ⟨i, cs0, hi, rfl, hdc, HL, HV, hbare, hB, hb⟩ := hrel
    obtain ⟨wo, rfl⟩ : ∃ wo : World, wo = wr := ⟨_, rfl⟩
    by_cases hlt : i < p.length
    · have b1 := hdp.at hlt
      obtain ⟨ba, oa, rfl, _, hba, hcella⟩ := hxp (by omega)
      have hca := (hb.cell (p := ⟨ba, oa + i, none⟩) hba).trans (hcella i hlt)
      clear hcella hmk
      go_wp2_with fail
      go_loopw [8, 9, 10, 30] (fun s _ _ j wi => ∃ (k t : Nat) (cs : List Nat), k ≤ q.length ∧ j = .int .i64 (k : Nat) ∧ s = .int .u64 (t : Nat) ∧ t < 4294967296 ∧ Dig cs ∧ Hid (cs.length = p.length + q.length) ∧ MulIn p q cs i t k ∧ Bare cs (i + q.length) ∧ Lb wi w.heap.size 122 cs ∧ Below w.heap.size w wi)
        (fun _ _ _ j _ => q.length - (intOf j).toNat)
      case atStart => exact ⟨0, 0, cs0, Nat.zero_le _, rfl, rfl, by omega, hdc, HL, mulIn_zero HV.out, hbare, hB, hb⟩
      case round =>
        clear hbare hB hb hdc HL HV hca
        obtain ⟨k, t, cs, hk, rfl, rfl, ht, hdc, HL, hs, hbare, hB, hb⟩ := hrel
        have hcl : p.length + q.length ≤ cs.length ∧ cs.length ≤ p.length + q.length := by have := HL.out; omega
        by_cases hlq : k < q.length
        · obtain ⟨bb, ob, rfl, _, hbb, hcellb⟩ := hxq (by omega)
          have hcb := (hb.cell (p := ⟨bb, ob + k, none⟩) hbb).trans (hcellb k hlq)
          have b2 := hdq.at hlq
          have hik : i + k < cs.length := by omega
          have b3 := hdc.at hik
          have HS := mulIn_step hs hik (s := t + p.getD i 0 * q.getD k 0 + cs.getD (i + k) 0) rfl
          rw [getD_at hlt, getD_at hlq, getD_at hik] at HS
          have hcc := hB.cell (i + k) hik
          have hfr := hB.free (i + k)
          have hcarry := mul_carry ht b1 b2 b3
          have hd2 := hdc.set (i + k) ((t + p[i] * q[k] + cs[i + k]) % 4294967296) (Nat.mod_lt _ (by omega))
          have hB2 := hB.put (i + k) ((t + p[i] * q[k] + cs[i + k]) % 4294967296)
          have hb2 : Below w.heap.size w (wr.setCell ⟨w.heap.size, i + k, none⟩ (.int .u32 (((t + p[i] * q[k] + cs[i + k]) % 4294967296 : Nat) : Int))) := hb.setCell (Nat.le_refl _) _
          have HL2 : Hid ((cs.set (i + k) ((t + p[i] * q[k] + cs[i + k]) % 4294967296)).length = p.length + q.length) := by have := HL.out; show _ = _; rw [List.length_set]; exact this
          have hba2 := hbare.set (j := i + k) (d := (t + p[i] * q[k] + cs[i + k]) % 4294967296) (by omega)
          generalize cs.set (i + k) ((t + p[i] * q[k] + cs[i + k]) % 4294967296) = cs2 at *
          generalize cs[i + k] = old at *
          clear hdc hB hb hcellb HL hxp hxq hcl hs hbare
          generalize p[i] = pk at *
          generalize q[k] = qk at *
          have ec : (((t + pk * qk + old) % 4294967296 : Nat) : Int) = ((t : Int) + ((pk : Int) * (qk : Int) + (old : Int))) % 4294967296 := by
            have em : ((pk * qk : Nat) : Int) = (pk : Int) * (qk : Int) := Int.natCast_mul _ _
            generalize pk * qk = m at *
            omega
          have ed : (((t + pk * qk + old) / 4294967296 : Nat) : Int) = ((t : Int) + ((pk : Int) * (qk : Int) + (old : Int))) / 4294967296 := by
            have em : ((pk * qk : Nat) : Int) = (pk : Int) * (qk : Int) := Int.natCast_mul _ _
            generalize pk * qk = m at *
            omega
          rw [ec] at hB2 hb2
          have ED := Lib.hid ed
          clear ec ed
          have hcb1 : (pk : Int) * (qk : Int) ≤ 18446744065119617025 := by
            have em : ((pk * qk : Nat) : Int) = (pk : Int) * (qk : Int) := Int.natCast_mul _ _
            omega
          have hcb0 : (0 : Int) ≤ (pk : Int) * (qk : Int) := Int.mul_nonneg (by omega) (by omega)
          have hcar := hcarry.2.1
          clear hcarry
          go_wp2
          go_roundw
          case rel => exact ⟨k + 1, (t + pk * qk + old) / 4294967296, cs2, by omega, by go_num, by rw [ED.out], hcar, hd2, HL2, HS, hba2, hB2, hb2⟩
          case measure => simp [intOf]; omega
        · obtain rfl : k = q.length := by omega
          have hik : i + q.length < cs.length := by omega
          have hcc := hB.cell (i + q.length) hik
          have hfr := hB.free (i + q.length)
          have hd2 := hdc.set (i + q.length) t ht
          have hB2 := hB.put (i + q.length) t
          have hb2 : Below w.heap.size w (wr.setCell ⟨w.heap.size, i + q.length, none⟩ (.int .u32 (t : Int))) := hb.setCell (Nat.le_refl _) _
          have HL2 : Hid ((cs.set (i + q.length) t).length = p.length + q.length) := by have := HL.out; show _ = _; rw [List.length_set]; exact this
          have HV2 : Hid (val (cs.set (i + q.length) t) = val (p.take (i + 1)) * val q) := by
            show _ = _
            rw [val_set_zero hik (hbare _ (Nat.le_refl _))]
            exact mulIn_end hs (Nat.le_refl _)
          have hba2 := (hbare.more (Nat.le_succ _)).set (j := i + q.length) (d := t) (by omega)
          have hba3 : Bare (cs.set (i + q.length) t) (i + 1 + q.length) := by
            have e : i + 1 + q.length = (i + q.length).succ := by omega
            rw [e]; exact hba2
          generalize cs.set (i + q.length) t = cs2 at *
          generalize cs[i + q.length] = old at *
          clear hs hbare hdc HL hB hb hcl hxp hxq hba2
          generalize p[i] = pk at *
          go_wp2
          go_roundw
          case rel => exact ⟨i + 1, cs2, by omega, by go_num, hd2, HL2, HV2, hba3, hB2, hb2⟩
          case measure => simp [intOf]; omega
    · obtain rfl : i = p.length := by omega
      have hv := HV.out
      rw [List.take_length] at hv
      have hl2 := HL.out
      have hr := hB.reads (n := p.length + q.length) (by omega) (by unfold maxLen; omega)
      rw [hl2, List.take_of_length_le (by omega)] at hr
      have V := Lib.hid hv
      clear hv HV HL hbare hB hxp hxq hl2 hmk
      go_wp2_with fail
      refine (trim_any _ cs0 _ _ _ hdc hr).mono ?_
      rintro e w2 ⟨v3, rfl, h3, rfl⟩
      rw [V.out] at h3
      go_wp2
      go_ret
      exact ⟨_, rfl, by rw [VS.out]; exact h3, hb⟩
end Go.Proofs.YtchokmhfgikglaaGreatDoor

namespace Go.Proofs.YtchokmhfgikglaaGreatDoor
set_option maxRecDepth 100000
open Go.RowKit

set_option maxHeartbeats 3200000 in
theorem refMul_any (u v : Value) (p q : List Nat) (w : World) (hdp : Dig p) (hdq : Dig q) (h : Nt w 0 w.heap.size u p) (h' : Nt w 0 w.heap.size v q) (hlp : p.length ≤ 100000) (hlq : q.length ≤ 100000) :
    Calls Tryz.prog 151 #[u, v] w (Gives (lim (val p * val q)) w) := by
  have hn' := h'
  obtain ⟨Ap, cp, rfl, hcp, hmp, _, hxp⟩ := h
  obtain ⟨Aq, cq, rfl, hcq, hmq, _, _⟩ := h'
  have hmk := make_limbs (p.length + q.length) ((p.length : Int) + (q.length : Int)) (by omega) (by omega)
  go_enter Tryz.func151, Tryz.ntmps151
  go_wp2_with fail
  go_loopw [6, 7, 8] (fun i _ _ wr => ∃ (k : Nat) (cs : List Nat), k ≤ p.length ∧ i = .int .i64 (k : Nat) ∧ Dig cs ∧ Hid (cs.length = p.length + q.length) ∧ Hid (val cs = val (p.take k) * val q) ∧ Lb wr w.heap.size 122 cs ∧ Below w.heap.size w wr)
    (fun i _ _ _ => p.length - (intOf i).toNat)
  case atStart => exact ⟨0, _, Nat.zero_le _, rfl, dig_zeros _, List.length_replicate, by show _ = _; rw [val_zeros]; simp [val], Lb.made w _ _, (Below.refl _ _).alloc (Nat.le_refl _) _⟩
  case round =>
    obtain ⟨i, cs0, hi, rfl, hdc, HL, HV, hB, hb⟩ := hrel
    obtain ⟨wo, rfl⟩ : ∃ wo : World, wo = wr := ⟨_, rfl⟩
    by_cases hlt : i < p.length
    · have b1 := hdp.at hlt
      obtain ⟨ba, oa, rfl, _, hba, hcella⟩ := hxp (by omega)
      clear hmk
      go_wp2_with fail
      go_loopw [7, 8] (fun s j wi => ∃ (k t : Nat) (cs : List Nat), i + k ≤ p.length + q.length ∧ j = .int .i64 (k : Nat) ∧ s = .int .u64 (t : Nat) ∧ t < 4294967296 ∧ Dig cs ∧ Hid (cs.length = p.length + q.length) ∧ MulIn p q cs i t k ∧ Lb wi w.heap.size 122 cs ∧ Below w.heap.size w wi)
        (fun _ j _ => p.length + q.length - i - (intOf j).toNat)
      case atStart => exact ⟨0, 0, cs0, by omega, rfl, rfl, by omega, hdc, HL, mulIn_zero HV.out, hB, hb⟩
      case round =>
        clear hB hb hdc HL HV
        obtain ⟨k, t, cs, hk, rfl, rfl, ht, hdc, HL, hs, hB, hb⟩ := hrel
        have hcl : p.length + q.length ≤ cs.length ∧ cs.length ≤ p.length + q.length := by have := HL.out; omega
        by_cases hstop : q.length ≤ k ∧ t = 0
        · -- nothing is left to carry: the row is through
          obtain ⟨hqk, ht0⟩ := hstop
          have HV2 := Lib.hid (mulIn_done (by rw [ht0] at hs; exact hs) hqk)
          have hge : ¬ (k : Int) < (q.length : Int) := by omega
          have hgt : ¬ (0 : Int) < (t : Int) := by omega
          clear hs hxp hcella hcl ht0 hqk
          go_wp2
          go_roundw
          case rel => exact ⟨i + 1, cs, by omega, by go_num, hdc, HL, HV2, hB, hb⟩
          case measure => simp [intOf]; omega
        · have hik : i + k < cs.length := by
            refine Nat.lt_of_not_le fun hc => hstop ?_
            have hqk : q.length ≤ k := by omega
            exact ⟨hqk, mulIn_full hdp hdq hs hqk hlt (by omega)⟩
          have hik2 : i + k < p.length + q.length := by omega
          have hca := (hb.cell (p := ⟨ba, oa + i, none⟩) hba).trans (hcella i hlt)
          have b2 := dig_getD hdq k
          have b3 := hdc.at hik
          have HS := mulIn_step hs hik (s := t + p.getD i 0 * q.getD k 0 + cs.getD (i + k) 0) rfl
          rw [getD_at hlt, getD_at hik] at HS
          have hcc := hB.cell (i + k) hik
          have hfr := hB.free (i + k)
          have hcarry := mul_carry ht b1 b2 b3
          have hd2 := hdc.set (i + k) ((t + p[i] * q.getD k 0 + cs[i + k]) % 4294967296) (Nat.mod_lt _ (by omega))
          have hB2 := (hB.put (i + k) ((t + p[i] * q.getD k 0 + cs[i + k]) % 4294967296))
          have hb2 : Below w.heap.size w (wr.setCell ⟨w.heap.size, i + k, none⟩ (.int .u32 (((t + p[i] * q.getD k 0 + cs[i + k]) % 4294967296 : Nat) : Int))) := hb.setCell (Nat.le_refl _) _
          have HL2 : Hid ((cs.set (i + k) ((t + p[i] * q.getD k 0 + cs[i + k]) % 4294967296)).length = p.length + q.length) := by have := HL.out; show _ = _; rw [List.length_set]; exact this
          generalize cs.set (i + k) ((t + p[i] * q.getD k 0 + cs[i + k]) % 4294967296) = cs2 at *
          generalize cs[i + k] = old at *
          have hnr : Nt wr 0 w.heap.size (.slice Aq q.length cq) q := hn'.below hb (Nat.le_refl _)
          clear hdc HL hxp hcl hs hcella
          generalize hqe : q.getD k 0 = qk at *
          have QE := Lib.hid hqe
          clear hqe
          generalize p[i] = pk at *
          have ec : (((t + pk * qk + old) % 4294967296 : Nat) : Int) = ((t : Int) + (pk : Int) * (qk : Int) + (old : Int)) % 4294967296 := by
            have em : ((pk * qk : Nat) : Int) = (pk : Int) * (qk : Int) := Int.natCast_mul _ _
            generalize pk * qk = m at *
            omega
          have ed : (((t + pk * qk + old) / 4294967296 : Nat) : Int) = ((t : Int) + (pk : Int) * (qk : Int) + (old : Int)) / 4294967296 := by
            have em : ((pk * qk : Nat) : Int) = (pk : Int) * (qk : Int) := Int.natCast_mul _ _
            generalize pk * qk = m at *
            omega
          rw [ec] at hB2 hb2
          have ED := Lib.hid ed
          clear ec ed
          have hcb1 : (pk : Int) * (qk : Int) ≤ 18446744065119617025 := by
            have em : ((pk * qk : Nat) : Int) = (pk : Int) * (qk : Int) := Int.natCast_mul _ _
            omega
          have hcb0 : (0 : Int) ≤ (pk : Int) * (qk : Int) := Int.mul_nonneg (by omega) (by omega)
          have hcar := hcarry.2.1
          clear hcarry
          have hat : ∀ n, Calls Tryz.prog 214 #[.slice Aq q.length cq, .int .i64 (k : Int)] (wr.drewN n) fun e w'' => e = .returned (.int .u64 (qk : Int)) ∧ ∃ m, w'' = wr.drewN m := fun n => quiet_of (by
            have := at_any (.slice Aq q.length cq) q k (wr.drewN n) 0 w.heap.size hdq (hnr.drewN n) (by omega)
            rw [QE.out] at this
            exact this)
          have HAT := Lib.hid hat
          clear hat
          have i0 : (0 : Int) ≤ (i : Int) + (k : Int) := by omega
          have i1 : IntKind.i64.wrap ((i : Int) + (k : Int)) = (i : Int) + (k : Int) := IntWalk.i64_in _ (by omega)
          have i2 : ((i : Int) + (k : Int)).toNat = i + k := by omega
          have i3 : (i : Int) + (k : Int) < (p.length : Int) + (q.length : Int) := by omega
          have i4 : (i : Int) < (p.length : Int) := by omega
          have i5 : IntKind.u64.wrap ((pk : Int) * (qk : Int)) = (pk : Int) * (qk : Int) := IntWalk.u64_in _ (by omega)
          have i6 : IntKind.u64.wrap ((t : Int) + (pk : Int) * (qk : Int)) = (t : Int) + (pk : Int) * (qk : Int) := IntWalk.u64_in _ (by omega)
          have i7 : IntKind.u64.wrap ((t : Int) + (pk : Int) * (qk : Int) + (old : Int)) = (t : Int) + (pk : Int) * (qk : Int) + (old : Int) := IntWalk.u64_in _ (by omega)
          have hor : k < q.length ∨ (¬ k < q.length ∧ 0 < t) := by omega
          clear hstop
          rcases hor with hA | ⟨hA, hpos⟩
          all_goals
            go_wp2_with fail
            go_quiet ((go_at_call 214; exact HAT.out _))
            clear i0 i1 i2 i3 i4 i5 i6 i7
            go_wp2
            go_roundw
            case rel => exact ⟨k + 1, (t + pk * qk + old) / 4294967296, cs2, by omega, by go_num, by rw [ED.out], hcar, hd2, HL2, HS, hB2.drewN _, below_drewN hb2 _⟩
            case measure => simp [intOf]; omega
    · obtain rfl : i = p.length := by omega
      have hv := HV.out
      rw [List.take_length] at hv
      have hl2 := HL.out
      have hr := hB.reads (n := p.length + q.length) (by omega) (by unfold maxLen; omega)
      rw [hl2, List.take_of_length_le (by omega)] at hr
      have V := Lib.hid hv
      clear hv HV HL hB hxp hmk
      go_wp2_with fail
      refine (refTrim_any _ cs0 _ hdc (hr.low (Nat.zero_le _)) (by omega)).mono ?_
      rintro e w2 ⟨v3, rfl, h3, hb3⟩
      rw [V.out] at h3
      go_wp2
      go_ret
      exact ⟨_, rfl, h3.low hb.size, hb.trans (hb3.mono hb.size)⟩
end Go.Proofs.YtchokmhfgikglaaGreatDoor

namespace Go.Proofs.YtchokmhfgikglaaGreatDoor
set_option maxRecDepth 100000
open Go.RowKit

theorem nt_new (w : World) (e : TypeId) (x : List Nat) (hx : x.length ≤ 1000) : Nt (w.alloc (.cells (lv x).toArray e)) w.heap.size (w.heap.size + 1) (.slice (some ⟨w.heap.size, 0, none⟩) x.length x.length) x := by
  have hb : Lb (w.alloc (.cells (lv x).toArray e)) w.heap.size e x := Blk.new w e _
  have := hb.reads (n := x.length) (Nat.le_refl _) (by unfold maxLen; omega)
  rw [List.take_length] at this
  have hs : (w.alloc (.cells (lv x).toArray e)).heap.size = w.heap.size + 1 := by simp
  rw [hs] at this
  exact this

theorem dig_one {n : Nat} (h : n < 4294967296) : Dig [n] := Dig.cons h Dig.nil

theorem lim_one {a : Nat} (ha : a < 4294967296) (h0 : a ≠ 0) : lim a = [a] := by
  have e : val [a] = a := by simp [val]
  have := lim_val (dig_one ha) (canon_of_last (.inr ⟨by simp, h0⟩))
  rw [e] at this
  exact this

end Go.Proofs.YtchokmhfgikglaaGreatDoor

namespace Go.Proofs.YtchokmhfgikglaaGreatDoor
set_option maxRecDepth 100000
open Go.RowKit

theorem leftIn_fin {a c : List Nat} {n s h : Nat} (hd : Dig a) (hs : s ≤ 31) (hl : LeftIn a c n s h (a.length + 1)) : val c = 4294967296 ^ n * (val a * 2 ^ s) := by
  have e := leftIn_end hl (Nat.le_refl _)
  by_cases h0 : h = 0
  · subst h0
    rw [Nat.mul_zero, Nat.add_zero] at e
    exact e
  · exfalso
    have e1 := val_lt hd
    have e2 := two_pow_le hs
    have p1 : 0 < 4294967296 ^ n := Nat.pow_pos (by omega)
    have p2 : 0 < 4294967296 ^ a.length := Nat.pow_pos (by omega)
    have e3 : val a * 2 ^ s < 4294967296 ^ a.length * 4294967296 := by
      calc val a * 2 ^ s ≤ val a * 2147483648 := Nat.mul_le_mul_left _ e2
        _ ≤ 4294967296 ^ a.length * 2147483648 := Nat.mul_le_mul_right _ (Nat.le_of_lt e1)
        _ < 4294967296 ^ a.length * 4294967296 := Nat.mul_lt_mul_of_pos_left (by omega) p2
    have e4 : 4294967296 ^ n * (val a * 2 ^ s) < 4294967296 ^ n * (4294967296 ^ a.length * 4294967296) := Nat.mul_lt_mul_of_pos_left e3 p1
    have e5 : 4294967296 ^ (n + (a.length + 1)) = 4294967296 ^ n * (4294967296 ^ a.length * 4294967296) := by rw [Nat.pow_add, Nat.pow_succ]
    rw [e5] at e
    generalize 4294967296 ^ n * (4294967296 ^ a.length * 4294967296) = Q at *
    have e6 : Q ≤ Q * h := Nat.le_mul_of_pos_right _ (by omega)
    omega


theorem nt_len2 {w : World} {L B : Nat} {v : Value} {x : List Nat} (h : Nt w L B v x) : ∃ A c, v = .slice A x.length c ∧ x.length ≤ 9223372036854775807 := by
  obtain ⟨A, c, rfl, hc, hm, _⟩ := h
  exact ⟨A, c, rfl, by unfold maxLen at hm; omega⟩

theorem Own.of_lb {w : World} {g base : Nat} {t : TypeId} {x : List Nat} (h : Lb w g t x) (hb : base ≤ g) (hm : x.length ≤ maxLen) : Own w base t (.slice (some ⟨g, 0, none⟩) x.length x.length) x := by
  refine ⟨by rw [lv_length, Nat.mul_one], .inr ⟨g, x.length, (lv x).toArray, rfl, hb, h, Nat.le_refl _, hm, ?_, ?_⟩⟩
  · rw [List.size_toArray, lv_length, Nat.mul_one]
  · show (lv x).take (x.length * 1) = lv x
    rw [Nat.mul_one, List.take_of_length_le (Nat.le_of_eq (lv_length x))]

set_option maxHeartbeats 3200000 in
theorem refShiftLeft_in (v : Value) (x : List Nat) (n : Int) (j : Nat) (w : World) (hd : Dig x) (h : Nt w 0 w.heap.size v x) (hl : x.length ≤ 90000) (hj1 : j ≤ 4096) (hn : n = (j : Int)) :
    Calls Tryz.prog 155 #[v, .int .i64 n] w (Gives (lim (val x * 2 ^ j)) w) := by
  subst hn
  have g1 : ¬ (j : Int) < -4096 := by omega
  have g2 : ¬ (4096 : Int) < (j : Int) := by omega
  have hxl := limBd' hd _ hl
  have vx := val_lim (val x)
  have hdp := dig_lim (val x)
  have VS : Hid (lim (val x * 2 ^ j) = lim (val (lim (val x)) * 2 ^ j)) := by rw [vx]; exact rfl
  clear vx
  obtain ⟨L, hL⟩ : ∃ L, j / 32 = L := ⟨_, rfl⟩
  obtain ⟨s, hs⟩ : ∃ s, j % 32 = s := ⟨_, rfl⟩
  have l1 : (j : Int) / 32 = (L : Int) := by omega
  have l2 : (j : Int) % 32 = (s : Int) := by omega
  have hs31 : s ≤ 31 := by omega
  have l3 : ¬ (j : Int) < 0 := by omega
  have HLJ : Hid (L = j / 32 ∧ s = j % 32) := ⟨hL.symm, hs.symm⟩
  have l4 : L ≤ 128 := by omega
  clear hL hs
  obtain ⟨i0, hi, hz0, hz1, hz2⟩ := info_parts Tryz.info32
  go_enter Tryz.func155, Tryz.ntmps155
  go_wp2_with fail
  refine (refTrim_any _ x _ hd h (by omega)).mono ?_
  rintro e w1 ⟨v1, rfl, h1', hb0⟩
  have h1 := h1'.low (Nat.zero_le _)
  generalize lim (val x) = p at *
  clear h hd hl h1'
  have hmk := make_limbs L (L : Int) rfl (by omega)
  obtain ⟨A, c, rfl, m1⟩ := nt_len2 h1
  go_wp2_with fail
  have hB0 := Lb.made w1 122 L
  have hw0 : Below w1.heap.size w1 (w1.alloc (.cells (madeCells #[.int .u32 0] L) 122)) := (Below.refl _ _).alloc (Nat.le_refl _) _
  generalize w1.alloc (.cells (madeCells #[.int .u32 0] L) 122) = w0 at *
  have hO0 := Own.of_lb (base := w1.heap.size) hB0 (Nat.le_refl _) (by rw [List.length_replicate]; unfold maxLen; omega)
  rw [List.length_replicate] at hO0
  clear hmk hB0 l1 l2 l3
  go_loopw [10, 12, 13, 14] (fun o lo i _ wr => ∃ (k b : Nat) (cs : List Nat), k ≤ p.length + 1 ∧ i = .int .i64 (k : Nat) ∧ lo = .int .u64 (b : Nat) ∧ Dig cs ∧ LeftIn p cs L s b k ∧ Own wr w1.heap.size 122 o cs ∧ Below w1.heap.size w1 wr)
    (fun _ _ i _ _ => p.length + 1 - (intOf i).toNat)
  case atStart => exact ⟨0, 0, _, Nat.zero_le _, rfl, rfl, dig_zeros _, leftIn_zero _ _ _, hO0, hw0⟩
  case round =>
    obtain ⟨k, b, cs, hk, rfl, rfl, hdc, hs0, hown, hb⟩ := hrel
    by_cases hlt : k < p.length + 1
    · have b1 := dig_getD hdp k
      have HS := leftIn_step hdp hs31 hs0
      have hbs := hs0.2.2
      have hTW := two_pow_le hs31
      have hcl : cs.length ≤ 1000000 := by have := hs0.1; omega
      have hat1 := at_any _ p k wr 0 w1.heap.size hdp (h1.below hb (Nat.le_refl _)) (by omega)
      clear hs0
      generalize p.getD k 0 = v1 at *
      have hp := shl_parts b1 hs31
      have W : IntKind.u64.wrap ((v1 : Int) * 2 ^ s) = ((v1 * 2 ^ s : Nat) : Int) := by
        have e : ((v1 * 2 ^ s : Nat) : Int) = (v1 : Int) * 2 ^ s := by rw [Int.natCast_mul, Int.natCast_pow]; rfl
        rw [← e]
        have := hp.1
        exact IntWalk.u64_in _ (by omega)
      obtain ⟨m, hm0⟩ : ∃ m, v1 * 2 ^ s = m := ⟨_, rfl⟩
      rw [hm0] at W HS hp
      clear hm0
      have hm1 := hp.1
      have hor : bits BinOp.or IntKind.u64 (m : Int) (b : Int) = ((m ||| b : Nat) : Int) := u64_or_nat _ _ (by omega) (by omega)
      have hdc2 := hdc.append (Dig.cons (Nat.mod_lt (m ||| b) (by omega)) Dig.nil)
      obtain ⟨q, hq⟩ : ∃ q, m / 4294967296 = q := ⟨_, rfl⟩
      rw [hq] at HS
      have hdv : (m : Int) / 4294967296 = (q : Int) := by omega
      clear hq
      clear hdc hp hm1 hTW
      generalize (m ||| b) = r at *
      have T1 := Lib.hid hat1
      clear hat1
      have hI : (k : Int) < (p.length : Int) + 1 := by omega
      go_wp2_with fail
      refine T1.out.mono ?_
      rintro e w2 ⟨rfl, rfl⟩
      go_wp2_with (at_builtin; refine wpList_append_limb rfl _ _ 58 rfl w1.heap.size 122 i0 Tryz.underlying58 hi hz0 hz1 hz2 _ cs rfl hown _ (r % 4294967296) (congrArg (Value.int .u32) (by omega)) rfl hcl hb.size ?_)
      intro v' w3 hown1 hg1
      have hb1 := hb.trans hg1
      clear hown hg1 hb hcl T1
      go_wp2
      go_roundw
      case rel => exact ⟨k + 1, q, _, by omega, by go_num, rfl, hdc2, HS, hown1, hb1⟩
      case measure => simp [intOf]; omega
    · obtain rfl : k = p.length + 1 := by omega
      have hv := leftIn_fin hdp hs31 hs0
      rw [HLJ.out.1, HLJ.out.2, shift_left_eq] at hv
      have hcl : cs.length ≤ 1000000 := by have := hs0.1; omega
      have V := Lib.hid hv
      have hr := hown.nt
      clear hs0 hv hown hi hz0 hz1 hz2
      go_wp2_with fail
      refine (refTrim_any _ cs _ hdc (hr.low (Nat.zero_le _)) hcl).mono ?_
      rintro e w2 ⟨v3, rfl, h3, hb3⟩
      rw [V.out] at h3
      go_wp2
      go_ret
      exact ⟨_, rfl, by rw [VS.out]; exact h3.low (Nat.le_trans hb0.size hb.size), hb0.trans ((hb.trans (hb3.mono hb.size)).mono hb0.size)⟩

set_option maxHeartbeats 3200000 in
theorem refShiftLeft_out (v : Value) (x : List Nat) (n : Int) (j : Nat) (w : World) (hd : Dig x) (h : Nt w 0 w.heap.size v x) (hl : x.length ≤ 90000) (hn : (4096 : Int) < n) (he : (4096 : Int) = (j : Int)) :
    Calls Tryz.prog 155 #[v, .int .i64 n] w (Gives (lim (val x * 2 ^ j)) w) := by
  have hj1 : j ≤ 4096 := by omega
  have g1 : ¬ n < -4096 := by omega
  have g3 : ¬ n < -(j : Int) := by omega
  have g2 : (j : Int) < n := by omega
  clear hn
  have hxl := limBd' hd _ hl
  have vx := val_lim (val x)
  have hdp := dig_lim (val x)
  have VS : Hid (lim (val x * 2 ^ j) = lim (val (lim (val x)) * 2 ^ j)) := by rw [vx]; exact rfl
  clear vx
  obtain ⟨L, hL⟩ : ∃ L, j / 32 = L := ⟨_, rfl⟩
  obtain ⟨s, hs⟩ : ∃ s, j % 32 = s := ⟨_, rfl⟩
  have l1 : (j : Int) / 32 = (L : Int) := by omega
  have l2 : (j : Int) % 32 = (s : Int) := by omega
  have hs31 : s ≤ 31 := by omega
  have l3 : ¬ (j : Int) < 0 := by omega
  have HLJ : Hid (L = j / 32 ∧ s = j % 32) := ⟨hL.symm, hs.symm⟩
  have l4 : L ≤ 128 := by omega
  clear hL hs
  obtain ⟨i0, hi, hz0, hz1, hz2⟩ := info_parts Tryz.info32
  go_enter Tryz.func155, Tryz.ntmps155
  go_wp2_with fail
  refine (refTrim_any _ x _ hd h (by omega)).mono ?_
  rintro e w1 ⟨v1, rfl, h1', hb0⟩
  have h1 := h1'.low (Nat.zero_le _)
  generalize lim (val x) = p at *
  clear h hd hl h1'
  have hmk := make_limbs L (L : Int) rfl (by omega)
  obtain ⟨A, c, rfl, m1⟩ := nt_len2 h1
  go_wp2_with fail
  have hB0 := Lb.made w1 122 L
  have hw0 : Below w1.heap.size w1 (w1.alloc (.cells (madeCells #[.int .u32 0] L) 122)) := (Below.refl _ _).alloc (Nat.le_refl _) _
  generalize w1.alloc (.cells (madeCells #[.int .u32 0] L) 122) = w0 at *
  have hO0 := Own.of_lb (base := w1.heap.size) hB0 (Nat.le_refl _) (by rw [List.length_replicate]; unfold maxLen; omega)
  rw [List.length_replicate] at hO0
  clear hmk hB0 l1 l2 l3
  go_loopw [10, 12, 13, 14] (fun o lo i _ wr => ∃ (k b : Nat) (cs : List Nat), k ≤ p.length + 1 ∧ i = .int .i64 (k : Nat) ∧ lo = .int .u64 (b : Nat) ∧ Dig cs ∧ LeftIn p cs L s b k ∧ Own wr w1.heap.size 122 o cs ∧ Below w1.heap.size w1 wr)
    (fun _ _ i _ _ => p.length + 1 - (intOf i).toNat)
  case atStart => exact ⟨0, 0, _, Nat.zero_le _, rfl, rfl, dig_zeros _, leftIn_zero _ _ _, hO0, hw0⟩
  case round =>
    obtain ⟨k, b, cs, hk, rfl, rfl, hdc, hs0, hown, hb⟩ := hrel
    by_cases hlt : k < p.length + 1
    · have b1 := dig_getD hdp k
      have HS := leftIn_step hdp hs31 hs0
      have hbs := hs0.2.2
      have hTW := two_pow_le hs31
      have hcl : cs.length ≤ 1000000 := by have := hs0.1; omega
      have hat1 := at_any _ p k wr 0 w1.heap.size hdp (h1.below hb (Nat.le_refl _)) (by omega)
      clear hs0
      generalize p.getD k 0 = v1 at *
      have hp := shl_parts b1 hs31
      have W : IntKind.u64.wrap ((v1 : Int) * 2 ^ s) = ((v1 * 2 ^ s : Nat) : Int) := by
        have e : ((v1 * 2 ^ s : Nat) : Int) = (v1 : Int) * 2 ^ s := by rw [Int.natCast_mul, Int.natCast_pow]; rfl
        rw [← e]
        have := hp.1
        exact IntWalk.u64_in _ (by omega)
      obtain ⟨m, hm0⟩ : ∃ m, v1 * 2 ^ s = m := ⟨_, rfl⟩
      rw [hm0] at W HS hp
      clear hm0
      have hm1 := hp.1
      have hor : bits BinOp.or IntKind.u64 (m : Int) (b : Int) = ((m ||| b : Nat) : Int) := u64_or_nat _ _ (by omega) (by omega)
      have hdc2 := hdc.append (Dig.cons (Nat.mod_lt (m ||| b) (by omega)) Dig.nil)
      obtain ⟨q, hq⟩ : ∃ q, m / 4294967296 = q := ⟨_, rfl⟩
      rw [hq] at HS
      have hdv : (m : Int) / 4294967296 = (q : Int) := by omega
      clear hq
      clear hdc hp hm1 hTW
      generalize (m ||| b) = r at *
      have T1 := Lib.hid hat1
      clear hat1
      have hI : (k : Int) < (p.length : Int) + 1 := by omega
      go_wp2_with fail
      refine T1.out.mono ?_
      rintro e w2 ⟨rfl, rfl⟩
      go_wp2_with (at_builtin; refine wpList_append_limb rfl _ _ 58 rfl w1.heap.size 122 i0 Tryz.underlying58 hi hz0 hz1 hz2 _ cs rfl hown _ (r % 4294967296) (congrArg (Value.int .u32) (by omega)) rfl hcl hb.size ?_)
      intro v' w3 hown1 hg1
      have hb1 := hb.trans hg1
      clear hown hg1 hb hcl T1
      go_wp2
      go_roundw
      case rel => exact ⟨k + 1, q, _, by omega, by go_num, rfl, hdc2, HS, hown1, hb1⟩
      case measure => simp [intOf]; omega
    · obtain rfl : k = p.length + 1 := by omega
      have hv := leftIn_fin hdp hs31 hs0
      rw [HLJ.out.1, HLJ.out.2, shift_left_eq] at hv
      have hcl : cs.length ≤ 1000000 := by have := hs0.1; omega
      have V := Lib.hid hv
      have hr := hown.nt
      clear hs0 hv hown hi hz0 hz1 hz2
      go_wp2_with fail
      refine (refTrim_any _ cs _ hdc (hr.low (Nat.zero_le _)) hcl).mono ?_
      rintro e w2 ⟨v3, rfl, h3, hb3⟩
      rw [V.out] at h3
      go_wp2
      go_ret
      exact ⟨_, rfl, by rw [VS.out]; exact h3.low (Nat.le_trans hb0.size hb.size), hb0.trans ((hb.trans (hb3.mono hb.size)).mono hb0.size)⟩

end Go.Proofs.YtchokmhfgikglaaGreatDoor

namespace Go.Proofs.YtchokmhfgikglaaGreatDoor
set_option maxRecDepth 100000
open Go.RowKit

/-- What a number of 64 bits is told as. -/
def toN (v : Nat) : Nat := if v < 18446744073709551616 then v else 0

theorem lim_len_two {v : Nat} : (lim v).length ≤ 2 ↔ v < 18446744073709551616 := by
  constructor
  · intro h
    have := val_lt (dig_lim v)
    rw [val_lim] at this
    have h2 : 4294967296 ^ (lim v).length ≤ 4294967296 ^ 2 := Nat.pow_le_pow_right (by omega) h
    have e : (4294967296 : Nat) ^ 2 = 18446744073709551616 := by decide
    omega
  · intro h
    refine lim_length_le ?_
    have e : (4294967296 : Nat) ^ 2 = 18446744073709551616 := by decide
    omega

end Go.Proofs.YtchokmhfgikglaaGreatDoor

namespace Go.Proofs.YtchokmhfgikglaaGreatDoor
set_option maxRecDepth 100000
open Go.RowKit

set_option maxHeartbeats 800000 in
theorem refTo_any (v : Value) (x : List Nat) (w : World) (hd : Dig x) (h : Nt w 0 w.heap.size v x) (hl : x.length ≤ 90000) :
    Calls Tryz.prog 153 #[v] w fun e w' => e = .returned (.tuple #[.int .u64 ((toN (val x) : Nat) : Int), .bool (decide (val x < 18446744073709551616))]) ∧ Below w.heap.size w w' := by
  have hxl := limBd' hd _ hl
  have hdp := dig_lim (val x)
  have hL := lim_len_two (v := val x)
  have vx := val_lim (val x)
  have HL := Lib.hid hL
  have VX := Lib.hid vx
  clear hL vx
  go_enter Tryz.func153, Tryz.ntmps153
  go_wp2_with fail
  refine (refTrim_any _ x _ hd h (by omega)).mono ?_
  rintro e w1 ⟨v1, rfl, h1', hb0⟩
  have h1 := h1'.low (Nat.zero_le _)
  clear h1'
  generalize lim (val x) = p at *
  obtain ⟨A, c, rfl, hc, hm, _, hx⟩ := h1
  by_cases h2 : p.length ≤ 2
  · have hv : val x < 18446744073709551616 := HL.out.1 h2
    have E1 : toN (val x) = val p := by unfold toN; rw [if_pos hv, VX.out]
    have E2 := Lib.hid (decide_eq_true hv)
    have E1 := Lib.hid E1
    have hI : ¬ (2 : Int) < (p.length : Int) := by omega
    clear hv h hd
    go_wp2_with fail
    go_loopw [5, 6] (fun n i wr => ∃ (k : Nat), k ≤ p.length ∧ i = .int .i64 ((k : Int) - 1) ∧ n = .int .u64 ((val (p.drop k) : Nat) : Int) ∧ wr = w1)
      (fun _ i _ => (intOf i + 1).toNat)
    case atStart => exact ⟨p.length, Nat.le_refl _, rfl, by rw [List.drop_length]; rfl, rfl⟩
    case round =>
      obtain ⟨k, hk, rfl, rfl, rfl⟩ := hrel
      by_cases hlt : 0 < k
      · obtain ⟨j, rfl⟩ : ∃ j, k = j + 1 := ⟨k - 1, by omega⟩
        have b1 := hdp.at (show j < p.length by omega)
        obtain ⟨ba, oa, rfl, _, hba, hcella⟩ := hx (by omega)
        have hca := hcella j (by omega)
        have HS : val (p.drop j) = p[j] + 4294967296 * val (p.drop (j + 1)) := by
          rw [List.drop_eq_getElem_cons (show j < p.length by omega)]
          rfl
        have hz : val (p.drop (j + 1)) < 4294967296 := by
          have := val_lt (hdp.drop (j + 1))
          rw [List.length_drop] at this
          have h3 : 4294967296 ^ (p.length - (j + 1)) ≤ 4294967296 ^ 1 := Nat.pow_le_pow_right (by omega) (by omega)
          rw [Nat.pow_one] at h3
          exact Nat.lt_of_lt_of_le this h3
        have hi1 : ((j + 1 : Nat) : Int) - 1 = (j : Int) := by omega
        have hj0 : (0 : Int) ≤ (j : Int) := by omega
        have hj1 : (j : Int) < (p.length : Int) := by omega
        rw [hi1]
        clear hcella hx HL VX E1 E2 hi1
        obtain ⟨y, hy⟩ : ∃ y, val (p.drop j) = y := ⟨_, rfl⟩
        have Y := Lib.hid hy
        rw [hy] at HS
        clear hy
        generalize p[j] = v1 at *
        generalize val (p.drop (j + 1)) = z at *
        obtain ⟨m, hm0⟩ : ∃ m, z * 4294967296 = m := ⟨_, rfl⟩
        have hW2 : (z : Int) * 4294967296 = (m : Int) := by omega
        have hm1 : m < 18446744073709551616 := by omega
        have hor : bits BinOp.or IntKind.u64 (m : Int) (v1 : Int) = (y : Int) := by
          rw [u64_or_nat m v1 (by omega) (by omega), Nat.or_comm, or_add (m := m) (h := v1) (s := 32) (by omega) ⟨z, by omega⟩]
          omega
        clear hm0 HS hz
        go_wp2_with fail
        go_roundw
        case rel => exact ⟨j, by omega, rfl, by rw [Y.out], trivial⟩
        case measure => simp [intOf]
      · obtain rfl : k = 0 := by omega
        rw [List.drop_zero]
        clear hx
        go_wp2
        go_ret2
        exact ⟨by rw [E1.out, E2.out]; rfl, hb0⟩
  · have hv : ¬ val x < 18446744073709551616 := fun h => h2 (HL.out.2 h)
    have E1 : toN (val x) = 0 := by unfold toN; rw [if_neg hv]
    have E2 := Lib.hid (decide_eq_false hv)
    have E1 := Lib.hid E1
    have hI : (2 : Int) < (p.length : Int) := by omega
    clear hv h hd hx
    go_wp2
    go_ret2
    exact ⟨by rw [E1.out, E2.out]; rfl, hb0⟩
end Go.Proofs.YtchokmhfgikglaaGreatDoor

namespace Go.Proofs.YtchokmhfgikglaaGreatDoor
set_option maxRecDepth 100000
open Go.RowKit

/-- What a division by a small number hands back. -/
def GivesR (x : List Nat) (r : Nat) (w : World) (e : Ending) (w' : World) : Prop :=
  ∃ v', e = .returned (.tuple #[v', .int .u64 (r : Int)]) ∧ Nt w' w.heap.size w'.heap.size v' x ∧ Below w.heap.size w w'

set_option maxHeartbeats 3200000 in
theorem refSmall_any (v : Value) (x : List Nat) (b : Nat) (w : World) (hd : Dig x) (h : Nt w 0 w.heap.size v x) (hl : x.length ≤ 90000) (hb0 : 0 < b) (hb1 : b ≤ 4294967295) :
    Calls Tryz.prog 154 #[v, .int .u64 (b : Int)] w (GivesR (lim (val x / b)) (val x % b) w) := by
  have hmk := make_limbs x.length (x.length : Int) rfl (by omega)
  obtain ⟨A, c, rfl, hc, hm, _, hx⟩ := h
  go_enter Tryz.func154, Tryz.ntmps154
  go_wp2_with fail
  go_loopw [7, 8] (fun u i wr => ∃ (k r : Nat) (cs : List Nat), k ≤ x.length ∧ i = .int .i64 ((k : Int) - 1) ∧ u = .int .u64 (r : Nat) ∧ Dig cs ∧ Hid (cs.length = x.length) ∧ SmallAt x cs b r k ∧ Lb wr w.heap.size 122 cs ∧ Below w.heap.size w wr)
    (fun _ i _ => (intOf i + 1).toNat)
  case atStart => exact ⟨x.length, 0, _, Nat.le_refl _, rfl, rfl, dig_zeros _, List.length_replicate, smallAt_zero _ _ hb0, Lb.made w _ _, (Below.refl _ _).alloc (Nat.le_refl _) _⟩
  case round =>
    obtain ⟨k, r, cs, hk, rfl, rfl, hdc, HL, hs0, hB, hb⟩ := hrel
    by_cases hlt : 0 < k
    · obtain ⟨j, rfl⟩ : ∃ j, k = j + 1 := ⟨k - 1, by omega⟩
      obtain ⟨ba, oa, rfl, _, hba, hcella⟩ := hx (by omega)
      have hjl : j < x.length := by omega
      have b1 := hd.at hjl
      have hca := (hb.cell (p := ⟨ba, oa + j, none⟩) hba).trans (hcella j hjl)
      have hcl : j < cs.length := by have := HL.out; omega
      have hcc := hB.cell j hcl
      have hfr := hB.free j
      have HS := smallAt_step (by omega) hd HL.out hjl hs0
      rw [getD_at hjl] at HS
      have hr := hs0.1
      generalize cs[j] = z0 at *
      generalize x[j] = v1 at *
      obtain ⟨m, hm0⟩ : ∃ m, r * 4294967296 = m := ⟨_, rfl⟩
      have hW2 : (r : Int) * 4294967296 = (m : Int) := by omega
      obtain ⟨t, ht0⟩ : ∃ t, m + v1 = t := ⟨_, rfl⟩
      have hm1 : m < 18446744073709551616 := by omega
      have hor : bits BinOp.or IntKind.u64 (m : Int) (v1 : Int) = (t : Int) := by
        rw [u64_or_nat m v1 (by omega) (by omega), Nat.or_comm, or_add (m := m) (h := v1) (s := 32) (by omega) ⟨r, by omega⟩]
        omega
      rw [hm0, ht0] at HS
      have ht1 : t < 18446744073709551616 := by omega
      clear hm0 ht0
      obtain ⟨d, hd0⟩ : ∃ d, t / b = d := ⟨_, rfl⟩
      obtain ⟨q, hq0⟩ : ∃ q, t % b = q := ⟨_, rfl⟩
      have hdv : (t : Int) / (b : Int) = (d : Int) := by rw [← hd0]; exact (Int.natCast_ediv t b).symm
      have hmd : (t : Int) % (b : Int) = (q : Int) := by rw [← hq0]; exact (Int.natCast_emod t b).symm
      rw [hd0, hq0] at HS
      clear hd0 hq0
      have hi1 : ((j + 1 : Nat) : Int) - 1 = (j : Int) := by omega
      rw [hi1]
      have hj1 : (j : Int) < (x.length : Int) := by omega
      have hdl := HS.2
      have hS1 := HS.1
      have hq1 := hS1.1
      have hB1 := hB.put j d
      have hd1 := hdc.set j d hdl
      have hbb : Below w.heap.size w (wr.setCell ⟨w.heap.size, j, none⟩ (.int .u32 (d : Int))) := hb.setCell (Nat.le_refl _) _
      have HL1 : Hid ((cs.set j d).length = x.length) := by have := HL.out; show _ = _; rw [List.length_set]; exact this
      clear hdc HL hs0 hB hb hcl HS hi1 hx hcella hmk
      generalize cs.set j d = c1 at *
      go_wp2_with fail
      go_roundw
      case rel => exact ⟨j, q, c1, by omega, rfl, by rw [hmd], hd1, HL1, hS1, hB1, hbb⟩
      case measure => simp [intOf]
    · obtain rfl : k = 0 := by omega
      have hv := smallAt_end hs0
      have hl2 := HL.out
      have hr := hB.reads (n := x.length) (by omega) (by unfold maxLen; omega)
      rw [hl2, List.take_of_length_le (by omega)] at hr
      have V := Lib.hid hv.1
      have R := Lib.hid hv.2
      have hcl : cs.length ≤ 1000000 := by omega
      clear hv HL hs0 hB hl2 hmk hx
      go_wp2_with fail
      refine (refTrim_any _ cs _ hdc (hr.low (Nat.zero_le _)) hcl).mono ?_
      rintro e w2 ⟨v3, rfl, h3, hb3⟩
      rw [V.out] at h3
      go_wp2
      go_ret2
      exact ⟨_, by rw [R.out]; rfl, h3.low hb.size, hb.trans (hb3.mono hb.size)⟩
end Go.Proofs.YtchokmhfgikglaaGreatDoor

namespace Go.Proofs.YtchokmhfgikglaaGreatDoor
set_option maxRecDepth 100000
open Go.RowKit

theorem tab_at (i : Int) (h0 : 0 ≤ i) (h1 : i ≤ 255) (h : i.toNat < Lib.len8tab.size) : ((Lib.len8tab[i.toNat]'h).toNat : Int) = (Lib.bitLen i.toNat : Int) ∧ Lib.bitLen i.toNat ≤ 8 := by
  refine ⟨?_, Lib.bitLen_le8' i h0 h1⟩
  have e := Lib.len8_of i h0 h1
  unfold Lib.len8 at e
  rw [getElem?_pos Lib.len8tab i.toNat h] at e
  exact e

theorem wrap_small (z : Int) (h0 : 0 ≤ z) (h1 : z ≤ 100000) : wrap64 z = z := by
  unfold wrap64
  omega

set_option maxHeartbeats 4000000 in
set_option maxRecDepth 100000 in
theorem len32_any (x : Int) (w : World) (h0 : 0 ≤ x) (h1 : x ≤ 4294967295) :
    Calls Tryz.prog 225 #[.int .u32 x] w fun e w' => e = .returned (.int .i64 (Lib.bitLen x.toNat)) ∧ w = w' := by
  have sz : (Lib.len8tab.size : Int) = 256 := by rw [Lib.len8tab_size]; rfl
  have sn := Lib.len8tab_size
  go_enter Tryz.func225, Tryz.ntmps225
  go_wp2
  all_goals (go_ret; refine ⟨congrArg Ending.returned (congrArg (Value.int IntKind.i64) ?_), rfl⟩)
  all_goals first
    | (have q := tab_at (x / 65536 / 256) (by omega) (by omega) (by rw [sn]; omega)
       rw [q.1]
       have l := q.2
       have e : (x / 65536 / 256).toNat = x.toNat / 16777216 := by omega
       have s := Lib.bitLen_shift24 x.toNat (by omega) (by omega)
       clear q
       rw [e] at l ⊢
       generalize Lib.bitLen (x.toNat / 16777216) = L1 at *
       rw [wrap_small (L1 : Int) (by omega) (by omega), wrap_small _ (by omega) (by omega)]
       omega)
    | (have q := tab_at (x / 65536) (by omega) (by omega) (by rw [sn]; omega)
       rw [q.1]
       have l := q.2
       have e : (x / 65536).toNat = x.toNat / 65536 := by omega
       have s := Lib.bitLen_shift16 x.toNat (by omega) (by omega)
       clear q
       rw [e] at l ⊢
       generalize Lib.bitLen (x.toNat / 65536) = L1 at *
       rw [wrap_small (L1 : Int) (by omega) (by omega), wrap_small _ (by omega) (by omega)]
       omega)
    | (have q := tab_at (x / 256) (by omega) (by omega) (by rw [sn]; omega)
       rw [q.1]
       have l := q.2
       have e : (x / 256).toNat = x.toNat / 256 := by omega
       have s := Lib.bitLen_shift8 x.toNat (by omega) (by omega)
       clear q
       rw [e] at l ⊢
       generalize Lib.bitLen (x.toNat / 256) = L1 at *
       rw [wrap_small (L1 : Int) (by omega) (by omega), wrap_small _ (by omega) (by omega)]
       omega)
    | (have q := tab_at (x) (by omega) (by omega) (by rw [sn]; omega)
       rw [q.1]
       have l := q.2
       clear q
       generalize Lib.bitLen (x.toNat) = L1 at *
       rw [wrap_small (L1 : Int) (by omega) (by omega), wrap_small _ (by omega) (by omega)])

/-- How many bits a number takes. -/
def bl (n : Nat) : Nat := if h : n = 0 then 0 else 1 + bl (n / 2)
termination_by n
decreasing_by omega

theorem bl_zero : bl 0 = 0 := by rw [bl]; rfl
theorem bl_pos {n : Nat} (h : n ≠ 0) : bl n = 1 + bl (n / 2) := by rw [bl, dif_neg h]

theorem bl_lib (n : Nat) : n < 2 ^ 64 → Lib.bitLen n = bl n := by
  induction n using Nat.strongRecOn with
  | _ n ih =>
    intro h
    by_cases h0 : n = 0
    · subst h0; rw [bl_zero]; rfl
    · rw [Lib.bitLen_half n h0 h, bl_pos h0, ih (n / 2) (by omega) (by omega)]

end Go.Proofs.YtchokmhfgikglaaGreatDoor

namespace Go.Proofs.YtchokmhfgikglaaGreatDoor
set_option maxRecDepth 100000
open Go.RowKit

set_option maxHeartbeats 3200000 in
theorem cmp_any (u v : Value) (x y : List Nat) (w : World) (hdx : Dig x) (hdy : Dig y) (h : Nt w 0 w.heap.size u x) (h' : Nt w 0 w.heap.size v y) (hlx : x.length ≤ 100000) (hly : y.length ≤ 100000) :
    Calls Tryz.prog 51 #[u, v] w fun e w' => e = .returned (.int .i64 (cmpN (val x) (val y))) ∧ Below w.heap.size w w' := by
  have hxl := limBd' hdx _ hlx
  have hyl := limBd' hdy _ hly
  have vx := val_lim (val x)
  have vy := val_lim (val y)
  have hdp := dig_lim (val x)
  have hdq := dig_lim (val y)
  have C1 : Hid ((lim (val x)).length < (lim (val y)).length → cmpN (val x) (val y) = -1) := fun hc => cmpN_lt (lim_len_lt hc)
  have C2 : Hid ((lim (val y)).length < (lim (val x)).length → cmpN (val x) (val y) = 1) := fun hc => cmpN_gt (lim_len_lt hc)
  have VS : Hid (cmpN (val x) (val y) = cmpN (val (lim (val x))) (val (lim (val y)))) := by rw [vx, vy]; exact rfl
  clear vx vy
  have wb : Below w.heap.size w w := Below.refl _ _
  go_enter Tryz.func51, Tryz.ntmps51
  go_wp2_with fail
  refine (trim_any _ x _ _ _ hdx h).mono ?_
  rintro e w1 ⟨v1, rfl, h1, rfl⟩
  go_wp2_with fail
  refine (trim_any _ y _ _ _ hdy h').mono ?_
  rintro e w1 ⟨v2, rfl, h2, rfl⟩
  have hb := wb
  clear wb
  generalize lim (val x) = p at *
  generalize lim (val y) = q at *
  clear h h' hdx hdy hlx hly
  obtain ⟨Ap, cp, rfl, hcp, hmp, _, hxp⟩ := h1
  obtain ⟨Aq, cq, rfl, hcq, hmq, _, hxq⟩ := h2
  by_cases hne : p.length = q.length
  · have hne1 : ((p.length : Int) != (q.length : Int)) = false := bne_false (by omega)
    have hle : p.length ≤ q.length ∧ q.length ≤ p.length := by omega
    clear hne C1 C2
    go_wp2_with fail
    go_loopw [5] (fun i wr => ∃ z : Int, i = .int .i64 z ∧ -1 ≤ z ∧ z < p.length ∧ Hid (p.drop (z + 1).toNat = q.drop (z + 1).toNat) ∧ Hid (∀ a : Addr, a.block < w.heap.size → wr.cell? a = w.cell? a) ∧ Below w.heap.size w wr) (fun i _ => (intOf i + 1).toNat)
    case atStart => exact ⟨_, rfl, by omega, by omega, by
      show _ = _
      rw [List.drop_eq_nil_of_le (by omega), List.drop_eq_nil_of_le (by omega)], fun _ _ => rfl, hb⟩
    case round =>
      clear hb
      obtain ⟨z, rfl, hz1, hz2, hd, hw, hb⟩ := hrel
      by_cases hz : 0 ≤ z
      · obtain ⟨j, rfl⟩ := Int.eq_ofNat_of_zero_le hz
        have hj : j < p.length := by omega
        have hk : j < q.length := by omega
        have e1 : ((j : Int) + 1).toNat = j + 1 := by omega
        rw [e1] at hd
        obtain ⟨ba, oa, rfl, _, hba, hca⟩ := hxp (by omega)
        obtain ⟨bb, ob, rfl, _, hbb, hcb⟩ := hxq (by omega)
        have a1 := (hw.out ⟨ba, oa + j, none⟩ hba).trans (hca j hj)
        have a2 := (hw.out ⟨bb, ob + j, none⟩ hbb).trans (hcb j hk)
        have i1 : (j : Int) < (p.length : Int) := by omega
        have i2 : (j : Int) < (q.length : Int) := by omega
        clear hca hcb hxp hxq e1
        rcases Nat.lt_trichotomy p[j] q[j] with hc | hc | hc
        · have F : Hid (cmpN (val p) (val q) = -1) := cmpN_lt (cmp_at hdp hj hk hc hd.out)
          have t1 : (((p[j] : Nat) : Int) != ((q[j] : Nat) : Int)) = true := bne_true (by omega)
          have t2 : ((p[j] : Nat) : Int) < ((q[j] : Nat) : Int) := by omega
          clear hc hd
          generalize p[j] = pj at *
          generalize q[j] = qj at *
          go_wp2_with fail
          go_quiet (fail)
          go_wp2_with fail
          go_quiet (fail)
          go_wp2
          go_ret
          exact ⟨by rw [VS.out, F.out]; rfl, below_drewN (below_drewN hb _) _⟩
        · have D : Hid (p.drop j = q.drop j) := drop_at hj hk hc hd.out
          have t1 : (((p[j] : Nat) : Int) != ((q[j] : Nat) : Int)) = false := bne_false (by omega)
          clear hc hd
          generalize p[j] = pj at *
          generalize q[j] = qj at *
          go_wp2_with fail
          go_quiet (fail)
          go_wp2
          go_roundw
          case rel => exact ⟨(j : Int) - 1, rfl, by omega, by omega, by
            have e : ((j : Int) - 1 + 1).toNat = j := by omega
            rw [e]; exact D, hw, below_drewN hb _⟩
          case measure => first | (simp [intOf]; done) | (simp [intOf]; omega)
        · have F : Hid (cmpN (val p) (val q) = 1) := cmpN_gt (cmp_at hdq hk hj hc hd.out.symm)
          have t1 : (((p[j] : Nat) : Int) != ((q[j] : Nat) : Int)) = true := bne_true (by omega)
          have t2 : ¬ ((p[j] : Nat) : Int) < ((q[j] : Nat) : Int) := by omega
          clear hc hd
          generalize p[j] = pj at *
          generalize q[j] = qj at *
          go_wp2_with fail
          go_quiet (fail)
          go_wp2_with fail
          go_quiet (fail)
          go_wp2
          go_ret
          exact ⟨by rw [VS.out, F.out]; rfl, below_drewN (below_drewN hb _) _⟩
      · have hz3 : z = -1 := by omega
        have hz4 : ¬ (0 : Int) ≤ z := hz
        have F : Hid (cmpN (val p) (val q) = 0) := by
          have := hd.out
          rw [hz3] at this
          simp at this
          rw [this]
          exact cmpN_eq rfl
        clear hz3 hd hxp hxq
        go_wp2
        go_ret
        exact ⟨by rw [VS.out, F.out]; rfl, hb⟩
  · have hne1 : ((p.length : Int) != (q.length : Int)) = true := bne_true (by omega)
    by_cases hlt : p.length < q.length
    · have F := Lib.hid (C1.out hlt)
      clear hne C1 C2 hxp hxq
      go_wp2
      go_ret
      exact ⟨by rw [F.out]; rfl, hb⟩
    · have F := Lib.hid (C2.out (by omega))
      clear hne C1 C2 hxp hxq
      go_wp2
      go_ret
      exact ⟨by rw [F.out]; rfl, hb⟩

set_option maxHeartbeats 3200000 in
theorem refCmp_any (u v : Value) (x y : List Nat) (w : World) (hdx : Dig x) (hdy : Dig y) (h : Nt w 0 w.heap.size u x) (h' : Nt w 0 w.heap.size v y) (hlx : x.length ≤ 100000) (hly : y.length ≤ 100000) :
    Calls Tryz.prog 156 #[u, v] w fun e w' => e = .returned (.int .i64 (cmpN (val x) (val y))) ∧ Below w.heap.size w w' := by
  have hxl := limBd' hdx _ hlx
  have hyl := limBd' hdy _ hly
  have vx := val_lim (val x)
  have vy := val_lim (val y)
  have hdp := dig_lim (val x)
  have hdq := dig_lim (val y)
  have C1 : Hid ((lim (val x)).length < (lim (val y)).length → cmpN (val x) (val y) = -1) := fun hc => cmpN_lt (lim_len_lt hc)
  have C2 : Hid ((lim (val y)).length < (lim (val x)).length → cmpN (val x) (val y) = 1) := fun hc => cmpN_gt (lim_len_lt hc)
  have VS : Hid (cmpN (val x) (val y) = cmpN (val (lim (val x))) (val (lim (val y)))) := by rw [vx, vy]; exact rfl
  clear vx vy
  have wb : Below w.heap.size w w := Below.refl _ _
  go_enter Tryz.func156, Tryz.ntmps156
  go_wp2_with fail
  refine (refTrim_any _ x _ hdx h (by omega)).mono ?_
  rintro e w1 ⟨v1, rfl, h1, hb1⟩
  go_wp2_with fail
  refine (refTrim_any _ y _ hdy (h'.after hb1) (by omega)).mono ?_
  rintro e w2 ⟨v2, rfl, h2, hb2⟩
  replace h1 := (h1.low (Nat.zero_le _)).after hb2
  replace h2 := h2.low (Nat.zero_le _)
  have hb : Below w.heap.size w w2 := hb1.trans (hb2.mono hb1.size)
  clear hb1 hb2 wb
  generalize lim (val x) = p at *
  generalize lim (val y) = q at *
  clear h h' hdx hdy hlx hly
  obtain ⟨Ap, cp, rfl, hcp, hmp, _, hxp⟩ := h1
  obtain ⟨Aq, cq, rfl, hcq, hmq, _, hxq⟩ := h2
  by_cases hne : p.length = q.length
  · have hne1 : ((p.length : Int) != (q.length : Int)) = false := bne_false (by omega)
    have hle : p.length ≤ q.length ∧ q.length ≤ p.length := by omega
    clear hne C1 C2
    go_wp2_with fail
    go_loopw [7] (fun i wr => ∃ z : Int, i = .int .i64 z ∧ -1 ≤ z ∧ z < p.length ∧ Hid (p.drop (z + 1).toNat = q.drop (z + 1).toNat) ∧ Hid (∀ a : Addr, a.block < w2.heap.size → wr.cell? a = w2.cell? a) ∧ Below w.heap.size w wr) (fun i _ => (intOf i + 1).toNat)
    case atStart => exact ⟨_, rfl, by omega, by omega, by
      show _ = _
      rw [List.drop_eq_nil_of_le (by omega), List.drop_eq_nil_of_le (by omega)], fun _ _ => rfl, hb⟩
    case round =>
      clear hb
      obtain ⟨z, rfl, hz1, hz2, hd, hw, hb⟩ := hrel
      by_cases hz : 0 ≤ z
      · obtain ⟨j, rfl⟩ := Int.eq_ofNat_of_zero_le hz
        have hj : j < p.length := by omega
        have hk : j < q.length := by omega
        have e1 : ((j : Int) + 1).toNat = j + 1 := by omega
        rw [e1] at hd
        obtain ⟨ba, oa, rfl, _, hba, hca⟩ := hxp (by omega)
        obtain ⟨bb, ob, rfl, _, hbb, hcb⟩ := hxq (by omega)
        have a1 := (hw.out ⟨ba, oa + j, none⟩ hba).trans (hca j hj)
        have a2 := (hw.out ⟨bb, ob + j, none⟩ hbb).trans (hcb j hk)
        have i1 : (j : Int) < (p.length : Int) := by omega
        have i2 : (j : Int) < (q.length : Int) := by omega
        clear hca hcb hxp hxq e1
        rcases Nat.lt_trichotomy p[j] q[j] with hc | hc | hc
        · have F : Hid (cmpN (val p) (val q) = -1) := cmpN_lt (cmp_at hdp hj hk hc hd.out)
          have t1 : ((p[j] : Nat) : Int) < ((q[j] : Nat) : Int) := by omega
          clear hc hd
          generalize p[j] = pj at *
          generalize q[j] = qj at *
          go_wp2_with fail
          go_quiet (fail)
          go_wp2
          go_ret
          exact ⟨by rw [VS.out, F.out]; rfl, below_drewN hb _⟩
        · have D : Hid (p.drop j = q.drop j) := drop_at hj hk hc hd.out
          have t1 : ¬ ((p[j] : Nat) : Int) < ((q[j] : Nat) : Int) := by omega
          have t2 : ¬ ((q[j] : Nat) : Int) < ((p[j] : Nat) : Int) := by omega
          clear hc hd
          generalize p[j] = pj at *
          generalize q[j] = qj at *
          go_wp2_with fail
          go_quiet (fail)
          go_wp2_with fail
          go_quiet (fail)
          go_wp2
          go_roundw
          case rel => exact ⟨(j : Int) - 1, rfl, by omega, by omega, by
            have e : ((j : Int) - 1 + 1).toNat = j := by omega
            rw [e]; exact D, hw, (by first | exact below_drewN hb _ | exact below_drewN (below_drewN hb _) _)⟩
          case measure => first | (simp [intOf]; done) | (simp [intOf]; omega)
        · have F : Hid (cmpN (val p) (val q) = 1) := cmpN_gt (cmp_at hdq hk hj hc hd.out.symm)
          have t1 : ¬ ((p[j] : Nat) : Int) < ((q[j] : Nat) : Int) := by omega
          have t2 : ((q[j] : Nat) : Int) < ((p[j] : Nat) : Int) := by omega
          clear hc hd
          generalize p[j] = pj at *
          generalize q[j] = qj at *
          go_wp2_with fail
          go_quiet (fail)
          go_wp2_with fail
          go_quiet (fail)
          go_wp2
          go_ret
          exact ⟨by rw [VS.out, F.out]; rfl, below_drewN (below_drewN hb _) _⟩
      · have hz3 : z = -1 := by omega
        have hz4 : ¬ (0 : Int) ≤ z := hz
        have F : Hid (cmpN (val p) (val q) = 0) := by
          have := hd.out
          rw [hz3] at this
          simp at this
          rw [this]
          exact cmpN_eq rfl
        clear hz3 hd hxp hxq
        go_wp2
        go_ret
        exact ⟨by rw [VS.out, F.out]; rfl, hb⟩
  · have hne1 : ((p.length : Int) != (q.length : Int)) = true := bne_true (by omega)
    by_cases hlt : p.length < q.length
    · have F := Lib.hid (C1.out hlt)
      clear hne C1 C2 hxp hxq
      go_wp2
      go_ret
      exact ⟨by rw [F.out]; rfl, hb⟩
    · have F := Lib.hid (C2.out (by omega))
      clear hne C1 C2 hxp hxq
      go_wp2
      go_ret
      exact ⟨by rw [F.out]; rfl, hb⟩
end Go.Proofs.YtchokmhfgikglaaGreatDoor

namespace Go.Proofs.YtchokmhfgikglaaGreatDoor
set_option maxRecDepth 100000
open Go.RowKit

theorem xor_top {a : Nat} (h : a < 4294967296) : 4294967295 ^^^ a < 4294967296 := Nat.xor_lt_two_pow (n := 32) (by omega) (by omega)
theorem xor_lt {a b : Nat} (h : a < 4294967296) (hb : b < 4294967296) : a ^^^ b < 4294967296 := Nat.xor_lt_two_pow (n := 32) (by omega) (by omega)
theorem and_lt {a b : Nat} (hb : b < 4294967296) : a &&& b < 4294967296 := Nat.and_lt_two_pow (n := 32) _ (by omega)

theorem borrow_run (x y d : Nat) (hx : x < 4294967296) (hy : y < 4294967296) (hd : d < 4294967296) :
    bits BinOp.or IntKind.u32 (bits BinOp.and IntKind.u32 (bits BinOp.xor IntKind.u32 IntKind.u32.max (x : Int)) (y : Int))
      (bits BinOp.and IntKind.u32 (bits BinOp.xor IntKind.u32 IntKind.u32.max (bits BinOp.xor IntKind.u32 (x : Int) (y : Int))) (d : Int)) / 2147483648 =
      (((((4294967295 ^^^ x) &&& y) ||| ((4294967295 ^^^ (x ^^^ y)) &&& d)) / 2147483648 : Nat) : Int) := by
  have e : IntKind.u32.max = ((4294967295 : Nat) : Int) := rfl
  rw [e, u32_xor_nat _ _ (by omega) hx, u32_and_nat _ _ (xor_top hx) hy, u32_xor_nat _ _ hx hy, u32_xor_nat _ _ (by omega) (xor_lt hx hy), u32_and_nat _ _ (xor_top (xor_lt hx hy)) hd,
    u32_or_nat _ _ (and_lt hy) (and_lt hd)]
  exact (Int.natCast_ediv _ _).symm

set_option maxHeartbeats 800000 in
theorem sub32_any (x y b : Nat) (w : World) (hx : x < 4294967296) (hy : y < 4294967296) (hb : b ≤ 1) :
    Calls Tryz.prog 224 #[.int .u32 (x : Int), .int .u32 (y : Int), .int .u32 (b : Int)] w fun e w' => e = .returned (.tuple #[.int .u32 (((x + 8589934592 - y - b) % 4294967296 : Nat) : Int), .int .u32 ((if x < y + b then 1 else 0 : Nat) : Int)]) ∧ w = w' := by
  obtain ⟨d, hd⟩ : ∃ d, d = (x + 8589934592 - y - b) % 4294967296 := ⟨_, rfl⟩
  have hdl : d < 4294967296 := by omega
  have hdi : ((x : Int) - (y : Int) - (b : Int)) % 4294967296 = (d : Int) := by omega
  have hdj : (((x : Int) - (y : Int)) % 4294967296 - (b : Int)) % 4294967296 = (d : Int) := by omega
  have hbr := borrow_run x y d hx hy hdl
  rw [borrow_eq x y b d hx hy hb hd] at hbr
  rw [← hd]
  obtain ⟨r, hr⟩ : ∃ r : Nat, r = if x < y + b then 1 else 0 := ⟨_, rfl⟩
  rw [← hr] at hbr ⊢
  clear hr hd
  have hsg : IntKind.u32.signed = false := rfl
  go_enter Tryz.func224, Tryz.ntmps224
  go_wp2
  go_ret2
  refine ⟨?_, rfl⟩
  show Ending.returned (.tuple #[.int .u32 ((((x : Int) - (y : Int)) % 4294967296 - (b : Int)) % 4294967296), .int .u32 (r : Int)]) = _
  rw [hdj]
end Go.Proofs.YtchokmhfgikglaaGreatDoor
