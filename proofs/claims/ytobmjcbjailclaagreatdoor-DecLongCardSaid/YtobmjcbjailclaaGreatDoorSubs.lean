/- 'Sub' of the program and of the reference by their contracts. Condition: a bound on lengths. -/
import Derived.Test.YtobmjcbjailclaaGreatDoorSub32
namespace Go.Proofs.YtobmjcbjailclaaGreatDoor
set_option maxRecDepth 100000
open Go.RowKit

/-- A row and whether there is one. -/
def GivesB (x : List Nat) (b : Bool) (w : World) (e : Ending) (w' : World) : Prop :=
  ∃ v', e = .returned (.tuple #[v', .bool b]) ∧ Nt w' w.heap.size w'.heap.size v' x ∧ Below w.heap.size w w'

set_option maxHeartbeats 3200000 in
theorem sub_any (u v : Value) (x y : List Nat) (w : World) (hdx : Dig x) (hdy : Dig y) (h : Nt w 0 w.heap.size u x) (h' : Nt w 0 w.heap.size v y) (hlx : x.length ≤ 100000) (hly : y.length ≤ 100000) :
    Calls Tryz.prog 52 #[u, v] w (GivesB (lim (val x - val y)) (decide (val y ≤ val x)) w) := by
  by_cases hlt : val x < val y
  · have e1 : lim (val x - val y) = [] := by rw [Nat.sub_eq_zero_of_le (Nat.le_of_lt hlt)]; exact lim_zero
    have e2 : decide (val y ≤ val x) = false := decide_eq_false (by omega)
    rw [e1, e2]
    have C := Lib.hid (cmpN_lt hlt)
    clear e1 e2 hlt
    go_enter Tryz.func52, Tryz.ntmps52
    go_wp2_with fail
    refine (cmp_any _ _ x y _ hdx hdy h h' hlx hly).mono ?_
    rintro e w1 ⟨rfl, hb⟩
    rw [C.out]
    go_wp2
    go_ret2
    exact ⟨_, rfl, Nt.nil _ _ _, hb⟩
  · have e2 : decide (val y ≤ val x) = true := decide_eq_true (by omega)
    rw [e2]
    have hle : val y ≤ val x := by omega
    have C : Hid (¬ cmpN (val x) (val y) < 0) := by
      show ¬ _
      rw [cmpN_neg]; exact hlt
    have hxl := limBd' hdx _ hlx
    have hyl := limBd' hdy _ hly
    have vx := val_lim (val x)
    have vy := val_lim (val y)
    have hdp := dig_lim (val x)
    have hdq := dig_lim (val y)
    have VS : Hid (lim (val x - val y) = lim (val (lim (val x)) - val (lim (val y)))) := by rw [vx, vy]; exact rfl
    have HLE : Hid (val (lim (val y)) ≤ val (lim (val x))) := by rw [vx, vy]; exact hle
    clear vx vy e2 hlt hle
    generalize hcz : cmpN (val x) (val y) = cz at *
    have CZ := Lib.hid hcz
    clear hcz
    have hcn : ¬ cz < 0 := C.out
    clear C
    go_enter Tryz.func52, Tryz.ntmps52
    go_wp2_with fail
    refine (cmp_any _ _ x y _ hdx hdy h h' hlx hly).mono ?_
    rintro e w1 ⟨rfl, hb0⟩
    rw [CZ.out]
    replace h := h.after hb0
    replace h' := h'.after hb0
    go_wp2_with fail
    refine (trim_any _ x _ _ _ hdx h).mono ?_
    rintro e w2 ⟨v1, rfl, h1, rfl⟩
    go_wp2_with fail
    refine (trim_any _ y _ _ _ hdy h').mono ?_
    rintro e w2 ⟨v2, rfl, h2, rfl⟩
    generalize lim (val x) = p at *
    generalize lim (val y) = q at *
    clear h h' hdx hdy hlx hly CZ hcn
    obtain ⟨Ap, cp, rfl, hcp, hmp, _, hxp⟩ := h1
    obtain ⟨Aq, cq, rfl, hcq, hmq, _, hxq⟩ := h2
    have hmk := make_limbs p.length (p.length : Int) rfl (by omega)
    go_wp2_with fail
    go_loopw [7, 8, 9, 10, 24, 37] (fun s _ _ _ i _ wr => ∃ (k b : Nat) (cs : List Nat), k ≤ p.length ∧ i = .int .i64 (k : Nat) ∧ s = .int .u32 (b : Nat) ∧ b ≤ 1 ∧ Dig cs ∧ Hid (cs.length = p.length) ∧ SubAt p q cs b k ∧ Lb wr w1.heap.size 43 cs ∧ Below w1.heap.size w1 wr)
      (fun _ _ _ _ i _ _ => p.length - (intOf i).toNat)
    case atStart => exact ⟨0, 0, _, Nat.zero_le _, rfl, rfl, by omega, dig_zeros _, List.length_replicate, subAt_zero _ _ _, Lb.made w1 _ _, (Below.refl _ _).alloc (Nat.le_refl _) _⟩
    case round =>
      obtain ⟨k, b, cs, hk, rfl, rfl, hbb, hdc, HL, hs, hB, hb⟩ := hrel
      have hcl : p.length ≤ cs.length ∧ cs.length ≤ p.length := by have := HL.out; omega
      by_cases hlt : k < p.length
      · have b1 := hdp.at hlt
        have b2 := dig_getD hdq k
        obtain ⟨ba, oa, rfl, _, hba, hcella⟩ := hxp (by omega)
        have hca := (hb.cell (p := ⟨ba, oa + k, none⟩) hba).trans (hcella k hlt)
        have HS := subAt_step hdp hdq hs (by omega : k < cs.length) hbb
        rw [getD_at hlt] at HS
        have hcc := hB.cell k (by omega)
        have hfr := hB.free k
        clear hs hcella hmk
        by_cases hlq : k < q.length
        · obtain ⟨bb, ob, rfl, _, hbq, hcellb⟩ := hxq (by omega)
          have hcb := (hb.cell (p := ⟨bb, ob + k, none⟩) hbq).trans (hcellb k hlq)
          rw [getD_at hlq] at HS b2
          clear hcellb
          generalize q[k] = qk at *
          have hd2 := hdc.set k ((p[k] + 8589934592 - qk - b) % 4294967296) (Nat.mod_lt _ (by omega))
          have hB2 := hB.put k ((p[k] + 8589934592 - qk - b) % 4294967296)
          have hb2 : Below w1.heap.size w1 (wr.setCell ⟨w1.heap.size, k, none⟩ (.int .u32 (((p[k] + 8589934592 - qk - b) % 4294967296 : Nat) : Int))) := hb.setCell (Nat.le_refl _) _
          have HL2 : Hid ((cs.set k ((p[k] + 8589934592 - qk - b) % 4294967296)).length = p.length) := by have := HL.out; show _ = _; rw [List.length_set]; exact this
          have hq2 : (if p[k] < qk + b then 1 else 0) ≤ 1 := by split <;> omega
          generalize cs.set k ((p[k] + 8589934592 - qk - b) % 4294967296) = cs2 at *
          generalize cs[k] = old at *
          clear hdc hB hb HL hxp hxq hcl
          generalize p[k] = pk at *
          have S := Lib.hid (fun w : World => sub32_any pk qk b w b1 b2 hbb)
          generalize (pk + 8589934592 - qk - b) % 4294967296 = d at *
          generalize (if pk < qk + b then 1 else 0) = r at *
          go_wp2_with fail
          refine (S.out _).mono ?_
          rintro e w3 ⟨rfl, rfl⟩
          clear S
          go_wp2
          go_roundw
          case rel => exact ⟨k + 1, r, cs2, by omega, by go_num, rfl, hq2, hd2, HL2, HS, hB2, hb2⟩
          case measure => simp [intOf]; omega
        · have hqk := getD_out hlq
          generalize q.getD k 0 = qk at *
          have Z : Hid (∀ w : World, Calls Tryz.prog 92 #[.int .u32 ((p[k] : Nat) : Int), .int .u32 0, .int .u32 (b : Int)] w fun e w' => e = .returned (.tuple #[.int .u32 (((p[k] + 8589934592 - qk - b) % 4294967296 : Nat) : Int), .int .u32 ((if p[k] < qk + b then 1 else 0 : Nat) : Int)]) ∧ w = w') := by
            intro w
            have := sub32_any p[k] qk b w b1 b2 hbb
            rw [hqk] at this ⊢
            exact this
          clear hqk
          have hd2 := hdc.set k ((p[k] + 8589934592 - qk - b) % 4294967296) (Nat.mod_lt _ (by omega))
          have hB2 := hB.put k ((p[k] + 8589934592 - qk - b) % 4294967296)
          have hb2 : Below w1.heap.size w1 (wr.setCell ⟨w1.heap.size, k, none⟩ (.int .u32 (((p[k] + 8589934592 - qk - b) % 4294967296 : Nat) : Int))) := hb.setCell (Nat.le_refl _) _
          have HL2 : Hid ((cs.set k ((p[k] + 8589934592 - qk - b) % 4294967296)).length = p.length) := by have := HL.out; show _ = _; rw [List.length_set]; exact this
          have hq2 : (if p[k] < qk + b then 1 else 0) ≤ 1 := by split <;> omega
          generalize cs.set k ((p[k] + 8589934592 - qk - b) % 4294967296) = cs2 at *
          generalize cs[k] = old at *
          clear hdc hB hb HL hxp hxq hcl
          generalize p[k] = pk at *
          generalize (pk + 8589934592 - qk - b) % 4294967296 = d at *
          generalize (if pk < qk + b then 1 else 0) = r at *
          go_wp2_with fail
          refine (Z.out _).mono ?_
          rintro e w3 ⟨rfl, rfl⟩
          clear Z
          go_wp2
          go_roundw
          case rel => exact ⟨k + 1, r, cs2, by omega, by go_num, rfl, hq2, hd2, HL2, HS, hB2, hb2⟩
          case measure => simp [intOf]; omega
      · obtain rfl : k = p.length := by omega
        have hv := subAt_end hdp hdc hs HL.out HLE.out
        have hr := hB.reads (n := p.length) (by omega) (by unfold maxLen; omega)
        have hl2 := HL.out
        rw [hl2, List.take_of_length_le (by omega)] at hr
        have V := Lib.hid hv
        clear hs HL hB hcl hv hxp hxq hmk hl2
        go_wp2_with fail
        refine (trim_any _ cs _ _ _ hdc hr).mono ?_
        rintro e w2 ⟨v3, rfl, h3, rfl⟩
        rw [V.out] at h3
        go_wp2
        go_ret2
        exact ⟨_, rfl, by rw [VS.out]; exact h3.low hb0.size, hb0.trans (hb.mono hb0.size)⟩
end Go.Proofs.YtobmjcbjailclaaGreatDoor
