/- 'Shift' by its contract: to the left; both together. Condition: a bound on lengths. -/
import Derived.Test.YtobmjcbjailclaaGreatDoorShift
import Derived.Laws.CopyOwn
import Derived.Deep.RegionHeld3
import Derived.Deep.DrawnRows
import Derived.Outline
namespace Go.Proofs.YtobmjcbjailclaaGreatDoor
set_option maxRecDepth 100000
open Go.RowKit
attribute [local go_sem ↓] Go.wp_at_zero Go.wp_at_succ

theorem left_any' (v : Value) (a : List Nat) (s n : Nat) (z t : Int) (hz : z = (n : Int)) (ht : t = (s : Int)) (w : World) (hd : Dig a) (h : Nt w 0 w.heap.size v a) (hl : a.length ≤ 100000) (hs : s ≤ 31) (hn1 : a.length ≤ n) (hn2 : n ≤ a.length + 1) (hf : n = a.length → val a * 2 ^ s < 4294967296 ^ a.length) :
    Calls Tryz.prog 133 #[v, .int .u64 t, .int .i64 z] w (LeftPost a s n w) := by
  subst hz; subst ht
  exact left_any v a s n w hd h hl hs hn1 hn2 hf

theorem Tryz.size32 : (Tryz.prog.info? 43).map (·.size) = some 1 := by kernel_rfl

theorem splice_val (N L : Nat) (c : List Nat) (h : N = L + c.length) : splice (lv (List.replicate N 0)) L (lv c) = lv (List.replicate L 0 ++ c) := by
  subst h
  unfold splice lv
  rw [List.map_replicate, List.length_map, List.take_replicate, List.drop_replicate, List.map_append, List.map_replicate, Nat.min_eq_left (by omega), Nat.sub_self]
  simp

theorem step_copy_limbs {P : Program} {ops : Array Oper} {o : Oper} {a : Act} {w : World} {K : Act → World → Prop} {Q : Exit → Act → World → Prop} {E : Prop} (hgd : o.guard = none) (d s : Operand) (dT sT : TypeId)
    (ho : o.op = .call { callee := .builtin .copy, args := #[d, s], argTypes := #[dT, sT] }) (elem : TypeId) (hu : P.underlying dT = some (.slice elem)) (hsz : (P.info? elem).map (·.size) = some 1)
    (g L dLen n g2 N : Nat) (hd : a.eval d = .slice (some ⟨g, L, none⟩) dLen dLen) (hs : a.eval s = .slice (some ⟨g2, 0, none⟩) n n) (t t2 : TypeId) (c : List Nat)
    (hB : Lb w g t (List.replicate N 0)) (hC : Lb w g2 t2 c) (hcn : c.length = n) (hdn : dLen = n) (hN : N = L + n) (B : Nat) (w0 : World) (hb : Below B w0 w) (hBg : B ≤ g)
    (h : ∀ w', Lb w' g t (List.replicate L 0 ++ c) → Below B w0 w' → K (a.put o.dst (goInt (lv c).length)) w') :
    if Region.wanted o (yielded ops a.tmps) = true then Oper.wp P o a w K Q else E := by
  subst hdn hN
  refine step_copy_splice hgd d s dT sT ho elem hu hsz _ _ _ _ _ _ hd hs g L (lv (List.replicate (L + dLen) 0)) t hB (lv c) ?_ ?_ ?_ (lv_one _) B w0 hb hBg ?_
  · rw [lv_length, hcn]; exact (Nat.min_self _).symm
  · intro _
    refine ⟨rfl, _, rfl, fun j v hv => ?_⟩
    have hj : j < c.length := by
      rw [← lv_length]
      exact (List.getElem?_eq_some_iff.1 hv).1
    rw [lv_at, List.getElem?_eq_getElem hj] at hv
    have := hC.cell j hj
    rw [show (Addr.mk g2 0 none).add j = ⟨g2, j, none⟩ by simp [Addr.add]; exact fun h => h.symm]
    rw [this]
    exact hv
  · rw [lv_length, lv_length, List.length_replicate, hcn]; exact Nat.le_refl _
  · intro w' hg hb'
    have e := hg.out
    rw [splice_val _ _ _ (by rw [hcn])] at e
    exact h w' e hb'

set_option maxHeartbeats 3200000 in
theorem shiftLeft_in (v : Value) (x : List Nat) (n : Int) (j : Nat) (w : World) (hd : Dig x) (h : Nt w 0 w.heap.size v x) (hl : x.length ≤ 90000) (hj1 : j ≤ 4096) (hn : n = (j : Int)) :
    Calls Tryz.prog 117 #[v, .int .i64 n] w (Gives (lim (val x * 2 ^ j)) w) := by
  subst hn
  have g1 : ¬ (j : Int) < -4096 := by omega
  have g2 : ¬ (4096 : Int) < (j : Int) := by omega
  have hxl := limBd' hd _ hl
  have vx := val_lim (val x)
  have hdp := dig_lim (val x)
  have VS : Hid (lim (val x * 2 ^ j) = lim (val (lim (val x)) * 2 ^ j)) := by rw [vx]; exact rfl
  clear vx
  obtain ⟨L, hL⟩ : ∃ L, j / 32 = L := ⟨_, rfl⟩
  obtain ⟨s, hs⟩ : ∃ s, j % 32 = s := ⟨_, rfl⟩
  have l1 : (j : Int) / 32 = (L : Int) := by omega
  have l2 : (j : Int) % 32 = (s : Int) := by omega
  have hs31 : s ≤ 31 := by omega
  have l3 : ¬ (j : Int) < 0 := by omega
  have HLJ : Hid (L = j / 32 ∧ s = j % 32) := ⟨hL.symm, hs.symm⟩
  have l4 : L ≤ 128 := by omega
  clear hL hs
  go_enter Tryz.func117, Tryz.ntmps117
  go_wp2_with fail
  refine (trim_any _ x _ _ _ hd h).mono ?_
  rintro e w1 ⟨v1, rfl, h1, rfl⟩
  generalize lim (val x) = p at *
  clear h hd hl
  have h1' := h1
  obtain ⟨A, c, rfl, hc, hm, _, hx⟩ := h1
  have hmk := make_limbs (L + p.length + 1) ((L : Int) + (p.length : Int) + 1) (by omega) (by omega)
  go_wp2_with fail
  have hB0 := Lb.made w 43 (L + p.length + 1)
  have hb0 : Below w.heap.size w (w.alloc (.cells (madeCells #[.int .u32 0] (L + p.length + 1)) 43)) := (Below.refl _ _).alloc (Nat.le_refl _) _
  generalize w.alloc (.cells (madeCells #[.int .u32 0] (L + p.length + 1)) 43) = w0 at *
  have hn0 : Nt w0 0 w0.heap.size (.slice A p.length c) p := h1'.after hb0
  have z1 : IntKind.i64.wrap ((p.length : Int) + 1) = ((p.length + 1 : Nat) : Int) := by rw [IntWalk.i64_in _ (by omega)]; rfl
  have z2 : IntKind.u64.wrap ((j : Int).tmod 32) = (s : Int) := by rw [Int.tmod_eq_emod_of_nonneg (by omega), l2, IntWalk.u64_in _ (by omega)]
  have hlf := left_any' (.slice A p.length c) p s (p.length + 1) (IntKind.i64.wrap ((p.length : Int) + 1)) (IntKind.u64.wrap ((j : Int).tmod 32)) z1 z2 w0.drew hdp hn0.drew (by omega) hs31 (by omega) (by omega) (by omega)
  have HLF := Lib.hid hlf
  have hlg := hB0.lt
  clear hlf hx hmk h1' z1 z2
  unfold maxLen at hm
  have i1 : (0 : Int) ≤ (L : Int) := by omega
  have i2 : (L : Int) ≤ (L : Int) + (p.length : Int) + 1 := by omega
  go_region_held3 (fun W => Below w.heap.size w W)
    (first | assumption | exact hb0.drew | exact hb0.trans (Below.mono (by assumption) hb0.size))
    (first
      | (go_at_call 133; refine HLF.out.mono ?_; rintro e w2 ⟨cl, rfl, hcB, hcl, hdc, hcv, hb2⟩; have hbk : Below w0.heap.size w0 w2 := Below.trans (Below.drew (Below.refl _ _)) hb2; have hB2 := hB0.drew.below hb2 hlg; have HCL := Lib.hid hcl; have HCV := Lib.hid hcv; clear hcl hcv)
      | (refine step_copy_limbs (by rfl) (.tmp 83) (.tmp 91) 23 23 (by rfl) 43 Tryz.underlying23 Tryz.size32 w.heap.size L _ (p.length + 1) w0.heap.size (L + p.length + 1) (by rfl) (by rfl) 43 43 cl hB2 hcB HCL.out (by omega) (by omega) w.heap.size w (hb0.trans (hbk.mono hb0.size)) (Nat.le_refl _) ?_; intro w3 hB3 hb3)
      | fail)
  have hdz : Dig (List.replicate L 0 ++ cl) := by
    intro y hy
    rcases List.mem_append.1 hy with hy | hy
    · exact dig_zeros L y hy
    · exact hdc y hy
  have hl2 : (List.replicate L 0 ++ cl).length = L + p.length + 1 := by rw [List.length_append, List.length_replicate, HCL.out]; rfl
  have hr := hB3.reads (n := L + p.length + 1) (by omega) (by unfold maxLen; omega)
  rw [hl2, List.take_of_length_le (by omega)] at hr
  have hv : val (List.replicate L 0 ++ cl) = val p * 2 ^ j := by
    rw [val_append, val_zeros, Nat.zero_add, List.length_replicate, HCV.out, HLJ.out.1, HLJ.out.2, shift_left_eq]
  have V := Lib.hid hv
  clear hv hl2 hB3 hB2 hcB hbk hdc HCL HCV hB0 hn0 HLF hlg hb0 hb2
  go_wp2_with fail
  refine (trim_any _ _ _ _ _ hdz hr).mono ?_
  rintro e w4 ⟨v3, rfl, h3, rfl⟩
  rw [V.out] at h3
  go_wp2
  go_ret
  exact ⟨_, rfl, by rw [VS.out]; exact h3, hb3⟩

set_option maxHeartbeats 3200000 in
theorem shiftLeft_out (v : Value) (x : List Nat) (n : Int) (j : Nat) (w : World) (hd : Dig x) (h : Nt w 0 w.heap.size v x) (hl : x.length ≤ 90000) (hn : (4096 : Int) < n) (he : (4096 : Int) = (j : Int)) :
    Calls Tryz.prog 117 #[v, .int .i64 n] w (Gives (lim (val x * 2 ^ j)) w) := by
  have hj1 : j ≤ 4096 := by omega
  have g1 : ¬ n < -4096 := by omega
  have g3 : ¬ n < -(j : Int) := by omega
  have g2 : (j : Int) < n := by omega
  clear hn
  have hxl := limBd' hd _ hl
  have vx := val_lim (val x)
  have hdp := dig_lim (val x)
  have VS : Hid (lim (val x * 2 ^ j) = lim (val (lim (val x)) * 2 ^ j)) := by rw [vx]; exact rfl
  clear vx
  obtain ⟨L, hL⟩ : ∃ L, j / 32 = L := ⟨_, rfl⟩
  obtain ⟨s, hs⟩ : ∃ s, j % 32 = s := ⟨_, rfl⟩
  have l1 : (j : Int) / 32 = (L : Int) := by omega
  have l2 : (j : Int) % 32 = (s : Int) := by omega
  have hs31 : s ≤ 31 := by omega
  have l3 : ¬ (j : Int) < 0 := by omega
  have HLJ : Hid (L = j / 32 ∧ s = j % 32) := ⟨hL.symm, hs.symm⟩
  have l4 : L ≤ 128 := by omega
  clear hL hs
  go_enter Tryz.func117, Tryz.ntmps117
  go_wp2_with fail
  refine (trim_any _ x _ _ _ hd h).mono ?_
  rintro e w1 ⟨v1, rfl, h1, rfl⟩
  generalize lim (val x) = p at *
  clear h hd hl
  have h1' := h1
  obtain ⟨A, c, rfl, hc, hm, _, hx⟩ := h1
  have hmk := make_limbs (L + p.length + 1) ((L : Int) + (p.length : Int) + 1) (by omega) (by omega)
  go_wp2_with fail
  have hB0 := Lb.made w 43 (L + p.length + 1)
  have hb0 : Below w.heap.size w (w.alloc (.cells (madeCells #[.int .u32 0] (L + p.length + 1)) 43)) := (Below.refl _ _).alloc (Nat.le_refl _) _
  generalize w.alloc (.cells (madeCells #[.int .u32 0] (L + p.length + 1)) 43) = w0 at *
  have hn0 : Nt w0 0 w0.heap.size (.slice A p.length c) p := h1'.after hb0
  have z1 : IntKind.i64.wrap ((p.length : Int) + 1) = ((p.length + 1 : Nat) : Int) := by rw [IntWalk.i64_in _ (by omega)]; rfl
  have z2 : IntKind.u64.wrap ((j : Int).tmod 32) = (s : Int) := by rw [Int.tmod_eq_emod_of_nonneg (by omega), l2, IntWalk.u64_in _ (by omega)]
  have hlf := left_any' (.slice A p.length c) p s (p.length + 1) (IntKind.i64.wrap ((p.length : Int) + 1)) (IntKind.u64.wrap ((j : Int).tmod 32)) z1 z2 w0.drew hdp hn0.drew (by omega) hs31 (by omega) (by omega) (by omega)
  have HLF := Lib.hid hlf
  have hlg := hB0.lt
  clear hlf hx hmk h1' z1 z2
  unfold maxLen at hm
  have i1 : (0 : Int) ≤ (L : Int) := by omega
  have i2 : (L : Int) ≤ (L : Int) + (p.length : Int) + 1 := by omega
  go_region_held3 (fun W => Below w.heap.size w W)
    (first | assumption | exact hb0.drew | exact hb0.trans (Below.mono (by assumption) hb0.size))
    (first
      | (go_at_call 133; refine HLF.out.mono ?_; rintro e w2 ⟨cl, rfl, hcB, hcl, hdc, hcv, hb2⟩; have hbk : Below w0.heap.size w0 w2 := Below.trans (Below.drew (Below.refl _ _)) hb2; have hB2 := hB0.drew.below hb2 hlg; have HCL := Lib.hid hcl; have HCV := Lib.hid hcv; clear hcl hcv)
      | (refine step_copy_limbs (by rfl) (.tmp 83) (.tmp 91) 23 23 (by rfl) 43 Tryz.underlying23 Tryz.size32 w.heap.size L _ (p.length + 1) w0.heap.size (L + p.length + 1) (by rfl) (by rfl) 43 43 cl hB2 hcB HCL.out (by omega) (by omega) w.heap.size w (hb0.trans (hbk.mono hb0.size)) (Nat.le_refl _) ?_; intro w3 hB3 hb3)
      | fail)
  have hdz : Dig (List.replicate L 0 ++ cl) := by
    intro y hy
    rcases List.mem_append.1 hy with hy | hy
    · exact dig_zeros L y hy
    · exact hdc y hy
  have hl2 : (List.replicate L 0 ++ cl).length = L + p.length + 1 := by rw [List.length_append, List.length_replicate, HCL.out]; rfl
  have hr := hB3.reads (n := L + p.length + 1) (by omega) (by unfold maxLen; omega)
  rw [hl2, List.take_of_length_le (by omega)] at hr
  have hv : val (List.replicate L 0 ++ cl) = val p * 2 ^ j := by
    rw [val_append, val_zeros, Nat.zero_add, List.length_replicate, HCV.out, HLJ.out.1, HLJ.out.2, shift_left_eq]
  have V := Lib.hid hv
  clear hv hl2 hB3 hB2 hcB hbk hdc HCL HCV hB0 hn0 HLF hlg hb0 hb2
  go_wp2_with fail
  refine (trim_any _ _ _ _ _ hdz hr).mono ?_
  rintro e w4 ⟨v3, rfl, h3, rfl⟩
  rw [V.out] at h3
  go_wp2
  go_ret
  exact ⟨_, rfl, by rw [VS.out]; exact h3, hb3⟩
end Go.Proofs.YtobmjcbjailclaaGreatDoor
