/- 'Shift' by its contract: to the left; both together. Condition: a bound on lengths. -/
import Derived.Test.YtdgfijnficbblaaDoorShift
import Derived.Laws.CopyOwn
import Derived.Deep.RegionHeld3
import Derived.Deep.DrawnRows
import Derived.Outline
namespace Go.Proofs.YtdgfijnficbblaaDoor
open Go.RowKit
attribute [local go_sem ↓] Go.wp_at_zero Go.wp_at_succ

theorem Tryd.size32 : (Tryd.prog.info? 33).map (·.size) = some 1 := by kernel_rfl

theorem splice_val (N L : Nat) (c : List Nat) (h : N = L + c.length) : splice (lv (List.replicate N 0)) L (lv c) = lv (List.replicate L 0 ++ c) := by
  subst h
  unfold splice lv
  rw [List.map_replicate, List.length_map, List.take_replicate, List.drop_replicate, List.map_append, List.map_replicate, Nat.min_eq_left (by omega), Nat.sub_self]
  simp

theorem step_copy_limbs {P : Program} {ops : Array Oper} {o : Oper} {a : Act} {w : World} {K : Act → World → Prop} {Q : Exit → Act → World → Prop} {E : Prop} (hgd : o.guard = none) (d s : Operand) (dT sT : TypeId)
    (ho : o.op = .call { callee := .builtin .copy, args := #[d, s], argTypes := #[dT, sT] }) (elem : TypeId) (hu : P.underlying dT = some (.slice elem)) (hsz : (P.info? elem).map (·.size) = some 1)
    (g L dLen n g2 N : Nat) (hd : a.eval d = .slice (some ⟨g, L, none⟩) dLen dLen) (hs : a.eval s = .slice (some ⟨g2, 0, none⟩) n n) (t t2 : TypeId) (c : List Nat)
    (hB : Lb w g t (List.replicate N 0)) (hC : Lb w g2 t2 c) (hcn : c.length = n) (hdn : dLen = n) (hN : N = L + n) (B : Nat) (w0 : World) (hb : Below B w0 w) (hBg : B ≤ g)
    (h : ∀ w', Lb w' g t (List.replicate L 0 ++ c) → Below B w0 w' → K (a.put o.dst (goInt (lv c).length)) w') :
    if Region.wanted o (yielded ops a.tmps) = true then Oper.wp P o a w K Q else E := by
  subst hdn hN
  refine step_copy_splice hgd d s dT sT ho elem hu hsz _ _ _ _ _ _ hd hs g L (lv (List.replicate (L + dLen) 0)) t hB (lv c) ?_ ?_ ?_ (lv_one _) B w0 hb hBg ?_
  · rw [lv_length, hcn]; exact (Nat.min_self _).symm
  · intro _
    refine ⟨rfl, _, rfl, fun j v hv => ?_⟩
    have hj : j < c.length := by
      rw [← lv_length]
      exact (List.getElem?_eq_some_iff.1 hv).1
    rw [lv_at, List.getElem?_eq_getElem hj] at hv
    have := hC.cell j hj
    rw [show (Addr.mk g2 0 none).add j = ⟨g2, j, none⟩ by simp [Addr.add]; exact fun h => h.symm]
    rw [this]
    exact hv
  · rw [lv_length, lv_length, List.length_replicate, hcn]; exact Nat.le_refl _
  · intro w' hg hb'
    have e := hg.out
    rw [splice_val _ _ _ (by rw [hcn])] at e
    exact h w' e hb'

end Go.Proofs.YtdgfijnficbblaaDoor
