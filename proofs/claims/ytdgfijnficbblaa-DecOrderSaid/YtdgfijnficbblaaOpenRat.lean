/- An argument that is a number with a divisor, read. Condition: what the platform bounds. -/
import Derived.Test.YtdgfijnficbblaaRefRat
import Derived.ProofKit
import Derived.OpenShut
import Derived.SizedLaws
import Derived.Lib.SmallJoins
namespace Go.Proofs.Ytdgfijnficbblaa
open Go.ChangeShapes Go.WideShapes Go.ChangeAt Go.RowKit Go.Joins

theorem open_nats {H : Type} {enc : TypeId × Value → H} {P : Program} {W : World} {held : Bool} {t e : TypeId} {n : Nat} {v : Value} {y : DataW H × List MemPlace} (ht : P.underlying t = some (.slice e)) (he : P.underlying e = some (.int .u32)) (hc : P.cellsOf e = 1) (hb : P.bytesOf e = 4)
    (h : DataW.trod enc P W 0 (fun _ => true) held n t [v] = some y) (hz : ∀ k ∈ y.1.weights P t, k ≤ reachBytes) : ∃ l : List Nat, Nt W 0 W.heap.size v l ∧ Dig l ∧ l.length ≤ 70368744177664 := by
  rcases open_ints ht he hc h with ⟨hcs, _⟩ | ⟨x, len, cap, zs, hcs, _, hl, hm, hzl, hy, hcell, hwz⟩
  · have hv : v = .slice none 0 0 := by simpa using hcs
    subst hv
    exact ⟨[], Nt.nil _ _ _, (fun k hk => by cases hk), by simp⟩
  · have hv : v = .slice (some x) len cap := by simpa using hcs
    subst hv
    rw [if_pos rfl] at hzl
    obtain ⟨l, hr, hw⟩ := rd_of_nats (w := W) (a := some x) (len := len) (cap := cap) (zs := zs) (.inr ⟨x, rfl, hl, hm, hzl, hcell, hwz⟩)
    refine ⟨l, Nt.of_rd hr, hw, ?_⟩
    have hlen : l.length = len := by
      obtain ⟨A, c, hv, _⟩ := hr
      have := (Value.slice.inj hv).2.1
      rw [lv_length] at this
      exact this.symm
    have h1 := hz ((((lits .u32 (zs.take len) : List (DataW H)).length) + (lits .u32 (zs.drop len) : List (DataW H)).length) * P.bytesOf e) (by rw [hy]; simp [DataW.weights, ht])
    have h2 : (lits .u32 (zs.take len) : List (DataW H)).length = len := by unfold lits; rw [List.length_map, List.length_take]; omega
    rw [h2, hb] at h1
    have h3 := reachBytes_lt
    have h4 : (2 : Nat) ^ 47 = 140737488355328 := by decide
    omega

/-- An argument of three cells: a sign, what is divided, the divisor. -/
theorem open_rat {H : Type} {enc : TypeId × Value → H} {P : Program} {W : World} {r : Reach} {b0 : Nat} {held : Bool} {t t0 t1 e : TypeId} {f0 f1 f2 : Field} {v : Value} {d : DataW H} {p : List MemPlace} (hs : P.underlying t = some (.struct #[f0, f1, f2])) (hone : Deep.oneCellFields P #[f0, f1, f2] = true) (hC : P.cellsOf t = 3)
    (e0 : f0.type = t0) (e1 : f1.type = t1) (e2 : f2.type = t1) (hb : P.underlying t0 = some .bool) (ht : P.underlying t1 = some (.slice e)) (he : P.underlying e = some (.int .u32)) (hc : P.cellsOf e = 1) (h4 : P.bytesOf e = 4)
    (hv : Value.okWide P W r b0 t v) (h : DataW.Trod enc P W 0 (fun _ => true) held t v d p) (hz : ∀ k ∈ d.weights P t, k ≤ reachBytes) :
    ∃ (s : Bool) (n m : List Nat), Rt W 0 W.heap.size v s n m ∧ Dig n ∧ Dig m ∧ n.length ≤ 70368744177664 ∧ m.length ≤ 70368744177664 := by
  obtain ⟨v0, v1, v2, y0, y1, y2, k, rfl, rfl, rfl, h0, h1, h2⟩ := Joins.open_agg3 hs hone hC hv h
  rw [e0] at h0
  rw [e1] at h1
  rw [e2] at h2
  obtain ⟨s, hs0, _⟩ := DataW.trod_bool hb h0
  have hv0 : v0 = .bool s := by simpa using hs0
  subst hv0
  have hw : ∀ k ∈ DataW.weightsEach P [f0.type, f1.type, f2.type] [y0.1, y1.1, y2.1], k ≤ reachBytes := fun k hk => hz k (by simpa [DataW.weights, hs] using hk)
  obtain ⟨n, hn, dn, ln⟩ := open_nats ht he hc h4 h1 fun k hk => hw k (DataW.weights_mem_each (j := 1) (t := f1.type) rfl rfl k (by rw [e1]; exact hk))
  obtain ⟨m, hm, dm, lm⟩ := open_nats ht he hc h4 h2 fun k hk => hw k (DataW.weights_mem_each (j := 2) (t := f2.type) rfl rfl k (by rw [e2]; exact hk))
  exact ⟨s, n, m, ⟨_, _, rfl, hn, hm⟩, dn, dm, ln, lm⟩
end Go.Proofs.Ytdgfijnficbblaa
