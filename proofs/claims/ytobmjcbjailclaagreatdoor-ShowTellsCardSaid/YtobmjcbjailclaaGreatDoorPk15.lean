/- Several texts in one: OpenRat, OpenBall. Condition: each says its own. -/
import Derived.ProofKit
import Derived.OpenShut
import Derived.SizedLaws
import Derived.Lib.SmallJoins
import Derived.Deep.Strs
import Derived.Test.YtobmjcbjailclaaGreatDoorPk7
/- An argument that is a number with a divisor, read. Condition: what the platform bounds. -/
namespace Go.Proofs.YtobmjcbjailclaaGreatDoor
set_option maxRecDepth 100000
open Go.ChangeShapes Go.WideShapes Go.ChangeAt Go.RowKit Go.Joins

theorem open_nats {H : Type} {enc : TypeId × Value → H} {P : Program} {W : World} {held : Bool} {t e : TypeId} {n : Nat} {v : Value} {y : DataW H × List MemPlace} (ht : P.underlying t = some (.slice e)) (he : P.underlying e = some (.int .u32)) (hc : P.cellsOf e = 1) (hb : P.bytesOf e = 4)
    (h : DataW.trod enc P W 0 (fun _ => true) held n t [v] = some y) (hz : ∀ k ∈ y.1.weights P t, k ≤ reachBytes) : ∃ l : List Nat, Nt W 0 W.heap.size v l ∧ Dig l ∧ l.length ≤ 70368744177664 := by
  rcases open_ints ht he hc h with ⟨hcs, _⟩ | ⟨x, len, cap, zs, hcs, _, hl, hm, hzl, hy, hcell, hwz⟩
  · have hv : v = .slice none 0 0 := by simpa using hcs
    subst hv
    exact ⟨[], Nt.nil _ _ _, (fun k hk => by cases hk), by simp⟩
  · have hv : v = .slice (some x) len cap := by simpa using hcs
    subst hv
    rw [if_pos rfl] at hzl
    obtain ⟨l, hr, hw⟩ := rd_of_nats (w := W) (a := some x) (len := len) (cap := cap) (zs := zs) (.inr ⟨x, rfl, hl, hm, hzl, hcell, hwz⟩)
    refine ⟨l, Nt.of_rd hr, hw, ?_⟩
    have hlen : l.length = len := by
      obtain ⟨A, c, hv, _⟩ := hr
      have := (Value.slice.inj hv).2.1
      rw [lv_length] at this
      exact this.symm
    have h1 := hz ((((lits .u32 (zs.take len) : List (DataW H)).length) + (lits .u32 (zs.drop len) : List (DataW H)).length) * P.bytesOf e) (by rw [hy]; simp [DataW.weights, ht])
    have h2 : (lits .u32 (zs.take len) : List (DataW H)).length = len := by unfold lits; rw [List.length_map, List.length_take]; omega
    rw [h2, hb] at h1
    have h3 := reachBytes_lt
    have h4 : (2 : Nat) ^ 47 = 140737488355328 := by decide
    omega

/-- An argument of three cells: a sign, what is divided, the divisor. -/
theorem open_rat {H : Type} {enc : TypeId × Value → H} {P : Program} {W : World} {r : Reach} {b0 : Nat} {held : Bool} {t t0 t1 e : TypeId} {f0 f1 f2 : Field} {v : Value} {d : DataW H} {p : List MemPlace} (hs : P.underlying t = some (.struct #[f0, f1, f2])) (hone : Deep.oneCellFields P #[f0, f1, f2] = true) (hC : P.cellsOf t = 3)
    (e0 : f0.type = t0) (e1 : f1.type = t1) (e2 : f2.type = t1) (hb : P.underlying t0 = some .bool) (ht : P.underlying t1 = some (.slice e)) (he : P.underlying e = some (.int .u32)) (hc : P.cellsOf e = 1) (h4 : P.bytesOf e = 4)
    (hv : Value.okWide P W r b0 t v) (h : DataW.Trod enc P W 0 (fun _ => true) held t v d p) (hz : ∀ k ∈ d.weights P t, k ≤ reachBytes) :
    ∃ (s : Bool) (n m : List Nat), Rt W 0 W.heap.size v s n m ∧ Dig n ∧ Dig m ∧ n.length ≤ 70368744177664 ∧ m.length ≤ 70368744177664 := by
  obtain ⟨v0, v1, v2, y0, y1, y2, k, rfl, rfl, rfl, h0, h1, h2⟩ := Joins.open_agg3 hs hone hC hv h
  rw [e0] at h0
  rw [e1] at h1
  rw [e2] at h2
  obtain ⟨s, hs0, _⟩ := DataW.trod_bool hb h0
  have hv0 : v0 = .bool s := by simpa using hs0
  subst hv0
  have hw : ∀ k ∈ DataW.weightsEach P [f0.type, f1.type, f2.type] [y0.1, y1.1, y2.1], k ≤ reachBytes := fun k hk => hz k (by simpa [DataW.weights, hs] using hk)
  obtain ⟨n, hn, dn, ln⟩ := open_nats ht he hc h4 h1 fun k hk => hw k (DataW.weights_mem_each (j := 1) (t := f1.type) rfl rfl k (by rw [e1]; exact hk))
  obtain ⟨m, hm, dm, lm⟩ := open_nats ht he hc h4 h2 fun k hk => hw k (DataW.weights_mem_each (j := 2) (t := f2.type) rfl rfl k (by rw [e2]; exact hk))
  exact ⟨s, n, m, ⟨_, _, rfl, hn, hm⟩, dn, dm, ln, lm⟩
end Go.Proofs.YtobmjcbjailclaaGreatDoor

/- An argument that is a ball of two numbers with a divisor, read. Condition: what the platform bounds. -/
namespace Go.Proofs.YtobmjcbjailclaaGreatDoor
set_option maxRecDepth 100000
open Go.ChangeShapes Go.WideShapes Go.ChangeAt Go.RowKit Go.Joins

/-- Three cells that are a number with a divisor. -/
theorem rat_cells {H : Type} {enc : TypeId × Value → H} {P : Program} {W : World} {held : Bool} {t t0 t1 e : TypeId} {f0 f1 f2 : Field} {fuel : Nat} {v0 v1 v2 : Value} {y : DataW H × List MemPlace} (hs : P.underlying t = some (.struct #[f0, f1, f2])) (hone : Deep.oneCellFields P #[f0, f1, f2] = true)
    (e0 : f0.type = t0) (e1 : f1.type = t1) (e2 : f2.type = t1) (hb : P.underlying t0 = some .bool) (ht : P.underlying t1 = some (.slice e)) (he : P.underlying e = some (.int .u32)) (hc : P.cellsOf e = 1) (h4 : P.bytesOf e = 4)
    (h : DataW.trod enc P W 0 (fun _ => true) held fuel t [v0, v1, v2] = some y) (hz : ∀ k ∈ y.1.weights P t, k ≤ reachBytes) :
    ∃ (s : Bool) (n m : List Nat), Rt W 0 W.heap.size (.agg #[v0, v1, v2]) s n m ∧ Dig n ∧ Dig m ∧ n.length ≤ 70368744177664 ∧ m.length ≤ 70368744177664 := by
  obtain ⟨y0, y1, y2, k, rfl, _, h0, h1, h2⟩ := Deep.trod_struct3 hs h
  obtain ⟨o0, c0⟩ := Deep.hone_of hone 0 f0 rfl
  obtain ⟨o1, c1⟩ := Deep.hone_of hone 1 f1 rfl
  obtain ⟨o2, c2⟩ := Deep.hone_of hone 2 f2 rfl
  rw [o0, c0, e0] at h0
  rw [o1, c1, e1] at h1
  rw [o2, c2, e2] at h2
  obtain ⟨s, hs0, _⟩ := DataW.trod_bool hb h0
  have hv0 : v0 = .bool s := by simpa using hs0
  subst hv0
  have hw : ∀ k ∈ DataW.weightsEach P [f0.type, f1.type, f2.type] [y0.1, y1.1, y2.1], k ≤ reachBytes := fun k hk => hz k (by simpa [DataW.weights, hs] using hk)
  obtain ⟨n, hn, dn, ln⟩ := open_nats ht he hc h4 (v := v1) (by simpa using h1) fun k hk => hw k (DataW.weights_mem_each (j := 1) (t := f1.type) rfl rfl k (by rw [e1]; exact hk))
  obtain ⟨m, hm, dm, lm⟩ := open_nats ht he hc h4 (v := v2) (by simpa using h2) fun k hk => hw k (DataW.weights_mem_each (j := 2) (t := f2.type) rfl rfl k (by rw [e2]; exact hk))
  exact ⟨s, n, m, ⟨_, _, rfl, hn, hm⟩, dn, dm, ln, lm⟩

/-- An argument of six cells: two numbers with a divisor. -/
theorem open_ball {H : Type} {enc : TypeId × Value → H} {P : Program} {W : World} {r : Reach} {b0 : Nat} {held : Bool} {tb t t0 t1 e : TypeId} {g0 g1 f0 f1 f2 : Field} {v : Value} {d : DataW H} {p : List MemPlace} (hsb : P.underlying tb = some (.struct #[g0, g1])) (eg0 : g0.type = t) (eg1 : g1.type = t) (og0 : g0.offset = 0) (og1 : g1.offset = 3) (hC6 : P.cellsOf tb = 6) (hC3 : P.cellsOf t = 3)
    (hs : P.underlying t = some (.struct #[f0, f1, f2])) (hone : Deep.oneCellFields P #[f0, f1, f2] = true)
    (e0 : f0.type = t0) (e1 : f1.type = t1) (e2 : f2.type = t1) (hb : P.underlying t0 = some .bool) (ht : P.underlying t1 = some (.slice e)) (he : P.underlying e = some (.int .u32)) (hc : P.cellsOf e = 1) (h4 : P.bytesOf e = 4)
    (hv : Value.okWide P W r b0 tb v) (h : DataW.Trod enc P W 0 (fun _ => true) held tb v d p) (hz : ∀ k ∈ d.weights P tb, k ≤ reachBytes) :
    ∃ (v0 v1 v2 v3 v4 v5 : Value) (s s' : Bool) (n m n' m' : List Nat), v = .agg #[v0, v1, v2, v3, v4, v5] ∧ Rt W 0 W.heap.size (.agg #[v0, v1, v2]) s n m ∧ Dig n ∧ Dig m ∧ n.length ≤ 70368744177664 ∧ m.length ≤ 70368744177664 ∧
      Rt W 0 W.heap.size (.agg #[v3, v4, v5]) s' n' m' ∧ Dig n' ∧ Dig m' ∧ n'.length ≤ 70368744177664 ∧ m'.length ≤ 70368744177664 := by
  obtain ⟨cs, rfl, hsz⟩ := okWide_struct hsb hv
  rw [hC6] at hsz
  obtain ⟨l⟩ := cs
  match l, hsz with
  | [v0, v1, v2, v3, v4, v5], _ =>
    obtain ⟨fuel, hf⟩ := h
    obtain ⟨y0, y1, k, hx, _, h0, h1⟩ := trod_struct2 hsb hf
    simp only [Prod.mk.injEq] at hx
    obtain ⟨rfl, rfl⟩ := hx
    rw [eg0, hC3, og0] at h0
    rw [eg1, hC3, og1] at h1
    have hw : ∀ k ∈ DataW.weightsEach P [g0.type, g1.type] [y0.1, y1.1], k ≤ reachBytes := fun k hk => hz k (by simpa [DataW.weights, hsb] using hk)
    obtain ⟨s, n, m, a1, a2, a3, a4, a5⟩ := rat_cells hs hone e0 e1 e2 hb ht he hc h4 (v0 := v0) (v1 := v1) (v2 := v2) (by simpa [Value.cells] using h0) fun k hk => hw k (DataW.weights_mem_each (j := 0) (t := g0.type) rfl rfl k (by rw [eg0]; exact hk))
    obtain ⟨s', n', m', b1, b2, b3, b4, b5⟩ := rat_cells hs hone e0 e1 e2 hb ht he hc h4 (v0 := v3) (v1 := v4) (v2 := v5) (by simpa [Value.cells] using h1) fun k hk => hw k (DataW.weights_mem_each (j := 1) (t := g1.type) rfl rfl k (by rw [eg1]; exact hk))
    exact ⟨v0, v1, v2, v3, v4, v5, s, s', n, m, n', m', rfl, a1, a2, a3, a4, a5, b1, b2, b3, b4, b5⟩
end Go.Proofs.YtobmjcbjailclaaGreatDoor
