/- Several texts in one: Rats, Light, FoldA, FoldB, LawTopFold, WrapAnd, OpenStrs. Condition: each says its own. -/
import Derived.HandedShaped
import Derived.Handed
import Derived.Shelf.Vars
import Derived.Test.YtchokmhfgikglaaGreatDoorPk13
import Derived.Test.YtchokmhfgikglaaGreatDoorPk20
import Derived.Test.YtchokmhfgikglaaGreatDoorPk21
import Derived.Test.YtchokmhfgikglaaGreatDoorPk25
import Derived.Test.YtchokmhfgikglaaGreatDoorPk26
namespace Go.Proofs.YtchokmhfgikglaaGreatDoor
set_option maxRecDepth 100000
open Go.RowKit Go.Shelf Go.Lib

theorem same_q (u v : Value) (q : Rat) (w : World) (h : RQ w 0 w.heap.size u q 400) (h' : RQ w 0 w.heap.size v q 400) :
    Calls Tryz.prog 25 #[u, v] w fun e w' => e = .returned (.bool true) ∧ Below w.heap.size w w' := by
  obtain ⟨s, n, d, hR, dn, dd, ln, ld, hq⟩ := h
  obtain ⟨t, m, c, hR', dm, dc, lm, lc, hq'⟩ := h'
  obtain ⟨a1, a2, a3⟩ := nr_q s (val n) (val d)
  obtain ⟨b1, b2, b3⟩ := nr_q t (val m) (val c)
  rw [hq] at a1 a2 a3
  rw [hq'] at b1 b2 b3
  exact same_any u v s t n d m c w dn dd dm dc hR hR' ln ld lm lc _ _ _ _ _ _ a1 a2 a3 b1 b2 b3 rfl rfl rfl

theorem six_after {w w' : World} {b c k : Nat} {a0 a1 a2 b0 b1 b2 : Value} (hs : w.cell? ⟨b, k, none⟩ = some a0 ∧ w.cell? ⟨b, k + 1, none⟩ = some a1 ∧ w.cell? ⟨b, k + 2, none⟩ = some a2 ∧ w.cell? ⟨c, k, none⟩ = some b0 ∧ w.cell? ⟨c, k + 1, none⟩ = some b1 ∧ w.cell? ⟨c, k + 2, none⟩ = some b2)
    (hb : Below w.heap.size w w') (h1 : b < w.heap.size) (h2 : c < w.heap.size) : w'.cell? ⟨b, k, none⟩ = some a0 ∧ w'.cell? ⟨b, k + 1, none⟩ = some a1 ∧ w'.cell? ⟨b, k + 2, none⟩ = some a2 ∧ w'.cell? ⟨c, k, none⟩ = some b0 ∧ w'.cell? ⟨c, k + 1, none⟩ = some b1 ∧ w'.cell? ⟨c, k + 2, none⟩ = some b2 := by
  obtain ⟨x0, x1, x2, y0, y1, y2⟩ := hs
  exact ⟨(hb.cell (p := ⟨b, k, none⟩) h1).trans x0, (hb.cell (p := ⟨b, k + 1, none⟩) h1).trans x1, (hb.cell (p := ⟨b, k + 2, none⟩) h1).trans x2, (hb.cell (p := ⟨c, k, none⟩) h2).trans y0, (hb.cell (p := ⟨c, k + 1, none⟩) h2).trans y1, (hb.cell (p := ⟨c, k + 2, none⟩) h2).trans y2⟩

set_option maxHeartbeats 3200000 in
theorem rats_any (u v : Value) (xs : List Rat) (w : World) (h : RowIn w 0 w.heap.size u xs) (h' : RowIn w 0 w.heap.size v xs) (hz : ∀ q ∈ xs, Sz q 70) :
    Calls Tryz.prog 12 #[u, v] w fun e w' => e = .returned (.bool true) ∧ Below w.heap.size w w' := by
  obtain ⟨A, c, rfl, hc, hm, hA0, hx⟩ := h
  obtain ⟨A', c', rfl, hc', hm', hA0', hx'⟩ := h'
  have HX := Lib.hid hx
  have HX' := Lib.hid hx'
  have HZ : Hid (∀ k (h : k < xs.length), Sz xs[k] 70) := fun k h => hz _ (List.getElem_mem h)
  unfold maxLen at hm hm'
  clear hx hx' hz
  have hne : ((xs.length : Int) != (xs.length : Int)) = false := bne_false rfl
  go_enter Tryz.func12, Tryz.ntmps12
  go_wp2_with fail
  go_loopw [5] (fun i wr => ∃ k : Nat, k ≤ xs.length ∧ i = .int .i64 (k : Int) ∧ Below w.heap.size w wr) (fun i _ => xs.length - (RowKit.intOf i).toNat)
  case atStart => exact ⟨0, Nat.zero_le _, rfl, Below.refl _ _⟩
  case round =>
    obtain ⟨k, hk, rfl, hB⟩ := hrel
    by_cases hkn : k < xs.length
    · have y0 : (k : Int) < (xs.length : Int) := by omega
      obtain ⟨b, rfl, hl, hb, hcell⟩ := HX.out (by omega)
      obtain ⟨b', rfl, hl', hb', hcell'⟩ := HX'.out (by omega)
      obtain ⟨G1, j1, G2, j2, c0, c1, c2, m1, m2⟩ := (hcell k hkn).stay (Nat.zero_le _) hb (Nat.le_refl _) hB.size (fun p _ hp => hB.cell (p := p) hp)
      obtain ⟨G3, j3, G4, j4, d0, d1, d2, m3, m4⟩ := (hcell' k hkn).stay (Nat.zero_le _) hb' (Nat.le_refl _) hB.size (fun p _ hp => hB.cell (p := p) hp)
      have hsz := (HZ.out k hkn).mono (show 70 ≤ 400 by decide)
      have HQ := Lib.hid (RQ.of (v := .agg #[.bool (qS xs[k]), .slice G1 (lim (qN xs[k])).length j1, .slice G2 (lim xs[k].den).length j2]) ⟨_, _, rfl, m1, m2⟩ hsz)
      have HQ' := Lib.hid (RQ.of (v := .agg #[.bool (qS xs[k]), .slice G3 (lim (qN xs[k])).length j3, .slice G4 (lim xs[k].den).length j4]) ⟨_, _, rfl, m3, m4⟩ hsz)
      clear hcell hcell' m1 m2 m3 m4 hl hl' hsz
      generalize xs[k] = q at *
      have z0 : (0 : Int) ≤ (k : Int) := by omega
      have hbs := Nat.lt_of_lt_of_le hb hB.size
      have hbs' := Nat.lt_of_lt_of_le hb' hB.size
      have HS0 : Hid (wr.cell? ⟨b, k * 3, none⟩ = some (.bool (qS q)) ∧ wr.cell? ⟨b, k * 3 + 1, none⟩ = some (.slice G1 (lim (qN q)).length j1) ∧ wr.cell? ⟨b, k * 3 + 2, none⟩ = some (.slice G2 (lim q.den).length j2) ∧ wr.cell? ⟨b', k * 3, none⟩ = some (.bool (qS q)) ∧ wr.cell? ⟨b', k * 3 + 1, none⟩ = some (.slice G3 (lim (qN q)).length j3) ∧ wr.cell? ⟨b', k * 3 + 2, none⟩ = some (.slice G4 (lim q.den).length j4)) := ⟨c0, c1, c2, d0, d1, d2⟩
      have HB := Lib.hid hB
      clear hB
      go_wp2_with fail
      go_region_held3 (fun W => W.cell? ⟨b, k * 3, none⟩ = some (.bool (qS q)) ∧ W.cell? ⟨b, k * 3 + 1, none⟩ = some (.slice G1 (lim (qN q)).length j1) ∧ W.cell? ⟨b, k * 3 + 2, none⟩ = some (.slice G2 (lim q.den).length j2) ∧ W.cell? ⟨b', k * 3, none⟩ = some (.bool (qS q)) ∧ W.cell? ⟨b', k * 3 + 1, none⟩ = some (.slice G3 (lim (qN q)).length j3) ∧ W.cell? ⟨b', k * 3 + 2, none⟩ = some (.slice G4 (lim q.den).length j4))
        (first | exact HS0.out | exact HS5.out | fail)
        (first
          | (go_at_call 25; go_fit (same_q _ _ q _ HQ.out.drew HQ'.out.drew); rintro e w5 ⟨rfl, hb5⟩; have hb6 : Below wr.heap.size wr w5 := Below.trans (Below.drew (Below.refl _ _)) hb5; have HS5 := Lib.hid (six_after HS0.out hb6 hbs hbs'); have HB5 := Lib.hid (HB.out.trans (hb6.mono HB.out.size)))
          | fail)
      go_wp2_with fail
      go_roundw
      case rel => exact ⟨k + 1, by omega, by go_num, HB5.out⟩
      case measure => simp [RowKit.intOf]; omega
    · obtain rfl : k = xs.length := by omega
      have y0 : ¬ ((xs.length : Nat) : Int) < (xs.length : Int) := by omega
      go_wp2_with fail
      go_ret
      exact ⟨rfl, hB⟩
end Go.Proofs.YtchokmhfgikglaaGreatDoor

namespace Go.Proofs.YtchokmhfgikglaaGreatDoor
set_option maxRecDepth 100000
open Go.RowKit Go.Shelf Go.Lib

set_option maxHeartbeats 1600000 in
theorem light_any (t : ByteArray) (w : World) (h9 : t.size ≤ 1000000) :
    Calls Tryz.prog 7 #[.string t] w fun e w' => (e = .returned (.bool false) ∨ e = .returned (.bool true)) ∧ w = w' := by
  go_enter Tryz.func7, Tryz.ntmps7
  go_wp2_with fail
  go_loop [3, 4] (fun r i => ∃ k m : Nat, k ≤ t.size ∧ m ≤ k ∧ i = .int .i64 (k : Int) ∧ r = .int .i64 (m : Int)) (fun _ i => t.size - (RowKit.intOf i).toNat)
  case atStart => exact ⟨0, 0, Nat.zero_le _, Nat.le_refl _, rfl, rfl⟩
  case round =>
    obtain ⟨k, m, hk, hm, rfl, rfl⟩ := hrel
    by_cases hkn : k < t.size
    · have y0 : (k : Int) < (t.size : Int) := by omega
      generalize hb : (t[k]'hkn) = b at *
      have hmw : IntKind.i64.wrap ((m : Int) + 1) = (m : Int) + 1 := by unfold IntKind.wrap; simp [IntKind.signed, IntKind.bits]; omega
      by_cases h1 : (48 : Int) ≤ (b.toNat : Int)
      · by_cases h2 : (b.toNat : Int) ≤ (57 : Int)
        · by_cases h3 : (2 : Int) < (m : Int) + 1
          · go_wp2_with fail
            go_ret
            exact ⟨Or.inl rfl, rfl⟩
          · go_wp2_with fail
            go_round
            case rel => exact ⟨k + 1, m + 1, by omega, by omega, by go_num, rfl⟩
            case measure => simp [RowKit.intOf]; omega
        · go_wp2_with fail
          go_round
          case rel => exact ⟨k + 1, 0, by omega, by omega, by go_num, rfl⟩
          case measure => simp [RowKit.intOf]; omega
      · go_wp2_with fail
        go_round
        case rel => exact ⟨k + 1, 0, by omega, by omega, by go_num, rfl⟩
        case measure => simp [RowKit.intOf]; omega
    · obtain rfl : k = t.size := by omega
      have y0 : ¬ ((t.size : Nat) : Int) < (t.size : Int) := by omega
      go_wp2_with fail
      go_ret
      exact ⟨Or.inr rfl, rfl⟩
end Go.Proofs.YtchokmhfgikglaaGreatDoor

namespace Go.Proofs.YtchokmhfgikglaaGreatDoor
set_option maxRecDepth 100000
open Go.RowKit Go.Shelf Go.Lib

theorem rises_at {ns : List (List Nat)} (hr : Rises ns) {k : Nat} (hk : k < ns.length) : atG ns ns[k] = k ∧ hasG ns ns[k] = true := by
  have h1 : atG ns ns[k] = k := by
    unfold atG
    have e : ns.takeWhile (fun x => lessG x ns[k]) = ns.take k := by
      have hp : ∀ a ∈ ns.take k, lessG a ns[k] = true := fun a ha => by
        obtain ⟨j, hj, rfl⟩ := List.mem_iff_getElem.1 ha
        rw [List.length_take] at hj
        rw [List.getElem_take]
        exact List.pairwise_iff_getElem.1 hr j k (by omega) hk (by omega)
      have e2 : ns = ns.take k ++ ns[k] :: ns.drop (k + 1) := by
        rw [← List.drop_eq_getElem_cons hk, List.take_append_drop]
      generalize hn : ns[k] = n at *
      conv => lhs; rw [e2]
      rw [List.takeWhile_append_of_pos hp, List.takeWhile_cons, lessG_irrefl]
      simp
    rw [e, List.length_take]
    omega
  refine ⟨h1, ?_⟩
  unfold hasG
  rw [h1, List.getElem?_eq_getElem hk]
  exact decide_eq_true rfl

/-- Both sessions, apart from one another, with the same names and rows. -/
structure TwoS (w : World) (p q : Nat) (ns : List (List Nat)) (rs : List (List Rat)) (D D' : Nat → Prop) (W : World) : Prop where
  one : SessPr W p D ns rs
  two : SessRr W q D' ns rs
  pure : PureS ns rs
  apart : ∀ k, D k → ¬ D' k
  fresh : ∀ k, D k → w.heap.size ≤ k
  fresh' : ∀ k, D' k → w.heap.size ≤ k
  below : Below w.heap.size w W

theorem TwoS.after {w W W' : World} {p q : Nat} {ns : List (List Nat)} {rs : List (List Rat)} {D D' : Nat → Prop} (h : TwoS w p q ns rs D D' W) (hb : Below W.heap.size W W') : TwoS w p q ns rs D D' W' :=
  ⟨h.one.below hb, h.two.below hb, h.pure, h.apart, h.fresh, h.fresh', h.below.trans (hb.mono h.below.size)⟩

/-- The first of the two lets. -/
theorem TwoS.first {w W W' : World} {p q : Nat} {ns : List (List Nat)} {rs : List (List Rat)} {D D' : Nat → Prop} (h : TwoS w p q ns rs D D' W) (ht : Turned D W W') : SessRr W' q D' ns rs ∧ Below w.heap.size w W' :=
  ⟨h.two.turned ht fun k hk hc => h.apart k hc hk, h.below.trans (ht.below h.below.size h.fresh)⟩

/-- Both. -/
theorem TwoS.both {w W W1 W2 : World} {p q : Nat} {ns ns' : List (List Nat)} {rs rs' : List (List Rat)} {D D' D1 D2 : Nat → Prop} (h : TwoS w p q ns rs D D' W) (hp : PureS ns' rs')
    (s1 : SessPr W1 p D1 ns' rs') (t1 : Turned D W W1) (d1 : ∀ k, D1 k → D k ∨ W.heap.size ≤ k) (s2 : SessRr W2 q D2 ns' rs') (t2 : Turned D' W1 W2) (d2 : ∀ k, D2 k → D' k ∨ W1.heap.size ≤ k) : TwoS w p q ns' rs' D1 D2 W2 where
  one := s1.turned t2 fun k hk hc => by
    rcases d1 k hk with h1 | h1
    · exact h.apart k h1 hc
    · have := h.two.lt k hc; omega
  two := s2
  pure := hp
  apart := fun k hk hc => by
    rcases d2 k hc with h2 | h2
    · rcases d1 k hk with h1 | h1
      · exact h.apart k h1 h2
      · have := h.two.lt k h2; omega
    · have := s1.lt k hk; omega
  fresh := fun k hk => by
    rcases d1 k hk with h1 | h1
    · exact h.fresh k h1
    · exact Nat.le_trans h.below.size h1
  fresh' := fun k hk => by
    rcases d2 k hk with h1 | h1
    · exact h.fresh' k h1
    · exact Nat.le_trans h.below.size (Nat.le_trans t1.size h1)
  below := (h.below.trans (t1.below h.below.size h.fresh)).trans (t2.below (Nat.le_trans h.below.size t1.size) h.fresh')

/-- A slice of strings of a caller's. -/
def StrO (w : World) (v : Value) (ns : List (List Nat)) : Prop :=
  ∃ A c, v = .slice A ns.length c ∧ ns.length ≤ c ∧ c ≤ maxLen ∧ (0 < ns.length → ∃ g off, A = some ⟨g, off, none⟩ ∧ g < w.heap.size ∧ ∀ j (h : j < ns.length), w.cell? ⟨g, off + j, none⟩ = some (.string (strN ns[j])))

theorem two_new (w : World) : TwoS w w.heap.size (w.heap.size + 1) [] [] (fun k => k = w.heap.size) (fun k => k = w.heap.size + 1) ((w.alloc (.cells #[.slice none 0 0, .int .i64 6] 47)).alloc (.cells #[.slice none 0 0, .slice none 0 0, .int .i64 6] 34)) := by
  have h1 := (sessNew_sess w).below ((Below.refl _ (w.alloc (.cells #[.slice none 0 0, .int .i64 6] 47))).alloc (Nat.le_refl _) (.cells #[.slice none 0 0, .slice none 0 0, .int .i64 6] 34))
  have h2 := new22_sess (w.alloc (.cells #[.slice none 0 0, .int .i64 6] 47))
  rw [World.size_alloc] at h2
  exact ⟨h1, h2, kn_pure0, fun k h1 h2 => by omega, fun k h => by omega, fun k h => by omega, ((Below.refl _ w).alloc (Nat.le_refl _) _).alloc (by rw [World.size_alloc]; omega) _⟩
end Go.Proofs.YtchokmhfgikglaaGreatDoor

namespace Go.Proofs.YtchokmhfgikglaaGreatDoor
set_option maxRecDepth 100000
open Go.RowKit Go.Shelf Go.Lib

theorem ownS_strs {w : World} {base : Nat} {v : Value} {ls : List (List Nat)} (h : OwnS w base v ls) : Strs w v ls := by
  rcases h.2 with ⟨rfl, h0⟩ | ⟨g, cap, cur, rfl, hg, hh, hnc, hcm, hcs, htk⟩
  · exact ⟨none, 0, by rw [h0], by omega, by decide, fun h => by omega⟩
  · refine ⟨_, cap, rfl, hnc, hcm, fun h0 => ⟨g, rfl, (Array.getElem?_eq_some_iff.1 hh).1, fun j hj => ?_⟩⟩
    have := World.ownsRow.cells h (g := g) rfl j (.string (strN ls[j])) (by rw [List.getElem?_map, List.getElem?_eq_getElem hj]; rfl)
    rw [Addr.add_lit, Nat.zero_add] at this
    exact this

/-- The reference's rows. -/
theorem rowsR {w : World} {q : Nat} {D : Nat → Prop} {ns : List (List Nat)} {rs : List (List Rat)} {vN vL : Value} {cl : List Value} (h : MidR w q D ns rs vN vL cl) {j : Nat} (hj : j < rs.length) (hl : rs.length = ns.length) :
    ∃ g c u, vL = .slice (some ⟨g, 0, none⟩) ns.length c ∧ g < w.heap.size ∧ w.cell? ⟨g, j, none⟩ = some u ∧ RowIn w 0 w.heap.size u rs[j] := by
  obtain ⟨h1, h2, h3, h4, h5, h6, h7, h8, h9, h10⟩ := h
  obtain ⟨u, hu, A, c, L, B, e1, e2, e3, e4⟩ := h10 j hj
  rcases h3.2 with ⟨rfl, h0⟩ | ⟨g, cap, cur, rfl, hg, hh, hnc, hcm, hcs, htk⟩
  · omega
  · refine ⟨g, cap, u, rfl, (Array.getElem?_eq_some_iff.1 hh).1, ?_, ?_⟩
    · have := World.ownsRow.cells h3 (g := g) rfl j u hu
      rw [Addr.add_lit, Nat.zero_add] at this
      exact this
    · rw [e1]; exact (e2.low (Nat.zero_le _)).up e3
end Go.Proofs.YtchokmhfgikglaaGreatDoor

namespace Go.Proofs.YtchokmhfgikglaaGreatDoor
set_option maxRecDepth 100000
open Go.RowKit Go.Shelf Go.Lib

theorem bne_same (a : ByteArray) : (a != a) = false := by
  have h : (a == a) = true := by
    obtain ⟨d⟩ := a
    show (d == d) = true
    exact beq_self_eq_true d
  rw [bne, h]
  rfl

set_option maxHeartbeats 6400000 in
theorem lawTopFold_any (u v : Value) (nms txs : List (List Nat)) (w : World) (h : StrO w u nms) (h' : StrO w v txs) (hbn : ∀ n ∈ nms, Byt n) (hbt : ∀ n ∈ txs, Byt n) (hm : MaxAt w) :
    Calls Tryz.prog 3 #[u, v] w fun e w' => e = .returned (.bool true) ∧ Below w.heap.size w w' := by
  obtain ⟨A, c, rfl, hc, hcm, hx⟩ := h
  obtain ⟨A', c', rfl, hc', hcm', hx'⟩ := h'
  unfold maxLen at hcm hcm'
  have HX := Lib.hid hx
  have HX' := Lib.hid hx'
  have HBN := Lib.hid hbn
  have HBT := Lib.hid hbt
  have HM := Lib.hid hm
  clear hx hx' hbn hbt hm
  by_cases h20 : 20 < nms.length
  · have y0 : (20 : Int) < (nms.length : Int) := by omega
    go_enter Tryz.func3, Tryz.ntmps3
    go_wp2_with fail
    go_ret
    exact ⟨rfl, Below.refl _ _⟩
  have y0 : ¬ (20 : Int) < (nms.length : Int) := by omega
  by_cases hlt : txs.length < nms.length
  · have y1 : (txs.length : Int) < (nms.length : Int) := by omega
    go_enter Tryz.func3, Tryz.ntmps3
    go_wp2_with fail
    go_ret
    exact ⟨rfl, Below.refl _ _⟩
  have y1 : ¬ (txs.length : Int) < (nms.length : Int) := by omega
  have HNEW : Hid (∀ W, Calls Tryz.prog 5 #[] W fun e w' => e = .returned (.pointer (some ⟨W.heap.size, 0, none⟩)) ∧ w' = W.alloc (.cells #[.slice none 0 0, .int .i64 6] 47)) := fun W => sessNew_any W
  have HNEW2 : Hid (∀ W, Calls Tryz.prog 6 #[] W fun e w' => e = .returned (.pointer (some ⟨W.heap.size, 0, none⟩)) ∧ w' = W.alloc (.cells #[.slice none 0 0, .slice none 0 0, .int .i64 6] 34)) := fun W => new22_any W
  have HTW := Lib.hid (two_new w)
  go_enter Tryz.func3, Tryz.ntmps3
  go_wp2_with fail
  go_fit (HNEW.out _)
  rintro e w1 ⟨rfl, rfl⟩
  go_wp2_with fail
  go_fit (HNEW2.out _)
  rintro e w2 ⟨rfl, rfl⟩
  go_wp2_with fail
  clear HNEW HNEW2
  generalize (w.alloc (.cells #[.slice none 0 0, .int .i64 6] 47)).alloc (.cells #[.slice none 0 0, .slice none 0 0, .int .i64 6] 34) = W0 at *
  obtain ⟨p, hp⟩ : ∃ p, w.heap.size = p := ⟨_, rfl⟩
  rw [hp] at HTW ⊢
  obtain ⟨q, hq⟩ : ∃ q, p + 1 = q := ⟨_, rfl⟩
  rw [hq] at HTW ⊢
  clear hq
  go_loopw [7] (fun i wr => ∃ (k : Nat) (ns : List (List Nat)) (rs : List (List Rat)) (D D' : Nat → Prop), k ≤ nms.length ∧ i = .int .i64 (k : Int) ∧ TwoS w p q ns rs D D' wr) (fun i _ => nms.length - (RowKit.intOf i).toNat)
  case atStart => exact ⟨0, [], [], _, _, Nat.zero_le _, rfl, HTW.out⟩
  case round =>
    clear HTW
    obtain ⟨k, ns, rs, D, D', hk, rfl, hT⟩ := hrel
    by_cases hkn : k < nms.length
    · have z0 : (k : Int) < (nms.length : Int) := by omega
      have z1 : (k : Int) < (txs.length : Int) := by omega
      have z2 : (0 : Int) ≤ (k : Int) := by omega
      obtain ⟨g, off, rfl, hg, hcell⟩ := HX.out (by omega)
      obtain ⟨g', off', rfl, hg', hcell'⟩ := HX'.out (by omega)
      have x0 := (hT.below.cell (p := ⟨g, off + k, none⟩) hg).trans (hcell k hkn)
      have x1 := (hT.below.cell (p := ⟨g', off' + k, none⟩) hg').trans (hcell' k (by omega))
      have hnb := HBN.out nms[k] (List.getElem_mem _)
      have htb := HBT.out (txs[k]'(by omega)) (List.getElem_mem _)
      clear hcell hcell'
      generalize nms[k] = n at *
      generalize txs[k]'(by omega) = t at *
      have hns := strN_size n
      have hts := strN_size t
      have HT := Lib.hid hT
      have HNB := Lib.hid hnb
      have HTB := Lib.hid htb
      clear hT hnb htb
      by_cases h40 : 40 < n.length
      · have z3 : (40 : Int) < ((strN n).size : Int) := by omega
        clear hns hts
        go_wp2_with fail
        go_ret
        exact ⟨rfl, by first | exact HT.out.below | (rw [← hp]; exact HT.out.below)⟩
      have z3 : ¬ (40 : Int) < ((strN n).size : Int) := by omega
      by_cases h100 : 100 < t.length
      · have z4 : (100 : Int) < ((strN t).size : Int) := by omega
        clear hns hts
        go_wp2_with fail
        go_ret
        exact ⟨rfl, by first | exact HT.out.below | (rw [← hp]; exact HT.out.below)⟩
      have z4 : ¬ (100 : Int) < ((strN t).size : Int) := by omega
      have HLI : Hid (∀ W, Calls Tryz.prog 7 #[.string (strN t)] W fun e w' => (e = .returned (.bool false) ∨ e = .returned (.bool true)) ∧ W = w') := fun W => (light_any (strN t) W (by omega)).mono fun e w' h => h
      have HLEN := Lib.hid (Nat.le_trans (textV_len t) (show t.length ≤ 256 by omega))
      have HNL := Lib.hid (show n.length ≤ 1000000 by omega)
      have HTL := Lib.hid (show t.length ≤ 1000000 by omega)
      clear hns hts
      go_wp2_with fail
      go_fit (HLI.out _)
      rintro e w3 ⟨rfl | rfl, rfl⟩
      · go_wp2_with fail
        go_ret
        exact ⟨rfl, by first | exact HT.out.below | (rw [← hp]; exact HT.out.below)⟩
      clear HLI
      have HDRW := Lib.hid (HT.out.after ((Below.refl _ _).drew))
      go_wp2_with fail
      go_region_held3 (fun W => W.cell? ⟨g, off + k, none⟩ = some (.string (strN n)) ∧ W.cell? ⟨g', off' + k, none⟩ = some (.string (strN t)))
        (first | exact ⟨x0, x1⟩ | exact S4.out | exact S5.out | fail)
        (first
          | (have hx9 := HT1
             go_at_call 9
             go_fit (let22_any q D' ns rs n t _ HR1.out HT.out.pure HNB.out HNL.out HTB.out HTL.out HLEN.out)
             rintro e w5 ⟨D2, rfl, hs5, ht5, hd5⟩
             have HTWO := Lib.hid (HDRW.out.both (HT.out.pure.after HLEN.out) HS1.out HT1.out HD1.out hs5 ht5 hd5)
             have S5 := Lib.hid (And.intro ((HTWO.out.below.cell (p := ⟨g, off + k, none⟩) hg).trans ((HT.out.below.cell (p := ⟨g, off + k, none⟩) hg).symm.trans x0)) ((HTWO.out.below.cell (p := ⟨g', off' + k, none⟩) hg').trans ((HT.out.below.cell (p := ⟨g', off' + k, none⟩) hg').symm.trans x1)))
             clear hs5 ht5 hd5)
          | (go_at_call 8
             go_fit (sessLet_any p D ns rs n t _ HDRW.out.one HT.out.pure (HM.out.below HDRW.out.below) HNB.out HNL.out HTB.out HTL.out HLEN.out)
             rintro e w4 ⟨D1, rfl, hs4, ht4, hd4⟩
             obtain ⟨hr4, hb4⟩ := HDRW.out.first ht4
             have HS1 := Lib.hid hs4
             have HT1 := Lib.hid ht4
             have HD1 := Lib.hid hd4
             have HR1 := Lib.hid hr4
             have S4 := Lib.hid (And.intro ((hb4.cell (p := ⟨g, off + k, none⟩) hg).trans ((HT.out.below.cell (p := ⟨g, off + k, none⟩) hg).symm.trans x0)) ((hb4.cell (p := ⟨g', off' + k, none⟩) hg').trans ((HT.out.below.cell (p := ⟨g', off' + k, none⟩) hg').symm.trans x1)))
             clear hs4 ht4 hd4 hr4 hb4)
          | fail)
      clear x0 x1 S4 S5 HS1 HT1 HD1 HR1 hx9 HDRW HT
      generalize letN ns n t = ns' at *
      generalize letR ns rs n t = rs' at *
      generalize letE ns n t = E at *
      have hE : ((E : Int) != (E : Int)) = false := bne_false rfl
      have hE2 : ((ns'.length : Int) != (ns'.length : Int)) = false := bne_false rfl
      obtain ⟨v1, cs1, hmid⟩ := HTWO.out.one.all
      have hn16 := HTWO.out.pure.1
      have HNM := Lib.hid (sessNames_any p v1 _ ns' w5 hmid.1 hmid.ents (by omega))
      have HBY : Hid (∀ n ∈ ns', Byt n ∧ n.length ≤ 12) := hmid.2.2.2.2.2.1
      have HRL : Hid (rs'.length = ns'.length) := hmid.2.2.2.2.1
      clear hmid
      go_wp2_with fail
      go_fit (HNM.out)
      rintro e w6 ⟨⟨v6, rfl, ho6⟩, hb6⟩
      have HT6 := Lib.hid (HTWO.out.after hb6)
      obtain ⟨A6, c6, rfl, hc6, hm6, hx6⟩ := ownS_strs ho6
      have HX6 := Lib.hid hx6
      clear ho6 hb6 HNM HTWO hx6
      obtain ⟨vN, vL, cl, hmr⟩ := HT6.out.two.mid
      obtain ⟨AN, cN, rfl, hcN, hmN, hxN⟩ := hmr.strs
      have HXN := Lib.hid hxN
      have HROW : Hid (∀ j (hj : j < rs'.length), ∃ g c u, vL = .slice (some ⟨g, 0, none⟩) ns'.length c ∧ g < w6.heap.size ∧ w6.cell? ⟨g, j, none⟩ = some u ∧ RowIn w6 0 w6.heap.size u rs'[j]) := fun j hj => rowsR hmr hj HRL.out
      have xq0 : w6.cell? ⟨q, 0, none⟩ = some (.slice AN ns'.length cN) := hmr.1.cell 0
      have xq1 : w6.cell? ⟨q, 1, none⟩ = some vL := hmr.1.cell 1
      have hq6 := hmr.1.lt
      have HGET : Hid (∀ j (hj : j < ns'.length) (hj2 : j < rs'.length) W, Below w6.heap.size w6 W → Calls Tryz.prog 11 #[.pointer (some ⟨p, 0, none⟩), .string (strN ns'[j])] W fun e w' =>
          Below W.heap.size W w' ∧ ∃ v', e = .returned (.tuple #[v', .int .i64 0]) ∧ RowIn w' W.heap.size w'.heap.size v' rs'[j]) := fun j hj hj2 W hb => by
        obtain ⟨ra, rh⟩ := rises_at HT6.out.pure.2.1 hj
        refine (sessGet_any p D1 ns' rs' ns'[j] W (HT6.out.one.below hb) HT6.out.pure (HBY.out _ (List.getElem_mem _)).1).mono ?_
        rintro e w' ⟨h1, h2 | h2⟩
        · rw [rh] at h2; cases h2.1
        · obtain ⟨_, v', r', h3, h4, h5⟩ := h2
          rw [ra, List.getElem?_eq_getElem hj2] at h3
          cases h3
          exact ⟨h1, v', h4, h5⟩
      have HSZ : Hid (∀ j (hj : j < rs'.length), ∀ x ∈ rs'[j], Sz x 70) := fun j hj => (HT6.out.pure.2.2 _ (List.getElem_mem _)).2
      have HRL2 := HRL.out
      unfold maxLen at hm6 hmN
      clear hmr hxN
      go_wp2_with fail
      go_loopw [9] (fun i wr2 => ∃ j : Nat, j ≤ ns'.length ∧ i = .int .i64 (j : Int) ∧ Below w6.heap.size w6 wr2) (fun i _ => ns'.length - (RowKit.intOf i).toNat)
      case atStart => exact ⟨0, Nat.zero_le _, rfl, Below.refl _ _⟩
      case round =>
        obtain ⟨j, hj, rfl, hB⟩ := hrel
        by_cases hjn : j < ns'.length
        · have zj0 : (j : Int) < (ns'.length : Int) := by omega
          have zj1 : (0 : Int) ≤ (j : Int) := by omega
          have hj2 : j < rs'.length := by omega
          obtain ⟨g6, rfl, hg6, hcell6⟩ := HX6.out (by omega)
          obtain ⟨gN, rfl, hgN, hcellN⟩ := HXN.out (by omega)
          obtain ⟨gL, cL, uL, rfl, hgL, hcL, hrL⟩ := HROW.out j hj2
          have s0 := (hB.cell (p := ⟨g6, j, none⟩) hg6).trans (hcell6 j hjn)
          have HG := Lib.hid (HGET.out j hjn hj2 _ hB)
          have hcN := hcellN j hjn
          have HSR := Lib.hid (HSZ.out j hj2)
          obtain ⟨Au, cu, rfl, hru⟩ := hrL
          have HRU : Hid (RowIn w6 0 w6.heap.size (.slice Au (rs'[j]).length cu) rs'[j]) := ⟨Au, cu, rfl, hru⟩
          clear hru hcell6 hcellN
          generalize rs'[j] = r2 at *
          generalize ns'[j] = n2 at *
          have HBr := Lib.hid hB
          clear hB
          go_wp2_with fail
          go_fit (HG.out)
          rintro e w7 ⟨hb7, v7, rfl, hr7⟩
          have HB7 := Lib.hid (HBr.out.trans (hb7.mono HBr.out.size))
          obtain ⟨A7, c7, rfl, hr7'⟩ := hr7
          have HR7 : Hid (RowIn w7 0 w7.heap.size (.slice A7 r2.length c7) r2) := RowIn.low ⟨A7, c7, rfl, hr7'⟩ (Nat.zero_le _)
          have HU7 := Lib.hid (HRU.out.after HB7.out)
          have t0 := (HB7.out.cell (p := ⟨g6, j, none⟩) hg6).trans ((HBr.out.cell (p := ⟨g6, j, none⟩) hg6).symm.trans s0)
          have t1 := (HB7.out.cell (p := ⟨q, 0, none⟩) hq6).trans xq0
          have t2 := (HB7.out.cell (p := ⟨gN, j, none⟩) hgN).trans hcN
          have t3 := (HB7.out.cell (p := ⟨q, 1, none⟩) hq6).trans xq1
          have t4 := (HB7.out.cell (p := ⟨gL, j, none⟩) hgL).trans hcL
          have S7 := Lib.hid (And.intro t0 (And.intro t1 (And.intro t2 (And.intro t3 t4))))
          have hnn : (strN n2 != strN n2) = false := bne_same (strN n2)
          clear hb7 hr7' HG HRU t0 t1 t2 t3 t4
          go_wp2_with fail
          go_region_held3 (fun W => W.cell? ⟨g6, j, none⟩ = some (.string (strN n2)) ∧ W.cell? ⟨q, 0, none⟩ = some (.slice (some ⟨gN, 0, none⟩) ns'.length cN) ∧ W.cell? ⟨gN, j, none⟩ = some (.string (strN n2)) ∧ W.cell? ⟨q, 1, none⟩ = some (.slice (some ⟨gL, 0, none⟩) ns'.length cL) ∧ W.cell? ⟨gL, j, none⟩ = some (.slice Au r2.length cu))
            (first | exact S7.out | exact S8.out | fail)
            (first
              | (go_at_call 12
                 go_fit (rats_any _ _ r2 _ HR7.out.drew HU7.out.drew HSR.out)
                 rintro e w8 ⟨rfl, hb8⟩
                 have hb9 : Below w7.heap.size w7 w8 := Below.trans (Below.drew (Below.refl _ _)) hb8
                 have HB8 := Lib.hid (HB7.out.trans (hb9.mono HB7.out.size))
                 have t0 := (HB8.out.cell (p := ⟨g6, j, none⟩) hg6).trans ((HBr.out.cell (p := ⟨g6, j, none⟩) hg6).symm.trans s0)
                 have t1 := (HB8.out.cell (p := ⟨q, 0, none⟩) hq6).trans xq0
                 have t2 := (HB8.out.cell (p := ⟨gN, j, none⟩) hgN).trans hcN
                 have t3 := (HB8.out.cell (p := ⟨q, 1, none⟩) hq6).trans xq1
                 have t4 := (HB8.out.cell (p := ⟨gL, j, none⟩) hgL).trans hcL
                 have S8 := Lib.hid (And.intro t0 (And.intro t1 (And.intro t2 (And.intro t3 t4))))
                 clear hb8 hb9 t0 t1 t2 t3 t4)
              | fail)
          go_wp2_with fail
          go_roundw
          case rel => exact ⟨j + 1, by omega, by go_num, HB8.out⟩
          case measure => simp [RowKit.intOf]; omega
        · obtain rfl : j = ns'.length := by omega
          have zj0 : ¬ ((ns'.length : Nat) : Int) < (ns'.length : Int) := by omega
          have HBr := Lib.hid (HT6.out.after hB)
          clear hB
          go_wp2_with fail
          go_roundw
          case rel => exact ⟨k + 1, ns', rs', D1, D2, by omega, by go_num, HBr.out⟩
          case measure => simp [RowKit.intOf]; omega
    · obtain rfl : k = nms.length := by omega
      have z0 : ¬ ((nms.length : Nat) : Int) < (nms.length : Int) := by omega
      have HKN := Lib.hid (topKnown_any wr (HM.out.below hT.below))
      go_wp2_with fail
      go_fit (HKN.out)
      rintro e w3 ⟨rfl, hb3⟩
      have HBE := Lib.hid (hT.below.trans (hb3.mono hT.below.size))
      clear hb3
      go_wp2_with fail
      go_ret
      exact ⟨rfl, by first | exact HBE.out | (rw [← hp]; exact HBE.out)⟩
end Go.Proofs.YtchokmhfgikglaaGreatDoor

namespace Go.Proofs.YtchokmhfgikglaaGreatDoor
open Go.RowKit
variable {H : Type} {enc : TypeId × Value → H}

theorem wrap_and_shaped {a : Assume} {C : Checked} {os : Os} {f : FuncId} {fn : Func} {s : ChangeSpec} {conds : List PathCond} {apart fresh handsOn again : Bool} {X : World → Array Value → Prop}
    (hX : ∀ (w w' : World) (args : Array Value), w.heap = w'.heap → X w args → X w' args)
    (own : ownKnob C.prog.godebug = none) (started : os.Started) (noInit : C.prog.inits.idxOf? f = none) (hfn : C.prog.funcs[f]? = some fn)
    (witness : ∃ (w : World) (tape : Tape) (i : Input), w.os = os ∧ (w.forCall tape i).Shaped C.prog ∧ i.vars = [] ∧ Input.okWide C.prog (w.forCall tape i) .any w.heap.size f i ∧
      ((s.pre enc C.prog fn conds apart (w.forCall tape i).memory i.args ∧ X (w.forCall tape i).memory i.args) ∧ sizedMet enc C.prog fn (OpenSpec.ofChange s) apart (w.forCall tape i).memory i.args) ∧ a.holds C.prog (lone (Frame.enter C.prog f i.args .normal) [] (w.forCall tape i)))
    (contract : ∀ (W : World) (base : Nat) (args : Array Value) (ds gs : List (DataW H)) (before : List MemPlace),
      (∀ (j : Nat) t v, fn.params[j]? = some t → args[j]? = some v → Value.okWide C.prog W .any base t v) →
      DataW.Whole enc C.prog fn.params.toList s.vars apart W args.toList ds gs before →
      conds.all (PathCond.test C.prog ⟨fn.params.toList, ds, s.plain.varTypes C.prog, gs⟩) = true →
      (DataW.weightsEach C.prog (fn.params.toList ++ s.plain.varTypes C.prog) (ds ++ gs)).all (· ≤ reachBytes) = true → X W args → W.ShapedOpen C.prog →
      Calls C.prog f args W fun e W' => ∃ v, e = .returned v ∧ s.post enc C.prog fn apart fresh handsOn again W args v W') :
    ReturnsInHanded a C os f .any (fun w args => (s.pre enc C.prog fn conds apart w args ∧ X w args) ∧ sizedMet enc C.prog fn (OpenSpec.ofChange s) apart w args) (s.post enc C.prog fn apart fresh handsOn again) := by
  refine returnsInHanded_of_calls own started noInit witness ?_
  intro w tape i _ hsh _ hok hpre _
  obtain ⟨_, _, _, fn', hfn', _, _, _, _, hval⟩ := hok
  obtain rfl : fn' = fn := Option.some.inj (hfn'.symm.trans hfn)
  obtain ⟨⟨⟨ds, gs, before, hw, hc⟩, hx⟩, hz⟩ := hpre
  have hw' := DataW.Whole.of_heap (w' := w.forCall tape i) (by rfl) hw
  refine (contract (w.forCall tape i) w.heap.size i.args ds gs before hval hw' hc (hz.weights hw) (hX _ _ _ (by rfl) hx) hsh).mono fun e W' ⟨v, he, hp⟩ => ?_
  subst he
  exact ChangeSpec.post_blind hp

theorem maxAt_shaped (W : World) (h : W.ShapedOpen Tryz.prog) : MaxAt W :=
  cell_of_shapedOpen_int (g := 0) (t := 3) (zero := #[.int .i64 0]) (k := .i64) h (of_decide_eq_true (by kernel_rfl)) (by kernel_rfl) rfl (by kernel_rfl) (by kernel_rfl) Tryz.underlying3
end Go.Proofs.YtchokmhfgikglaaGreatDoor

namespace Go.Proofs.YtchokmhfgikglaaGreatDoor
set_option maxRecDepth 100000
open Go.RowKit Go.Shelf Go.Lib

/-- A string's bytes, as numbers. -/
def byN (s : ByteArray) : List Nat := s.data.toList.map UInt8.toNat
theorem byN_byt (s : ByteArray) : Byt (byN s) := by
  intro x hx
  obtain ⟨b, _, rfl⟩ := List.mem_map.1 hx
  exact b.toNat_lt
theorem byN_str (s : ByteArray) : strN (byN s) = s := by
  obtain ⟨d⟩ := s
  unfold strN byN
  simp [Function.comp_def]

theorem strO_of_row {W : World} {a : Option Addr} {len cap : Nat} {ss : List ByteArray} (h : (a = none ∧ len = 0 ∧ cap = 0 ∧ ss = []) ∨ ∃ x : Addr, a = some x ∧ len ≤ cap ∧ cap ≤ maxLen ∧ ss.length = cap ∧ (∀ i, i < ss.length → W.cell? (x.add i) = some (.string (ss.getD i ByteArray.empty)))) :
    StrO W (.slice a len cap) ((ss.take len).map byN) ∧ ∀ n ∈ (ss.take len).map byN, Byt n := by
  refine ⟨?_, fun n hn => by obtain ⟨s, _, rfl⟩ := List.mem_map.1 hn; exact byN_byt s⟩
  rcases h with ⟨rfl, rfl, rfl, rfl⟩ | ⟨x, rfl, h1, h2, h3, h5⟩
  · exact ⟨none, 0, by simp, by simp, by decide, fun h => by simp at h⟩
  · have hl : ((ss.take len).map byN).length = len := by rw [List.length_map, List.length_take]; omega
    refine ⟨some x, cap, by rw [hl], by rw [hl]; exact h1, h2, fun h0 => ?_⟩
    rw [hl] at h0
    obtain ⟨g, off, spot⟩ := x
    have hc := h5 0 (by omega)
    have hspot : spot = none := by simpa [Addr.add] using World.cell?_spot hc
    subst hspot
    have hadd : ∀ i, (⟨g, off, none⟩ : Addr).add i = ⟨g, off + i, none⟩ := fun i => by unfold Addr.add; split <;> simp_all
    have hg := World.block_lt_of_cell? W _ hc
    rw [hadd] at hg
    refine ⟨g, off, rfl, hg, fun j hj => ?_⟩
    rw [hl] at hj
    have := h5 j (by omega)
    rw [hadd, List.getD_eq_getElem?_getD, List.getElem?_eq_getElem (by omega)] at this
    rw [List.getElem_map, byN_str, List.getElem_take]
    exact this
end Go.Proofs.YtchokmhfgikglaaGreatDoor
