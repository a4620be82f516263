/- Several texts in one: Ref22M, Ref22S, Ref22L. Condition: each says its own. -/
import Derived.Test.YtchokmhfgikglaaGreatDoorPk24
set_option linter.unusedVariables false
set_option linter.unusedSimpArgs false
namespace Go.Proofs.YtchokmhfgikglaaGreatDoor
set_option maxRecDepth 100000
open Go.RowKit Go.Shelf Go.Lib

/-- A row's place. -/
def RowAtR (w : World) (q : Nat) (D : Nat → Prop) (vN vL u : Value) (r : List Rat) : Prop :=
  ∃ A c L B, u = .slice A r.length c ∧ RowIn w L B (.slice A r.length c) r ∧ B ≤ w.heap.size ∧ ∀ b, L ≤ b → b < B → D b ∧ b ≠ q ∧ vL.ownBlock ≠ some b ∧ vN.ownBlock ≠ some b
def MidR (w : World) (q : Nat) (D : Nat → Prop) (ns : List (List Nat)) (rs : List (List Rat)) (vN vL : Value) (cl : List Value) : Prop :=
  Blk w q 34 #[vN, vL, .int .i64 6] ∧ w.ownsRow 0 9 1 vN ns.length (ns.map fun n => Value.string (strN n)) ∧ w.ownsRow 0 35 1 vL ns.length cl ∧ D q ∧
    (∀ g, vN.ownBlock = some g → D g ∧ g ≠ q) ∧ (∀ g, vL.ownBlock = some g → D g ∧ g ≠ q ∧ vN.ownBlock ≠ some g) ∧ rs.length = ns.length ∧
    (∀ n ∈ ns, Byt n ∧ n.length ≤ 12) ∧ (∀ k, D k → k < w.heap.size) ∧ ∀ j (h' : j < rs.length), ∃ u, cl[j]? = some u ∧ RowAtR w q D vN vL u rs[j]

theorem SessR.mid {w : World} {q : Nat} {D : Nat → Prop} {ns : List (List Nat)} {rs : List (List Rat)} (h : SessRr w q D ns rs) : ∃ vN vL cl, MidR w q D ns rs vN vL cl := by
  obtain ⟨vN, vL, cl, h1, h2, h3, h4, h5, h6, h7, h8, h9, h10⟩ := h
  refine ⟨vN, vL, cl, h1, h2, h3, h4, h5, h6, h7, h8, h9, fun j hj => ?_⟩
  obtain ⟨A, c, L, B, e1, e2, e3, e4⟩ := h10 j hj
  exact ⟨_, e1, A, c, L, B, rfl, e2, e3, e4⟩
theorem MidR.sess {w : World} {q : Nat} {D : Nat → Prop} {ns : List (List Nat)} {rs : List (List Rat)} {vN vL : Value} {cl : List Value} (h : MidR w q D ns rs vN vL cl) : SessRr w q D ns rs := by
  obtain ⟨h1, h2, h3, h4, h5, h6, h7, h8, h9, h10⟩ := h
  refine ⟨vN, vL, cl, h1, h2, h3, h4, h5, h6, h7, h8, h9, fun j hj => ?_⟩
  obtain ⟨u, e1, A, c, L, B, rfl, e2, e3, e4⟩ := h10 j hj
  exact ⟨A, c, L, B, e1, e2, e3, e4⟩

theorem RowAtR.stay {w w' : World} {q : Nat} {D D' : Nat → Prop} {vN vL vN' vL' u : Value} {r : List Rat} (h : RowAtR w q D vN vL u r) (hs : w.heap.size ≤ w'.heap.size) (hD : ∀ k, D k → D' k)
    (hvN : ∀ b, vN'.ownBlock = some b → vN.ownBlock = some b ∨ w.heap.size ≤ b) (hvL : ∀ b, vL'.ownBlock = some b → vL.ownBlock = some b ∨ w.heap.size ≤ b)
    (hk : ∀ b, D b → b ≠ q → vL.ownBlock ≠ some b → vN.ownBlock ≠ some b → b < w.heap.size → w'.heap[b]? = w.heap[b]?) : RowAtR w' q D' vN' vL' u r := by
  obtain ⟨A, c, L, B, e1, e2, e3, e4⟩ := h
  refine ⟨A, c, L, B, e1, e2.stay (Nat.le_refl _) (Nat.le_refl _) fun x h1 h2 => World.cell?_of_block (hk _ (e4 _ h1 h2).1 (e4 _ h1 h2).2.1 (e4 _ h1 h2).2.2.1 (e4 _ h1 h2).2.2.2 (by omega)), Nat.le_trans e3 hs, fun b h1 h2 => ⟨hD _ (e4 b h1 h2).1, (e4 b h1 h2).2.1, fun hc => ?_, fun hc => ?_⟩⟩
  · rcases hvL b hc with h3 | h3
    · exact (e4 b h1 h2).2.2.1 h3
    · omega
  · rcases hvN b hc with h3 | h3
    · exact (e4 b h1 h2).2.2.2 h3
    · omega

theorem MidR.grow {w w' : World} {q : Nat} {D D' : Nat → Prop} {ns : List (List Nat)} {rs : List (List Rat)} {vN vL : Value} {cl : List Value} (h : MidR w q D ns rs vN vL cl) (hb : Below w.heap.size w w') (hD : ∀ k, D k → D' k) (hD' : ∀ k, D' k → k < w'.heap.size) : MidR w' q D' ns rs vN vL cl := by
  obtain ⟨h1, h2, h3, h4, h5, h6, h7, h8, h9, h10⟩ := h
  refine ⟨h1.below hb h1.lt, own_keep h2 fun g hg => hb.block g (h9 g (h5 g hg).1), own_keep h3 fun g hg => hb.block g (h9 g (h6 g hg).1), hD _ h4, fun g hg => ⟨hD _ (h5 g hg).1, (h5 g hg).2⟩, fun g hg => ⟨hD _ (h6 g hg).1, (h6 g hg).2⟩, h7, h8, hD', fun j hj => ?_⟩
  obtain ⟨u, e1, e2⟩ := h10 j hj
  exact ⟨u, e1, e2.stay hb.size hD (fun b hb => Or.inl hb) (fun b hb => Or.inl hb) fun b _ _ _ _ hlt => hb.block b hlt⟩

theorem MidR.strs {w : World} {q : Nat} {D : Nat → Prop} {ns : List (List Nat)} {rs : List (List Rat)} {vN vL : Value} {cl : List Value} (h : MidR w q D ns rs vN vL cl) : Strs w vN ns := by
  obtain ⟨h1, ⟨hl, hc⟩, -⟩ := h
  rcases hc with ⟨rfl, h0⟩ | ⟨g, cap, cur, rfl, hg, hh, hnc, hcm, hcs, htk⟩
  · exact ⟨none, 0, by rw [h0], by omega, by decide, fun h => by omega⟩
  · refine ⟨_, cap, rfl, hnc, hcm, fun h0 => ⟨g, rfl, (Array.getElem?_eq_some_iff.1 hh).1, fun j hj => ?_⟩⟩
    rw [cell_of_row w g j cur _ (0, 0) hh, ← Array.getElem?_toList]
    have e : (cur.toList.take (ns.length * 1))[j]? = some (.string (strN ns[j])) := by
      rw [htk, List.getElem?_map, List.getElem?_eq_getElem hj]; rfl
    rw [List.getElem?_take] at e
    split at e
    · exact e
    · cases e

theorem MidR.at {w : World} {q : Nat} {D : Nat → Prop} {ns : List (List Nat)} {rs : List (List Rat)} {vN vL : Value} {cl : List Value} (h : MidR w q D ns rs vN vL cl) (n : List Nat) (hn : ns.length ≤ 16) (hr : Rises ns) (hnb : Byt n) :
    Calls Tryz.prog 42 #[.pointer (some ⟨q, 0, none⟩), .string (strN n)] w fun e w' => e = .returned (.tuple #[.int .i64 (atG ns n : Int), .bool (hasG ns n)]) ∧ Below w.heap.size w w' := by
  have he := h.strs
  obtain ⟨h1, h2, h3, h4, h5, h6, h7, h8, h9, h10⟩ := h
  exact at22_any q vN _ _ ns n w h1 he (by omega) hr (fun x hx => (h8 x hx).1) hnb

/-- A row is laid in a place that is there. -/
theorem MidR.set {w : World} {q i g : Nat} {D : Nat → Prop} {ns : List (List Nat)} {rs : List (List Rat)} {vN vL : Value} {cl : List Value} {u : Value} {xs : List Rat} (h : MidR w q D ns rs vN vL cl) (hi : i < rs.length) (hg : vL.ownBlock = some g) (hu : RowAtR w q D vN vL u xs) :
    SessRr (w.setCell ⟨g, i, none⟩ u) q D ns (rs.set i xs) := by
  obtain ⟨h1, h2, h3, h4, h5, h6, h7, h8, h9, h10⟩ := h
  have hgp := h6 g hg
  have hsz : (w.setCell ⟨g, i, none⟩ u).heap.size = w.heap.size := by simp [World.setCell]
  have hkeep : ∀ b, b ≠ g → (w.setCell ⟨g, i, none⟩ u).heap[b]? = w.heap[b]? := fun b hb => Below.heap_setCell w ⟨g, i, none⟩ u b hb
  have hst : ∀ {u' r}, RowAtR w q D vN vL u' r → RowAtR (w.setCell ⟨g, i, none⟩ u) q D vN vL u' r := fun hr => hr.stay (by rw [hsz]; exact Nat.le_refl _) (fun _ h => h) (fun _ h => Or.inl h) (fun _ h => Or.inl h) (fun b _ _ hb _ _ => hkeep b (fun e => hb (by rw [e]; exact hg)))
  have hlen := h3.1
  refine MidR.sess (vN := vN) (vL := vL) (cl := cl.set i u) ⟨h1.far (fun e => hgp.2.1 e.symm) u, own_keep h2 (fun k hk => hkeep k (fun e => hgp.2.2 (by rw [← e]; exact hk))), own_set h3 hg (by omega) u, h4, h5, h6, by rw [List.length_set]; exact h7, h8, fun k hk => by rw [hsz]; exact h9 k hk, fun j hj => ?_⟩
  rw [List.length_set] at hj
  by_cases hji : i = j
  · subst hji
    rw [List.getElem_set_self]
    exact ⟨u, List.getElem?_set_self (by omega), hst hu⟩
  · obtain ⟨u', e1, e2⟩ := h10 j hj
    rw [List.getElem_set_ne hji, List.getElem?_set_ne hji]
    exact ⟨u', e1, hst e2⟩

theorem own_types {w : World} {b1 b2 s1 s2 n1 n2 : Nat} {e1 e2 : TypeId} {v1 v2 : Value} {x1 x2 : List Value} (h1 : w.ownsRow b1 e1 s1 v1 n1 x1) (h2 : w.ownsRow b2 e2 s2 v2 n2 x2) (hne : e1 ≠ e2) {g : Nat} (hg : v2.ownBlock = some g) : v1.ownBlock ≠ some g := by
  intro hg1
  rcases h1.2 with ⟨rfl, _⟩ | ⟨k1, cap1, cur1, rfl, _, hh1, _⟩
  · cases hg1
  · rcases h2.2 with ⟨rfl, _⟩ | ⟨k2, cap2, cur2, rfl, _, hh2, _⟩
    · cases hg
    · cases hg
      cases hg1
      rw [hh1] at hh2
      cases hh2
      exact hne rfl

/-- Names and rows are made anew, with one more. -/
theorem MidR.make {w W : World} {q i b0 B : Nat} {D : Nat → Prop} {ns : List (List Nat)} {rs : List (List Rat)} {vN vL vN' vL' : Value} {cl : List Value} {n : List Nat} {xs : List Rat} {A : Option Addr} {c : Nat}
    (h : MidR w q D ns rs vN vL cl) (hi : i ≤ ns.length) (hn : Byt n ∧ n.length ≤ 12) (hs : w.heap.size ≤ W.heap.size) (hk : ∀ k, k < w.heap.size → k ≠ q → W.heap[k]? = w.heap[k]?)
    (hq : Blk W q 34 #[vN', vL', .int .i64 6]) (hN : W.ownsRow b0 9 1 vN' (ns.length + 1) ((ns.take i ++ n :: ns.drop i).map fun n => Value.string (strN n)))
    (hL : W.ownsRow b0 35 1 vL' (ns.length + 1) (cl.take i ++ .slice A xs.length c :: cl.drop i)) (hrow : RowIn W w.heap.size B (.slice A xs.length c) xs) (hB : B ≤ b0) (hw : w.heap.size ≤ b0) (hbW : b0 ≤ W.heap.size) :
    SessRr W q (fun k => D k ∨ (w.heap.size ≤ k ∧ k < W.heap.size)) (ns.take i ++ n :: ns.drop i) (rs.take i ++ xs :: rs.drop i) := by
  obtain ⟨h1, h2, h3, h4, h5, h6, h7, h8, h9, h10⟩ := h
  have hplt := h1.lt
  have hNlt := own_lt hN
  have hLlt := own_lt hL
  have hl : (ns.take i ++ n :: ns.drop i).length = ns.length + 1 := by simp only [List.length_append, List.length_take, List.length_cons, List.length_drop]; omega
  have hcl := h3.1
  have hst : ∀ {u r}, RowAtR w q D vN vL u r → RowAtR W q (fun k => D k ∨ (w.heap.size ≤ k ∧ k < W.heap.size)) vN' vL' u r := fun hr => hr.stay hs (fun k hk => Or.inl hk) (fun b hb => Or.inr (Nat.le_trans hw (hNlt b hb).1)) (fun b hb => Or.inr (Nat.le_trans hw (hLlt b hb).1)) (fun b _ hbq _ _ hlt => hk b hlt hbq)
  refine MidR.sess (vN := vN') (vL := vL') (cl := cl.take i ++ .slice A xs.length c :: cl.drop i) ⟨hq, by rw [hl]; exact own_mono hN (Nat.zero_le _), by rw [hl]; exact own_mono hL (Nat.zero_le _), Or.inl h4, fun g hg => ⟨Or.inr ⟨Nat.le_trans hw (hNlt g hg).1, (hNlt g hg).2⟩, by have := (hNlt g hg).1; omega⟩,
    fun g hg => ⟨Or.inr ⟨Nat.le_trans hw (hLlt g hg).1, (hLlt g hg).2⟩, by have := (hLlt g hg).1; omega, own_types hN hL (by decide) hg⟩, by rw [hl]; simp only [List.length_append, List.length_take, List.length_cons, List.length_drop]; omega, fun m hm => ?_, fun k hk => ?_, fun j hj => ?_⟩
  · rcases List.mem_append.1 hm with h | h
    · exact h8 m ((List.take_sublist _ _).subset h)
    · rcases List.mem_cons.1 h with rfl | h
      · exact hn
      · exact h8 m ((List.drop_sublist _ _).subset h)
  · rcases hk with hk | hk
    · exact Nat.lt_of_lt_of_le (h9 k hk) hs
    · exact hk.2
  · have hjl : j < rs.length + 1 := by simp only [List.length_append, List.length_take, List.length_cons, List.length_drop] at hj; omega
    rcases (by omega : j < i ∨ j = i ∨ i < j) with hji | rfl | hji
    · obtain ⟨u, e1, e2⟩ := h10 j (by omega)
      have g2 : (rs.take i ++ xs :: rs.drop i)[j]'hj = rs[j] := by
        rw [List.getElem_append_left (by rw [List.length_take]; omega), List.getElem_take]
      rw [g2, List.getElem?_append_left (by rw [List.length_take]; omega), List.getElem?_take, if_pos hji]
      exact ⟨u, e1, hst e2⟩
    · have g2 : (rs.take j ++ xs :: rs.drop j)[j]'hj = xs := by
        rw [List.getElem_append_right (by rw [List.length_take]; omega)]
        simp [Nat.min_eq_left (show j ≤ rs.length by omega)]
      rw [g2, List.getElem?_append_right (by rw [List.length_take]; omega), List.length_take, Nat.min_eq_left (by omega), Nat.sub_self]
      refine ⟨_, rfl, A, c, w.heap.size, B, rfl, hrow, by omega, fun b h1 h2 => ⟨Or.inr ⟨h1, by omega⟩, by omega, fun e => ?_, fun e => ?_⟩⟩
      · have := (hLlt b e).1; omega
      · have := (hNlt b e).1; omega
    · obtain ⟨u, e1, e2⟩ := h10 (j - 1) (by omega)
      have g2 : (rs.take i ++ xs :: rs.drop i)[j]'hj = rs[j - 1]'(by omega) := by
        rw [List.getElem_append_right (by rw [List.length_take]; omega)]
        simp only [List.length_take, Nat.min_eq_left (show i ≤ rs.length by omega)]
        rw [List.getElem_cons, dif_neg (by omega), List.getElem_drop]
        congr 1
        omega
      have g3 : (cl.take i ++ Value.slice A xs.length c :: cl.drop i)[j]? = cl[j - 1]? := by
        rw [List.getElem?_append_right (by rw [List.length_take]; omega), List.length_take, Nat.min_eq_left (by omega), show j - i = (j - i - 1) + 1 by omega, List.getElem?_cons_succ, List.getElem?_drop]
        congr 1
        omega
      rw [g2, g3]
      exact ⟨u, e1, hst e2⟩
end Go.Proofs.YtchokmhfgikglaaGreatDoor

namespace Go.Proofs.YtchokmhfgikglaaGreatDoor
set_option maxRecDepth 100000
open Go.RowKit Go.Shelf Go.Lib

theorem own_form {w : World} {base : Nat} {e : TypeId} {v : Value} {xs : List Value} (h : OwnV w base e v xs) : ∃ A N c, v = .slice A N c := by
  obtain ⟨hl, ⟨rfl, h0⟩ | ⟨g, cap, cur, rfl, _⟩⟩ := h
  · exact ⟨_, _, _, rfl⟩
  · exact ⟨_, _, _, rfl⟩

theorem own_slice {w : World} {base n : Nat} {e : TypeId} {v : Value} {xs : List Value} (h : w.ownsRow base e 1 v n xs) : ∃ A c, v = .slice A n c ∧ n ≤ c ∧ c ≤ 9223372036854775807 ∧ (A = none → c = 0) ∧ (0 < n → ∃ g, A = some ⟨g, 0, none⟩ ∧ v.ownBlock = some g ∧ g < w.heap.size ∧ ∀ j u, xs[j]? = some u → w.cell? ⟨g, j, none⟩ = some u) := by
  obtain ⟨hl, ⟨rfl, h0⟩ | ⟨g, cap, cur, rfl, hg, hh, hnc, hcm, hcs, htk⟩⟩ := h
  · exact ⟨none, 0, by rw [h0], by omega, by decide, fun _ => rfl, fun h => by omega⟩
  · refine ⟨_, cap, rfl, hnc, by unfold maxLen at hcm; omega, fun h => (by cases h), fun _ => ⟨g, rfl, rfl, (Array.getElem?_eq_some_iff.1 hh).1, fun j u hj => ?_⟩⟩
    rw [cell_of_row w g j cur _ (0, 0) hh, ← Array.getElem?_toList]
    rw [← htk, List.getElem?_take] at hj
    split at hj
    · exact hj
    · cases hj

set_option maxHeartbeats 12800000 in
theorem set22_any (q : Nat) (D : Nat → Prop) (ns : List (List Nat)) (rs : List (List Rat)) (n : List Nat) (vl : Value) (xs : List Rat) (L : Nat) (w : World) (h : SessRr w q D ns rs) (hp : PureS ns rs) (hnb : Byt n) (hn12 : n.length ≤ 12) (hng : nameG n = true)
    (hl : RowIn w L w.heap.size vl xs) (hx : xs.length ≤ 256) (hz : ∀ q ∈ xs, Sz q 70) :
    Calls Tryz.prog 22 #[.pointer (some ⟨q, 0, none⟩), .string (strN n), vl] w
      (SetPostR q D (setE ns n) (if setE ns n = 0 then putN ns n else ns) (if setE ns n = 0 then putR ns n rs xs else rs) w) := by
  have HNM : Hid (∀ W, Calls Tryz.prog 20 #[.string (strN n)] W fun e w' => e = .returned (.bool true) ∧ W = w') := fun W => by
    have := name22_any n hnb (by omega) W
    rw [hng] at this
    exact this
  have hlen := hp.1
  have hle := atG_le ns n
  obtain ⟨vN, vL, cl, hm⟩ := h.mid
  have hat := hm.at n hlen hp.2.1 hnb
  have hq := hm.1
  have hDlt := hm.2.2.2.2.2.2.2.2.1
  have hrl := hm.2.2.2.2.2.2.1
  have hoN := hm.2.2.2.2.1
  have hoL := hm.2.2.2.2.2.1
  obtain ⟨AN, cN, hvN, hcN, hmN, hnN, hxN⟩ := own_slice hm.2.1
  obtain ⟨AL, cL, hvL, hcL, hmL, hnL, hxL⟩ := own_slice hm.2.2.1
  subst hvN hvL
  obtain ⟨A0, c0, rfl, hc1, hc2, hc3, hc4⟩ := (show RowIn w L w.heap.size vl xs from hl)
  unfold maxLen at hc2
  have y0 : ¬ (256 : Int) < (xs.length : Int) := by omega
  have HX0 : Hid (∀ W, Below w.heap.size w W → W.cell? ⟨q, 0, none⟩ = some (.slice AN ns.length cN)) := fun W hW => (hW.cell (p := ⟨q, 0, none⟩) hq.lt).trans (hq.cell 0)
  have HX1 : Hid (∀ W, Below w.heap.size w W → W.cell? ⟨q, 1, none⟩ = some (.slice AL ns.length cL)) := fun W hW => (hW.cell (p := ⟨q, 1, none⟩) hq.lt).trans (hq.cell 1)
  have HROW : Hid (∀ k (h : k < xs.length), ∃ b, A0 = some ⟨b, 0, none⟩ ∧ ∀ W, Below w.heap.size w W → RatAt W 0 W.heap.size b (k * 3) xs[k]) := fun k h => by
    obtain ⟨b, hA, hLb, hbw, hcell⟩ := hc4 (by omega)
    exact ⟨b, hA, fun W hW => (hcell k h).stay hLb hbw (Nat.zero_le _) hW.size fun p _ hp => hW.cell hp⟩
  have HZ : Hid (∀ k (h : k < xs.length), Sz xs[k] 70) := fun k h => hz _ (List.getElem_mem h)
  obtain ⟨i0, hi, hz0, hz1, hz2⟩ := info_parts Tryz.infoRat
  clear hc3 hc4 hl hz
  cases hh : hasG ns n with
  | true =>
    have hil := hasG_lt hh
    have HPOST : Hid (∀ e w', SetPostR q D 0 ns (rs.set (atG ns n) xs) w e w' → SetPostR q D (setE ns n) (if setE ns n = 0 then putN ns n else ns) (if setE ns n = 0 then putR ns n rs xs else rs) w e w') := fun e w' h => by
      rw [setE_yes hh, if_pos rfl, if_pos rfl, show putN ns n = ns by unfold putN; rw [if_pos hh], show putR ns n rs xs = rs.set (atG ns n) xs by unfold putR; rw [if_pos hh]]
      exact h
    generalize hQ : (SetPostR q D (setE ns n) (if setE ns n = 0 then putN ns n else ns) (if setE ns n = 0 then putR ns n rs xs else rs) w) = Q at *
    clear hQ
    rw [hh] at hat
    have HAT := Lib.hid hat
    generalize atG ns n = i at *
    generalize strN n = t at *
    obtain ⟨g, rfl, hvg, hgw, hcg⟩ := hxL (by omega)
    have hir : i < rs.length := by omega
    obtain ⟨old, hold⟩ : ∃ old, w.cell? ⟨g, i, none⟩ = some old := by
      obtain ⟨u, hu, -⟩ := hm.2.2.2.2.2.2.2.2.2 i hir
      exact ⟨u, hcg i u hu⟩
    have hbg : ∃ cur, Blk w g 35 cur := by
      rcases hm.2.2.1.2 with ⟨h1, h2⟩ | ⟨g', cap, cur, h1, h2, h3, -⟩
      · cases h1
      · cases h1; exact ⟨cur, h3⟩
    obtain ⟨cur, hcur⟩ := hbg
    have HFREE : Hid (∀ W, Below w.heap.size w W → W.frozen? ⟨g, i, none⟩ = false ∧ W.cell? ⟨g, i, none⟩ = some old) := fun W hW => ⟨(hcur.below hW hgw).free i, (hW.cell (p := ⟨g, i, none⟩) hgw).trans hold⟩
    have HLAST : Hid (∀ W A c, Below w.heap.size w W → RowIn W w.heap.size W.heap.size (.slice A xs.length c) xs → SetPostR q D 0 ns (rs.set i xs) w (.returned (.int .i64 0)) (W.setCell ⟨g, i, none⟩ (.slice A xs.length c))) := fun W A c hW hrow => by
      have hg2 := hm.grow (D' := fun k => D k ∨ (w.heap.size ≤ k ∧ k < W.heap.size)) hW (fun k hk => Or.inl hk) (fun k hk => by
        rcases hk with hk | hk
        · exact Nat.lt_of_lt_of_le (hDlt k hk) hW.size
        · exact hk.2)
      have hqlt := hq.lt
      refine ⟨_, rfl, hg2.set hir hvg ⟨A, c, w.heap.size, W.heap.size, rfl, hrow, Nat.le_refl _, fun b h1 h2 => ⟨Or.inr ⟨h1, h2⟩, by omega, fun e => ?_, fun e => ?_⟩⟩, (Turned.of_below hW).set_new (Or.inl (hoL g hvg).1) _, fun k hk => ?_⟩
      · have := hDlt b (hoL b e).1; omega
      · have := hDlt b (hoN b e).1; omega
      · rcases hk with hk | hk
        · exact Or.inl hk
        · exact Or.inr hk.1
    have y4 : (i : Int) < (ns.length : Int) := by omega
    clear hat hm hq hoN hoL hxN hxL h hp hDlt hold hcur hcg hvg
    go_enter Tryz.func22, Tryz.ntmps22
    go_wp2_with fail
    go_fit (HNM.out _)
    rintro e w1 ⟨rfl, rfl⟩
    go_wp2_with fail
    go_fit HAT.out
    rintro e w2 ⟨rfl, hB2⟩
    clear HAT HNM
    go_wp2_with fail
    go_loopw [9, 10] (fun v i wr => ∃ k : Nat, k ≤ xs.length ∧ i = .int .i64 (k : Int) ∧ OwnR wr w.heap.size 60 v (xs.take k) ∧ Below w.heap.size w wr) (fun _ i _ => xs.length - (RowKit.intOf i).toNat)
    case atStart => exact ⟨0, Nat.zero_le _, rfl, OwnR.nil _ _ _, hB2⟩
    case round =>
      clear hB2
      obtain ⟨k, hk, rfl, hown, hB⟩ := hrel
      by_cases hkn : k < xs.length
      · have y9 : (k : Int) < (xs.length : Int) := by omega
        obtain ⟨b, rfl, hcell⟩ := HROW.out k hkn
        obtain ⟨G1, j1, G2, j2, c0', c1', c2', m1, m2⟩ := hcell wr hB
        have hq9 : RQ wr 0 wr.heap.size (.agg #[.bool (qS xs[k]), .slice G1 (lim (qN xs[k])).length j1, .slice G2 (lim xs[k].den).length j2]) xs[k] 70 := RQ.of ⟨_, _, rfl, m1, m2⟩ (HZ.out k hkn)
        have HST : Hid (xs.take k ++ [xs[k]] = xs.take (k + 1)) := take_snoc' xs k hkn
        have HQ := Lib.hid hq9
        clear hcell m1 m2 hq9
        generalize xs[k] = r at *
        go_wp2_with fail
        go_fit (ratNorm_q _ r 70 _ HQ.out (by omega))
        rintro e w5 ⟨v5, rfl, ⟨bn, bd, rfl, hbn, hbd⟩, hb5⟩
        obtain ⟨F1, l1, rfl, m1⟩ := nt_len hbn
        obtain ⟨F2, l2, rfl, m2⟩ := nt_len hbd
        have hvL := hown.lt
        have hL1 := hB.size
        have HN1 := Lib.hid hbn
        have HN2 := Lib.hid hbd
        have HVL := Lib.hid (fun g hg => (hvL g hg).2)
        have hlen5 : (xs.take k).length ≤ 1000000 := by rw [List.length_take]; omega
        have HLEN := Lib.hid hlen5
        have HOW := Lib.hid (hown.after hb5)
        have hB5 := hB.trans (hb5.mono hB.size)
        have HB5 := Lib.hid hB5
        have HBS := Lib.hid hB5.size
        clear hbn hbd m1 m2 hvL hown hb5 hB hlen5 hB5 c0' c1' c2' HQ
        go_wp2_with (at_builtin; refine wpList_append_rat rfl _ _ 35 rfl w.heap.size 60 i0 _ Tryz.underlying35 hi hz0 hz1 hz2 rfl u9 (xs.take k) rfl HOW.out r F1 F2 l1 l2 _ hL1 HVL.out HN1.out HN2.out rfl HLEN.out HBS.out ?_)
        intro v7 w7 ho7 hb7 hs7
        rw [HST.out] at ho7
        have hB7 := HB5.out.trans hb7
        clear HOW HN1 HN2 HVL HB5 HBS hb7 hs7
        go_wp2_with fail
        go_roundw
        case rel => exact ⟨k + 1, by omega, by go_num, ho7, hB7⟩
        case measure => simp [RowKit.intOf]; omega
      · obtain rfl : k = xs.length := by omega
        have y9 : ¬ ((xs.length : Nat) : Int) < (xs.length : Int) := by omega
        rw [List.take_length] at hown
        obtain ⟨A9, c9, rfl, -, -, -, -⟩ := (show RowIn wr w.heap.size wr.heap.size _ xs from hown.row)
        have HRW := Lib.hid hown.row
        clear hown HROW HZ hi hz0 hz1 hz2
        have x1 := HX1.out _ hB
        obtain ⟨z0, z1⟩ := HFREE.out _ hB
        have HFIN := Lib.hid (HLAST.out _ _ _ hB HRW.out)
        clear HX0 HX1 HLAST HFREE
        go_wp2_with fail
        exact HPOST.out _ _ HFIN.out
  | false =>
    by_cases h16 : 16 ≤ ns.length
    · have HPOST : Hid (∀ w', Below w.heap.size w w' → SetPostR q D (setE ns n) (if setE ns n = 0 then putN ns n else ns) (if setE ns n = 0 then putR ns n rs xs else rs) w (.returned (.int .i64 7)) w') := fun w' hb => by
        rw [setE_full hh h16, if_neg (by decide), if_neg (by decide)]
        exact ⟨D, rfl, h.below hb, Turned.of_below hb, fun k hk => Or.inl hk⟩
      generalize hQ : (SetPostR q D (setE ns n) (if setE ns n = 0 then putN ns n else ns) (if setE ns n = 0 then putR ns n rs xs else rs) w) = Q at *
      clear hQ
      rw [hh] at hat
      have HAT := Lib.hid hat
      have y4 : (16 : Int) ≤ (ns.length : Int) := by omega
      generalize atG ns n = i at *
      generalize strN n = t at *
      clear hat hm hq hoN hoL hxN hxL HROW HX1 HZ h hp hDlt
      go_enter Tryz.func22, Tryz.ntmps22
      go_wp2_with fail
      go_fit (HNM.out _)
      rintro e w1 ⟨rfl, rfl⟩
      go_wp2_with fail
      go_fit HAT.out
      rintro e w2 ⟨rfl, hB2⟩
      clear HAT HNM
      have x0 := HX0.out _ hB2
      go_wp2_with fail
      exact HPOST.out _ hB2
    · have HPOST : Hid (∀ e w', SetPostR q D 0 (ns.take (atG ns n) ++ n :: ns.drop (atG ns n)) (rs.take (atG ns n) ++ xs :: rs.drop (atG ns n)) w e w' → SetPostR q D (setE ns n) (if setE ns n = 0 then putN ns n else ns) (if setE ns n = 0 then putR ns n rs xs else rs) w e w') := fun e w' h => by
        rw [setE_new h16, if_pos rfl, if_pos rfl, show putN ns n = ns.take (atG ns n) ++ n :: ns.drop (atG ns n) by unfold putN; rw [if_neg (by rw [hh]; simp)], show putR ns n rs xs = rs.take (atG ns n) ++ xs :: rs.drop (atG ns n) by unfold putR; rw [if_neg (by rw [hh]; simp)]]
        exact h
      generalize hQ : (SetPostR q D (setE ns n) (if setE ns n = 0 then putN ns n else ns) (if setE ns n = 0 then putR ns n rs xs else rs) w) = Q at *
      clear hQ
      rw [hh] at hat
      have HAT := Lib.hid hat
      generalize atG ns n = i at *
      have y4 : ¬ (16 : Int) ≤ (ns.length : Int) := by omega
      have y5 : (ns.length : Int) < 16 := by omega
      have y6 : (i : Int) ≤ (cN : Int) := by omega
      have y7 : (i : Int) ≤ (cL : Int) := by omega
      have y8 : (i : Int) ≤ (ns.length : Int) := by omega
      clear hat
      go_enter Tryz.func22, Tryz.ntmps22
      go_wp2_with fail
      go_fit (HNM.out _)
      rintro e w1 ⟨rfl, rfl⟩
      go_wp2_with fail
      go_fit HAT.out
      rintro e w2 ⟨rfl, hB2⟩
      clear HAT HNM
      have x0 := HX0.out _ hB2
      go_wp2_with fail
      go_loopw [9, 10] (fun v i wr => ∃ k : Nat, k ≤ xs.length ∧ i = .int .i64 (k : Int) ∧ OwnR wr w.heap.size 60 v (xs.take k) ∧ Below w.heap.size w wr) (fun _ i _ => xs.length - (RowKit.intOf i).toNat)
      case atStart => exact ⟨0, Nat.zero_le _, rfl, OwnR.nil _ _ _, hB2⟩
      case round =>
        clear hB2
        obtain ⟨k, hk, rfl, hown, hB⟩ := hrel
        by_cases hkn : k < xs.length
        · have y9 : (k : Int) < (xs.length : Int) := by omega
          obtain ⟨b, rfl, hcell⟩ := HROW.out k hkn
          obtain ⟨G1, j1, G2, j2, c0', c1', c2', m1, m2⟩ := hcell wr hB
          have hq9 : RQ wr 0 wr.heap.size (.agg #[.bool (qS xs[k]), .slice G1 (lim (qN xs[k])).length j1, .slice G2 (lim xs[k].den).length j2]) xs[k] 70 := RQ.of ⟨_, _, rfl, m1, m2⟩ (HZ.out k hkn)
          have HST : Hid (xs.take k ++ [xs[k]] = xs.take (k + 1)) := take_snoc' xs k hkn
          have HQ := Lib.hid hq9
          clear hcell m1 m2 hq9
          generalize xs[k] = r at *
          go_wp2_with fail
          go_fit (ratNorm_q _ r 70 _ HQ.out (by omega))
          rintro e w5 ⟨v5, rfl, ⟨bn, bd, rfl, hbn, hbd⟩, hb5⟩
          obtain ⟨F1, l1, rfl, m1⟩ := nt_len hbn
          obtain ⟨F2, l2, rfl, m2⟩ := nt_len hbd
          have hvL := hown.lt
          have hL1 := hB.size
          have HN1 := Lib.hid hbn
          have HN2 := Lib.hid hbd
          have HVL := Lib.hid (fun g hg => (hvL g hg).2)
          have hlen5 : (xs.take k).length ≤ 1000000 := by rw [List.length_take]; omega
          have HLEN := Lib.hid hlen5
          have HOW := Lib.hid (hown.after hb5)
          have hB5 := hB.trans (hb5.mono hB.size)
          have HB5 := Lib.hid hB5
          have HBS := Lib.hid hB5.size
          clear hbn hbd m1 m2 hvL hown hb5 hB hlen5 hB5 c0' c1' c2' HQ
          go_wp2_with (at_builtin; refine wpList_append_rat rfl _ _ 35 rfl w.heap.size 60 i0 _ Tryz.underlying35 hi hz0 hz1 hz2 rfl u9 (xs.take k) rfl HOW.out r F1 F2 l1 l2 _ hL1 HVL.out HN1.out HN2.out rfl HLEN.out HBS.out ?_)
          intro v7 w7 ho7 hb7 hs7
          rw [HST.out] at ho7
          have hB7 := HB5.out.trans hb7
          clear HOW HN1 HN2 HVL HB5 HBS hb7 hs7
          go_wp2_with fail
          go_roundw
          case rel => exact ⟨k + 1, by omega, by go_num, ho7, hB7⟩
          case measure => simp [RowKit.intOf]; omega
        · obtain rfl : k = xs.length := by omega
          have y9 : ¬ ((xs.length : Nat) : Int) < (xs.length : Int) := by omega
          rw [List.take_length] at hown
          obtain ⟨A9, c9, rfl, -, -, -, -⟩ := (show RowIn wr w.heap.size wr.heap.size _ xs from hown.row)
          have HRW := Lib.hid hown.row
          clear hown HROW HZ hi hz0 hz1 hz2
          obtain ⟨iN, hiN, hzN0, hzN1, hzN2⟩ := info_parts Tryz.infoStr2
          obtain ⟨iL, hiL, hzL0, hzL1, hzL2⟩ := info_parts Tryz.infoRow
          have hBa := hB.alloc hB.size (.cells #[] 9)
          have x0a := HX0.out _ hBa
          obtain ⟨v66, w66, hrun66, ho66, -, hb66⟩ : ∃ v' w', (∀ ty, (Builtin.append_ #[22, 22] ty #[.slice (some ⟨wr.heap.size, 0, none⟩) 0 0, .slice AN i cN]).run Tryz.prog (wr.alloc (.cells #[] 9)) = .ok v' w') ∧ OwnV w' wr.heap.size 9 v' ([] ++ (ns.take i).map fun n => Value.string (strN n)) ∧ True ∧ Below wr.heap.size (wr.alloc (.cells #[] 9)) w' := by
            obtain ⟨v', w', h1, h2, h3, h4⟩ := OwnV.append (P := Tryz.prog) (OwnV.empty wr 9) 22 0 iN _ 16 Tryz.underlying22 hiN hzN0 hzN1 hzN2 rfl (by decide) AN i cN ((ns.take i).map fun n => Value.string (strN n)) (by
              by_cases h0 : i = 0
              · exact Or.inl h0
              · right
                obtain ⟨g, hA, -, hg, hc⟩ := hxN (by omega)
                refine ⟨_, hA, fun j u hj => ?_⟩
                rw [Addr.add_lit, Nat.zero_add, hBa.cell (p := ⟨g, j, none⟩) hg]
                refine hc j u ?_
                rw [List.getElem?_map, List.getElem?_take] at hj
                split at hj
                · rw [List.getElem?_map]; exact hj
                · cases hj) (by rw [List.length_map, List.length_take]; omega) (fun u hu => by obtain ⟨_, _, rfl⟩ := List.mem_map.1 hu; rfl) (by simp; omega) (by rw [World.size_alloc]; omega)
            exact ⟨v', w', fun ty => h1, h2, trivial, h4⟩

          have hB66 : Below w.heap.size w w66 := hBa.trans (hb66.mono hB.size)
          rw [List.nil_append] at ho66
          have hs66 : wr.heap.size ≤ w66.heap.size := by have := hb66.size; rw [World.size_alloc] at this; omega
          have hl66 : ((ns.take i).map fun n => Value.string (strN n)).length + 1 ≤ 1000000 := by rw [List.length_map, List.length_take]; omega
          obtain ⟨v69, w69, hrun69, ho69, hb69⟩ := OwnV.one (P := Tryz.prog) ho66 22 0 iN _ 16 Tryz.underlying22 hiN hzN0 hzN1 hzN2 rfl (by decide) (.string (strN n)) rfl hl66 hs66
          have HR69 : Hid (∀ ty, ∃ v' w', (Builtin.append_ #[22, 22] ty #[v66, .slice (some ⟨w66.heap.size, 0, none⟩) 1 1]).run Tryz.prog (w66.alloc (.cells #[.string (strN n)] 9)) = .ok v' w' ∧ (v' = v69 ∧ w' = w69)) := fun ty => ⟨_, _, hrun69, rfl, rfl⟩
          have HR66 : Hid (∀ ty, ∃ v' w', (Builtin.append_ #[22, 22] ty #[.slice (some ⟨wr.heap.size, 0, none⟩) 0 0, .slice AN i cN]).run Tryz.prog (wr.alloc (.cells #[] 9)) = .ok v' w' ∧ (v' = v66 ∧ w' = w66)) := fun ty => ⟨_, _, hrun66 ty, rfl, rfl⟩
          have hB69 : Below w.heap.size w w69 := hB66.trans (hb69.mono (Nat.le_trans hB.size hs66 |> fun _ => hB.size))
          have hs69 : wr.heap.size ≤ w69.heap.size := Nat.le_trans hs66 hb69.size
          have hBc := hB69.alloc hB69.size (.cells #[] 35)
          have x1c := HX1.out _ hBc
          obtain ⟨v77, w77, hrun77, ho77, -, hb77⟩ := OwnV.append (P := Tryz.prog) (OwnV.empty w69 35) 32 0 iL _ 24 Tryz.underlying32 hiL hzL0 hzL1 hzL2 rfl (by decide) AL i cL (cl.take i) (by
              by_cases h0 : i = 0
              · exact Or.inl h0
              · right
                obtain ⟨g, hA, -, hg, hc⟩ := hxL (by omega)
                refine ⟨_, hA, fun j u hj => ?_⟩
                rw [Addr.add_lit, Nat.zero_add, hBc.cell (p := ⟨g, j, none⟩) hg]
                refine hc j u ?_
                rw [List.getElem?_take] at hj
                split at hj
                · exact hj
                · cases hj) (by rw [List.length_take]; have := hm.2.2.1.1; omega) (fun u hu => by
                  obtain ⟨j, hj, rfl⟩ := List.getElem_of_mem hu
                  rw [List.length_take] at hj
                  have hjr : j < rs.length := by have := hm.2.2.1.1; omega
                  obtain ⟨u, e1, A, c, L, B, rfl, -⟩ := hm.2.2.2.2.2.2.2.2.2 j hjr
                  rw [List.getElem_take]
                  rw [List.getElem?_eq_getElem (by omega)] at e1
                  rw [Option.some.inj e1]
                  rfl) (by simp; omega) (by rw [World.size_alloc]; omega)
          rw [List.nil_append] at ho77
          have hcll : cl.length = ns.length := by have := hm.2.2.1.1; omega
          have hs77 : w69.heap.size ≤ w77.heap.size := by have := hb77.size; rw [World.size_alloc] at this; omega
          have hb77b : Below w69.heap.size w69 w77 := ((Below.refl _ w69).alloc (Nat.le_refl _) _).trans hb77
          obtain ⟨v80, w80, hrun80, ho80, hb80⟩ := OwnV.one (P := Tryz.prog) ho77 32 0 iL _ 24 Tryz.underlying32 hiL hzL0 hzL1 hzL2 rfl (by decide) (.slice A9 xs.length c9) rfl (by rw [List.length_take]; omega) hs77
          have HR77 : Hid (∀ ty, ∃ v' w', (Builtin.append_ #[32, 32] ty #[.slice (some ⟨w69.heap.size, 0, none⟩) 0 0, .slice AL i cL]).run Tryz.prog (w69.alloc (.cells #[] 35)) = .ok v' w' ∧ (v' = v77 ∧ w' = w77)) := fun ty => ⟨_, _, hrun77, rfl, rfl⟩
          have HR80 : Hid (∀ ty, ∃ v' w', (Builtin.append_ #[32, 32] ty #[v77, .slice (some ⟨w77.heap.size, 0, none⟩) 1 1]).run Tryz.prog (w77.alloc (.cells #[.slice A9 xs.length c9] 35)) = .ok v' w' ∧ (v' = v80 ∧ w' = w80)) := fun ty => ⟨_, _, hrun80, rfl, rfl⟩
          have hb80b : Below w69.heap.size w69 w80 := hb77b.trans hb80
          have ho69b := ho69.after hb80b
          have hBr80 : Below wr.heap.size wr w80 := (((Below.refl _ wr).alloc (Nat.le_refl _) _).trans hb66).trans (hb69.trans (hb80b.mono hs69))
          have hB80 : Below w.heap.size w w80 := hB.trans (hBr80.mono hB.size)
          have HO69 := Lib.hid ho69b
          have HO80 : Hid (OwnV w80 wr.heap.size 35 v80 (cl.take i ++ [.slice A9 xs.length c9])) := own_mono ho80 hs69
          have HBR80 := Lib.hid hBr80
          have HM := Lib.hid hm
          have HXN := Lib.hid hxN
          have HXL := Lib.hid hxL
          have HDLT := Lib.hid hDlt
          have HOLN := Lib.hid hoN
          have HOLL := Lib.hid hoL
          clear hrun66 hrun69 hrun77 hrun80 ho66 ho69 ho77 ho80 hb66 hb69 hb77 hb80 hb77b hb80b ho69b hBr80 hB66 hB69 hBc hBa hl66 hm hxN hxL hDlt hoN hoL h hp
          go_wp2_with (first
            | (at_builtin; refine wpList_append_src rfl _ _ 22 rfl _ _ rfl rfl _ (HR66.out _) ?_)
            | (at_builtin; refine wpList_append_src rfl _ _ 22 rfl _ _ rfl rfl _ (HR69.out _) ?_)
            | (at_builtin; refine wpList_append_src rfl _ _ 32 rfl _ _ rfl rfl _ (HR77.out _) ?_)
            | (at_builtin; refine wpList_append_src rfl _ _ 32 rfl _ _ rfl rfl _ (HR80.out _) ?_))

          have HNX : Hid ((ns.take i).map (fun n => Value.string (strN n)) ++ [Value.string (strN n)] ++ (ns.drop i).map (fun n => Value.string (strN n)) = (ns.take i ++ n :: ns.drop i).map fun n => Value.string (strN n)) := by
            show _ = _
            rw [List.map_append, List.map_cons, List.append_assoc]; rfl
          have HLX : Hid (cl.take i ++ [Value.slice A9 xs.length c9] ++ cl.drop i = cl.take i ++ Value.slice A9 xs.length c9 :: cl.drop i) := by
            show _ = _
            rw [List.append_assoc]; rfl
          have HLONE : Hid (∀ u ∈ cl.drop i, u.oneCell' = true) := fun u hu => by
            obtain ⟨j, hj, rfl⟩ := List.getElem_of_mem (List.mem_of_mem_drop hu)
            have hjr : j < rs.length := by omega
            obtain ⟨u, e1, A, c, L, B, rfl, -⟩ := HM.out.2.2.2.2.2.2.2.2.2 j hjr
            rw [List.getElem?_eq_getElem hj] at e1
            rw [Option.some.inj e1]
            rfl
          have HN : Hid (∀ W, Below wr.heap.size wr W → OwnV W wr.heap.size 9 v69 ((ns.take i).map (fun n => Value.string (strN n)) ++ [Value.string (strN n)]) → ∀ A c ty, (ns.length - i = 0 ∨ ∃ g, AN = some ⟨g, 0, none⟩ ∧ A = some ⟨g, i, none⟩) →
              ∃ v' W', (Builtin.append_ #[22, 22] ty #[v69, .slice A (ns.length - i) c]).run Tryz.prog W = .ok v' W' ∧ (OwnV W' wr.heap.size 9 v' ((ns.take i ++ n :: ns.drop i).map fun n => Value.string (strN n)) ∧ W.grownBy W' v69.ownBlock ∧ Below wr.heap.size W W')) := fun W hW ho A c ty hA => by
            rw [← HNX.out]
            refine ho.append (P := Tryz.prog) 22 ty iN _ 16 Tryz.underlying22 hiN hzN0 hzN1 hzN2 rfl (by decide) A (ns.length - i) c _ ?_ (by rw [List.length_map, List.length_drop]) (fun u hu => by obtain ⟨_, _, rfl⟩ := List.mem_map.1 hu; rfl) (by simp; omega) hW.size
            rcases hA with h | ⟨g, h1, rfl⟩
            · exact Or.inl h
            · by_cases h0 : ns.length - i = 0
              · exact Or.inl h0
              · right
                obtain ⟨g', hA', -, hg, hc⟩ := HXN.out (by omega)
                rw [h1] at hA'
                cases hA'
                refine ⟨_, rfl, fun j u hj => ?_⟩
                rw [Addr.add_lit, (hB.trans (hW.mono hB.size)).cell (p := ⟨g, i + j, none⟩) hg]
                refine hc (i + j) u ?_
                rw [List.getElem?_map, List.getElem?_drop] at hj
                rw [List.getElem?_map]; exact hj
          have HLL : Hid (∀ W, Below wr.heap.size wr W → OwnV W wr.heap.size 35 v80 (cl.take i ++ [.slice A9 xs.length c9]) → ∀ A c ty, (ns.length - i = 0 ∨ ∃ g, AL = some ⟨g, 0, none⟩ ∧ A = some ⟨g, i, none⟩) →
              ∃ v' W', (Builtin.append_ #[32, 32] ty #[v80, .slice A (ns.length - i) c]).run Tryz.prog W = .ok v' W' ∧ (OwnV W' wr.heap.size 35 v' (cl.take i ++ Value.slice A9 xs.length c9 :: cl.drop i) ∧ W.grownBy W' v80.ownBlock ∧ Below wr.heap.size W W')) := fun W hW ho A c ty hA => by
            rw [← HLX.out]
            refine ho.append (P := Tryz.prog) 32 ty iL _ 24 Tryz.underlying32 hiL hzL0 hzL1 hzL2 rfl (by decide) A (ns.length - i) c _ ?_ (by rw [List.length_drop, hcll]) HLONE.out (by simp; omega) hW.size
            rcases hA with h | ⟨g, h1, rfl⟩
            · exact Or.inl h
            · by_cases h0 : ns.length - i = 0
              · exact Or.inl h0
              · right
                obtain ⟨g', hA', -, hg, hc⟩ := HXL.out (by omega)
                rw [h1] at hA'
                cases hA'
                refine ⟨_, rfl, fun j u hj => ?_⟩
                rw [Addr.add_lit, (hB.trans (hW.mono hB.size)).cell (p := ⟨g, i + j, none⟩) hg]
                refine hc (i + j) u ?_
                rw [List.getElem?_drop] at hj
                exact hj
          have HKL : Hid (∀ (W W' : World) (v v' : Value) (X Y : List Value), OwnV W wr.heap.size 9 v X → OwnV W wr.heap.size 35 v' Y → W.grownBy W' v.ownBlock → OwnV W' wr.heap.size 35 v' Y) := fun W W' v v' X Y h1 h2 hg => own_keep h2 fun g hgg => hg.block g (own_lt h2 g hgg).2 (fun e => own_types h1 h2 (by decide) hgg e.symm)
          have HKN : Hid (∀ (W W' : World) (v v' : Value) (X Y : List Value), OwnV W wr.heap.size 35 v X → OwnV W wr.heap.size 9 v' Y → W.grownBy W' v.ownBlock → OwnV W' wr.heap.size 9 v' Y) := fun W W' v v' X Y h1 h2 hg => own_keep h2 fun g hgg => hg.block g (own_lt h2 g hgg).2 (fun e => own_types h1 h2 (by decide) hgg e.symm)
          have HQB : Hid (∀ W, Below wr.heap.size wr W → Blk W q 34 #[.slice AN ns.length cN, .slice AL ns.length cL, .int .i64 6]) := fun W hW => hq.below (hB.trans (hW.mono hB.size)) hq.lt
          have HLAST : Hid (∀ wF vN' vL', Below wr.heap.size wr wF → OwnV wF wr.heap.size 9 vN' ((ns.take i ++ n :: ns.drop i).map fun n => Value.string (strN n)) → OwnV wF wr.heap.size 35 vL' (cl.take i ++ Value.slice A9 xs.length c9 :: cl.drop i) →
              SetPostR q D 0 (ns.take i ++ n :: ns.drop i) (rs.take i ++ xs :: rs.drop i) w (.returned (.int .i64 0)) ((wF.setCell ⟨q, 0, none⟩ vN').setCell ⟨q, 1, none⟩ vL')) := fun wF vN' vL' hW h1 h2 => by
            have hBF : Below w.heap.size w wF := hB.trans (hW.mono hB.size)
            have hqlt := hq.lt
            have hsz : ((wF.setCell ⟨q, 0, none⟩ vN').setCell ⟨q, 1, none⟩ vL').heap.size = wF.heap.size := by simp [World.setCell]
            have hkp : ∀ b, b ≠ q → ((wF.setCell ⟨q, 0, none⟩ vN').setCell ⟨q, 1, none⟩ vL').heap[b]? = wF.heap[b]? := fun b hb => (Below.heap_setCell _ ⟨q, 1, none⟩ _ b hb).trans (Below.heap_setCell _ ⟨q, 0, none⟩ _ b hb)
            have e1 : ((ns.take i ++ n :: ns.drop i).map fun n => Value.string (strN n)).length = ns.length + 1 := by
              rw [List.length_map]; simp only [List.length_append, List.length_take, List.length_cons, List.length_drop]; omega
            have e2 : (cl.take i ++ Value.slice A9 xs.length c9 :: cl.drop i).length = ns.length + 1 := by
              simp only [List.length_append, List.length_take, List.length_cons, List.length_drop]; omega
            unfold OwnV at h1 h2
            rw [e1] at h1
            rw [e2] at h2
            refine ⟨_, rfl, MidR.make (b0 := wr.heap.size) (B := wr.heap.size) HM.out hle ⟨hnb, hn12⟩ (by rw [hsz]; exact hBF.size) (fun k hk hkq => (hkp k hkq).trans (hBF.block k hk)) (((HQB.out wF hW).put 0 vN').put 1 vL') (own_keep h1 fun g hg => hkp g (by have := (own_lt h1 g hg).1; have := hB.size; omega)) (own_keep h2 fun g hg => hkp g (by have := (own_lt h2 g hg).1; have := hB.size; omega))
              (HRW.out.stay (Nat.le_refl _) (Nat.le_refl _) fun p h1 h2 => (World.cell?_of_block (hkp p.block (by omega))).trans (hW.cell h2)) (Nat.le_refl _) hB.size (by rw [hsz]; exact hW.size), ?_, fun k hk => ?_⟩
            · exact ((Turned.of_below hBF).set_new (Or.inl HM.out.2.2.2.1) _).set_new (Or.inl HM.out.2.2.2.1) _
            · rcases hk with hk | hk
              · exact Or.inl hk
              · exact Or.inr hk.1
          have q0 := (HQB.out w80 HBR80.out).cell 0
          have q1 := (HQB.out w80 HBR80.out).cell 1
          clear hq hiN hzN0 hzN1 hzN2 hiL hzL0 hzL1 hzL2 HNX HLX HLONE HX0 HX1 HDLT HOLN HOLL HRW HM

          have HBD : Hid (Below wr.heap.size wr w80.drew) := HBR80.out.drew
          by_cases hil : i < ns.length
          · obtain ⟨gN, rfl, -, -, -⟩ := HXN.out (by omega)
            obtain ⟨gL, rfl, -, -, -⟩ := HXL.out (by omega)
            have SN : ns.length - i = 0 ∨ ∃ g, (some ⟨gN, 0, none⟩ : Option Addr) = some ⟨g, 0, none⟩ ∧ (some ⟨gN, i, none⟩ : Option Addr) = some ⟨g, i, none⟩ := Or.inr ⟨gN, rfl, rfl⟩
            have SL : ns.length - i = 0 ∨ ∃ g, (some ⟨gL, 0, none⟩ : Option Addr) = some ⟨g, 0, none⟩ ∧ (some ⟨gL, i, none⟩ : Option Addr) = some ⟨g, i, none⟩ := Or.inr ⟨gL, rfl, rfl⟩
            have e1 : ¬ (cN = i) := by omega
            have e2 : ¬ (cL = i) := by omega
            have mixed : Tryz.prog.follows .mixedOrders = true := by kernel_rfl
            clear HXN HXL hnN hnL
            go_region_law_o
              (first
                | (have hx := HLdone
                   refine step_append_src rfl _ _ 22 rfl v69 (.slice (some ⟨gN, i, none⟩) (ns.length - i) (cN - i)) (by simp [Act.eval, Act.put]) (by simp [Act.eval, Act.put]) _ (HN.out _ HLB.out HLN.out _ _ _ SN) ?_
                   rintro v90 wF ⟨ho90, hg90, hb90⟩
                   obtain ⟨A90, N90, c90, rfl⟩ := own_form ho90
                   have HFN := Lib.hid ho90
                   have HFL := Lib.hid (HKL.out _ _ _ _ _ _ HLN.out HLdone.out hg90)
                   have HFB := Lib.hid (Below.trans HLB.out hb90)
                   have z0 := (HQB.out wF HFB.out).free 0
                   have z1 := (HQB.out wF HFB.out).free 1
                   have d0 := (HQB.out wF HFB.out).cell 0
                   have d1 := (HQB.out wF HFB.out).cell 1
                   clear ho90 hg90 hb90 hx)
                | (have hx := HNdone
                   refine step_append_src rfl _ _ 32 rfl v80 (.slice (some ⟨gL, i, none⟩) (ns.length - i) (cL - i)) (by simp [Act.eval, Act.put]) (by simp [Act.eval, Act.put]) _ (HLL.out _ HNB.out HNL.out _ _ _ SL) ?_
                   rintro v98 wF ⟨ho98, hg98, hb98⟩
                   obtain ⟨A98, N98, c98, rfl⟩ := own_form ho98
                   have HFL := Lib.hid ho98
                   have HFN := Lib.hid (HKN.out _ _ _ _ _ _ HNL.out HNdone.out hg98)
                   have HFB := Lib.hid (Below.trans HNB.out hb98)
                   have z0 := (HQB.out wF HFB.out).free 0
                   have z1 := (HQB.out wF HFB.out).free 1
                   have d0 := (HQB.out wF HFB.out).cell 0
                   have d1 := (HQB.out wF HFB.out).cell 1
                   clear ho98 hg98 hb98 hx)
                | (refine step_append_src rfl _ _ 22 rfl v69 (.slice (some ⟨gN, i, none⟩) (ns.length - i) (cN - i)) (by simp [Act.eval, Act.put]) (by simp [Act.eval, Act.put]) _ (HN.out w80.drew HBD.out HO69.out _ _ _ SN) ?_
                   rintro v90 w90 ⟨ho90, hg90, hb90⟩
                   obtain ⟨A90, N90, c90, rfl⟩ := own_form ho90
                   have HNdone := Lib.hid ho90
                   have HNL := Lib.hid (HKL.out _ _ _ _ _ _ (show OwnV w80.drew wr.heap.size _ _ _ from HO69.out) (show OwnV w80.drew wr.heap.size _ _ _ from HO80.out) hg90)
                   have HNB := Lib.hid (Below.trans HBD.out hb90)
                   have p0 := (HQB.out w90 HNB.out).cell 0
                   have p1 := (HQB.out w90 HNB.out).cell 1
                   clear ho90 hg90 hb90)
                | (refine step_append_src rfl _ _ 32 rfl v80 (.slice (some ⟨gL, i, none⟩) (ns.length - i) (cL - i)) (by simp [Act.eval, Act.put]) (by simp [Act.eval, Act.put]) _ (HLL.out w80.drew HBD.out HO80.out _ _ _ SL) ?_
                   rintro v98 w98 ⟨ho98, hg98, hb98⟩
                   obtain ⟨A98, N98, c98, rfl⟩ := own_form ho98
                   have HLdone := Lib.hid ho98
                   have HLN := Lib.hid (HKN.out _ _ _ _ _ _ (show OwnV w80.drew wr.heap.size _ _ _ from HO80.out) (show OwnV w80.drew wr.heap.size _ _ _ from HO69.out) hg98)
                   have HLB := Lib.hid (Below.trans HBD.out hb98)
                   have p0 := (HQB.out w98 HLB.out).cell 0
                   have p1 := (HQB.out w98 HLB.out).cell 1
                   clear ho98 hg98 hb98)
                | fail)
            all_goals
              have HFIN := Lib.hid (HLAST.out wF (.slice A90 N90 c90) (.slice A98 N98 c98) HFB.out HFN.out HFL.out)
              go_wp2_with fail
              all_goals exact HPOST.out _ _ HFIN.out
          · have h0 : ns.length - i = 0 := by omega
            rw [h0] at HN HLL
            obtain rfl : i = ns.length := by omega
            have HN0 : Hid (∀ W, Below wr.heap.size wr W → OwnV W wr.heap.size 9 v69 ((ns.take ns.length).map (fun n => Value.string (strN n)) ++ [Value.string (strN n)]) → ∀ A c ty, 
              ∃ v' W', (Builtin.append_ #[22, 22] ty #[v69, .slice A 0 c]).run Tryz.prog W = .ok v' W' ∧ (OwnV W' wr.heap.size 9 v' ((ns.take ns.length ++ n :: ns.drop ns.length).map fun n => Value.string (strN n)) ∧ W.grownBy W' v69.ownBlock ∧ Below wr.heap.size W W')) := fun W hW ho A c ty => HN.out W hW ho A c ty (Or.inl rfl)
            have HL0 : Hid (∀ W, Below wr.heap.size wr W → OwnV W wr.heap.size 35 v80 (cl.take ns.length ++ [.slice A9 xs.length c9]) → ∀ A c ty,
              ∃ v' W', (Builtin.append_ #[32, 32] ty #[v80, .slice A 0 c]).run Tryz.prog W = .ok v' W' ∧ (OwnV W' wr.heap.size 35 v' (cl.take ns.length ++ Value.slice A9 xs.length c9 :: cl.drop ns.length) ∧ W.grownBy W' v80.ownBlock ∧ Below wr.heap.size W W')) := fun W hW ho A c ty => HLL.out W hW ho A c ty (Or.inl rfl)
            have mixed : Tryz.prog.follows .mixedOrders = true := by kernel_rfl
            clear HXN HXL hnN hnL HN HLL hil h0
            go_region_law_o
              (first
                | (have hx := HLdone
                   refine step_append_src rfl _ _ 22 rfl v69 _ rfl rfl _ (HN0.out _ HLB.out HLN.out _ _ _) ?_
                   rintro v90 wF ⟨ho90, hg90, hb90⟩
                   obtain ⟨A90, N90, c90, rfl⟩ := own_form ho90
                   have HFN := Lib.hid ho90
                   have HFL := Lib.hid (HKL.out _ _ _ _ _ _ HLN.out HLdone.out hg90)
                   have HFB := Lib.hid (Below.trans HLB.out hb90)
                   have z0 := (HQB.out wF HFB.out).free 0
                   have z1 := (HQB.out wF HFB.out).free 1
                   have d0 := (HQB.out wF HFB.out).cell 0
                   have d1 := (HQB.out wF HFB.out).cell 1
                   clear ho90 hg90 hb90 hx)
                | (have hx := HNdone
                   refine step_append_src rfl _ _ 32 rfl v80 _ rfl rfl _ (HL0.out _ HNB.out HNL.out _ _ _) ?_
                   rintro v98 wF ⟨ho98, hg98, hb98⟩
                   obtain ⟨A98, N98, c98, rfl⟩ := own_form ho98
                   have HFL := Lib.hid ho98
                   have HFN := Lib.hid (HKN.out _ _ _ _ _ _ HNL.out HNdone.out hg98)
                   have HFB := Lib.hid (Below.trans HNB.out hb98)
                   have z0 := (HQB.out wF HFB.out).free 0
                   have z1 := (HQB.out wF HFB.out).free 1
                   have d0 := (HQB.out wF HFB.out).cell 0
                   have d1 := (HQB.out wF HFB.out).cell 1
                   clear ho98 hg98 hb98 hx)
                | (refine step_append_src rfl _ _ 22 rfl v69 _ rfl rfl _ (HN0.out w80.drew HBD.out HO69.out _ _ _) ?_
                   rintro v90 w90 ⟨ho90, hg90, hb90⟩
                   obtain ⟨A90, N90, c90, rfl⟩ := own_form ho90
                   have HNdone := Lib.hid ho90
                   have HNL := Lib.hid (HKL.out _ _ _ _ _ _ (show OwnV w80.drew wr.heap.size _ _ _ from HO69.out) (show OwnV w80.drew wr.heap.size _ _ _ from HO80.out) hg90)
                   have HNB := Lib.hid (Below.trans HBD.out hb90)
                   have p0 := (HQB.out w90 HNB.out).cell 0
                   have p1 := (HQB.out w90 HNB.out).cell 1
                   clear ho90 hg90 hb90)
                | (refine step_append_src rfl _ _ 32 rfl v80 _ rfl rfl _ (HL0.out w80.drew HBD.out HO80.out _ _ _) ?_
                   rintro v98 w98 ⟨ho98, hg98, hb98⟩
                   obtain ⟨A98, N98, c98, rfl⟩ := own_form ho98
                   have HLdone := Lib.hid ho98
                   have HLN := Lib.hid (HKN.out _ _ _ _ _ _ (show OwnV w80.drew wr.heap.size _ _ _ from HO80.out) (show OwnV w80.drew wr.heap.size _ _ _ from HO69.out) hg98)
                   have HLB := Lib.hid (Below.trans HBD.out hb98)
                   have p0 := (HQB.out w98 HLB.out).cell 0
                   have p1 := (HQB.out w98 HLB.out).cell 1
                   clear ho98 hg98 hb98)
                | fail)
            all_goals
              have HFIN := Lib.hid (HLAST.out wF (.slice A90 N90 c90) (.slice A98 N98 c98) HFB.out HFN.out HFL.out)
              go_wp2_with fail
              all_goals exact HPOST.out _ _ HFIN.out
end Go.Proofs.YtchokmhfgikglaaGreatDoor

namespace Go.Proofs.YtchokmhfgikglaaGreatDoor
set_option maxRecDepth 100000
open Go.RowKit Go.Shelf Go.Lib

set_option maxHeartbeats 3200000 in
theorem new22_any (w : World) : Calls Tryz.prog 6 #[] w fun e w' => e = .returned (.pointer (some ⟨w.heap.size, 0, none⟩)) ∧ w' = w.alloc (.cells #[.slice none 0 0, .slice none 0 0, .int .i64 6] 34) := by
  go_enter Tryz.func6, Tryz.ntmps6
  go_wp2_with fail
  go_ret
  exact ⟨rfl, rfl⟩
theorem new22_sess (w : World) : SessRr (w.alloc (.cells #[.slice none 0 0, .slice none 0 0, .int .i64 6] 34)) w.heap.size (fun k => k = w.heap.size) [] [] :=
  ⟨.slice none 0 0, .slice none 0 0, [], Blk.new w _ _, World.ownsRow_nil _ _ _ _, World.ownsRow_nil _ _ _ _, rfl, fun g hg => (by cases hg), fun g hg => (by cases hg), rfl, fun n hn => (by cases hn), fun k hk => (by rw [hk, World.size_alloc]; omega), fun j hj => absurd hj (by simp)⟩

theorem SetPostR.from {q c : Nat} {D : Nat → Prop} {ns : List (List Nat)} {rs : List (List Rat)} {w w2 w' : World} {e : Ending} (h : SetPostR q D c ns rs w2 e w') (hb : Below w.heap.size w w2) : SetPostR q D c ns rs w e w' := by
  obtain ⟨D', h1, h2, h3, h4⟩ := h
  exact ⟨D', h1, h2, (Turned.of_below hb).trans h3, fun k hk => (h4 k hk).imp id fun h => Nat.le_trans hb.size h⟩
theorem SetPostR.none {q c : Nat} {D : Nat → Prop} {ns : List (List Nat)} {rs : List (List Rat)} {w w' : World} (h : SessRr w q D ns rs) (hb : Below w.heap.size w w') : SetPostR q D c ns rs w (.returned (.int .i64 (c : Int))) w' :=
  ⟨D, rfl, h.below hb, Turned.of_below hb, fun k hk => Or.inl hk⟩

set_option maxHeartbeats 6400000 in
theorem let22_any (q : Nat) (D : Nat → Prop) (ns : List (List Nat)) (rs : List (List Rat)) (n t : List Nat) (w : World) (h : SessRr w q D ns rs) (hp : PureS ns rs)
    (hnb : Byt n) (hn9 : n.length ≤ 1000000) (htb : Byt t) (ht9 : t.length ≤ 1000000) (ht : (textV t).2.length ≤ 256) :
    Calls Tryz.prog 9 #[.pointer (some ⟨q, 0, none⟩), .string (strN n), .string (strN t)] w (SetPostR q D (letE ns n t) (letN ns n t) (letR ns rs n t) w) := by
  have HNM : Hid (∀ W, Calls Tryz.prog 20 #[.string (strN n)] W fun e w' => e = .returned (.bool (nameG n)) ∧ W = w') := fun W => name22_any n hnb hn9 W
  have HPS : Hid (∀ W, Calls Tryz.prog 21 #[.string (strN t)] W (GivesRow (textV t).1 (textV t).2 W)) := fun W => parse16_any t htb ht9 ht W
  cases hN : nameG n with
  | false =>
    have HP : Hid (SetPostR q D (letE ns n t) (letN ns n t) (letR ns rs n t) w (.returned (.int .i64 6)) w) := by
      have e : letE ns n t = 6 := by unfold letE; rw [if_pos hN]
      unfold letN letR
      rw [e, if_neg (by decide), if_neg (by decide)]
      exact SetPostR.none (c := 6) h (Below.refl _ _)
    rw [hN] at HNM
    generalize (SetPostR q D (letE ns n t) (letN ns n t) (letR ns rs n t) w) = Q at *
    clear HPS hN
    generalize strN n = tn at *
    generalize strN t = tt at *
    go_enter Tryz.func9, Tryz.ntmps9
    go_wp2_with fail
    go_fit (HNM.out _)
    rintro e w1 ⟨rfl, rfl⟩
    go_wp2_with fail
    exact HP.out
  | true =>
    rw [hN] at HNM
    have HP1 : Hid ((textV t).1 ≠ 0 → ∀ w', Below w.heap.size w w' → SetPostR q D (letE ns n t) (letN ns n t) (letR ns rs n t) w (.returned (.int .i64 ((textV t).1 : Int))) w') := fun hne w' hb => by
      have e : letE ns n t = (textV t).1 := by unfold letE; rw [if_neg (by rw [hN]; simp), if_pos hne]
      unfold letN letR
      rw [e, if_neg hne, if_neg hne]
      exact SetPostR.none h hb
    have HP2 : Hid ((textV t).1 = 0 → ∀ W v, Below w.heap.size w W → RowIn W w.heap.size W.heap.size v (textV t).2 → Calls Tryz.prog 22 #[.pointer (some ⟨q, 0, none⟩), .string (strN n), v] W fun e w' => (∃ z : Int, e = .returned (.int .i64 z)) ∧ SetPostR q D (letE ns n t) (letN ns n t) (letR ns rs n t) w e w') := fun h0 W v hW hrow => by
      have := set22_any q D ns rs n v (textV t).2 w.heap.size W (h.below hW) hp hnb (nameG_len hN) hN hrow ht (rowV_sz _)
      rw [← letE_set hN h0] at this
      refine this.mono fun e w' hh => ⟨?_, hh.from hW⟩
      obtain ⟨D', h1, -⟩ := hh
      exact ⟨_, h1⟩
    generalize (SetPostR q D (letE ns n t) (letN ns n t) (letR ns rs n t) w) = Q at *
    clear hN h hp hnb hn9 htb ht9 ht
    generalize (textV t).1 = c at *
    generalize (textV t).2 = qs at *
    generalize strN n = tn at *
    generalize strN t = tt at *
    go_enter Tryz.func9, Tryz.ntmps9
    go_wp2_with fail
    go_fit (HNM.out _)
    rintro e w1 ⟨rfl, rfl⟩
    go_wp2_with fail
    go_fit (HPS.out _)
    rintro e w2 hr
    rcases hr with ⟨hc, v, rfl, hrow, hB2⟩ | ⟨hc, rfl, hB2⟩
    · have HS := Lib.hid (HP2.out hc _ v hB2 hrow)
      clear hrow hB2 hc HP1 HP2 HPS HNM
      go_wp2_with fail
      go_fit HS.out
      rintro e w3 ⟨⟨z, rfl⟩, hq⟩
      have HQ := Lib.hid hq
      clear hq HS
      go_wp2_with fail
      exact HQ.out
    · have y1 : ((c : Int) == 0) = false := beq_eq_false_iff_ne.2 (by omega)
      have y2 : ¬ (c : Int) = 0 := by omega
      have HF := Lib.hid (HP1.out hc _ hB2)
      clear hB2 hc HP1 HP2 HPS HNM
      go_wp2_with fail
      exact HF.out
end Go.Proofs.YtchokmhfgikglaaGreatDoor
