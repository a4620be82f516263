/- Several texts in one: SessI, SessM, SessW, SessG. Condition: each says its own. -/
import Derived.Shelf.Spec.SlicesInsertGrow
import Derived.Test.YtchokmhfgikglaaGreatDoorPk21
namespace Go.Proofs.YtchokmhfgikglaaGreatDoor
set_option maxRecDepth 100000
open Go.RowKit Go.Shelf Go.Lib

/-- 'copy' into a row, at elements of two cells. -/
theorem run_copy_row2 {P : Program} (w : World) (dT sT ty elem : TypeId) (g o dLen dCap : Nat) (a : Addr) (sLen sCap : Nat) (cur : Array Value) (t : TypeId) (cs : List Value)
    (hu : P.underlying dT = some (.slice elem)) (hs : (P.info? elem).map (·.size) = some 2)
    (hg : w.heap[g]? = some (.cells cur t (0, 0))) (hn : cs.length = Nat.min sLen dLen * 2)
    (hsrc : ∀ j v, cs[j]? = some v → w.cell? (a.add j) = some v) (hfit : o + cs.length ≤ cur.size) (h1 : ∀ v ∈ cs, v.oneCell' = true) :
    (Builtin.copy_ #[dT, sT] ty #[.slice (some ⟨g, o, none⟩) dLen dCap, .slice (some a) sLen sCap]).run P w =
      .ok (goInt (Nat.min sLen dLen)) (w.setRow g (cur.toList.take o ++ cs ++ cur.toList.drop (o + cs.length)).toArray) := by
  have hl := run_loadCells_list (P := P) w a cs hsrc
  have hst := run_storeCells_at P g o t cs 0 cur w hg (by simpa using hfit) h1
  cases hq : P.info? elem with
  | none => simp [hq] at hs
  | some i =>
    have hi : i.size = 2 := by simpa [hq] using hs
    simp [Builtin.copy_, run_underlying hu, Builtin.lenOf, Builtin.firstCells, sizeOf, typeInfo, hq, hi, ← hn, hl, hst]

/-- What is put in a row's middle. -/
theorem mid_take {cs cur : List Value} {x y : Value} {i n : Nat} (hi : i < n) (hc : cs.length = n * 2) (hcur : cur.take (n * 2) = cs) (hl : (n + 1) * 2 ≤ cur.length)
    (A1 A2 : List Value) (h1 : A1 = cur.take ((i + 1) * 2) ++ cs.drop (i * 2) ++ cur.drop ((i + 1) * 2 + (cs.drop (i * 2)).length)) (h2 : A2 = A1.take (i * 2) ++ [x, y] ++ A1.drop (i * 2 + 2)) :
    A2.take ((n + 1) * 2) = cs.take (i * 2) ++ [x, y] ++ cs.drop (i * 2) ∧ A2.length = cur.length ∧ A1.length = cur.length := by
  have e0 : (cs.drop (i * 2)).length = n * 2 - i * 2 := by rw [List.length_drop, hc]
  have l1 : A1.length = cur.length := by
    rw [h1]; simp only [List.length_append, List.length_take, List.length_drop]; omega
  have e1 : A1.take (i * 2) = cs.take (i * 2) := by
    rw [h1, List.append_assoc, List.take_append_of_le_length (by rw [List.length_take]; omega), List.take_take, Nat.min_eq_left (by omega), ← hcur, List.take_take, Nat.min_eq_left (by omega)]
  have e2 : A1.drop (i * 2 + 2) = cs.drop (i * 2) ++ cur.drop ((i + 1) * 2 + (cs.drop (i * 2)).length) := by
    rw [h1, List.append_assoc, List.drop_append, List.length_take, List.drop_of_length_le (by rw [List.length_take]; omega), Nat.min_eq_left (by omega), show i * 2 + 2 - (i + 1) * 2 = 0 by omega, List.drop_zero, List.nil_append]
  have l2 : A2.length = cur.length := by
    rw [h2, e1, e2]
    simp only [List.length_append, List.length_take, List.length_drop, List.length_cons, List.length_nil]
    omega
  refine ⟨?_, l2, l1⟩
  rw [h2, e1, e2, ← List.append_assoc, List.take_append_of_le_length (by
    simp only [List.length_append, List.length_take, List.length_drop, List.length_cons, List.length_nil]
    omega), List.take_of_length_le (by
    simp only [List.length_append, List.length_take, List.length_drop, List.length_cons, List.length_nil]
    omega)]

theorem Tryz.infoEntry : (Tryz.prog.info? 53).map (fun i => (i.zero, i.size, i.bytes)) = some (some (.agg #[.string ByteArray.empty, .slice none 0 0]), 2, 40) := by kernel_rfl

theorem shape_blk {w : World} {g : Nat} {t : TypeId} {cs : Array Value} (h : Blk w g t cs) : w.shape? g = some (t, cs.size) := by
  unfold Blk at h
  simp [World.shape?, h]

/-- What 'Insert' leaves. -/
def InsPost (base : Nat) (v : Value) (n i : Nat) (cs : List Value) (x y : Value) (w : World) (e : Ending) (w' : World) : Prop :=
  ∃ v', e = .returned v' ∧ w'.ownsRow base 53 2 v' (n + 1) (cs.take (i * 2) ++ [x, y] ++ cs.drop (i * 2)) ∧ w.grownBy w' v.ownBlock ∧ (∀ g, v'.ownBlock = some g → v.ownBlock = some g ∨ w.heap.size ≤ g)

set_option maxHeartbeats 6400000 in
theorem insert_end (base : Nat) (v : Value) (n : Nat) (cs : List Value) (x y : Value) (vb : Nat) (w : World) (hown : w.ownsRow base 53 2 v n cs) (hbase : base ≤ w.heap.size) (hn : n ≤ 1000)
    (hsrc : Blk w vb 53 #[x, y]) (hx : x.oneCell' = true) (hy : y.oneCell' = true) :
    Calls Tryz.prog 38 #[v, .int .i64 (n : Int), .slice (some ⟨vb, 0, none⟩) 1 1] w (InsPost base v n n cs x y w) := by
  obtain ⟨i0, hi, hz0, hz1, hz2⟩ := info_parts Tryz.infoEntry
  have hl := hown.1
  have HPOST : Hid (∀ v' w', w'.ownsRow base 53 2 v' (n + 1) (cs ++ [x, y]) → w.grownBy w' v.ownBlock → (∀ g, v'.ownBlock = some g → v.ownBlock = some g ∨ w.heap.size ≤ g) → InsPost base v n n cs x y w (.returned v') w') := fun v' w' h1 h2 h3 => by
    refine ⟨v', rfl, ?_, h2, h3⟩
    rw [List.take_of_length_le (by omega), List.drop_of_length_le (by omega), List.append_nil]
    exact h1
  have hnews : ∀ j u, [x, y][j]? = some u → w.cell? ((⟨vb, 0, none⟩ : Addr).add j) = some u := fun j u hj => by
    rw [Addr.add_lit, Nat.zero_add, hsrc.cell j, List.getElem?_toArray]
    exact hj
  have h1 : ∀ u ∈ [x, y], u.oneCell' = true := fun u hu => by
    simp at hu
    rcases hu with rfl | rfl
    · exact hx
    · exact hy
  have HOWN := Lib.hid hown
  have HNEWS := Lib.hid hnews
  have HONE := Lib.hid h1
  rcases hown.2 with ⟨rfl, rfl⟩ | ⟨g, cap, cur, rfl, hg, hh, hnc, hcm, hcs, htk⟩
  · clear hown hnews h1 hsrc hx hy hl
    go_enter Tryz.func38, Tryz.ntmps38
    go_wp2_with (at_builtin; refine wpList_append_far rfl _ _ 45 rfl base 53 i0 _ 2 40 Tryz.underlying45 hi hz0 hz1 hz2 rfl (by decide) (.slice none 0 0) 0 cs rfl HOWN.out ⟨vb, 0, none⟩ 1 1 [x, y] rfl (by decide) rfl HNEWS.out HONE.out (by decide) (by decide) hbase ?_)
    intro v7 w7 ho7 hg7 hf7
    have HP := Lib.hid (HPOST.out v7 w7 ho7 hg7 hf7)
    clear ho7 hg7 hf7 HPOST
    go_wp2_with fail
    go_ret
    exact HP.out
  · unfold maxLen at hcm
    clear hown hnews h1 hsrc hx hy hl htk hcs hh
    by_cases hcn : cap = n
    · subst hcn
      go_enter Tryz.func38, Tryz.ntmps38
      go_wp2_with (at_builtin; refine wpList_append_far rfl _ _ 45 rfl base 53 i0 _ 2 40 Tryz.underlying45 hi hz0 hz1 hz2 rfl (by decide) (.slice (some ⟨g, 0, none⟩) cap cap) cap cs rfl HOWN.out ⟨vb, 0, none⟩ 1 1 [x, y] rfl (by decide) rfl HNEWS.out HONE.out (by unfold maxLen; omega) (by omega) hbase ?_)
      intro v7 w7 ho7 hg7 hf7
      have HP := Lib.hid (HPOST.out v7 w7 ho7 hg7 hf7)
      clear ho7 hg7 hf7 HPOST
      go_wp2_with fail
      go_ret
      exact HP.out
    · go_enter Tryz.func38, Tryz.ntmps38
      go_wp2_with (at_builtin; refine wpList_append_far rfl _ _ 45 rfl base 53 i0 _ 2 40 Tryz.underlying45 hi hz0 hz1 hz2 rfl (by decide) (.slice (some ⟨g, 0, none⟩) n cap) n cs rfl HOWN.out ⟨vb, 0, none⟩ 1 1 [x, y] rfl (by decide) rfl HNEWS.out HONE.out (by unfold maxLen; omega) (by omega) hbase ?_)
      intro v7 w7 ho7 hg7 hf7
      have HP := Lib.hid (HPOST.out v7 w7 ho7 hg7 hf7)
      clear ho7 hg7 hf7 HPOST
      go_wp2_with fail
      go_ret
      exact HP.out

set_option maxHeartbeats 6400000 in
theorem insert_shift (base : Nat) (g n cap i : Nat) (cur : Array Value) (cs : List Value) (x y : Value) (vb : Nat) (w : World) (hi : i < n) (hg : base ≤ g) (hh : Blk w g 53 cur) (hroom : n + 1 ≤ cap) (hcm : cap ≤ maxLen) (hcs : cur.size = cap * 2) (htk : cur.toList.take (n * 2) = cs) (hl : cs.length = n * 2) (hn : n ≤ 1000)
    (hsrc : Blk w vb 53 #[x, y]) (hvb : vb ≠ g) (hx : x.oneCell' = true) (hy : y.oneCell' = true) (h1c : ∀ v ∈ cs, v.oneCell' = true) :
    Calls Tryz.prog 38 #[.slice (some ⟨g, 0, none⟩) n cap, .int .i64 (i : Int), .slice (some ⟨vb, 0, none⟩) 1 1] w (InsPost base (.slice (some ⟨g, 0, none⟩) n cap) n i cs x y w) := by
  obtain ⟨i0, hi0, hz0, hz1, hz2⟩ := info_parts Tryz.infoEntry
  have hsz : (Tryz.prog.info? 53).map (·.size) = some 2 := by rw [hi0]; simp [hz1]
  obtain ⟨A1, hA1⟩ : ∃ A1 : List Value, A1 = cur.toList.take ((i + 1) * 2) ++ cs.drop (i * 2) ++ cur.toList.drop ((i + 1) * 2 + (cs.drop (i * 2)).length) := ⟨_, rfl⟩
  obtain ⟨A2, hA2⟩ : ∃ A2 : List Value, A2 = A1.take (i * 2) ++ [x, y] ++ A1.drop (i * 2 + 2) := ⟨_, rfl⟩
  have hcl : (n + 1) * 2 ≤ cur.toList.length := by rw [Array.length_toList, hcs]; omega
  obtain ⟨hm1, hm2, hm3⟩ := mid_take hi hl htk hcl A1 A2 hA1 hA2
  have hdl : (cs.drop (i * 2)).length = (n - i) * 2 := by rw [List.length_drop, hl]; omega
  have hcells : ∀ j v, cs[j]? = some v → w.cell? ⟨g, j, none⟩ = some v := fun j v hj => by
    rw [hh.cell j, ← Array.getElem?_toList]
    rw [← htk, List.getElem?_take] at hj
    split at hj
    · exact hj
    · cases hj
  have hlt := hh.lt
  have hov : ∀ lb cb, (callFunc 85 #[.slice (some ⟨vb, 0, none⟩) 1 1, .slice (some ⟨g, (i + 1) * 2, none⟩) lb cb]).run Tryz.prog w = .ok (.value (.bool false)) w := fun lb cb => by
    rw [run_callFunc_extern Tryz.func85 (by kernel_rfl) (by kernel_rfl) (by kernel_rfl) (e := Extern.SlicesOverlaps.overlaps #[45, 45] #[4]) (by kernel_rfl),
      Lib.run_overlaps_apart w 45 4 53 Tryz.underlying45 2 Tryz.sizeOf53 ⟨vb, 0, none⟩ ⟨g, (i + 1) * 2, none⟩ 1 1 lb cb hvb _ _ _ _ (shape_blk hsrc) (shape_blk hh) (by rw [hcs]; omega) (hsrc.free 0) (hsrc.free _)]
    rfl
  have hcp1 : ∀ ty dc sc, (Builtin.copy_ #[45, 45] ty #[.slice (some ⟨g, (i + 1) * 2, none⟩) (n - i) dc, .slice (some ⟨g, i * 2, none⟩) (n + 1 - i) sc]).run Tryz.prog w.drew = .ok (goInt (Nat.min (n + 1 - i) (n - i))) (w.drew.setRow g A1.toArray) := fun ty dc sc => by
    rw [hA1]
    exact run_copy_row2 w.drew _ _ ty 53 g ((i + 1) * 2) (n - i) dc ⟨g, i * 2, none⟩ (n + 1 - i) sc cur 53 (cs.drop (i * 2)) Tryz.underlying45 hsz hh (by rw [hdl]; simp only [Nat.min_def]; split <;> omega)
      (fun j v hj => by rw [Addr.add_lit]; exact hcells (i * 2 + j) v (by rwa [List.getElem?_drop] at hj)) (by rw [hdl, hcs]; omega) (fun v hv => h1c v (List.mem_of_mem_drop hv))
  have hcp2 : ∀ (W : World), Blk W g 53 A1.toArray → Blk W vb 53 #[x, y] → ∀ ty dc, (Builtin.copy_ #[45, 45] ty #[.slice (some ⟨g, i * 2, none⟩) (n + 1 - i) dc, .slice (some ⟨vb, 0, none⟩) 1 1]).run Tryz.prog W = .ok (goInt (Nat.min 1 (n + 1 - i))) (W.setRow g A2.toArray) := fun W hW hV ty dc => by
    have hr := run_copy_row2 (P := Tryz.prog) W 45 45 ty 53 g (i * 2) (n + 1 - i) dc ⟨vb, 0, none⟩ 1 1 A1.toArray 53 [x, y] Tryz.underlying45 hsz hW (by simp only [Nat.min_def]; split <;> simp <;> omega)
      (fun j v hj => by rw [Addr.add_lit, Nat.zero_add, hV.cell j, List.getElem?_toArray]; exact hj) (by simp only [List.size_toArray, List.length_cons, List.length_nil]; omega) (fun v hv => by simp at hv; rcases hv with rfl | rfl <;> assumption)
    rw [hA2]
    exact hr
  have hB1 : Blk (w.drew.setRow g A1.toArray) g 53 A1.toArray := setRow_heap w.drew g cur A1.toArray _ _ hh
  have hB2 : Blk (w.drew.setRow g A1.toArray) vb 53 #[x, y] := (setRow_other w.drew g vb A1.toArray hvb).trans hsrc
  have hcp2b := hcp2 _ hB1 hB2
  have HPOST : Hid (InsPost base (.slice (some ⟨g, 0, none⟩) n cap) n i cs x y w (.returned (.slice (some ⟨g, 0, none⟩) (n + 1) cap)) ((w.drew.setRow g A1.toArray).setRow g A2.toArray)) := by
    refine ⟨_, rfl, ⟨?_, Or.inr ⟨g, cap, A2.toArray, rfl, hg, ?_, hroom, hcm, ?_, ?_⟩⟩, ⟨rfl, rfl, rfl, ?_, fun k hk hne => ?_⟩, fun k hk => Or.inl hk⟩
    · simp only [List.length_append, List.length_take, List.length_drop, List.length_cons, List.length_nil]; omega
    · exact setRow_heap _ g A1.toArray A2.toArray _ _ hB1
    · rw [List.size_toArray, hm2, Array.length_toList, hcs]
    · exact hm1
    · simp [World.setRow]
    · have hkg : k ≠ g := fun e => hne (by rw [e]; rfl)
      rw [setRow_other _ g k _ hkg, setRow_other _ g k _ hkg]
      rfl
  have mixed : Tryz.prog.follows .mixedOrders = true := by kernel_rfl
  have hz1' : ¬ ((1 : Int) = 0) := by decide
  have hz2' : ¬ ((i : Int) = (n : Int)) := by omega
  have hz3' : ¬ ((cap : Int) < (n : Int) + 1) := by omega
  have hw1 : IntKind.i64.wrap ((i : Int) + 1) = (i : Int) + 1 := by rw [IntKind.wrap_i64]; omega
  have hb1 : (0 : Int) ≤ (i : Int) + 1 := by omega
  have hin : i ≤ n := by omega
  have htn : ((i : Int) + 1).toNat = i + 1 := by omega
  have hb2 : ¬ (cap = i + 1) := by omega
  have hb3 : (i : Int) ≤ (n : Int) + 1 := by omega
  have hb4 : ¬ (cap = i) := by omega
  unfold maxLen at hcm
  clear hcells hm1 hm2 hm3 hA1 hA2 hB1 hB2 hcp2 h1c hsrc hh htk hcs hl hcl hdl
  go_enter Tryz.func38, Tryz.ntmps38
  go_wp2_with (simp only [hov])
  go_region_law_o (refine step_copy_runI rfl _ _ 45 45 rfl _ _ (by simp [Act.eval, Act.put]) (by simp [Act.eval, Act.put]) (hcp1 _ _ _) ?_)
  go_wp2_with (at_builtin; refine wpList_copy_runI _ rfl _ _ 45 45 rfl _ _ rfl rfl (hcp2b _ _) ?_)
  go_ret
  exact HPOST.out

/-- What is put into a new row. -/
theorem grow_take {cs ROW : List Value} {x y : Value} {i n : Nat} (hi : i < n) (hc : cs.length = n * 2) (hR : ROW.take (i * 2) = cs.take (i * 2)) (hl : (n + 1) * 2 ≤ ROW.length)
    (A1 A2 : List Value) (h1 : A1 = ROW.take (i * 2) ++ [x, y] ++ ROW.drop (i * 2 + 2)) (h2 : A2 = A1.take ((i + 1) * 2) ++ cs.drop (i * 2) ++ A1.drop ((i + 1) * 2 + (cs.drop (i * 2)).length)) :
    A2.take ((n + 1) * 2) = cs.take (i * 2) ++ [x, y] ++ cs.drop (i * 2) ∧ A2.length = ROW.length ∧ A1.length = ROW.length := by
  have l1 : A1.length = ROW.length := by
    rw [h1]; simp only [List.length_append, List.length_take, List.length_drop, List.length_cons, List.length_nil]; omega
  have e1 : A1.take ((i + 1) * 2) = cs.take (i * 2) ++ [x, y] := by
    rw [h1, hR, List.take_append_of_le_length (by simp only [List.length_append, List.length_take, List.length_cons, List.length_nil]; omega), List.take_of_length_le (by simp only [List.length_append, List.length_take, List.length_cons, List.length_nil]; omega)]
  have l2 : A2.length = ROW.length := by
    rw [h2, e1]
    simp only [List.length_append, List.length_take, List.length_drop, List.length_cons, List.length_nil, l1]
    omega
  refine ⟨?_, l2, l1⟩
  rw [h2, e1, List.take_append_of_le_length (by simp only [List.length_append, List.length_take, List.length_drop, List.length_cons, List.length_nil]; omega), List.take_of_length_le (by simp only [List.length_append, List.length_take, List.length_drop, List.length_cons, List.length_nil]; omega)]

set_option maxHeartbeats 6400000 in
theorem insert_grow (base : Nat) (g n cap i : Nat) (cur : Array Value) (cs : List Value) (x y : Value) (vb : Nat) (w : World) (hi : i < n) (hbase : base ≤ w.heap.size) (hh : Blk w g 53 cur) (hnc : n ≤ cap) (hroom : cap < n + 1) (htk : cur.toList.take (n * 2) = cs) (hl : cs.length = n * 2) (hn : n ≤ 1000)
    (hsrc : Blk w vb 53 #[x, y]) (hx : x.oneCell' = true) (hy : y.oneCell' = true) (h1c : ∀ v ∈ cs, v.oneCell' = true) :
    Calls Tryz.prog 38 #[.slice (some ⟨g, 0, none⟩) n cap, .int .i64 (i : Int), .slice (some ⟨vb, 0, none⟩) 1 1] w (InsPost base (.slice (some ⟨g, 0, none⟩) n cap) n i cs x y w) := by
  obtain ⟨i0, hi0, hz0, hz1, hz2⟩ := info_parts Tryz.infoEntry
  have hsz : (Tryz.prog.info? 53).map (·.size) = some 2 := by rw [hi0]; simp [hz1]
  have hdl : (cs.drop (i * 2)).length = (n - i) * 2 := by rw [List.length_drop, hl]; omega
  have hcells : ∀ j v, cs[j]? = some v → w.cell? ⟨g, j, none⟩ = some v := fun j v hj => by
    rw [hh.cell j, ← Array.getElem?_toList]
    rw [← htk, List.getElem?_take] at hj
    split at hj
    · exact hj
    · cases hj
  have hgl := hh.lt
  have hvl := hsrc.lt
  have hkk : (n : Int) + 1 - (i : Int) = ((n + 1 - i : Nat) : Int) := by omega
  have hik : i + (n + 1 - i) = n + 1 := by omega
  have hold : (Builtin.firstCells i0.size i (.slice (some ⟨g, 0, none⟩) i cap)).run Tryz.prog w.drew = .ok (cs.take (i * 2)).toArray w.drew := by
    rw [hz1]
    exact run_firstCells_some w.drew 2 i ⟨g, 0, none⟩ i cap (cs.take (i * 2)) (by rw [List.length_take]; omega) (fun j v hj => by
      rw [Addr.add_lit, Nat.zero_add]
      rw [List.getElem?_take] at hj
      split at hj
      · exact hcells j v hj
      · cases hj)
  have hrz : ∀ ty, (Builtin.append_ #[45, 3] ty #[.slice (some ⟨g, 0, none⟩) i cap, .int .i64 ((n : Int) + 1 - (i : Int))]).run Tryz.prog w =
      .ok (.slice (some ⟨w.heap.size, 0, none⟩) (n + 1) (grownCap w (n + 1) cap 53)) (w.drew.alloc (.cells ((cs.take (i * 2)).toArray ++ Builtin.zeroCells (Value.agg #[.string ByteArray.empty, .slice none 0 0]).cells (n + 1 - i) ++ Builtin.zeroCells (Value.agg #[.string ByteArray.empty, .slice none 0 0]).cells (grownCap w (n + 1) cap 53 - (n + 1))) 53)) := fun ty => by
    have h := Lib.run_append_grow_zeros w 45 3 ty 53 i0 _ .i64 .i64 Tryz.underlying45 Tryz.underlying3 hi0 hz0 (some ⟨g, 0, none⟩) i cap (cs.take (i * 2)) hold (n + 1 - i) (by omega) (by omega) (by omega) (by omega) (by rw [hz2]; omega) (by rw [hz2, hik]; exact growslice_fits hroom (by omega))
    rw [hik] at h
    rw [hkk]
    exact h
  have hGn : n + 1 ≤ grownCap w (n + 1) cap 53 := grownCap_ge w _ _ _
  have hG63 := grownCap_le_maxLen w (n + 1) cap 53 (by unfold maxLen; omega)
  obtain ⟨G, hG⟩ : ∃ G, G = grownCap w (n + 1) cap 53 := ⟨_, rfl⟩
  obtain ⟨ROW, hROW⟩ : ∃ ROW : Array Value, ROW = (cs.take (i * 2)).toArray ++ Builtin.zeroCells (Value.agg #[.string ByteArray.empty, .slice none 0 0]).cells (n + 1 - i) ++ Builtin.zeroCells (Value.agg #[.string ByteArray.empty, .slice none 0 0]).cells (G - (n + 1)) := ⟨_, rfl⟩
  rw [← hG] at hrz hGn hG63
  rw [← hROW] at hrz
  have hRs : ROW.size = G * 2 := by
    rw [hROW]
    have hz : ∀ k, (Builtin.zeroCells (Value.agg #[.string ByteArray.empty, .slice none 0 0]).cells k).size = k * 2 := fun k => by simp [Builtin.zeroCells, Value.cells]
    rw [Array.size_append, Array.size_append, hz, hz, List.size_toArray, List.length_take, hl]
    omega
  have hRt : ROW.toList.take (i * 2) = cs.take (i * 2) := by
    rw [hROW, Array.toList_append, Array.toList_append, List.append_assoc, List.take_append_of_le_length (by rw [List.length_take]; omega), List.take_take, Nat.min_self]
  obtain ⟨A1, hA1⟩ : ∃ A1 : List Value, A1 = ROW.toList.take (i * 2) ++ [x, y] ++ ROW.toList.drop (i * 2 + 2) := ⟨_, rfl⟩
  obtain ⟨A2, hA2⟩ : ∃ A2 : List Value, A2 = A1.take ((i + 1) * 2) ++ cs.drop (i * 2) ++ A1.drop ((i + 1) * 2 + (cs.drop (i * 2)).length) := ⟨_, rfl⟩
  obtain ⟨hm1, hm2, hm3⟩ := grow_take hi hl hRt (by rw [Array.length_toList, hRs]; omega) A1 A2 hA1 hA2
  have hNg : g ≠ w.heap.size := by omega
  have hNv : vb ≠ w.heap.size := by omega
  have hcpA : ∀ (W : World), Blk W w.heap.size 53 ROW → Blk W vb 53 #[x, y] → ∀ ty dc, (Builtin.copy_ #[45, 45] ty #[.slice (some ⟨w.heap.size, i * 2, none⟩) (n + 1 - i) dc, .slice (some ⟨vb, 0, none⟩) 1 1]).run Tryz.prog W = .ok (goInt (Nat.min 1 (n + 1 - i))) (W.setRow w.heap.size A1.toArray) := fun W hW hV ty dc => by
    have hr := run_copy_row2 (P := Tryz.prog) W 45 45 ty 53 w.heap.size (i * 2) (n + 1 - i) dc ⟨vb, 0, none⟩ 1 1 ROW 53 [x, y] Tryz.underlying45 hsz hW (by simp only [Nat.min_def]; split <;> simp <;> omega)
      (fun j v hj => by rw [Addr.add_lit, Nat.zero_add, hV.cell j, List.getElem?_toArray]; exact hj) (by simp only [List.length_cons, List.length_nil]; omega) (fun v hv => by simp at hv; rcases hv with rfl | rfl <;> assumption)
    rw [hA1]
    exact hr
  have hcpB : ∀ (W : World), Blk W w.heap.size 53 A1.toArray → Blk W g 53 cur → ∀ ty dc sc, (Builtin.copy_ #[45, 45] ty #[.slice (some ⟨w.heap.size, (i + 1) * 2, none⟩) (n - i) dc, .slice (some ⟨g, i * 2, none⟩) (n - i) sc]).run Tryz.prog W = .ok (goInt (Nat.min (n - i) (n - i))) (W.setRow w.heap.size A2.toArray) := fun W hW hV ty dc sc => by
    have hr := run_copy_row2 (P := Tryz.prog) W 45 45 ty 53 w.heap.size ((i + 1) * 2) (n - i) dc ⟨g, i * 2, none⟩ (n - i) sc A1.toArray 53 (cs.drop (i * 2)) Tryz.underlying45 hsz hW (by rw [hdl]; simp only [Nat.min_def]; split <;> omega)
      (fun j v hj => by
        rw [Addr.add_lit, hV.cell, ← Array.getElem?_toList]
        rw [List.getElem?_drop, ← htk, List.getElem?_take] at hj
        split at hj
        · exact hj
        · cases hj) (by rw [hdl, List.size_toArray, hm3, Array.length_toList, hRs]; omega) (fun v hv => h1c v (List.mem_of_mem_drop hv))
    rw [hA2]
    exact hr
  obtain ⟨W1, hW1⟩ : ∃ W1, W1 = (w.alloc (.cells ROW 53)).drew := ⟨_, rfl⟩
  have hB1 : Blk W1 w.heap.size 53 ROW := by rw [hW1]; exact (Blk.new w _ _).drew
  have hV1 : Blk W1 vb 53 #[x, y] := by rw [hW1]; exact (hsrc.alloc _).drew
  have hG1 : Blk W1 g 53 cur := by rw [hW1]; exact (hh.alloc _).drew
  have hK1 : Below w.heap.size w W1 := by rw [hW1]; exact ((Below.refl _ w).alloc (Nat.le_refl _) _).drew
  have hA := hcpA W1 hB1 hV1
  have hB2 : Blk (W1.setRow w.heap.size A1.toArray) w.heap.size 53 A1.toArray := setRow_heap W1 _ ROW _ _ _ hB1
  have hG2 : Blk (W1.setRow w.heap.size A1.toArray) g 53 cur := (setRow_other W1 _ g _ hNg).trans hG1
  have hBB := hcpB (W1.setRow w.heap.size A1.toArray).drew hB2 hG2
  have HPOST : Hid (∀ d : Nat, InsPost base (.slice (some ⟨g, 0, none⟩) n cap) n i cs x y w (.returned (.slice (some ⟨w.heap.size, 0, none⟩) (n + 1) G)) ((W1.setRow w.heap.size A1.toArray).drew.setRow w.heap.size A2.toArray)) := fun _ => by
    refine ⟨_, rfl, ⟨?_, Or.inr ⟨w.heap.size, G, A2.toArray, rfl, hbase, ?_, hGn, hG63, ?_, ?_⟩⟩, ⟨hK1.os, hK1.tape, hK1.output, ?_, fun k hk hne => ?_⟩, fun k hk => Or.inr (by cases hk; exact Nat.le_refl _)⟩
    · simp only [List.length_append, List.length_take, List.length_drop, List.length_cons, List.length_nil]; omega
    · exact setRow_heap _ _ A1.toArray A2.toArray _ _ hB2
    · rw [List.size_toArray, hm2, Array.length_toList, hRs]
    · exact hm1
    · have := hK1.size
      simpa [World.setRow] using this
    · have hkg : k ≠ w.heap.size := by omega
      rw [setRow_other _ _ k _ hkg]
      show (W1.setRow w.heap.size A1.toArray).heap[k]? = _
      rw [setRow_other _ _ k _ hkg]
      exact hK1.block k hk
  have mixed : Tryz.prog.follows .mixedOrders = true := by kernel_rfl
  have hz1' : ¬ ((1 : Int) = 0) := by decide
  have hz2' : ¬ ((i : Int) = (n : Int)) := by omega
  have hz3' : (cap : Int) < (n : Int) + 1 := by omega
  have hw1 : IntKind.i64.wrap ((i : Int) + 1) = (i : Int) + 1 := by rw [IntKind.wrap_i64]; omega
  have hb1 : (0 : Int) ≤ (i : Int) + 1 := by omega
  have hin : i ≤ n := by omega
  have htn : ((i : Int) + 1).toNat = i + 1 := by omega
  have hGi : ¬ (G = i) := by omega
  have hGim : ¬ (G = i + 1) := by omega
  have hci : ¬ (cap = i) := by omega
  have hb3 : (i : Int) ≤ (n : Int) := by omega
  unfold maxLen at hG63
  have hG64 : G ≤ 9223372036854775807 := by omega
  subst hW1
  clear hkk hik hold hROW hG hRs hRt hA1 hA2 hm1 hm2 hm3 hcpA hcpB hB1 hV1 hG1 hK1 hB2 hG2 hcells h1c htk hh hsrc hdl
  go_enter Tryz.func38, Tryz.ntmps38
  go_wp2_with (first
    | (at_builtin; refine Lib.wpList_append_run _ rfl _ _ _ _ rfl _ _ rfl rfl _ _ (hrz _) ?_)
    | (at_builtin; refine wpList_copy_runI _ rfl _ _ 45 45 rfl _ _ rfl rfl (hA _ _) ?_))
  go_region_law_o (refine step_copy_runI rfl _ _ 45 45 rfl _ _ (by simp [Act.eval, Act.put]) (by simp [Act.eval, Act.put]) (hBB _ _ _) ?_)
  go_wp2
  go_ret
  exact HPOST.out 0
end Go.Proofs.YtchokmhfgikglaaGreatDoor

namespace Go.Proofs.YtchokmhfgikglaaGreatDoor
set_option maxRecDepth 100000
open Go.RowKit Go.Shelf Go.Lib

theorem insert_any (base : Nat) (v : Value) (n i : Nat) (cs : List Value) (x y : Value) (vb : Nat) (w : World) (hown : w.ownsRow base 53 2 v n cs) (hbase : base ≤ w.heap.size) (hi : i ≤ n) (hn : n ≤ 1000)
    (hsrc : Blk w vb 53 #[x, y]) (hvb : v.ownBlock ≠ some vb) (hx : x.oneCell' = true) (hy : y.oneCell' = true) (h1c : ∀ v ∈ cs, v.oneCell' = true) :
    Calls Tryz.prog 38 #[v, .int .i64 (i : Int), .slice (some ⟨vb, 0, none⟩) 1 1] w (InsPost base v n i cs x y w) := by
  rcases Nat.lt_or_eq_of_le hi with hlt | rfl
  · obtain ⟨hl, ⟨rfl, rfl⟩ | ⟨g, cap, cur, rfl, hg, hh, hnc, hcm, hcs, htk⟩⟩ := hown
    · omega
    · by_cases hr : n + 1 ≤ cap
      · exact insert_shift base g n cap i cur cs x y vb w hlt hg hh hr hcm hcs htk hl hn hsrc (fun e => hvb (by rw [e]; rfl)) hx hy h1c
      · exact insert_grow base g n cap i cur cs x y vb w hlt hbase hh hnc (by omega) htk hl hn hsrc hx hy h1c
  · exact insert_end base v i cs x y vb w hown hbase hn hsrc hx hy

/-- A row's place in the session. -/
def RowAt (w : World) (p : Nat) (D : Nat → Prop) (v : Value) (u : Value) (r : List Rat) : Prop :=
  ∃ A c L B, u = .slice A r.length c ∧ RowIn w L B (.slice A r.length c) r ∧ B ≤ w.heap.size ∧ ∀ b, L ≤ b → b < B → D b ∧ b ≠ p ∧ v.ownBlock ≠ some b

/-- As the session is, but for what lies in row i. -/
def MidP (tE tS : TypeId) (w : World) (p : Nat) (D : Nat → Prop) (ns : List (List Nat)) (rs : List (List Rat)) (i : Nat) (v : Value) (cs : List Value) : Prop :=
  Blk w p tS #[v, .int .i64 6] ∧ w.ownsRow 0 tE 2 v ns.length cs ∧ D p ∧ (∀ g, v.ownBlock = some g → D g ∧ g ≠ p) ∧ rs.length = ns.length ∧
    (∀ n ∈ ns, Byt n ∧ n.length ≤ 12) ∧ (∀ k, D k → k < w.heap.size) ∧
    ∀ j (h : j < ns.length) (h' : j < rs.length), cs[j * 2]? = some (.string (strN ns[j])) ∧ (∃ F l c, cs[j * 2 + 1]? = some (.slice F l c)) ∧ (j ≠ i → ∃ u, cs[j * 2 + 1]? = some u ∧ RowAt w p D v u rs[j])

theorem RowAt.stay {w w' : World} {p : Nat} {D D' : Nat → Prop} {v v' u : Value} {r : List Rat} (h : RowAt w p D v u r) (hs : w.heap.size ≤ w'.heap.size) (hD : ∀ k, D k → D' k) (hv : ∀ b, v'.ownBlock = some b → v.ownBlock = some b ∨ w.heap.size ≤ b)
    (hk : ∀ b, D b → b ≠ p → v.ownBlock ≠ some b → b < w.heap.size → w'.heap[b]? = w.heap[b]?) : RowAt w' p D' v' u r := by
  obtain ⟨A, c, L, B, e1, e2, e3, e4⟩ := h
  refine ⟨A, c, L, B, e1, e2.stay (Nat.le_refl _) (Nat.le_refl _) fun q h1 h2 => World.cell?_of_block (hk _ (e4 _ h1 h2).1 (e4 _ h1 h2).2.1 (e4 _ h1 h2).2.2 (by omega)), Nat.le_trans e3 hs, fun b h1 h2 => ⟨hD _ (e4 b h1 h2).1, (e4 b h1 h2).2.1, fun hc => ?_⟩⟩
  rcases hv b hc with h3 | h3
  · exact (e4 b h1 h2).2.2 h3
  · omega

theorem SessP.mid {tE tS : TypeId} {w : World} {p : Nat} {D : Nat → Prop} {ns : List (List Nat)} {rs : List (List Rat)} (h : SessP tE tS w p D ns rs) (i : Nat) : ∃ v cs, MidP tE tS w p D ns rs i v cs := by
  obtain ⟨v, cs, h1, h2, h3, h4, h5, h6, h7, h8⟩ := h
  refine ⟨v, cs, h1, h2, h3, h4, h5, h6, h7, fun j hj hj' => ?_⟩
  obtain ⟨e1, A, c, L, B, e2, e3, e4, e5⟩ := h8 j hj hj'
  exact ⟨e1, ⟨_, _, _, e2⟩, fun _ => ⟨_, e2, A, c, L, B, rfl, e3, e4, e5⟩⟩
theorem SessP.all {tE tS : TypeId} {w : World} {p : Nat} {D : Nat → Prop} {ns : List (List Nat)} {rs : List (List Rat)} (h : SessP tE tS w p D ns rs) : ∃ v cs, MidP tE tS w p D ns rs ns.length v cs := h.mid _
theorem MidP.sess {tE tS : TypeId} {w : World} {p i : Nat} {D : Nat → Prop} {ns : List (List Nat)} {rs : List (List Rat)} {v : Value} {cs : List Value} (h : MidP tE tS w p D ns rs i v cs) (hi : ∀ h : i < rs.length, ∃ u, cs[i * 2 + 1]? = some u ∧ RowAt w p D v u rs[i]) : SessP tE tS w p D ns rs := by
  obtain ⟨h1, h2, h3, h4, h5, h6, h7, h8⟩ := h
  refine ⟨v, cs, h1, h2, h3, h4, h5, h6, h7, fun j hj hj' => ?_⟩
  obtain ⟨e1, _, e2⟩ := h8 j hj hj'
  have : ∃ u, cs[j * 2 + 1]? = some u ∧ RowAt w p D v u rs[j] := by
    by_cases hji : j = i
    · subst hji; exact hi hj'
    · exact e2 hji
  obtain ⟨u, e3, A, c, L, B, rfl, e4, e5, e6⟩ := this
  exact ⟨e1, A, c, L, B, e3, e4, e5, e6⟩

theorem MidP.grow {tE tS : TypeId} {w w' : World} {p i : Nat} {D D' : Nat → Prop} {ns : List (List Nat)} {rs : List (List Rat)} {v : Value} {cs : List Value} (h : MidP tE tS w p D ns rs i v cs) (hb : Below w.heap.size w w') (hD : ∀ k, D k → D' k) (hD' : ∀ k, D' k → k < w'.heap.size) : MidP tE tS w' p D' ns rs i v cs := by
  obtain ⟨h1, h2, h3, h4, h5, h6, h7, h8⟩ := h
  refine ⟨h1.below hb h1.lt, own_keep h2 fun g hg => hb.block g (h7 g (h4 g hg).1), hD _ h3, fun g hg => ⟨hD _ (h4 g hg).1, (h4 g hg).2⟩, h5, h6, hD', fun j hj hj' => ?_⟩
  obtain ⟨e1, e2, e3⟩ := h8 j hj hj'
  refine ⟨e1, e2, fun hji => ?_⟩
  obtain ⟨u, e4, e5⟩ := e3 hji
  exact ⟨u, e4, e5.stay hb.size hD (fun b hb => Or.inl hb) fun b _ _ _ hlt => hb.block b hlt⟩

theorem own_set {w : World} {base size n k : Nat} {e : TypeId} {v : Value} {cs : List Value} {g : Nat} (h : w.ownsRow base e size v n cs) (hg : v.ownBlock = some g) (hk : k < n * size) (u : Value) : (w.setCell ⟨g, k, none⟩ u).ownsRow base e size v n (cs.set k u) := by
  obtain ⟨hl, ⟨rfl, rfl⟩ | ⟨g', cap, cur, rfl, hb, hh, hnc, hcm, hcs, htk⟩⟩ := h
  · cases hg
  · cases hg
    refine ⟨by rw [List.length_set]; exact hl, Or.inr ⟨g', cap, cur.setIfInBounds k u, rfl, hb, ?_, hnc, hcm, by simpa using hcs, ?_⟩⟩
    · exact Blk.put (t := e) hh k u
    · rw [Array.toList_setIfInBounds, List.take_set, htk]

/-- The new row is laid. -/
theorem MidP.set {tE tS : TypeId} {w : World} {p i g : Nat} {D : Nat → Prop} {ns : List (List Nat)} {rs : List (List Rat)} {v : Value} {cs : List Value} {u : Value} (h : MidP tE tS w p D ns rs i v cs) (hi : i < rs.length) (hg : v.ownBlock = some g) (hu : RowAt w p D v u rs[i]) :
    SessP tE tS (w.setCell ⟨g, i * 2 + 1, none⟩ u) p D ns rs := by
  obtain ⟨h1, h2, h3, h4, h5, h6, h7, h8⟩ := h
  have hgp := h4 g hg
  have hsz : (w.setCell ⟨g, i * 2 + 1, none⟩ u).heap.size = w.heap.size := by simp [World.setCell]
  have hkeep : ∀ b, b ≠ g → (w.setCell ⟨g, i * 2 + 1, none⟩ u).heap[b]? = w.heap[b]? := fun b hb => Below.heap_setCell w ⟨g, i * 2 + 1, none⟩ u b hb
  have hst : ∀ {u' r}, RowAt w p D v u' r → RowAt (w.setCell ⟨g, i * 2 + 1, none⟩ u) p D v u' r := fun hr => hr.stay (by rw [hsz]; exact Nat.le_refl _) (fun _ h => h) (fun _ h => Or.inl h) (fun b _ _ hb _ => hkeep b (fun e => hb (by rw [e]; exact hg)))
  have hlen := h2.1
  refine MidP.sess (i := i) (v := v) (cs := cs.set (i * 2 + 1) u) ⟨?_, own_set h2 hg (by omega) u, h3, h4, h5, h6, fun k hk => by rw [hsz]; exact h7 k hk, fun j hj hj' => ?_⟩ (fun _ => ⟨u, ?_, hst hu⟩)
  · exact h1.far (fun e => hgp.2 e.symm) u
  · obtain ⟨e1, ⟨F, l, c, e2⟩, e3⟩ := h8 j hj hj'
    refine ⟨?_, ?_, fun hji => ?_⟩
    · rw [List.getElem?_set_ne (by omega)]; exact e1
    · by_cases hji : j = i
      · subst hji
        obtain ⟨A, c', L, B, rfl, _⟩ := hu
        exact ⟨_, _, _, List.getElem?_set_self (by omega)⟩
      · exact ⟨F, l, c, by rw [List.getElem?_set_ne (by omega)]; exact e2⟩
    · obtain ⟨u', e4, e5⟩ := e3 hji
      exact ⟨u', by rw [List.getElem?_set_ne (by omega)]; exact e4, hst e5⟩
  · exact List.getElem?_set_self (by omega)

/-- An entry is put in. -/
theorem MidP.insert {tE tS : TypeId} {w w' : World} {p i : Nat} {D D' : Nat → Prop} {ns : List (List Nat)} {rs : List (List Rat)} {v v' : Value} {cs : List Value} {n : List Nat} {xs : List Rat} (h : MidP tE tS w p D ns rs ns.length v cs) (hi : i ≤ ns.length) (hn : Byt n ∧ n.length ≤ 12)
    (hown : w'.ownsRow 0 tE 2 v' (ns.length + 1) (cs.take (i * 2) ++ [.string (strN n), .slice none 0 0] ++ cs.drop (i * 2))) (hgr : w.grownBy w' v.ownBlock) (hfar : ∀ g, v'.ownBlock = some g → v.ownBlock = some g ∨ w.heap.size ≤ g)
    (hD : ∀ k, D k → D' k) (hDn : ∀ k, w.heap.size ≤ k → k < w'.heap.size → D' k) (hD' : ∀ k, D' k → k < w'.heap.size) :
    MidP tE tS (w'.setCell ⟨p, 0, none⟩ v') p D' (ns.take i ++ n :: ns.drop i) (rs.take i ++ xs :: rs.drop i) i v' (cs.take (i * 2) ++ [.string (strN n), .slice none 0 0] ++ cs.drop (i * 2)) := by
  obtain ⟨h1, h2, h3, h4, h5, h6, h7, h8⟩ := h
  have hvp : v.ownBlock ≠ some p := fun e => (h4 p e).2 rfl
  have hplt := h1.lt
  have hbp : Blk w' p tS #[v, .int .i64 6] := (hgr.block p hplt (fun e => hvp e.symm)).trans h1
  have hv'p : ∀ g, v'.ownBlock = some g → g ≠ p := fun g hg e => by
    rcases hfar g hg with h | h
    · exact (h4 g h).2 e
    · omega
  have hlt' := own_lt hown
  have hsz : (w'.setCell ⟨p, 0, none⟩ v').heap.size = w'.heap.size := by simp [World.setCell]
  have hcl := h2.1
  have hk : ∀ b, D b → b ≠ p → v.ownBlock ≠ some b → b < w.heap.size → (w'.setCell ⟨p, 0, none⟩ v').heap[b]? = w.heap[b]? := fun b _ hb hvb hlt => by
    rw [Below.heap_setCell w' ⟨p, 0, none⟩ v' b hb]
    exact hgr.block b hlt (fun e => hvb e.symm)
  have hl : (ns.take i ++ n :: ns.drop i).length = ns.length + 1 := by simp only [List.length_append, List.length_take, List.length_cons, List.length_drop]; omega
  refine ⟨hbp.put 0 v', ?_, hD _ h3, fun g hg => ⟨?_, hv'p g hg⟩, ?_, ?_, fun k hk => by rw [hsz]; exact hD' k hk, fun j hj hj' => ?_⟩
  · rw [hl]
    exact own_keep hown fun g hg => Below.heap_setCell w' ⟨p, 0, none⟩ v' g (hv'p g hg)
  · rcases hfar g hg with h | h
    · exact hD _ (h4 g h).1
    · exact hDn g h (hlt' g hg).2
  · rw [hl]; simp only [List.length_append, List.length_take, List.length_cons, List.length_drop]; omega
  · intro m hm
    rcases List.mem_append.1 hm with h | h
    · exact h6 m ((List.take_sublist _ _).subset h)
    · rcases List.mem_cons.1 h with rfl | h
      · exact hn
      · exact h6 m ((List.drop_sublist _ _).subset h)
  · have hst : ∀ {u r}, RowAt w p D v u r → RowAt (w'.setCell ⟨p, 0, none⟩ v') p D' v' u r := fun hr => hr.stay (by rw [hsz]; exact hgr.size) hD hfar hk
    rw [hl] at hj
    rcases (by omega : j < i ∨ j = i ∨ i < j) with hji | rfl | hji
    · obtain ⟨e1, e2, e3⟩ := h8 j (by omega) (by omega)
      have g1 : (ns.take i ++ n :: ns.drop i)[j]'(by rw [hl]; omega) = ns[j] := by
        rw [List.getElem_append_left (by rw [List.length_take]; omega), List.getElem_take]
      have g2 : (rs.take i ++ xs :: rs.drop i)[j]'hj' = rs[j] := by
        rw [List.getElem_append_left (by rw [List.length_take]; omega), List.getElem_take]
      have g3 : ∀ m, m < i * 2 → (cs.take (i * 2) ++ [Value.string (strN n), .slice none 0 0] ++ cs.drop (i * 2))[m]? = cs[m]? := fun m hm => by
        rw [List.append_assoc, List.getElem?_append_left (by rw [List.length_take]; omega), List.getElem?_take, if_pos hm]
      rw [g1, g2, g3 _ (by omega), g3 _ (by omega)]
      refine ⟨e1, e2, fun _ => ?_⟩
      obtain ⟨u, e4, e5⟩ := e3 (by omega)
      exact ⟨u, e4, hst e5⟩
    · have g1 : (ns.take j ++ n :: ns.drop j)[j]'(by rw [hl]; omega) = n := by
        rw [List.getElem_append_right (by rw [List.length_take]; omega)]
        simp [Nat.min_eq_left hi]
      have g3 : ∀ m, m < 2 → (cs.take (j * 2) ++ [Value.string (strN n), .slice none 0 0] ++ cs.drop (j * 2))[j * 2 + m]? = [Value.string (strN n), .slice none 0 0][m]? := fun m hm => by
        rw [List.append_assoc, List.getElem?_append_right (by rw [List.length_take]; omega), List.length_take, Nat.min_eq_left (by omega), List.getElem?_append_left (by simp; omega)]
        congr 1
        omega
      rw [g1]
      refine ⟨by have := g3 0 (by omega); rw [Nat.add_zero] at this; rw [this]; rfl, ⟨none, 0, 0, by rw [g3 1 (by omega)]; rfl⟩, fun h => absurd rfl h⟩
    · obtain ⟨e1, e2, e3⟩ := h8 (j - 1) (by omega) (by omega)
      have g1 : (ns.take i ++ n :: ns.drop i)[j]'(by rw [hl]; omega) = ns[j - 1]'(by omega) := by
        rw [List.getElem_append_right (by rw [List.length_take]; omega)]
        simp only [List.length_take, Nat.min_eq_left hi]
        rw [List.getElem_cons, dif_neg (by omega), List.getElem_drop]
        congr 1
        omega
      have g2 : (rs.take i ++ xs :: rs.drop i)[j]'hj' = rs[j - 1]'(by omega) := by
        rw [List.getElem_append_right (by rw [List.length_take]; omega)]
        simp only [List.length_take, Nat.min_eq_left (show i ≤ rs.length by omega)]
        rw [List.getElem_cons, dif_neg (by omega), List.getElem_drop]
        congr 1
        omega
      have g3 : ∀ m, i * 2 + 2 ≤ m → (cs.take (i * 2) ++ [Value.string (strN n), .slice none 0 0] ++ cs.drop (i * 2))[m]? = cs[m - 2]? := fun m hm => by
        rw [List.getElem?_append_right (by simp only [List.length_append, List.length_take, List.length_cons, List.length_nil]; omega), List.getElem?_drop]
        congr 1
        simp only [List.length_append, List.length_take, List.length_cons, List.length_nil]
        omega
      rw [g1, g2, g3 _ (by omega), g3 _ (by omega), show j * 2 - 2 = (j - 1) * 2 by omega, show j * 2 + 1 - 2 = (j - 1) * 2 + 1 by omega]
      refine ⟨e1, e2, fun _ => ?_⟩
      obtain ⟨u, e4, e5⟩ := e3 (by omega)
      exact ⟨u, e4, hst e5⟩

/-- What a search sees. -/
theorem MidP.ents {tE tS : TypeId} {w : World} {p i : Nat} {D : Nat → Prop} {ns : List (List Nat)} {rs : List (List Rat)} {v : Value} {cs : List Value} (h : MidP tE tS w p D ns rs i v cs) : Ents w v ns := by
  obtain ⟨h1, ⟨hl, hc⟩, h3, h4, h5, h6, h7, h8⟩ := h
  rcases hc with ⟨rfl, h0⟩ | ⟨g, cap, cur, rfl, hg, hh, hnc, hcm, hcs, htk⟩
  · refine ⟨none, 0, by rw [h0], by omega, by decide, fun h => by omega⟩
  · refine ⟨_, cap, rfl, hnc, hcm, fun h0 => ⟨g, rfl, (Array.getElem?_eq_some_iff.1 hh).1, fun j hj => ?_⟩⟩
    obtain ⟨e1, ⟨F, l, c, e2⟩, _⟩ := h8 j hj (by omega)
    have hget : ∀ m u, cs[m]? = some u → w.cell? ⟨g, m, none⟩ = some u := fun m u hu => by
      rw [cell_of_row w g m cur tE (0, 0) hh, ← Array.getElem?_toList]
      rw [← htk, List.getElem?_take] at hu
      split at hu
      · exact hu
      · cases hu
    exact ⟨F, l, c, hget _ _ e1, hget _ _ e2⟩
theorem MidP.one {tE tS : TypeId} {w : World} {p i : Nat} {D : Nat → Prop} {ns : List (List Nat)} {rs : List (List Rat)} {v : Value} {cs : List Value} (h : MidP tE tS w p D ns rs i v cs) : ∀ u ∈ cs, u.oneCell' = true := by
  obtain ⟨h1, ⟨hl, hc⟩, h3, h4, h5, h6, h7, h8⟩ := h
  intro u hu
  obtain ⟨m, hm, rfl⟩ := List.getElem_of_mem hu
  obtain ⟨e1, ⟨F, l, c, e2⟩, _⟩ := h8 (m / 2) (by omega) (by omega)
  rcases (by omega : m = m / 2 * 2 ∨ m = m / 2 * 2 + 1) with h | h
  · rw [← h, List.getElem?_eq_getElem hm] at e1
    rw [Option.some.inj e1]
    rfl
  · rw [← h, List.getElem?_eq_getElem hm] at e2
    rw [Option.some.inj e2]
    rfl
end Go.Proofs.YtchokmhfgikglaaGreatDoor

namespace Go.Proofs.YtchokmhfgikglaaGreatDoor
set_option maxRecDepth 100000
open Go.RowKit Go.Shelf Go.Lib

set_option maxHeartbeats 3200000 in
theorem sessAt_any (p : Nat) (v u : Value) (ns : List (List Nat)) (n : List Nat) (w : World) (hb : Blk w p 47 #[v, u]) (h : Ents w v ns) (hn : ns.length ≤ 1000) (hr : Rises ns) (hbs : ∀ x ∈ ns, Byt x) (hnb : Byt n) :
    Calls Tryz.prog 23 #[.pointer (some ⟨p, 0, none⟩), .string (strN n)] w fun e w' => e = .returned (.tuple #[.int .i64 (atG ns n : Int), .bool (hasG ns n)]) ∧ Below w.heap.size w w' := by
  have HC := Lib.hid (bsearch_any v ns n w h hn hr hbs hnb)
  have x0 := hb.cell 0
  clear h hr hbs hnb hb
  generalize atG ns n = a at *
  generalize hasG ns n = b at *
  generalize strN n = t at *
  go_enter Tryz.func23, Tryz.ntmps23
  go_wp2_with fail
  go_fit HC.out
  rintro e w1 ⟨rfl, hb1⟩
  go_wp2_with fail
  go_ret2
  exact ⟨rfl, hb1⟩

theorem MidP.at {w : World} {p i : Nat} {D : Nat → Prop} {ns : List (List Nat)} {rs : List (List Rat)} {v : Value} {cs : List Value} (h : MidP 53 47 w p D ns rs i v cs) (n : List Nat) (hn : ns.length ≤ 16) (hr : Rises ns) (hnb : Byt n) :
    Calls Tryz.prog 23 #[.pointer (some ⟨p, 0, none⟩), .string (strN n)] w fun e w' => e = .returned (.tuple #[.int .i64 (atG ns n : Int), .bool (hasG ns n)]) ∧ Below w.heap.size w w' := by
  have he := h.ents
  obtain ⟨h1, h2, h3, h4, h5, h6, h7, h8⟩ := h
  exact sessAt_any p v _ ns n w h1 he (by omega) hr (fun x hx => (h6 x hx).1) hnb

set_option maxHeartbeats 3200000 in
theorem sessNew_any (w : World) : Calls Tryz.prog 5 #[] w fun e w' => e = .returned (.pointer (some ⟨w.heap.size, 0, none⟩)) ∧ w' = w.alloc (.cells #[.slice none 0 0, .int .i64 6] 47) := by
  go_enter Tryz.func5, Tryz.ntmps5
  go_wp2_with fail
  go_ret
  exact ⟨rfl, rfl⟩

theorem sessNew_sess (w : World) : SessP 53 47 (w.alloc (.cells #[.slice none 0 0, .int .i64 6] 47)) w.heap.size (fun k => k = w.heap.size) [] [] := by
  refine ⟨.slice none 0 0, [], Blk.new w _ _, World.ownsRow_nil _ _ _ _, rfl, fun g hg => (by cases hg), rfl, fun n hn => (by cases hn), fun k hk => (by rw [hk, World.size_alloc]; omega), fun j hj => absurd hj (by simp)⟩

/-- A slice of names of a call's own. -/
def OwnS (w : World) (base : Nat) (v : Value) (ls : List (List Nat)) : Prop := w.ownsRow base 9 1 v ls.length (ls.map fun n => Value.string (strN n))
theorem Tryz.infoStr : (Tryz.prog.info? 9).map (fun i => (i.zero, i.size, i.bytes)) = some (some (.string ByteArray.empty), 1, 16) := by kernel_rfl

/-- A string more onto a row of the call's own. -/
theorem wpList_append_str {P : Program} {w : World} {ops : Array Oper} {rest : List Oper} {o : Oper} {a : Act} {Q : Exit → Act → World → Prop} (hgd : o.guard = none) (s x : Operand) (t : TypeId)
    (ho : o.op = .call { callee := .builtin .append, args := #[s, x], argTypes := #[t, t] })
    (base : Nat) (i : TypeInfo) (ht : P.underlying t = some (.slice 9)) (hi : P.info? 9 = some i) (hz : i.zero = some (.string ByteArray.empty)) (hsize : i.size = 1) (hby : i.bytes = 16)
    (v : Value) (ls : List (List Nat)) (hs : a.eval s = v) (hown : OwnS w base v ls) (n : List Nat) (hx : a.eval x = .slice (some ⟨w.heap.size, 0, none⟩) 1 1)
    (hlen : ls.length ≤ 1000000) (hbase : base ≤ w.heap.size)
    (h : ∀ v' w', OwnS w' base v' (ls ++ [n]) → Below base w w' → wpList P ops Q rest (a.put o.dst v') w') : wpList P ops Q (o :: rest) a (w.alloc (.cells #[.string (strN n)] 9)) := by
  refine wpList_append_own _ hgd s x t ho base 9 i _ 1 16 ht hi hz hsize hby rfl (by decide) v ls.length _ hs (World.ownsRow.alloc hown _) ⟨w.heap.size, 0, none⟩ 1 1 [.string (strN n)] hx rfl (cell_one_new _ _ _) ?_ ?_ ?_ ?_ ?_
  · intro u hu
    rw [List.mem_singleton] at hu
    subst hu
    rfl
  · unfold maxLen; omega
  · omega
  · simp; omega
  · intro v' w' h1 h2 _
    refine h v' w' ?_ ?_
    · show w'.ownsRow base 9 1 v' (ls ++ [n]).length ((ls ++ [n]).map fun n => Value.string (strN n))
      rw [List.map_append, List.length_append]; exact h1
    · exact ((Below.refl base w).alloc hbase _).grown h2 (by simp; omega) (fun j hj => (World.ownsRow.lt hown j hj).1)

set_option maxHeartbeats 3200000 in
theorem sessNames_any (p : Nat) (v u : Value) (ns : List (List Nat)) (w : World) (hb : Blk w p 47 #[v, u]) (h : Ents w v ns) (hn : ns.length ≤ 1000) :
    Calls Tryz.prog 10 #[.pointer (some ⟨p, 0, none⟩)] w fun e w' => (∃ v', e = .returned v' ∧ OwnS w' w.heap.size v' ns) ∧ Below w.heap.size w w' := by
  obtain ⟨A, c, rfl, hc, hm, hx⟩ := h
  obtain ⟨i0, hi, hz0, hz1, hz2⟩ := info_parts Tryz.infoStr
  unfold maxLen at hm
  have HX := Lib.hid hx
  have x0 := hb.cell 0
  clear hx hb
  go_enter Tryz.func10, Tryz.ntmps10
  go_wp2_with fail
  go_loopw [3, 13] (fun v i wr => ∃ k : Nat, k ≤ ns.length ∧ i = .int .i64 (k : Int) ∧ OwnS wr w.heap.size v (ns.take k) ∧ Below w.heap.size w wr) (fun _ i _ => ns.length - (RowKit.intOf i).toNat)
  case atStart => exact ⟨0, Nat.zero_le _, rfl, World.ownsRow_nil _ _ _ _, Below.refl _ _⟩
  case round =>
    obtain ⟨k, hk, rfl, hown, hB⟩ := hrel
    by_cases hkn : k < ns.length
    · have y0 : (k : Int) < (ns.length : Int) := by omega
      obtain ⟨g, rfl, hg, hcell⟩ := HX.out (by omega)
      obtain ⟨F, l, c', c0, c1⟩ := hcell k hkn
      have z0 := (hB.cell (p := ⟨g, k * 2, none⟩) hg).trans c0
      have z1 := (hB.cell (p := ⟨g, k * 2 + 1, none⟩) hg).trans c1
      have HST : Hid (ns.take k ++ [ns[k]] = ns.take (k + 1)) := take_snoc' ns k hkn
      have hlen : (ns.take k).length ≤ 1000000 := by rw [List.length_take]; omega
      clear c0 c1 hcell
      generalize ns[k] = n at *
      have b4 := Blk.new wr 53 #[.string (strN n), .slice F l c']
      have q0 := b4.cell 0
      have q1 := b4.cell 1
      have hal : Below wr.heap.size wr (wr.alloc (.cells #[.string (strN n), .slice F l c'] 53)) := (Below.refl _ _).alloc (Nat.le_refl _) _
      have hB4 := hB.trans (hal.mono hB.size)
      have HB4 := Lib.hid hB4
      have HBS := Lib.hid hB4.size
      have HOW : Hid (OwnS (wr.alloc (.cells #[.string (strN n), .slice F l c'] 53)) w.heap.size u3 (ns.take k)) := World.ownsRow.alloc hown _
      have HLEN := Lib.hid hlen
      clear b4 hal hB hB4 hown hlen
      go_wp2_with (at_builtin; refine wpList_append_str rfl _ _ 22 rfl w.heap.size i0 Tryz.underlying22 hi hz0 hz1 hz2 u3 (ns.take k) rfl HOW.out n (by rw [World.size_alloc]; rfl) HLEN.out HBS.out ?_)
      intro v7 w7 ho7 hb7
      rw [HST.out] at ho7
      have hB7 := HB4.out.trans hb7
      clear HOW HB4 HBS hb7
      go_wp2_with fail
      go_roundw
      case rel => exact ⟨k + 1, by omega, by go_num, ho7, hB7⟩
      case measure => simp [RowKit.intOf]; omega
    · obtain rfl : k = ns.length := by omega
      have y0 : ¬ ((ns.length : Nat) : Int) < (ns.length : Int) := by omega
      rw [List.take_length] at hown
      have HOW := Lib.hid hown
      clear hown HX
      go_wp2_with fail
      go_ret
      exact ⟨⟨_, rfl, HOW.out⟩, hB⟩
end Go.Proofs.YtchokmhfgikglaaGreatDoor

namespace Go.Proofs.YtchokmhfgikglaaGreatDoor
set_option maxRecDepth 100000
open Go.RowKit Go.Shelf Go.Lib

/-- What is always true of names and rows. -/
def PureS (ns : List (List Nat)) (rs : List (List Rat)) : Prop := ns.length ≤ 16 ∧ Rises ns ∧ ∀ r ∈ rs, r.length ≤ 256 ∧ ∀ q ∈ r, Sz q 70
abbrev SessPr := SessP 53 47

theorem hasG_lt {ns : List (List Nat)} {n : List Nat} (h : hasG ns n = true) : atG ns n < ns.length := by
  unfold hasG at h
  exact (List.getElem?_eq_some_iff.1 (of_decide_eq_true h)).1

/-- What 'Get' hands back. -/
def GetPost (ns : List (List Nat)) (rs : List (List Rat)) (n : List Nat) (w : World) (e : Ending) (w' : World) : Prop :=
  Below w.heap.size w w' ∧ ((hasG ns n = false ∧ e = .returned (.tuple #[.slice none 0 0, .int .i64 6])) ∨ (hasG ns n = true ∧ ∃ v' r, rs[atG ns n]? = some r ∧ e = .returned (.tuple #[v', .int .i64 0]) ∧ RowIn w' w.heap.size w'.heap.size v' r))

set_option maxHeartbeats 3200000 in
theorem sessGet_any (p : Nat) (D : Nat → Prop) (ns : List (List Nat)) (rs : List (List Rat)) (n : List Nat) (w : World) (h : SessPr w p D ns rs) (hp : PureS ns rs) (hnb : Byt n) :
    Calls Tryz.prog 11 #[.pointer (some ⟨p, 0, none⟩), .string (strN n)] w (GetPost ns rs n w) := by
  obtain ⟨v, cs, hm⟩ := h.all
  have HAT := Lib.hid (hm.at n hp.1 hp.2.1 hnb)
  have he := hm.ents
  obtain ⟨h1, h2, h3, h4, h5, h6, h7, h8⟩ := hm
  have hlt : hasG ns n = true → atG ns n < ns.length := hasG_lt
  obtain ⟨i, hi⟩ : ∃ i, atG ns n = i := ⟨_, rfl⟩
  obtain ⟨b, hbb⟩ : ∃ b, hasG ns n = b := ⟨_, rfl⟩
  have HP : Hid (∀ e w', Below w.heap.size w w' ∧ ((b = false ∧ e = .returned (.tuple #[.slice none 0 0, .int .i64 6])) ∨ (b = true ∧ ∃ v' r, rs[i]? = some r ∧ e = .returned (.tuple #[v', .int .i64 0]) ∧ RowIn w' w.heap.size w'.heap.size v' r)) → GetPost ns rs n w e w') := fun e w' h => by
    unfold GetPost
    rw [hi, hbb]
    exact h
  rw [hi, hbb] at hlt HAT
  generalize strN n = t at *
  clear hi hbb hnb
  cases b with
  | false =>
    clear h1 h2 h8 he
    go_enter Tryz.func11, Tryz.ntmps11
    go_wp2_with fail
    go_fit HAT.out
    rintro e w1 ⟨rfl, hb1⟩
    go_wp2_with fail
    go_ret2
    exact HP.out _ _ ⟨hb1, Or.inl ⟨by first | rfl | trivial, rfl⟩⟩
  | true =>
    have hil := hlt rfl
    have hir : i < rs.length := by omega
    obtain ⟨e1, _, e2⟩ := h8 i hil hir
    obtain ⟨u, e3, A, c, L, B, rfl, hrow, hBw, _⟩ := e2 (by omega)
    have hr : rs[i]? = some rs[i] := List.getElem?_eq_getElem hir
    have hpr := hp.2.2 _ (List.getElem_mem hir)
    generalize rs[i] = r at *
    have HCP : Hid (∀ W, Below w.heap.size w W → Calls Tryz.prog 24 #[.slice A r.length c] W fun e w' => (∃ v', e = .returned v' ∧ RowIn w' W.heap.size w'.heap.size v' r) ∧ Below W.heap.size W w') := fun W hW =>
      copied_any _ r W ((hrow.below hW hBw).stay (Nat.zero_le _) (Nat.le_trans hBw hW.size) fun _ _ _ => rfl) hpr.2 (by omega)
    obtain ⟨hl, ⟨rfl, h0⟩ | ⟨g, cap, cur, rfl, hg, hh, hnc, hcm, hcs, htk⟩⟩ := h2
    · omega
    · have hcell : w.cell? ⟨g, i * 2 + 1, none⟩ = some (.slice A r.length c) := by
        rw [cell_of_row w g _ cur _ (0, 0) hh, ← Array.getElem?_toList]
        rw [← htk, List.getElem?_take] at e3
        split at e3
        · exact e3
        · cases e3
      have HX0 : Hid (∀ W, Below w.heap.size w W → W.cell? ⟨p, 0, none⟩ = some (.slice (some ⟨g, 0, none⟩) ns.length cap)) := fun W hW => (hW.cell (p := ⟨p, 0, none⟩) h1.lt).trans (h1.cell 0)
      have HX1 : Hid (∀ W, Below w.heap.size w W → W.cell? ⟨g, i * 2 + 1, none⟩ = some (.slice A r.length c)) := fun W hW => (hW.cell (p := ⟨g, i * 2 + 1, none⟩) (Array.getElem?_eq_some_iff.1 hh).1).trans hcell
      have y0 : (i : Int) < (ns.length : Int) := by omega
      have HR := Lib.hid hr
      unfold maxLen at hcm
      clear h1 h8 he e1 e2 e3 hcell hh hcs htk hrow hpr hr hl
      go_enter Tryz.func11, Tryz.ntmps11
      go_wp2_with fail
      go_fit HAT.out
      rintro e w1 ⟨rfl, hb1⟩
      have x0 := HX0.out _ hb1
      have x1 := HX1.out _ hb1
      go_wp2_with fail
      go_fit (HCP.out _ hb1)
      rintro e w2 ⟨⟨v', rfl, hrow⟩, hb2⟩
      go_wp2_with fail
      go_ret2
      exact HP.out _ _ ⟨hb1.trans (hb2.mono hb1.size), Or.inr ⟨by first | rfl | trivial, v', r, HR.out, rfl, hrow.low hb1.size⟩⟩

def setE (ns : List (List Nat)) (n : List Nat) : Nat := if hasG ns n = false ∧ 16 ≤ ns.length then 7 else 0
/-- What 'Set' and 'Let' leave: an error or none, names and rows, what may have turned. -/
def SetPost (p : Nat) (D : Nat → Prop) (c : Nat) (ns : List (List Nat)) (rs : List (List Rat)) (w : World) (e : Ending) (w' : World) : Prop :=
  ∃ D', e = .returned (.int .i64 (c : Int)) ∧ SessPr w' p D' ns rs ∧ Turned D w w' ∧ (∀ k, D' k → D k ∨ w.heap.size ≤ k)

theorem own_cells {w : World} {B e size n : Nat} {v : Value} {cs : List Value} (h : w.ownsRow B e size v n cs) : ∀ (j : Nat) (o : Obj), v.ownBlock = some j → w.heap[j]? = some o → o.isCells = true := by
  intro j o hj ho
  obtain ⟨_, hn | ⟨g, cap, cur, rfl, _, hg, _⟩⟩ := h
  · rw [hn.1] at hj; cases hj
  · simp only [Value.ownBlock, Option.some.injEq] at hj
    subst hj
    rw [hg] at ho
    cases ho
    rfl

theorem Turned.set_new {D : Nat → Prop} {a w : World} (h : Turned D a w) {q : Addr} (hq : D q.block ∨ a.heap.size ≤ q.block) (u : Value) : Turned D a (w.setCell q u) :=
  ⟨h.os, h.tape, h.output, by simpa [World.setCell] using h.size, fun k hk hd => (Below.heap_setCell _ _ _ _ (fun e => by rcases hq with h1 | h1; exact hd (e ▸ h1); omega)).trans (h.block k hk hd), h.others.trans (KeepsOthers.setCell _ _ _)⟩
theorem Turned.grown {D : Nat → Prop} {a w w' : World} {row : Option Nat} (h : Turned D a w) (hg : w.grownBy w' row) (hr : ∀ k, row = some k → D k ∨ a.heap.size ≤ k) (hc : ∀ (j : Nat) (o : Obj), row = some j → w.heap[j]? = some o → o.isCells = true) : Turned D a w' :=
  ⟨hg.os.trans h.os, hg.tape.trans h.tape, hg.output.trans h.output, Nat.le_trans h.size hg.size, fun k hk hd => (hg.block k (Nat.lt_of_lt_of_le hk h.size) (fun e => by rcases hr k e.symm with h1 | h1; exact hd h1; omega)).trans (h.block k hk hd), h.others.trans (KeepsOthers.of_grownBy hg hc)⟩

theorem MidP.at_set {tE tS : TypeId} {w : World} {p i : Nat} {D : Nat → Prop} {ns : List (List Nat)} {rs : List (List Rat)} {v : Value} {cs : List Value} (h : MidP tE tS w p D ns rs i v cs) (xs : List Rat) : MidP tE tS w p D ns (rs.set i xs) i v cs := by
  obtain ⟨h1, h2, h3, h4, h5, h6, h7, h8⟩ := h
  refine ⟨h1, h2, h3, h4, by rw [List.length_set]; exact h5, h6, h7, fun j hj hj' => ?_⟩
  obtain ⟨e1, e2, e3⟩ := h8 j hj (by rw [List.length_set] at hj'; exact hj')
  refine ⟨e1, e2, fun hji => ?_⟩
  rw [List.getElem_set_ne (fun e => hji e.symm)]
  exact e3 hji

/-- The last step of 'Set', in the memory. -/
theorem MidP.last {w W w6 : World} {p i g : Nat} {D D1 : Nat → Prop} {ns : List (List Nat)} {rs : List (List Rat)} {v : Value} {cs : List Value} {A : Option Addr} {c : Nat} {xs : List Rat}
    (h : MidP 53 47 W p D1 ns rs i v cs) (hi : i < rs.length) (hx : rs[i] = xs) (hg : v.ownBlock = some g) (hb : Below W.heap.size W w6) (hrow : RowIn w6 W.heap.size w6.heap.size (.slice A xs.length c) xs)
    (hT : Turned D w W) (hD1 : ∀ k, D1 k → D k ∨ w.heap.size ≤ k) :
    SetPost p D 0 ns rs w (.returned (.int .i64 0)) (w6.setCell ⟨g, i * 2 + 1, none⟩ (.slice A xs.length c)) := by
  have hgl := own_lt h.2.1 g hg
  have hp := h.1.lt
  have h7 := h.2.2.2.2.2.2.1
  have hgD := (h.2.2.2.1 g hg).1
  have hmid := h.grow (D' := fun k => D1 k ∨ (W.heap.size ≤ k ∧ k < w6.heap.size)) hb (fun k hk => Or.inl hk) (fun k hk => by
    rcases hk with hk | hk
    · exact Nat.lt_of_lt_of_le (h7 k hk) hb.size
    · exact hk.2)
  refine ⟨fun k => D1 k ∨ (W.heap.size ≤ k ∧ k < w6.heap.size), rfl, ?_, ?_, fun k hk => ?_⟩
  · refine hmid.set hi hg ⟨A, c, W.heap.size, w6.heap.size, by rw [hx], by rw [hx]; exact hrow, Nat.le_refl _, fun b h1 h2 => ⟨Or.inr ⟨h1, h2⟩, by omega, fun e => ?_⟩⟩
    rw [hg] at e
    have e' : g = b := Option.some.inj e
    have := hgl.2
    omega
  · have hT6 : Turned D w w6 := hT.trans (Turned.of_below hb)
    exact hT6.set_new (hD1 g hgD) _
  · rcases hk with hk | hk
    · exact hD1 k hk
    · exact Or.inr (Nat.le_trans hT.size hk.1)

end Go.Proofs.YtchokmhfgikglaaGreatDoor
