/- Several texts in one: ToolE, ToolF, ToolG, ToolH, ToolI, ToolJ, ToolK, ToolL. Condition: each says its own. -/
import Derived.Shelf.Strings.BuilderK
import Derived.RangeFuncNested
import Derived.RangeFuncBound
import Derived.RangeFuncCalls
import Derived.RangeFuncLeaves
import Derived.Shelf.Abstract
import Derived.Shelf.RegionOpen
import Derived.OwnWalkIn
import Derived.TacticsInMore
import Derived.LoopNIn
import Derived.LoopIn
import Derived.RangeFuncFrom
import Derived.Test.YtchokmhfgikglaaGreatDoorPk4
import Derived.Test.YtchokmhfgikglaaGreatDoorPk20
import Derived.Test.YtchokmhfgikglaaGreatDoorPk24
set_option linter.unusedVariables false
set_option linter.unusedSimpArgs false
namespace Go.Proofs
open Go.Shelf
theorem Tryz.lays169 : Go.Proofs.Lays.n169 Tryz.prog Tryz.lays169_ren := {
  mixed := by kernel_rfl
  f169 := Tryz.func33.trans (congrArg some (by kernel_rfl))
  t0 := Tryz.underlying0
  a0 := Tryz.isAgg0
  z0 := Tryz.sizeOf0
  v0 := Tryz.zeroValue0
  t3 := Tryz.underlying3
  a3 := Tryz.isAgg3
  z3 := Tryz.sizeOf3
  v3 := Tryz.zeroValue3
  t9 := Tryz.underlying9
  a9 := Tryz.isAgg9
  z9 := Tryz.sizeOf9
  v9 := Tryz.zeroValue9
  t37 := Tryz.underlying66
  a37 := Tryz.isAgg66
  z37 := Tryz.sizeOf66
  v37 := Tryz.zeroValue66
  t70 := Tryz.underlying65
  a70 := Tryz.isAgg65
  z70 := Tryz.sizeOf65
  v70 := Tryz.zeroValue65
  t72 := Tryz.underlying68
  a72 := Tryz.isAgg68
  z72 := Tryz.sizeOf68
  v72 := Tryz.zeroValue68
  t127 := Tryz.underlying103
  a127 := Tryz.isAgg103
  z127 := Tryz.sizeOf103
  v127 := Tryz.zeroValue103 }
theorem Tryz.Builder_Extra_169 : Builder.Extra Tryz.prog Tryz.lays169_ren := {
  sizeBuilder := by kernel_rfl
  liesBuilder := by kernel_rfl
  t5 := Tryz.underlying5
  a5 := Tryz.isAgg5
  z5 := Tryz.sizeOf5
  v5 := Tryz.zeroValue5
  infoByte := by kernel_rfl
  cellsByte := by kernel_rfl
  sizeByte := by kernel_rfl
  neB5 := by decide }
end Go.Proofs
namespace Go.Proofs.YtchokmhfgikglaaGreatDoor
set_option maxRecDepth 100000
open Go.RowKit Go.Shelf Go.Lib

/-- What a 'let' that goes leaves. -/
def LetPost (p : Nat) (D : Nat → Prop) (ns : List (List Nat)) (rs : List (List Rat)) (w : World) (e : Ending) (w' : World) : Prop :=
  ∃ D', e = .returned (.string ⟨#[111, 107]⟩) ∧ SessPr w' p D' ns rs ∧ Turned D w w' ∧ (∀ k, D' k → D k ∨ w.heap.size ≤ k)

set_option maxHeartbeats 3200000 in
theorem line_let (p g nw : Nat) (D : Nat → Prop) (s : ByteArray) (ns : List (List Nat)) (rs : List (List Rat)) (w : World) (hg0 : w.cell? ⟨g, 0, none⟩ = some (.string ⟨#[108, 101, 116]⟩)) (hgl : g < w.heap.size) (hnw : 1 ≤ nw)
    (HL : ∀ W, Below w.heap.size w W → Calls Tryz.prog 59 #[.agg #[.pointer (some ⟨p, 0, none⟩)], .string s, .slice (some ⟨g, 0, none⟩) nw nw] W (LetPost p D ns rs W)) :
    Calls Tryz.prog 32 #[.agg #[.pointer (some ⟨p, 0, none⟩)], .string s, .slice (some ⟨g, 0, none⟩) nw nw] w (LetPost p D ns rs w) := by
  have HLET := Lib.hid HL
  have hal : Below w.heap.size w (w.alloc (.cells #[.pointer (some ⟨p, 0, none⟩)] 64)) := (Below.refl _ _).alloc (Nat.le_refl _) _
  have b0 := Blk.new w 64 #[.pointer (some ⟨p, 0, none⟩)]
  have x0 := (hal.cell (p := ⟨g, 0, none⟩) hgl).trans hg0
  have y0 : (0 : Int) < (nw : Int) := by omega
  clear HL
  go_enter Tryz.func32, Tryz.ntmps32
  go_wp2_with fail
  generalize w.alloc (.cells #[.pointer (some ⟨p, 0, none⟩)] 64) = w2 at *
  have x1 := b0.cell 0
  go_wp2_with fail
  go_fit (HLET.out _ hal)
  rintro e w3 ⟨D', rfl, hs3, ht3, hd3⟩
  have HS := Lib.hid hs3
  have HTU := Lib.hid ((Turned.of_below hal).trans ht3)
  have HD := Lib.hid (fun k hk => (hd3 k hk).imp id fun h => Nat.le_trans hal.size h : ∀ k, D' k → D k ∨ w.heap.size ≤ k)
  clear hs3 ht3 hd3
  go_wp2_with fail
  go_ret
  exact ⟨D', rfl, HS.out, HTU.out, HD.out⟩

set_option maxHeartbeats 3200000 in
theorem line_var (p g : Nat) (s T : ByteArray) (w : World) (hg0 : w.cell? ⟨g, 0, none⟩ = some (.string ⟨#[118, 97, 114]⟩)) (hgl : g < w.heap.size)
    (HL : ∀ W, Below w.heap.size w W → Calls Tryz.prog 66 #[.agg #[.pointer (some ⟨p, 0, none⟩)], .slice (some ⟨g, 0, none⟩) 2 2] W fun e w' => e = .returned (.string T) ∧ Below W.heap.size W w') :
    Calls Tryz.prog 32 #[.agg #[.pointer (some ⟨p, 0, none⟩)], .string s, .slice (some ⟨g, 0, none⟩) 2 2] w fun e w' => e = .returned (.string T) ∧ Below w.heap.size w w' := by
  have HROW := Lib.hid HL
  have HN : Hid (∀ W, Calls Tryz.prog 65 #[.string ⟨#[118, 97, 114]⟩] W fun e w' => e = .returned (.int .i64 1) ∧ W = w') := fun W => names_var W
  have hal : Below w.heap.size w (w.alloc (.cells #[.pointer (some ⟨p, 0, none⟩)] 64)) := (Below.refl _ _).alloc (Nat.le_refl _) _
  have b0 := Blk.new w 64 #[.pointer (some ⟨p, 0, none⟩)]
  have x0 := (hal.cell (p := ⟨g, 0, none⟩) hgl).trans hg0
  clear HL
  go_enter Tryz.func32, Tryz.ntmps32
  go_wp2_with fail
  generalize w.alloc (.cells #[.pointer (some ⟨p, 0, none⟩)] 64) = w2 at *
  have x1 := b0.cell 0
  go_fit (HN.out _)
  rintro e w3 ⟨rfl, rfl⟩
  go_wp2_with fail
  go_fit (HROW.out _ hal)
  rintro e w4 ⟨rfl, hb4⟩
  have HB := Lib.hid (hal.trans (hb4.mono hal.size))
  clear hb4
  go_wp2_with fail
  go_ret
  exact ⟨rfl, HB.out⟩
end Go.Proofs.YtchokmhfgikglaaGreatDoor

namespace Go.Proofs.YtchokmhfgikglaaGreatDoor
set_option maxRecDepth 100000
open Go.RowKit Go.Shelf Go.Lib
attribute [local go_sem] Oper.semAt_some

/-- The three variables lie as they lay. -/
def Kp3 (b : Nat) (W W' : World) : Prop := ∀ k, b ≤ k → k < b + 3 → W'.heap[k]? = W.heap[k]?

/-- What is known of the pieces: the rests S, the pieces X, where the sign stands. -/
structure Pcs (N : Nat) (S X : Nat → ByteArray) (I : Nat → Nat) : Prop where
  ix : ∀ k, k < N → ∀ W, Calls Tryz.prog 106 #[.string (S k), .string ⟨#[10]⟩] W fun e w' => e = .returned (.int .i64 (I k : Int)) ∧ W = w'
  last : ∀ W, Calls Tryz.prog 106 #[.string (S N), .string ⟨#[10]⟩] W fun e w' => e = .returned (.int .i64 (-1)) ∧ W = w'
  piece : ∀ k, k < N → (S k).extract 0 (I k) = X k
  rest : ∀ k, k < N → (S k).extract (I k + 1) (S k).size = S (k + 1)
  lt : ∀ k, k < N → I k + 1 ≤ (S k).size
  small : ∀ k, k ≤ N → (S k).size ≤ 1000000
  fin : X N = S N

def leftOf (b : Nat) (w : World) : Nat := match w.cell? ⟨b, 0, none⟩ with
  | some (.string s) => s.size
  | _ => 0

set_option maxHeartbeats 3200000 in
theorem seq_any (n : Nat) (hn : 3 ≤ n) (N b : Nat) (S X : Nat → ByteArray) (I : Nat → Nat) (hp : Pcs N S X I) (l : Nat) (J : Nat → World → Prop) (W : World)
    (hJs : ∀ k W v, J k W → J k (W.setCell ⟨b, 0, none⟩ v))
    (hY : ∀ k, k ≤ N → ∀ W1, J k W1 → YieldAt Fence.wide (n - 1) Tryz.prog l #[.string (X k)] W1 fun e W' => e = .returned (.bool true) ∧ J (k + 1) W' ∧ Kp3 b W1 W')
    (h0 : J 0 W) (b0 : Blk W b 9 #[.string (S 0)]) (b1 : Blk W (b + 1) 9 #[.string ⟨#[10]⟩]) (b2 : Blk W (b + 2) 3 #[.int .i64 0]) :
    CallsIn Fence.wide n Tryz.prog 104 #[.func (.yield l) #[] #[], .pointer (some ⟨b + 1, 0, none⟩), .pointer (some ⟨b, 0, none⟩), .pointer (some ⟨b + 2, 0, none⟩)] W fun e W' => (∃ v, e = .returned v) ∧ J (N + 1) W' := by
  refine callsIn_of_wp Tryz.func104 rfl trivial ?_ rfl
  simp only [Tryz.ntmps104, List.size_toArray, List.length_cons, List.length_nil, Nat.reduceAdd, Nat.reduceSub, Array.replicate_succ, Array.replicate_zero, List.push_toArray, List.append_toArray, List.nil_append, List.cons_append]
  have x1 := b1.cell 0
  gi_wp2
  gi_loopw [7] (fun _ wr => ∃ k : Nat, k ≤ N ∧ J k wr ∧ Blk wr b 9 #[.string (S k)] ∧ Blk wr (b + 1) 9 #[.string ⟨#[10]⟩] ∧ Blk wr (b + 2) 3 #[.int .i64 0]) (fun _ wr => leftOf b wr)
  case atStart => exact ⟨0, Nat.zero_le _, h0, b0, b1, b2⟩
  case round =>
    clear x1 b0 b1 b2 h0
    obtain ⟨k, hk, hJ, b0, b1, b2⟩ := hrel
    have x0 : wr.cell? ⟨b, 0, none⟩ = some (.string (S k)) := b0.cell 0
    have x1 : wr.cell? ⟨b + 1, 0, none⟩ = some (.string ⟨#[10]⟩) := b1.cell 0
    have x2 : wr.cell? ⟨b + 2, 0, none⟩ = some (.int .i64 0) := b2.cell 0
    obtain ⟨fn, tmps, assign, body, hy, hR⟩ := hY k hk wr hJ
    by_cases hkn : k < N
    · have y0 : ¬ (I k : Int) < 0 := by omega
      have hlt := hp.lt k hkn
      have hsm := hp.small k hk
      have y1 : (I k : Int) ≤ ((S k).size : Int) := by omega
      have y2 : (I k : Int) + 1 ≤ ((S k).size : Int) := by omega
      have e1 := hp.piece k hkn
      have e2 := hp.rest k hkn
      have HIX := Lib.hid (hp.ix k hkn)
      have HR := Lib.hid hR
      have HJs := Lib.hid hJs
      have HY := Lib.hid hY
      have HP := Lib.hid hp
      have HLO : Hid (leftOf b wr = (S k).size) := by show _ = _; unfold leftOf; rw [x0]
      clear hR hJs hY hp
      gi_wp2_with (refine ⟨trivial, (fun _ => by omega), ?_⟩; refine (callsIn_wide.2 (HIX.out _)).mono ?_; rintro e w' ⟨rfl, rfl⟩)
      refine ⟨fun _ => by omega, ?_⟩
      refine HR.out.mono ?_
      rintro e W3 ⟨rfl, hJ3, hk3⟩
      have c0 : Blk W3 b 9 #[.string (S k)] := (hk3 b (Nat.le_refl _) (by omega)).trans b0
      have c1 : Blk W3 (b + 1) 9 #[.string ⟨#[10]⟩] := (hk3 (b + 1) (by omega) (by omega)).trans b1
      have c2 : Blk W3 (b + 2) 3 #[.int .i64 0] := (hk3 (b + 2) (by omega) (by omega)).trans b2
      have z0 : W3.cell? ⟨b, 0, none⟩ = some (.string (S k)) := c0.cell 0
      have z1 : W3.cell? ⟨b + 1, 0, none⟩ = some (.string ⟨#[10]⟩) := c1.cell 0
      have zf := c0.free 0
      have HD := Lib.hid (c0.put 0 (.string (S (k + 1))))
      have HD1 := Lib.hid (c1.far (p := ⟨b, 0, none⟩) (by show b + 1 ≠ b; omega) (.string (S (k + 1))))
      have HD2 := Lib.hid (c2.far (p := ⟨b, 0, none⟩) (by show b + 2 ≠ b; omega) (.string (S (k + 1))))
      have HJ3 := Lib.hid (HJs.out _ _ (.string (S (k + 1))) hJ3)
      have hlk : (S (k + 1)).size < (S k).size := by
        rw [← e2, ByteArray.size_extract]
        omega
      have HLK := Lib.hid hlk
      clear hJ3 hk3 c0 c1 c2 x0 x1 x2 b0 b1 b2 hJ hy e1 hlk
      gi_wp2
      go_roundw
      case rel => exact ⟨k + 1, by omega, HJ3.out, HD.out, HD1.out, HD2.out⟩
      case measure =>
        have e3 : (World.setCell W3 ⟨b, 0, none⟩ (.string (S (k + 1)))).cell? ⟨b, 0, none⟩ = some (.string (S (k + 1))) := HD.out.cell 0
        rw [HLO.out]
        unfold leftOf
        rw [e3]
        exact HLK.out
    · obtain rfl : k = N := by omega
      have HIX := Lib.hid hp.last
      have HR := Lib.hid hR
      have e1 := hp.fin
      have hsm := hp.small k hk
      rw [e1] at hy
      clear hR hJs hY hp
      gi_wp2_with (refine ⟨trivial, (fun _ => by omega), ?_⟩; refine (callsIn_wide.2 (HIX.out _)).mono ?_; rintro e w' ⟨rfl, rfl⟩)
      refine ⟨fun _ => by omega, ?_⟩
      refine HR.out.mono ?_
      rintro e W3 ⟨rfl, hJ3, hk3⟩
      have HJ3 := Lib.hid hJ3
      clear hJ3 hk3
      gi_wp2
      go_end0
      exact ⟨⟨_, rfl⟩, HJ3.out⟩
end Go.Proofs.YtchokmhfgikglaaGreatDoor

namespace Go.Proofs.YtchokmhfgikglaaGreatDoor
set_option maxRecDepth 100000
open Go.RowKit Go.Shelf Go.Lib

/-- What a round leaves. -/
def roundEnd (b : Nat) (I : Nat → World → Prop) (k : Nat) (W : World) : Exit → Act → World → Prop
  | .normal, _, W' => KeepsOthers W W' ∧ Kp3 b W W' ∧ I (k + 1) W'
  | _, _, _ => False

theorem kp3_put {b l : Nat} {W : World} {o : Obj} (h : b + 3 ≤ l) : Kp3 b W (W.putObj l o) := fun k _ h2 => World.putObj_heap_other (by omega)

theorem range_seq {P : Program} {g : Operand} {ps : Array Tmp} {assign body : Code} {Q : Exit → Act → World → Prop} {a : Act} {w : World} {n N b gf : Nat} {lb : Array Value} {X : Nat → ByteArray}
    (h1 : 3 ≤ n) (hg : a.eval g = .func (.func gf) #[] lb) (eg : ∀ args w, (callFunc gf args).run P w = .ok (.enter gf args) w) (hb : b + 3 ≤ w.heap.size) (hps : ps.size = 1)
    (hseq : ∀ (l : Nat) (J : Nat → World → Prop) (W : World), Below w.heap.size w W → (∀ k W v, J k W → J k (W.setCell ⟨b, 0, none⟩ v)) →
      (∀ k, k ≤ N → ∀ W1, J k W1 → YieldAt Fence.wide (n - 1 - 1) P l #[.string (X k)] W1 fun e W' => e = .returned (.bool true) ∧ J (k + 1) W' ∧ Kp3 b W1 W') → J 0 W →
      CallsIn Fence.wide (n - 1) P gf (#[.func (.yield l) #[] #[]] ++ lb) W fun e W' => (∃ v, e = .returned v) ∧ J (N + 1) W')
    (I : Nat → World → Prop) (hIa : ∀ k W o, I k W → I k (W.alloc o)) (hIp : ∀ k W o o', I k W → W.heap[w.heap.size + 1]? = some o → I k (W.putObj (w.heap.size + 1) o')) (hIs : ∀ k W v, I k W → I k (W.setCell ⟨b, 0, none⟩ v)) (h0 : I 0 w) (a₁ : Nat → Act)
    (hassign : ∀ (l k : Nat) (W : World) (K : Act → World → Prop), K (a₁ k) W → assign.wpIn (Fence.wide.inRound l) (n - 1 - 1) P (Exit.then K (fun _ _ _ => False)) { tmps := (ps.zip #[Value.string (X k)]).foldl (fun t (p, v) => t.setIfInBounds p v) a.tmps, defers := [] } W)
    (hbody : ∀ (l k : Nat) (W : World), k ≤ N → w.heap.size + 1 < W.heap.size → I k W → body.wpIn (Fence.wide.inRound l) (n - 1 - 1) P (roundEnd b I k W) (a₁ k) W)
    (hdone : ∀ (D : Nat) (W : World), w.heap.size ≤ D → I (N + 1) W → W.heap[D]? = some (.deferred (some [])) → Q .normal { a with defers := { target := .collected D, args := #[] } :: a.defers } W) :
    (Code.rangeFunc g ps assign body).wpIn Fence.wide n P Q a w := by
  refine wpIn_rangeFunc ?_
  intro fn _
  obtain ⟨rec, hrec⟩ : ∃ rec : LoopState → Option Code → Loop, rec = fun st pe => { state := st, pending := pe, fn, tmps := a.tmps, params := ps, assign, body, defers := w.heap.size } := ⟨_, rfl⟩
  obtain ⟨L, hL⟩ : ∃ L, w.heap.size + 1 = L := ⟨_, rfl⟩
  obtain ⟨W1, hW1⟩ : ∃ W1, (w.alloc (.deferred (some []))).alloc (.loop (rec .ready none)) = W1 := ⟨_, rfl⟩
  have hL1 : W1.heap[L]? = some (.loop (rec .ready none)) := by
    have := World.alloc_heap_new (w.alloc (.deferred (some []))) (.loop (rec .ready none))
    rw [World.size_alloc, hL, hW1] at this
    exact this
  have hD1 : W1.heap[w.heap.size]? = some (.deferred (some [])) := by
    rw [← hW1]
    exact (Below.heap_alloc _ _ _ (by rw [World.size_alloc]; omega)).trans (World.alloc_heap_new w _)
  have hI1 : I 0 W1 := by rw [← hW1]; exact hIa _ _ _ (hIa _ _ _ h0)
  have hB1 : Below w.heap.size w W1 := by rw [← hW1]; exact ((Below.refl _ w).alloc (Nat.le_refl _) _).alloc (by rw [World.size_alloc]; omega) _
  refine ⟨L, [{ target := .collected w.heap.size, args := #[] }], W1, { target := .fn (.func gf) lb, args := #[.func (.yield L) #[] #[]] }, W1, gf, #[.func (.yield L) #[] #[]] ++ lb, W1, ?_, ?_, fun _ _ => trivial, ?_, fun _ => by omega, ?_⟩
  · rw [← hW1, hrec, ← hL]
    exact run_enterLoop_outer _ _ _ _ _
  · simp only [resolve, hg]
    simp [go_sem]
  · simp [invoke, go_sem, eg]
  · refine (hseq L (fun k W => I k W ∧ W.heap[L]? = some (.loop (rec .ready none)) ∧ W.heap[w.heap.size]? = some (.deferred (some []))) W1 hB1 ?_ ?_ ⟨hI1, hL1, hD1⟩).mono ?_
    · rintro k W v ⟨c1, c2, c3⟩
      exact ⟨hIs k W v c1, (Below.heap_setCell _ _ _ _ (by show L ≠ b; omega)).trans c2, (Below.heap_setCell _ _ _ _ (by show w.heap.size ≠ b; omega)).trans c3⟩
    · rintro k hk W ⟨c1, c2, c3⟩
      have hlt : L < W.heap.size := (Array.getElem?_eq_some_iff.1 c2).1
      have hy := run_yield (P := P) (args := #[Value.string (X k)]) c2 (by rw [hrec]; exact hps.symm)
      rw [hrec] at hy
      refine ⟨fn, _, assign, body, hy, roundIn_of_wpIn trivial (hassign L k W _ ⟨_, run_beginRound c2 (by rw [hrec]), ?_⟩)⟩
      obtain ⟨W2, hW2⟩ : ∃ W2, W.putObj L (.loop { rec .ready none with state := .busy }) = W2 := ⟨_, rfl⟩
      have d2 : W2.heap[L]? = some (.loop { rec .ready none with state := .busy }) := by rw [← hW2]; exact World.putObj_heap_same hlt
      have d3 : W2.heap[w.heap.size]? = some (.deferred (some [])) := by rw [← hW2]; exact (World.putObj_heap_other (by omega)).trans c3
      have d1 : I k W2 := by rw [← hW2]; subst hL; exact hIp _ _ _ _ c1 c2
      have dk : Kp3 b W W2 := by rw [← hW2]; exact kp3_put (by omega)
      rw [hW2]
      refine wpIn_mono (hbody L k W2 hk (by rw [hL]; exact (Array.getElem?_eq_some_iff.1 d2).1) d1) ?_
      intro e a3 W3 hp
      match e, hp with
      | .normal, ⟨hk3, hq3, hi3⟩ =>
        have e2 := hk3.same _ _ d2 rfl
        have e3 := hk3.same _ _ d3 rfl
        have hr := run_endRound (P := P) none e2
        have hlt3 : L < W3.heap.size := (Array.getElem?_eq_some_iff.1 e2).1
        refine ⟨_, _, hr, ⟨rfl, ⟨by subst hL; exact hIp _ _ _ _ hi3 e2, ?_, (World.putObj_heap_other (by omega)).trans e3⟩, fun j h2 h3 => ?_⟩⟩
        · rw [World.putObj_heap_same hlt3, hrec]
          rfl
        · rw [kp3_put (b := b) (W := W3) (by omega) j h2 h3, hq3 j h2 h3, dk j h2 h3]
    · rintro e W2 ⟨⟨v, rfl⟩, c1, c2, c3⟩
      have hr := run_endLoop (P := P) c2 (by rw [hrec]; simp)
      rw [hrec] at hr
      exact ⟨none, _, hr, hdone _ _ (Nat.le_refl _) (by subst hL; exact hIp _ _ _ _ c1 c2) ((World.putObj_heap_other (by omega)).trans c3)⟩
end Go.Proofs.YtchokmhfgikglaaGreatDoor

namespace Go.Proofs.YtchokmhfgikglaaGreatDoor
set_option maxRecDepth 100000
open Go.RowKit Go.Shelf Go.Lib

/-- A builder at block b that holds these bytes in the row v. -/
def BldV (w : World) (b : Nat) (v : Value) (l : List UInt8) : Prop :=
  ∃ p, Blk w b 68 #[p, v] ∧ (p = .pointer none ∨ p = .pointer (some ⟨b, 0, none⟩)) ∧ w.ownsRow 0 5 1 v l.length (Lib.byteCells l) ∧ v.ownBlock ≠ some b

theorem BldV.is {w : World} {b : Nat} {v : Value} {l : List UInt8} (h : BldV w b v l) : Lib.IsBuilder 68 5 0 b (Lib.byteCells l) w := by
  obtain ⟨p, h1, h2, h3, h4⟩ := h
  rw [← Lib.byteCells_length l] at h3
  rcases h2 with rfl | rfl
  · exact Or.inl ⟨Nat.zero_le _, v, h1, h3, h4⟩
  · exact Or.inr ⟨Nat.zero_le _, v, h1, h3, h4⟩

/-- 'append' of a string's bytes onto a row of one's own: as a run; where the row lies then. -/
theorem run_str_far {P : Program} {w : World} (t u ty e : TypeId) (i : TypeInfo) (ht : P.underlying t = some (.slice e)) (hu : P.underlying u = some .string) (hi : P.info? e = some i) (hz : i.zero = some (.int .u8 0)) (hsize : i.size = 1) (hby : i.bytes = 1)
    (v : Value) (n : Nat) (xs : List Value) (hown : w.ownsRow 0 e 1 v n xs) (s : ByteArray) (hb : n + s.size ≤ 1000000) :
    ∃ v' w', (Builtin.append_ #[t, u] ty #[v, .string s]).run P w = .ok v' w' ∧ w'.ownsRow 0 e 1 v' (n + s.size) (xs ++ Lib.strCells s) ∧ w.grownBy w' v.ownBlock ∧ (∀ g, v'.ownBlock = some g → v.ownBlock = some g ∨ w.heap.size ≤ g) := by
  obtain ⟨v', w', h1, h2, h3, _⟩ := Lib.run_append_own_string (P := P) w 0 t u ty e i ht hu hi hz hsize hby v n xs hown s (by unfold maxLen; omega) (by omega) (Nat.zero_le _)
  refine ⟨v', w', h1, h2, h3, fun g hg => ?_⟩
  have hxl : xs.length = n := by simpa using hown.1
  rcases hown.2 with ⟨rfl, rfl⟩ | ⟨g0, cap, cur, rfl, hbg, hg0, hnc, hcm, hcs, htake⟩
  · have hx : xs = [] := List.eq_nil_of_length_eq_zero hxl
    subst hx
    obtain ⟨v2, w2, k1, k2, _, _⟩ := Lib.run_append_own_string (P := P) w w.heap.size t u ty e i ht hu hi hz hsize hby (.slice none 0 0) 0 [] (World.ownsRow_nil _ _ _ _) s (by unfold maxLen; omega) (by omega) (Nat.le_refl _)
    rw [h1] at k1
    simp only [Result.ok.injEq] at k1
    obtain ⟨rfl, rfl⟩ := k1
    exact Or.inr (own_lt k2 g hg).1
  · by_cases hroom : n + s.size ≤ cap
    · have hr := Lib.run_append_room_string (P := P) w t u ty e i ht hu hi hsize g0 n cap cur hg0 s hroom (by have : cur.size = cap := by simpa using hcs
                                                                                                              omega)
      rw [h1] at hr
      simp only [Result.ok.injEq] at hr
      rw [hr.1] at hg
      exact Or.inl hg
    · have holds : ∀ j u, xs[j]? = some u → w.cell? ((⟨g0, 0, none⟩ : Addr).add j) = some u := hown.cells (g := g0) rfl
      have hr := Lib.run_append_grow_string (P := P) w t u ty e i (.int .u8 0) ht hu hi hz ⟨g0, 0, none⟩ n cap xs (by rw [hsize]; simpa using hxl) holds s (by omega) (by omega) (by rw [hby]; exact growslice_fits (by omega) (by omega))
      rw [h1] at hr
      simp only [Result.ok.injEq] at hr
      rw [hr.1] at hg
      simp only [Value.ownBlock, Option.some.injEq] at hg
      exact Or.inr (by omega)

theorem strCells_bytes (s : ByteArray) : Lib.strCells s = Lib.byteCells s.data.toList := rfl

theorem copyCheck_any (b : Nat) (v : Value) (l : List UInt8) (w : World) (h : BldV w b v l) :
    Calls Tryz.prog 57 #[.pointer (some ⟨b, 0, none⟩)] w fun e w' => e = .returned (.tuple #[]) ∧ Blk w' b 68 #[.pointer (some ⟨b, 0, none⟩), v] ∧ w'.ownsRow 0 5 1 v l.length (Lib.byteCells l) ∧ Turned (fun k => k = b) w w' := by
  obtain ⟨p, h1, h2, h3, h4⟩ := h
  rcases h2 with rfl | rfl
  · refine (Any.Builder_copyCheck_fresh { Tryz.lays166 with } Tryz.Builder_Extra_166.toX72 b w (h1.cell 0) (by simp [World.shape?, show w.heap[b]? = _ from h1]; decide) (h1.free 0)).mono ?_
    rintro e w' ⟨rfl, rfl⟩
    refine ⟨rfl, h1.put 0 _, own_keep h3 fun g hg => Below.heap_setCell _ _ _ _ (fun e => h4 (by rw [hg, e])), Turned.set (D := fun k => k = b) (p := ⟨b, 0, none⟩) rfl _⟩
  · refine (Any.Builder_copyCheck_used { Tryz.lays166 with } Tryz.Builder_Extra_166.toX72 b w (h1.cell 0)).mono ?_
    rintro e w' ⟨rfl, rfl⟩
    exact ⟨rfl, h1, h3, Turned.refl _ _⟩

set_option maxHeartbeats 3200000 in
theorem bldWrite_any (b : Nat) (v : Value) (l : List UInt8) (s : ByteArray) (w : World) (h : BldV w b v l) (hlen : l.length + s.size ≤ 1000000) :
    Calls Tryz.prog 30 #[.pointer (some ⟨b, 0, none⟩), .string s] w fun e w' => ∃ v', e = .returned (.tuple #[.int .i64 s.size, .nilIface]) ∧ BldV w' b v' (l ++ s.data.toList) ∧
      Turned (fun k => k = b ∨ v.ownBlock = some k) w w' ∧ (∀ g, v'.ownBlock = some g → v.ownBlock = some g ∨ w.heap.size ≤ g) := by
  have HC := Lib.hid (copyCheck_any b v l w h)
  have hbw : b < w.heap.size := by obtain ⟨p, h1, _⟩ := h; exact h1.lt
  have hne : v.ownBlock ≠ some b := h.choose_spec.2.2.2
  obtain ⟨i0, hi, hz0, hz1, hz2⟩ := info_parts Tryz.info8
  clear h
  go_enter Tryz.func30, Tryz.ntmps30
  go_wp2_with fail
  go_fit (HC.out)
  rintro e w1 ⟨rfl, hk1, ho1, ht1⟩
  clear HC
  obtain ⟨ao, cp, rfl⟩ : ∃ ao cp, v = .slice ao l.length cp := by
    rcases ho1.2 with ⟨rfl, h0⟩ | ⟨g, cap, cur, rfl, _⟩
    · exact ⟨none, 0, by rw [h0]⟩
    · exact ⟨_, _, rfl⟩
  have c0 : w1.cell? ⟨b, 0, none⟩ = some (.pointer (some ⟨b, 0, none⟩)) := hk1.cell 0
  have c1 : w1.cell? ⟨b, 1, none⟩ = some (.slice ao l.length cp) := hk1.cell 1
  obtain ⟨v2, w2, hr2, ho2, hg2, hf2⟩ := run_str_far (P := Tryz.prog) 66 9 66 5 i0 Tryz.underlying66 Tryz.underlying9 hi hz0 hz1 hz2 (.slice ao l.length cp) l.length (Lib.byteCells l) ho1 s hlen
  have HRUN := Lib.hid hr2
  have HO2 := Lib.hid ho2
  have HG2 := Lib.hid hg2
  have HF2 := Lib.hid hf2
  have HK1 := Lib.hid hk1
  have HO1 := Lib.hid ho1
  have HT1 := Lib.hid ht1
  clear hr2 ho2 hg2 hf2 hk1 ho1 ht1
  have hb1 : Blk w2 b 68 #[.pointer (some ⟨b, 0, none⟩), .slice ao l.length cp] := (HG2.out.block b HK1.out.lt (fun e => hne e.symm)).trans HK1.out
  have d0 : w2.cell? ⟨b, 0, none⟩ = some (.pointer (some ⟨b, 0, none⟩)) := hb1.cell 0
  have d1 : w2.cell? ⟨b, 1, none⟩ = some (.slice ao l.length cp) := hb1.cell 1
  have f1 := hb1.free 1
  have ht1 := HT1.out
  have hg2 := HG2.out
  have hf2 := HF2.out
  have hneq : ∀ g, v2.ownBlock = some g → g ≠ b := fun g hg e => by
    rcases hf2 g hg with h1 | h1
    · exact hne (e ▸ h1)
    · have := ht1.size
      have := HK1.out.lt
      omega
  have HPUT := Lib.hid (hb1.put 1 v2)
  have HOWN : Hid ((w2.setCell ⟨b, 1, none⟩ v2).ownsRow 0 5 1 v2 (l.length + s.size) (Lib.byteCells l ++ Lib.strCells s)) := own_keep HO2.out fun g hg => Below.heap_setCell _ _ _ _ (hneq g hg)
  have HTU : Hid (Turned (fun k => k = b ∨ (Value.slice ao l.length cp).ownBlock = some k) w (w2.setCell ⟨b, 1, none⟩ v2)) := by
    have k1 : Turned (fun k => k = b ∨ (Value.slice ao l.length cp).ownBlock = some k) w w1 := (Turned.refl _ _).after ht1 (fun i hi => Or.inl (Or.inl hi))
    have k2 := k1.grown hg2 (fun k hk => Or.inl (Or.inr hk)) (own_cells HO1.out)
    exact k2.set_new (q := ⟨b, 1, none⟩) (Or.inl (Or.inl rfl)) v2
  obtain ⟨a2, n2, c2, rfl⟩ : ∃ a2 n2 c2, v2 = .slice a2 n2 c2 := by
    rcases HO2.out.2 with ⟨rfl, h0⟩ | ⟨g, cap, cur, rfl, _⟩
    · exact ⟨_, _, _, rfl⟩
    · exact ⟨_, _, _, rfl⟩
  have HSZ := Lib.hid ht1.size
  have HF3 := Lib.hid hf2
  have HN3 := Lib.hid hneq
  clear HG2 HF2 HO2 HK1 HO1 HT1 hb1 ht1 hg2 hf2 hneq
  go_wp2_with (at_builtin; refine Lib.wpList_append_run _ rfl _ _ 66 9 rfl _ _ rfl rfl _ _ HRUN.out ?_)
  refine bodyPost_ret (v := .tuple #[.int .i64 s.size, .nilIface]) ?_ rfl ⟨_, rfl, ⟨_, HPUT.out, Or.inr rfl, ?_, fun e => HN3.out b e rfl⟩, HTU.out, fun g hg => (HF3.out g hg).imp id fun h => Nat.le_trans HSZ.out h⟩
  · simp [results, Tryz.results30, go_sem]
  · have := HOWN.out
    rw [strCells_bytes, ← Lib.byteCells_append] at this
    rw [List.length_append]
    exact this
end Go.Proofs.YtchokmhfgikglaaGreatDoor

namespace Go.Proofs.YtchokmhfgikglaaGreatDoor
set_option maxRecDepth 100000
open Go.RowKit Go.Shelf Go.Lib

/-- A script under way: the session at p, the desk at p + 1, the builder at p + 2, the iterator's variables behind, then the loop's record. -/
structure RunS (w : World) (p : Nat) (ns : List (List Nat)) (rs : List (List Rat)) (out : List UInt8) (D : Nat → Prop) (v : Value) (W : World) : Prop where
  sess : SessPr W p D ns rs
  bld : BldV W (p + 2) v out
  desk : Blk W (p + 1) 64 #[.pointer (some ⟨p, 0, none⟩)]
  free : ∀ j, D j → j = p ∨ p + 8 ≤ j
  apart : ∀ j, D j → v.ownBlock ≠ some j
  own : ∀ g, v.ownBlock = some g → p + 8 ≤ g
  below : Below p w W

def RunI (w : World) (p : Nat) (ns : List (List Nat)) (rs : List (List Rat)) (out : List UInt8) (W : World) : Prop := ∃ D v, RunS w p ns rs out D v W

theorem RunS.ownlt {w W : World} {p : Nat} {ns : List (List Nat)} {rs : List (List Rat)} {out : List UInt8} {D : Nat → Prop} {v : Value} (h : RunS w p ns rs out D v W) : ∀ g, v.ownBlock = some g → g < W.heap.size := by
  obtain ⟨q, h1, h2, h3, h4⟩ := h.bld
  exact fun g hg => (own_lt h3 g hg).2

theorem BldV.stay {w w' : World} {b : Nat} {v : Value} {l : List UInt8} (h : BldV w b v l) (hb : w'.heap[b]? = w.heap[b]?) (hg : ∀ g, v.ownBlock = some g → w'.heap[g]? = w.heap[g]?) : BldV w' b v l := by
  obtain ⟨q, h1, h2, h3, h4⟩ := h
  exact ⟨q, hb.trans h1, h2, own_keep h3 hg, h4⟩

theorem RunS.stay {w W W' : World} {p : Nat} {ns : List (List Nat)} {rs : List (List Rat)} {out : List UInt8} {D : Nat → Prop} {v : Value} (h : RunS w p ns rs out D v W) (hs : W.heap.size ≤ W'.heap.size)
    (hk : ∀ k, k < W.heap.size → (k = p ∨ k = p + 1 ∨ k = p + 2 ∨ p + 8 ≤ k) → W'.heap[k]? = W.heap[k]?) (hb : Below p w W') : RunS w p ns rs out D v W' where
  sess := h.sess.stay hs fun b hd => hk b (h.sess.lt b hd) ((h.free b hd).imp id fun h => Or.inr (Or.inr h))
  bld := h.bld.stay (hk _ (by obtain ⟨q, h1, _⟩ := h.bld; exact h1.lt) (Or.inr (Or.inr (Or.inl rfl)))) fun g hg => hk g (h.ownlt g hg) (Or.inr (Or.inr (Or.inr (h.own g hg))))
  desk := (hk _ h.desk.lt (Or.inr (Or.inl rfl))).trans h.desk
  free := h.free
  apart := h.apart
  own := h.own
  below := hb

section
variable {w W W' : World} {p : Nat} {ns ns' : List (List Nat)} {rs rs' : List (List Rat)} {out : List UInt8} {D D' : Nat → Prop} {v v' : Value}
theorem RunS.after (h : RunS w p ns rs out D v W) (hb : Below W.heap.size W W') (hp : p ≤ W.heap.size) : RunS w p ns rs out D v W' := h.stay hb.size (fun k hk _ => hb.block k hk) (h.below.trans (hb.mono hp))
theorem RunS.plt (h : RunS w p ns rs out D v W) : p < W.heap.size := Nat.lt_of_succ_lt h.desk.lt
theorem RunI.alloc (h : RunI w p ns rs out W) (o : Obj) : RunI w p ns rs out (W.alloc o) := by
  obtain ⟨D, v, h⟩ := h
  exact ⟨D, v, h.after ((Below.refl _ W).alloc (Nat.le_refl _) o) (Nat.le_of_lt h.plt)⟩
theorem RunI.put (h : RunI w p ns rs out W) (o : Obj) : RunI w p ns rs out (W.putObj (p + 7) o) := by
  obtain ⟨D, v, h⟩ := h
  have hg := grownBy_putObj' W (p + 7) o
  exact ⟨D, v, h.stay hg.size (fun k _ hk => World.putObj_heap_other (by omega)) (h.below.grown hg (Nat.le_of_lt h.plt) (fun k e => by cases e; omega))⟩
theorem RunI.set (h : RunI w p ns rs out W) (u : Value) : RunI w p ns rs out (W.setCell ⟨p + 3, 0, none⟩ u) := by
  obtain ⟨D, v, h⟩ := h
  exact ⟨D, v, h.stay (by simp [World.setCell]) (fun k _ hk => Below.heap_setCell _ _ _ _ (by show k ≠ p + 3; omega)) (h.below.setCell (p := ⟨p + 3, 0, none⟩) (by show p ≤ p + 3; omega) u)⟩

/-- A line that turns the session alone. -/
theorem RunS.turn (h : RunS w p ns rs out D v W) (hW : p + 8 ≤ W.heap.size) (hs : SessPr W' p D' ns' rs') (ht : Turned D W W') (hd : ∀ j, D' j → D j ∨ W.heap.size ≤ j) : RunS w p ns' rs' out D' v W' where
  sess := hs
  bld := h.bld.stay (ht.block _ (by omega) (fun hc => by have := h.free _ hc; omega)) fun g hg => ht.block g (h.ownlt g hg) (fun hc => h.apart g hc hg)
  desk := (ht.block _ (by omega) (fun hc => by have := h.free _ hc; omega)).trans h.desk
  free := fun j hj => by
    rcases hd j hj with h1 | h1
    · exact h.free j h1
    · exact Or.inr (by omega)
  apart := fun j hj e => by
    rcases hd j hj with h1 | h1
    · exact h.apart j h1 e
    · have := h.ownlt j e; omega
  own := h.own
  below := h.below.trans (ht.below (Nat.le_of_lt h.plt) (fun k hk => by have := h.free k hk; omega))
theorem RunS.three (h : RunS w p ns rs out D v W) (hW : p + 8 ≤ W.heap.size) (ht : Turned D W W') : Kp3 (p + 3) W W' := fun k h1 h2 => ht.block k (by omega) (fun hc => by have := h.free k hc; omega)

/-- What is written. -/
theorem RunS.write {l : List UInt8} (h : RunS w p ns rs out D v W) (hW : p + 8 ≤ W.heap.size) (hb : BldV W' (p + 2) v' l) (ht : Turned (fun k => k = p + 2 ∨ v.ownBlock = some k) W W') (hf : ∀ g, v'.ownBlock = some g → v.ownBlock = some g ∨ W.heap.size ≤ g) : RunS w p ns rs l D v' W' where
  sess := h.sess.turned ht fun k hk hc => by
    rcases hc with h1 | h1
    · have := h.free k hk; omega
    · exact h.apart k hk h1
  bld := hb
  desk := (ht.block _ (by omega) (fun hc => by
    rcases hc with h1 | h1
    · omega
    · have := h.own _ h1; omega)).trans h.desk
  free := h.free
  apart := fun j hj e => by
    rcases hf j e with h1 | h1
    · exact h.apart j hj h1
    · have := h.sess.lt j hj; omega
  own := fun g hg => by
    rcases hf g hg with h1 | h1
    · exact h.own g h1
    · omega
  below := h.below.trans (ht.below (Nat.le_of_lt h.plt) (fun k hk => by
    rcases hk with h1 | h1
    · omega
    · have := h.own k h1; omega))
theorem RunS.three' (h : RunS w p ns rs out D v W) (hW : p + 8 ≤ W.heap.size) (ht : Turned (fun k => k = p + 2 ∨ v.ownBlock = some k) W W') : Kp3 (p + 3) W W' := fun k h1 h2 => ht.block k (by omega) (fun hc => by
  rcases hc with h3 | h3
  · omega
  · have := h.own k h3; omega)
end

theorem Kp3.trans {b : Nat} {A B C : World} (h : Kp3 b A B) (k : Kp3 b B C) : Kp3 b A C := fun j h1 h2 => (k j h1 h2).trans (h j h1 h2)
theorem Kp3.of_below {b : Nat} {A B : World} (h : Below A.heap.size A B) (hb : b + 3 ≤ A.heap.size) : Kp3 b A B := fun j _ h2 => h.block j (by omega)

theorem freeze_other (w : World) (p : Addr) (n k : Nat) (h : k ≠ p.block) : (w.freeze p n).heap[k]? = w.heap[k]? := by
  unfold World.freeze
  split
  · rfl
  · simp only [Array.getElem?_modify]
    rw [if_neg (by omega)]

theorem own_base {w : World} {base base' size n : Nat} {e : TypeId} {v : Value} {cs : List Value} (h : w.ownsRow base e size v n cs) (hv : ∀ g, v.ownBlock = some g → base' ≤ g) : w.ownsRow base' e size v n cs := by
  obtain ⟨hl, hc⟩ := h
  refine ⟨hl, ?_⟩
  rcases hc with hn | ⟨g, cap, cur, hv', hg, r⟩
  · exact Or.inl hn
  · exact Or.inr ⟨g, cap, cur, hv', hv g (by rw [hv']; rfl), r⟩

/-- The bytes, as a string. -/
theorem bldString_any (B b : Nat) (v : Value) (l : List UInt8) (w : World) (h : BldV w b v l) (hB : B ≤ b) (hv : ∀ g, v.ownBlock = some g → B ≤ g) (h0 : l ≠ []) :
    Calls Tryz.prog 33 #[.pointer (some ⟨b, 0, none⟩)] w fun e w' => e = .returned (.string ⟨l.toArray⟩) ∧ (∀ k o, w.heap[k]? = some o → k ≠ b → (∀ c fz, o ≠ .cells c 5 fz) → w'.heap[k]? = some o) ∧ Below B w w' := by
  obtain ⟨p, h1, h2, h3, h4⟩ := h
  rw [← Lib.byteCells_length l] at h3
  have hown := own_base h3 hv
  have hF : Lib.IsBuilderF 68 5 B b (Lib.byteCells l) w := by
    rcases h2 with rfl | rfl
    · exact Or.inl (Lib.BuilderAtF.of ⟨hB, v, h1, hown, h4⟩)
    · exact Or.inr (Lib.BuilderAtF.of ⟨hB, v, h1, hown, h4⟩)
  refine (Any.Builder_String_k Tryz.lays169 Tryz.Builder_Extra_169 B b l w hF h0).mono ?_
  rintro e w' ⟨rfl, _, hb, ho⟩
  exact ⟨rfl, fun k o hk hne hc => ho k o hk (fun e => hne (Option.some.inj e)) hc, hb⟩

/-- What a line that counts does. -/
def LineDo (p : Nat) (ns : List (List Nat)) (rs : List (List Rat)) (ns' : List (List Nat)) (rs' : List (List Rat)) (x T : ByteArray) : Prop :=
  ∃ w1 ws, Lib.goFieldsP isSp x = w1 :: ws ∧ (∃ h : 0 < w1.size, (w1[0]'h).toNat ≠ 35) ∧ x.size ≤ 1024 ∧ T.size ≤ 1000 ∧ ∀ (W : World) (g : Nat) (D : Nat → Prop), SessPr W p D ns rs → MaxAt W →
    (∀ i (h : i < (w1 :: ws).length), W.cell? ⟨g, i, none⟩ = some (.string (w1 :: ws)[i])) → g < W.heap.size → ¬ D g →
    Calls Tryz.prog 32 #[.agg #[.pointer (some ⟨p, 0, none⟩)], .string x, .slice (some ⟨g, 0, none⟩) (ws.length + 1) (ws.length + 1)] W fun e w' =>
      ∃ D', e = .returned (.string T) ∧ SessPr w' p D' ns' rs' ∧ Turned D W w' ∧ (∀ j, D' j → D j ∨ W.heap.size ≤ j)
end Go.Proofs.YtchokmhfgikglaaGreatDoor

namespace Go.Proofs.YtchokmhfgikglaaGreatDoor
set_option maxRecDepth 100000
open Go.RowKit Go.Shelf Go.Lib
attribute [local go_sem] Oper.semAt_some

theorem splitSeq_any (s : ByteArray) (w : World) :
    Calls Tryz.prog 28 #[.string s, .string ⟨#[10]⟩] w fun e w' => e = .returned (.func (.func 104) #[] #[.pointer (some ⟨w.heap.size + 1, 0, none⟩), .pointer (some ⟨w.heap.size, 0, none⟩), .pointer (some ⟨w.heap.size + 2, 0, none⟩)]) ∧
      w' = ((w.alloc (.cells #[.string s] 9)).alloc (.cells #[.string ⟨#[10]⟩] 9)).alloc (.cells #[.int .i64 0] 3) := by
  have h2 : Calls Tryz.prog 54 #[.string s, .string ⟨#[10]⟩, .int .i64 0] w fun e w' => e = .returned (.func (.func 104) #[] #[.pointer (some ⟨w.heap.size + 1, 0, none⟩), .pointer (some ⟨w.heap.size, 0, none⟩), .pointer (some ⟨w.heap.size + 2, 0, none⟩)]) ∧
      w' = ((w.alloc (.cells #[.string s] 9)).alloc (.cells #[.string ⟨#[10]⟩] 9)).alloc (.cells #[.int .i64 0] 3) := by
    go_enter Tryz.func54, Tryz.ntmps54
    go_wp2_with fail
    go_ret
    exact ⟨by simp, rfl⟩
  have H2 := Lib.hid h2
  clear h2
  go_enter Tryz.func28, Tryz.ntmps28
  go_wp2_with fail
  go_fit (H2.out)
  rintro e w3 ⟨rfl, rfl⟩
  go_wp2_with fail
  go_ret
  exact ⟨rfl, rfl⟩

/-- The words of a line, cell by cell. -/
theorem words_cells (s : ByteArray) (L : List ByteArray) (hL : Lib.goFieldsP isSp s = L) (w : World) (hs : s.size ≤ 1000000) :
    Calls Tryz.prog 29 #[.string s] w fun e w' => ∃ g, e = .returned (.slice (some ⟨g, 0, none⟩) L.length L.length) ∧ w.heap.size ≤ g ∧ g < w'.heap.size ∧ (∀ i (h : i < L.length), w'.cell? ⟨g, i, none⟩ = some (.string L[i])) ∧ Below w.heap.size w w' := by
  have h := words_any s w hs
  rw [hL] at h
  refine h.mono ?_
  rintro e w' ⟨g, rfl, h1, h2, h3⟩
  refine ⟨g, rfl, h1, (own_lt h2 g rfl).2, fun i hi => ?_, h3⟩
  have := h2.cells (g := g) rfl i (.string L[i]) (by rw [List.getElem?_map, List.getElem?_eq_getElem hi]; rfl)
  rw [Addr.add_lit, Nat.zero_add] at this
  exact this

/-- One line: nothing, or what counts. -/
def StepDo (p : Nat) (ns : List (List Nat)) (rs : List (List Rat)) (out : List UInt8) (ns' : List (List Nat)) (rs' : List (List Rat)) (out' : List UInt8) (x : ByteArray) : Prop :=
  x.size ≤ 1000000 ∧ ((Lib.goFieldsP isSp x = [] ∧ ns' = ns ∧ rs' = rs ∧ out' = out) ∨ ∃ T, LineDo p ns rs ns' rs' x T ∧ out' = out ++ (T ++ ⟨#[10]⟩).data.toList)

set_option maxHeartbeats 6400000 in
theorem toolRun_any (n : Nat) (hn : 8 ≤ n) (s : ByteArray) (N : Nat) (S X : Nat → ByteArray) (I : Nat → Nat) (hp : Pcs N S X I) (hS : S 0 = s) (NS : Nat → List (List Nat)) (RS : Nat → List (List Rat)) (OUT : Nat → List UInt8)
    (w : World) (hm : MaxAt w) (hn0 : NS 0 = []) (hr0 : RS 0 = []) (ho0 : OUT 0 = []) (hol : ∀ k, k ≤ N + 1 → (OUT k).length ≤ 900000) (hout : OUT (N + 1) ≠ [])
    (hstep : ∀ k, k ≤ N → StepDo w.heap.size (NS k) (RS k) (OUT k) (NS (k + 1)) (RS (k + 1)) (OUT (k + 1)) (X k)) :
    CallsIn Fence.wide n Tryz.prog 16 #[.string s] w fun e w' => e = .returned (.string ⟨(OUT (N + 1)).toArray⟩) ∧ Below w.heap.size w w' := by
  have h1 : 1 ≤ n := by omega
  refine callsIn_of_wp_marks Tryz.func16 rfl trivial ?_ rfl
  simp only [Tryz.ntmps16, List.size_toArray, List.length_cons, List.length_nil, Nat.reduceAdd, Nat.reduceSub, Array.replicate_succ, Array.replicate_zero, List.push_toArray, List.append_toArray, List.nil_append, List.cons_append]
  have HP := Lib.hid hp
  have HST := Lib.hid hstep
  clear hp hstep
  gi_wp2_with (first
    | (refine ⟨trivial, ?_⟩; refine (callsIn_wide.2 (sessNew_any _)).mono ?_; rintro e w' ⟨rfl, rfl⟩)
    | (refine ⟨trivial, ?_⟩; refine (callsIn_wide.2 (splitSeq_any _ _)).mono ?_; rintro e w' ⟨rfl, rfl⟩))
  simp only [Nat.add_assoc, Nat.reduceAdd]
  obtain ⟨p, hpp⟩ : ∃ p, w.heap.size = p := ⟨_, rfl⟩
  rw [hpp] at HST
  have hs0 := (Blk.new w 47 #[.slice none 0 0, .int .i64 6])
  obtain ⟨W0, hW0⟩ : ∃ W0, ((((((w.alloc (.cells #[.slice none 0 0, .int .i64 6] 47)).alloc (.cells #[.pointer (some ⟨w.heap.size, 0, none⟩)] 64)).alloc (.cells #[.pointer none, .slice none 0 0] 68)).alloc (.cells #[.string s] 9)).alloc (.cells #[.string ⟨#[10]⟩] 9)).alloc (.cells #[.int .i64 0] 3)) = W0 := ⟨_, rfl⟩
  rw [hW0]
  have hsz : W0.heap.size = p + 6 := by rw [← hW0, ← hpp]; simp
  have hat : ∀ (w : World) (o : Obj) (k : Nat), (w.alloc o).heap[k]? = if k = w.heap.size then some o else w.heap[k]? := fun w o k => by
    split
    · rename_i h; rw [h]; exact World.alloc_heap_new w o
    · rcases Nat.lt_or_ge k w.heap.size with h | h
      · exact Below.heap_alloc w o k h
      · rw [Array.getElem?_eq_none h, Array.getElem?_eq_none (by rw [World.size_alloc]; omega)]
  have q1 : Blk W0 (p + 1) 64 #[.pointer (some ⟨p, 0, none⟩)] := by show W0.heap[p + 1]? = _; rw [← hW0, ← hpp]; simp only [hat, World.size_alloc, Nat.add_assoc, Nat.reduceAdd, Nat.add_left_cancel_iff, Nat.reduceEqDiff, if_true, if_false, ite_true, reduceIte]
  have q2 : Blk W0 (p + 2) 68 #[.pointer none, .slice none 0 0] := by show W0.heap[p + 2]? = _; rw [← hW0, ← hpp]; simp only [hat, World.size_alloc, Nat.add_assoc, Nat.reduceAdd, Nat.add_left_cancel_iff, Nat.reduceEqDiff, if_true, if_false, ite_true, reduceIte]
  have q3 : Blk W0 (p + 3) 9 #[.string (S 0)] := by show W0.heap[p + 3]? = _; rw [← hW0, ← hpp, hS]; simp only [hat, World.size_alloc, Nat.add_assoc, Nat.reduceAdd, Nat.add_left_cancel_iff, Nat.reduceEqDiff, if_true, if_false, ite_true, reduceIte]
  have q4 : Blk W0 (p + 4) 9 #[.string ⟨#[10]⟩] := by show W0.heap[p + 4]? = _; rw [← hW0, ← hpp]; simp only [hat, World.size_alloc, Nat.add_assoc, Nat.reduceAdd, Nat.add_left_cancel_iff, Nat.reduceEqDiff, if_true, if_false, ite_true, reduceIte]
  have q5 : Blk W0 (p + 5) 3 #[.int .i64 0] := by show W0.heap[p + 5]? = _; rw [← hW0, ← hpp]; simp only [hat, World.size_alloc, Nat.add_assoc, Nat.reduceAdd, Nat.add_left_cancel_iff, Nat.reduceEqDiff, if_true, if_false, ite_true, reduceIte]
  have hB0 : Below (w.alloc (.cells #[.slice none 0 0, .int .i64 6] 47)).heap.size (w.alloc (.cells #[.slice none 0 0, .int .i64 6] 47)) W0 := by
    rw [← hW0]
    exact (((((Below.refl _ _).alloc (Nat.le_refl _) _).alloc (by simp) _).alloc (by simp) _).alloc (by simp) _).alloc (by simp) _
  have hBw0 : Below p w W0 := by
    rw [← hpp]
    exact ((Below.refl _ w).alloc (Nat.le_refl _) _).trans (hB0.mono (by simp))
  have hRun0 : RunS w p (NS 0) (RS 0) (OUT 0) (fun j => j = p) (.slice none 0 0) W0 := by
    rw [hn0, hr0, ho0]
    have hsess := (sessNew_sess w).below hB0
    rw [hpp] at hsess
    exact ⟨hsess, ⟨_, q2, Or.inl rfl, World.ownsRow_nil _ _ _ _, fun e => (by cases e)⟩, q1, fun j hj => Or.inl hj, fun j _ e => (by cases e), fun g e => (by cases e), hBw0⟩
  clear hW0 hs0
  rw [hpp]
  refine range_seq (n := n) (N := N) (b := p + 3) (gf := 104) (lb := #[.pointer (some ⟨p + 4, 0, none⟩), .pointer (some ⟨p + 3, 0, none⟩), .pointer (some ⟨p + 5, 0, none⟩)]) (X := X) (by omega) rfl (enters_of Tryz.func104 (by kernel_rfl) rfl) (by omega) rfl
    ?hseq (fun k W => RunI w p (NS k) (RS k) (OUT k) W) (fun k W o h => h.alloc o) (fun k W o o' h _ => by rw [hsz]; exact h.put o') (fun k W u h => h.set u) ⟨_, _, hRun0⟩
    (fun k => { tmps := #[.string s, undef, .string ⟨#[]⟩, .pointer (some ⟨p + 1, 0, none⟩), .pointer (some ⟨p + 2, 0, none⟩), .string (X k), undef, .pointer (some ⟨p, 0, none⟩), .agg #[.pointer (some ⟨p, 0, none⟩)], .string s, .func (.func 104) #[] #[.pointer (some ⟨p + 4, 0, none⟩), .pointer (some ⟨p + 3, 0, none⟩), .pointer (some ⟨p + 5, 0, none⟩)], .string (X k), undef, undef, undef, undef, undef, undef, undef, undef, undef, undef, undef, undef, undef, undef, undef, undef, undef, undef, undef, undef, undef, undef, undef, undef, undef, undef, undef], defers := [] }) ?assign ?body ?done
  case hseq =>
    intro l J W hb hJs hY h0
    exact seq_any (n - 1) (by omega) N (p + 3) S X I HP.out l J W hJs hY h0 (q3.below hb q3.lt) (q4.below hb q4.lt) (q5.below hb q5.lt)
  case assign =>
    intro l k W K hK
    gi_wp2
    exact hK
  case body =>
    intro l k W hk hlt hI
    obtain ⟨D, v, hR⟩ := hI
    have hW : p + 8 ≤ W.heap.size := by omega
    obtain ⟨hxs, hst⟩ := HST.out k hk
    have h1r : 1 ≤ n - 1 - 1 := by omega
    clear q1 q2 q3 q4 q5 hB0 hBw0 hRun0
    rcases hst with ⟨hws, e1, e2, e3⟩ | ⟨T, hdo, eo⟩
    · have HW := Lib.hid (words_cells (X k) [] hws W hxs)
      have HR := Lib.hid hR
      clear hR hws hxs
      gi_wp2_with (refine ⟨trivial, ?_⟩; refine (CallsIn.inRound l (callsIn_wide.2 HW.out)).mono ?_; rintro e w1 ⟨g, rfl, h1, h2, h3, hb⟩)
      exact ⟨others_below hb, Kp3.of_below hb (by omega), by show RunI w p (NS (k + 1)) (RS (k + 1)) (OUT (k + 1)) w1; rw [e1, e2, e3]; exact ⟨D, v, HR.out.after hb (by omega)⟩⟩
    · obtain ⟨w1, ws, hws, ⟨hw0, hw35⟩, hx1, hT, hline⟩ := hdo
      obtain ⟨nl, hnl⟩ : ∃ nl, ws.length + 1 = nl := ⟨_, rfl⟩
      simp only [hnl] at hline
      have HW : Hid (Calls Tryz.prog 29 #[.string (X k)] W fun e w' => ∃ g, e = .returned (.slice (some ⟨g, 0, none⟩) nl nl) ∧ W.heap.size ≤ g ∧ g < w'.heap.size ∧ (∀ i (h : i < (w1 :: ws).length), w'.cell? ⟨g, i, none⟩ = some (.string (w1 :: ws)[i])) ∧ Below W.heap.size W w') := by
        refine (words_cells (X k) (w1 :: ws) hws W hxs).mono ?_
        rintro e w' ⟨g, rfl, h⟩
        exact ⟨g, by rw [List.length_cons, hnl], h⟩
      have HLINE := Lib.hid hline
      have HR := Lib.hid hR
      have HM : Hid (∀ W', Below p w W' → MaxAt W') := fun W' hb => hm.below (by rw [hpp]; exact hb)
      have y0 : ((nl : Int) == 0) = false := beq_false_of_ne (by omega)
      have y1 : (0 : Int) < (nl : Int) := by omega
      have y2 : ¬ (1024 : Int) < ((X k).size : Int) := by omega
      have y3 : ¬ (((w1[0]'hw0).toNat : Nat) : Int) = 35 := by omega
      have y4 : ((((w1[0]'hw0).toNat : Nat) : Int) == 35) = false := beq_false_of_ne y3
      have y5 : (0 : Int) < (w1.size : Int) := by omega
      have hadd : ∀ V : World, (Op.stringOp .add T ⟨#[10]⟩).run Tryz.prog V = .ok (.string (T ++ ⟨#[10]⟩)) V := fun V => run_string_add_sum V _ _ (by show T.size + 1 ≤ _; omega)
      have hTs : (T ++ (⟨#[10]⟩ : ByteArray)).size ≤ 2000 := by rw [ByteArray.size_append]; show T.size + 1 ≤ 2000; omega
      have hok := hol k (by omega)
      have x1 := hR.desk.cell 0
      obtain ⟨TT, hTT⟩ : ∃ TT, T ++ (⟨#[10]⟩ : ByteArray) = TT := ⟨_, rfl⟩
      rw [hTT] at eo hTs
      simp only [hTT] at hadd
      clear hR hws hxs hline hTT
      gi_wp2_with (first
        | (refine ⟨trivial, ?_⟩; gi_at_call 29; refine (CallsIn.inRound l (callsIn_wide.2 HW.out)).mono ?_; rintro e W3 ⟨g, rfl, hg1, hg2, hg3, hb3⟩; have c0 : W3.cell? ⟨g, 0, none⟩ = some (.string w1) := hg3 0 (by simp); have R3 := Lib.hid (HR.out.after hb3 (by omega)); have hW3 : p + 8 ≤ W3.heap.size := Nat.le_trans hW hb3.size; have x3 : W3.cell? ⟨p + 1, 0, none⟩ = some (.pointer (some ⟨p, 0, none⟩)) := R3.out.desk.cell 0; have HLN := Lib.hid (HLINE.out W3 g D R3.out.sess (HM.out _ R3.out.below) hg3 hg2 (fun hc => by have := HR.out.sess.lt g hc; omega)); have HB3 := Lib.hid hb3; clear hb3 hg3)
        | (refine ⟨trivial, ?_⟩; gi_at_call 32; refine (CallsIn.inRound l (callsIn_wide.2 HLN.out)).mono ?_; rintro e W4 ⟨D', rfl, hs4, ht4, hd4⟩; have R4 := Lib.hid (R3.out.turn hW3 hs4 ht4 hd4); have HT4 := Lib.hid ht4; have hW4 : p + 8 ≤ W4.heap.size := Nat.le_trans hW3 ht4.size; have HWR := Lib.hid (bldWrite_any (p + 2) v (OUT k) TT W4 R4.out.bld (by omega)); clear hs4 ht4 hd4)
        | (refine ⟨trivial, ?_⟩; gi_at_call 30; refine (CallsIn.inRound l (callsIn_wide.2 HWR.out)).mono ?_; rintro e W5 ⟨v', rfl, hb5, ht5, hf5⟩))
      exact ⟨(others_below HB3.out).trans (HT4.out.others.trans ht5.others), ((Kp3.of_below HB3.out (by omega)).trans (R3.out.three hW3 HT4.out)).trans (R4.out.three' hW4 ht5), by
        show RunI w p (NS (k + 1)) (RS (k + 1)) (OUT (k + 1)) W5
        rw [eo]
        exact ⟨D', v', R4.out.write hW4 hb5 ht5 hf5⟩⟩
  case done =>
    intro D W hD hI hDef
    obtain ⟨D', v, hR⟩ := hI
    have HSTR := Lib.hid (bldString_any p (p + 2) v _ W hR.bld (by omega) (fun g hg => by have := hR.own g hg; omega) hout)
    have HR := Lib.hid hR
    have hDk : D ≠ p + 2 := fun e => by
      obtain ⟨q, h1, _⟩ := hR.bld
      rw [e] at hDef
      have := h1.symm.trans hDef
      cases this
    clear hR q1 q2 q3 q4 q5 hB0 hBw0 hRun0
    gi_wp2_with (refine ⟨trivial, ?_⟩; refine (callsIn_wide.2 HSTR.out).mono ?_; rintro e w1 ⟨rfl, hh, hb⟩)
    have hK : w1.heap[D]? = some (.deferred (some [])) := hh D _ hDef hDk (fun c fz e => by cases e)
    have hB1 : Below p w w1 := HR.out.below.trans hb
    have hg := grownBy_putObj' w1 D (.deferred none)
    have hB2 : Below p w (w1.putObj D (.deferred none)) := hB1.grown hg (Nat.le_trans (Nat.le_of_lt HR.out.plt) hb.size) (fun k e => by cases e; omega)
    gi_wp2
    refine ⟨by simp, .inl ⟨_, _, rfl, run_takeDeferred hK, ?_⟩⟩
    exact ⟨_, results_tmp rfl _ _ _, rfl, by rw [hpp]; exact hB2⟩
end Go.Proofs.YtchokmhfgikglaaGreatDoor

namespace Go.Proofs.YtchokmhfgikglaaGreatDoor
set_option maxRecDepth 100000
open Go.RowKit Go.Shelf Go.Lib

theorem index1_any (l : List Nat) (hl : Byt l) (c : Nat) (hc : c < 256) (w : World) :
    Calls Tryz.prog 106 #[.string (strN l), .string ⟨#[UInt8.ofNat c]⟩] w fun e w' => e = .returned (.int .i64 (if l.contains c = true then ((l.takeWhile (· != c)).length : Int) else -1)) ∧ w = w' := by
  have hix : ∀ w, Calls Tryz.prog 166 #[.string (strN l), .string ⟨#[UInt8.ofNat c]⟩] w fun e w' => e = .returned (.int .i64 (if l.contains c = true then ((l.takeWhile (· != c)).length : Int) else -1)) ∧ w' = w := fun w => by
    have := Any.stringslite_Index_one Tryz.lays219 (strN l) (UInt8.ofNat c) w
    have e : (strN l).data.toList = l.map UInt8.ofNat := by unfold strN; simp
    rw [e, index_of c hc l hl] at this
    exact this
  obtain ⟨x, hx⟩ : ∃ x : Int, (if l.contains c = true then ((l.takeWhile (· != c)).length : Int) else -1) = x := ⟨_, rfl⟩
  rw [hx] at hix ⊢
  have HIX := Lib.hid hix
  clear hix hx hl
  generalize strN l = t at *
  go_enter Tryz.func106, Tryz.ntmps106
  go_wp2_with fail
  go_fit (HIX.out _)
  rintro e w1 ⟨rfl, rfl⟩
  go_wp2_with fail
  go_ret
  exact ⟨rfl, rfl⟩

/-- Lines, as a text. -/
def jn : List (List Nat) → List Nat
  | [] => []
  | [a] => a
  | a :: b :: r => a ++ 10 :: jn (b :: r)

theorem tw_stop (a r : List Nat) (h : 10 ∉ a) : (a ++ 10 :: r).takeWhile (· != 10) = a := by
  induction a with
  | nil => rfl
  | cons x a ih =>
    have hx : x ≠ 10 := fun e => h (by rw [e]; simp)
    rw [List.cons_append, List.takeWhile_cons, if_pos (by simpa using hx), ih (fun hc => h (List.mem_cons_of_mem _ hc))]

theorem pcs_of (ls : List (List Nat)) (hne : ls ≠ []) (hb : ∀ k, Byt (jn (ls.drop k))) (h10 : ∀ a ∈ ls, 10 ∉ a) (hsz : ∀ k, (jn (ls.drop k)).length ≤ 1000000) :
    Pcs (ls.length - 1) (fun k => strN (jn (ls.drop k))) (fun k => strN (ls.getD k [])) (fun k => (ls.getD k []).length) := by
  have hpos : 0 < ls.length := List.length_pos_iff.2 hne
  have hd : ∀ k, k < ls.length - 1 → ∃ a b r, ls.drop k = a :: b :: r ∧ ls.drop (k + 1) = b :: r ∧ ls.getD k [] = a ∧ 10 ∉ a := fun k hk => by
    have e1 := List.drop_eq_getElem_cons (show k < ls.length by omega)
    have e2 := List.drop_eq_getElem_cons (show k + 1 < ls.length by omega)
    refine ⟨ls[k], ls[k + 1], ls.drop (k + 1 + 1), by rw [e1, e2], e2, ?_, h10 _ (List.getElem_mem _)⟩
    rw [List.getD_eq_getElem?_getD, List.getElem?_eq_getElem (by omega)]
    rfl
  have hlast : ls.drop (ls.length - 1) = [ls.getD (ls.length - 1) []] ∧ 10 ∉ ls.getD (ls.length - 1) [] := by
    have e1 := List.drop_eq_getElem_cons (show ls.length - 1 < ls.length by omega)
    have e3 : ls.getD (ls.length - 1) [] = ls[ls.length - 1] := by
      rw [List.getD_eq_getElem?_getD, List.getElem?_eq_getElem (by omega)]
      rfl
    rw [e3]
    refine ⟨?_, h10 _ (List.getElem_mem _)⟩
    rw [e1, show ls.length - 1 + 1 = ls.length by omega, List.drop_length]
  refine ⟨fun k hk W => ?_, fun W => ?_, fun k hk => ?_, fun k hk => ?_, fun k hk => ?_, fun k _ => ?_, ?_⟩
  · obtain ⟨a, b, r, e1, e2, e3, e4⟩ := hd k hk
    have h := index1_any (jn (ls.drop k)) (hb k) 10 (by omega) W
    rw [e1] at h
    have hc : (a ++ 10 :: jn (b :: r)).contains 10 = true := by simp
    rw [show jn (a :: b :: r) = a ++ 10 :: jn (b :: r) from rfl, hc, if_pos rfl, tw_stop a _ e4] at h
    show Calls _ _ #[.string (strN (jn (ls.drop k))), _] W _
    rw [e1, e3]
    exact h
  · have h := index1_any (jn (ls.drop (ls.length - 1))) (hb _) 10 (by omega) W
    have hc : ((ls.getD (ls.length - 1) []).contains 10) = false := by
      cases hh : (ls.getD (ls.length - 1) []).contains 10
      · rfl
      · exact absurd (by simpa using hh) hlast.2
    rw [hlast.1, show jn [ls.getD (ls.length - 1) []] = ls.getD (ls.length - 1) [] from rfl, hc] at h
    show Calls _ _ #[.string (strN (jn (ls.drop (ls.length - 1)))), _] W _
    rw [hlast.1]
    exact h
  · obtain ⟨a, b, r, e1, e2, e3, e4⟩ := hd k hk
    show (strN (jn (ls.drop k))).extract 0 (ls.getD k []).length = strN (ls.getD k [])
    rw [e1, e3, strN_mid]
    simp [jn]
  · obtain ⟨a, b, r, e1, e2, e3, e4⟩ := hd k hk
    show (strN (jn (ls.drop k))).extract ((ls.getD k []).length + 1) (strN (jn (ls.drop k))).size = strN (jn (ls.drop (k + 1)))
    rw [e1, e2, e3, strN_size, strN_mid, List.take_length]
    simp [jn]
  · obtain ⟨a, b, r, e1, e2, e3, e4⟩ := hd k hk
    show (ls.getD k []).length + 1 ≤ (strN (jn (ls.drop k))).size
    rw [strN_size, e1, e3]
    simp [jn]
  · show (strN (jn (ls.drop k))).size ≤ 1000000
    rw [strN_size]
    exact hsz k
  · show strN (ls.getD (ls.length - 1) []) = strN (jn (ls.drop (ls.length - 1)))
    rw [hlast.1]
    rfl
end Go.Proofs.YtchokmhfgikglaaGreatDoor

namespace Go.Proofs.YtchokmhfgikglaaGreatDoor
set_option maxRecDepth 100000
open Go.RowKit Go.Shelf Go.Lib

def ln0 : List Nat := [108, 101, 116, 32, 97, 32, 61, 32, 49, 32, 50, 32, 52]
def ln1 : List Nat := [118, 97, 114, 32, 97]
def tx0 : List Nat := [32, 49, 32, 50, 32, 52]
theorem kn_text : textV tx0 = (0, [1, 2, 4]) := by decide +kernel
theorem kn_letE : letE [] [97] tx0 = 0 := by decide +kernel
theorem kn_letN : letN [] [97] tx0 = [[97]] := by decide +kernel
theorem kn_letR : letR [] [] [97] tx0 = [[1, 2, 4]] := by decide +kernel
theorem kn_var : varQ [1, 2, 4] = (7 : Rat) / 3 := by decide +kernel
theorem kn_prn : prQ ((7 : Rat) / 3) = [55, 47, 51] := by decide +kernel
theorem kn_sz : Sz ((7 : Rat) / 3) 80 := by unfold Sz; decide +kernel
theorem kn_w0 : Lib.goFieldsP isSp (strN ln0) = [⟨#[108, 101, 116]⟩, strN [97], ⟨#[61]⟩, ⟨#[49]⟩, ⟨#[50]⟩, ⟨#[52]⟩] := by decide +kernel
theorem kn_w1 : Lib.goFieldsP isSp (strN ln1) = [⟨#[118, 97, 114]⟩, strN [97]] := by decide +kernel
theorem kn_w2 : Lib.goFieldsP isSp (strN []) = [] := by decide +kernel
theorem kn_aft : aft (aft (aft (strN ln0) ⟨#[108, 101, 116]⟩) (strN [97])) ⟨#[61]⟩ = strN tx0 := by decide +kernel
theorem kn_aft1 : (aft (strN ln0) ⟨#[108, 101, 116]⟩).size ≤ 1000000 := by decide +kernel
theorem kn_aft2 : (aft (aft (strN ln0) ⟨#[108, 101, 116]⟩) (strN [97])).size ≤ 1000000 := by decide +kernel

theorem kn_pure0 : PureS [] [] := ⟨by decide, by unfold Rises; decide, fun r hr => by cases hr⟩
theorem kn_z : ∀ q ∈ ([1, 2, 4] : List Rat), Sz q 1 := by
  intro q hq
  rcases List.mem_cons.1 hq with rfl | hq
  · exact sz_nat (n := 1) (by decide)
  rcases List.mem_cons.1 hq with rfl | hq
  · exact sz_nat (n := 2) (by decide)
  rcases List.mem_cons.1 hq with rfl | hq
  · exact sz_nat (n := 4) (by decide)
  · cases hq
theorem kn_pure1 : PureS [[97]] [[1, 2, 4]] := by
  refine ⟨by decide, ?_, fun r hr => ?_⟩
  · unfold Rises; decide
  · rcases List.mem_cons.1 hr with rfl | hr
    · exact ⟨by decide, fun q hq => (kn_z q hq).mono (by decide)⟩
    · cases hr

theorem kn_line0 (p : Nat) : LineDo p [] [] [[97]] [[1, 2, 4]] (strN ln0) ⟨#[111, 107]⟩ := by
  refine ⟨⟨#[108, 101, 116]⟩, _, kn_w0, ⟨by decide, by decide⟩, by decide +kernel, by decide, fun W g D hs hm hc hg hD => ?_⟩
  have hc0 := hc 0 (by decide)
  have hc1 := hc 1 (by decide)
  have hc2 := hc 2 (by decide)
  refine line_let p g 6 D (strN ln0) [[97]] [[1, 2, 4]] W hc0 hg (by decide) fun V hb => ?_
  have h := let_any p D [] [] [97] tx0 (strN ln0) g 6 V (hs.below hb) kn_pure0 (hm.below hb) (by unfold Byt; decide) (by decide) (by unfold Byt; decide) (by decide) (by rw [kn_text]; decide) ((hb.cell (p := ⟨g, 0, none⟩) hg).trans hc0) ((hb.cell (p := ⟨g, 1, none⟩) hg).trans hc1) ((hb.cell (p := ⟨g, 2, none⟩) hg).trans hc2)
    (Nat.lt_of_lt_of_le hg hb.size) hD (by decide) (by decide) (by decide +kernel) kn_aft1 kn_aft2 kn_aft kn_letE
  rw [kn_letN, kn_letR] at h
  exact h

theorem kn_line1 (p : Nat) : LineDo p [[97]] [[1, 2, 4]] [[97]] [[1, 2, 4]] (strN ln1) (strN [55, 47, 51]) := by
  refine ⟨⟨#[118, 97, 114]⟩, _, kn_w1, ⟨by decide, by decide⟩, by decide +kernel, by decide +kernel, fun W g D hs hm hc hg hD => ?_⟩
  have hc0 := hc 0 (by decide)
  have hc1 := hc 1 (by decide)
  refine (line_var p g (strN ln1) (strN [55, 47, 51]) W hc0 hg fun V hb => ?_).mono ?_
  · have h := row_var p D [[97]] [[1, 2, 4]] [97] [1, 2, 4] g 1 10 V (hs.below hb) kn_pure1 (by unfold Byt; decide) ((hb.cell (p := ⟨g, 0, none⟩) hg).trans hc0) ((hb.cell (p := ⟨g, 1, none⟩) hg).trans hc1) (Nat.lt_of_lt_of_le hg hb.size) (by decide) (by decide +kernel)
      kn_z (by decide) (by decide) (by decide) (by decide) (by decide) (by rw [kn_var]; exact kn_sz)
    rw [kn_var, kn_prn] at h
    exact h
  · rintro e w' ⟨rfl, hb⟩
    exact ⟨D, rfl, hs.below hb, Turned.of_below hb, fun j hj => Or.inl hj⟩

def knL : List (List Nat) := [ln0, ln1, []]
def knO (k : Nat) : List UInt8 := if k = 0 then [] else if k = 1 then [111, 107, 10] else [111, 107, 10, 55, 47, 51, 10]

theorem kn_run (w : World) (hm : MaxAt w) : Calls Tryz.prog 16 #[.string (strN (jn knL))] w fun e w' => e = .returned (.string ⟨#[111, 107, 10, 55, 47, 51, 10]⟩) ∧ Below w.heap.size w w' := by
  have hb : ∀ k, Byt (jn (knL.drop k)) ∧ (jn (knL.drop k)).length ≤ 1000000 := fun k => by
    match k with
    | 0 => exact ⟨by unfold Byt; decide, by decide⟩
    | 1 => exact ⟨by unfold Byt; decide, by decide⟩
    | 2 => exact ⟨by unfold Byt; decide, by decide⟩
    | k + 3 =>
      have e : knL.drop (k + 3) = [] := List.drop_eq_nil_of_le (by show 3 ≤ k + 3; omega)
      rw [e]
      exact ⟨by unfold Byt; decide, by decide⟩
  have hp := pcs_of knL (by decide) (fun k => (hb k).1) (by decide) (fun k => (hb k).2)
  refine (callsIn_wide (n := 8)).1 ?_
  refine toolRun_any 8 (Nat.le_refl _) (strN (jn knL)) 2 _ _ _ hp rfl (fun k => if k = 0 then [] else [[97]]) (fun k => if k = 0 then [] else [[1, 2, 4]]) knO w hm rfl rfl rfl (fun k _ => ?_) (by decide) (fun k hk => ?_)
  · unfold knO
    split
    · decide
    · split
      · decide
      · decide
  · match k, hk with
    | 0, _ => exact ⟨by decide +kernel, Or.inr ⟨_, kn_line0 _, by decide +kernel⟩⟩
    | 1, _ => exact ⟨by decide +kernel, Or.inr ⟨_, kn_line1 _, by decide +kernel⟩⟩
    | 2, _ => exact ⟨by decide +kernel, Or.inl ⟨kn_w2, rfl, rfl, rfl⟩⟩

theorem topKnown_any (w : World) (hm : MaxAt w) : Calls Tryz.prog 13 #[] w fun e w' => e = .returned (.bool true) ∧ Below w.heap.size w w' := by
  have h := kn_run w hm
  have e : strN (jn knL) = ⟨#[108, 101, 116, 32, 97, 32, 61, 32, 49, 32, 50, 32, 52, 10, 118, 97, 114, 32, 97, 10]⟩ := by decide +kernel
  rw [e] at h
  have H := Lib.hid h
  clear h e
  go_enter Tryz.func13, Tryz.ntmps13
  go_wp2_with fail
  go_fit (H.out)
  rintro e w2 ⟨rfl, hb⟩
  go_wp2_with fail
  go_ret
  exact ⟨rfl, hb⟩
end Go.Proofs.YtchokmhfgikglaaGreatDoor
