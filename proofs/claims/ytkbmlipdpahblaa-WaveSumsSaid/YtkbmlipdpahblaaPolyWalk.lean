/- 'Poly' of the program and of the reference by their contracts. Condition: whole numbers, the powers small. -/
import Derived.Test.YtkbmlipdpahblaaPolys
import Derived.Test.YtkbmlipdpahblaaLawMuls
namespace Go.Proofs.Ytkbmlipdpahblaa
open Go.RowKit

theorem csum_is {a b c d : Nat} {A B C D : Int} (ha : Is a A) (hb : Is b B) (hc : Is c C) (hd : Is d D) (h1 : (A + C).natAbs < 2 ^ 53) (h2 : (B + D).natAbs < 2 ^ 53) :
    ∃ re im, cSumBits .add .f64 a b c d = some (re, im) ∧ Is re (A + C) ∧ Is im (B + D) := by
  obtain ⟨r1, e1, i1⟩ := sum_is ha hc h1
  obtain ⟨r2, e2, i2⟩ := sum_is hb hd h2
  refine ⟨r1, r2, ?_, i1, i2⟩
  unfold cSumBits
  simp [e1, e2]

/-- One round's arithmetic, as bits: what is added, the new power. -/
theorem round_is {sr si br bi ar ai : Nat} {S1 S2 P1 P2 X Y z : Int} (hs1 : Is sr S1) (hs2 : Is si S2) (hp1 : Is br P1) (hp2 : Is bi P2) (hX : Is ar X) (hY : Is ai Y)
    (bz : -1048575 ≤ z ∧ z ≤ 1048575) (bp1 : -34012224 ≤ P1 ∧ P1 ≤ 34012224) (bp2 : -34012224 ≤ P2 ∧ P2 ≤ 34012224) (bX : -3 ≤ X ∧ X ≤ 3) (bY : -3 ≤ Y ∧ Y ≤ 3)
    (bs1 : -8000000000000000 ≤ S1 ∧ S1 ≤ 8000000000000000) (bs2 : -8000000000000000 ≤ S2 ∧ S2 ≤ 8000000000000000) :
    ∃ tr ti nr ni qr qi, cMulBits (floatOfInt .f64 z) 0 br bi = some (tr, ti) ∧ cSumBits .add .f64 sr si tr ti = some (nr, ni) ∧ cMulBits br bi ar ai = some (qr, qi) ∧
      Is nr (S1 + z * P1) ∧ Is ni (S2 + z * P2) ∧ Is qr (P1 * X - P2 * Y) ∧ Is qi (P1 * Y + P2 * X) := by
  have m1 := mul_bd bz bp1
  have m2 := mul_bd bz bp2
  have m3 := mul_bd bp1 bX
  have m4 := mul_bd bp2 bY
  have m5 := mul_bd bp1 bY
  have m6 := mul_bd bp2 bX
  obtain ⟨tr, ti, e1, i1, i2⟩ := cmul_is (is_of_int z (by omega)) zero_is hp1 hp2 (by omega) (by simp) (by omega) (by simp) (by simp; omega) (by simp; omega)
  have j1 : Is tr (z * P1) := by simpa using i1
  have j2 : Is ti (z * P2) := by simpa using i2
  obtain ⟨nr, ni, e2, i3, i4⟩ := csum_is hs1 hs2 j1 j2 (by omega) (by omega)
  obtain ⟨qr, qi, e3, i5, i6⟩ := cmul_is hp1 hp2 hX hY (by omega) (by omega) (by omega) (by omega) (by omega) (by omega)
  exact ⟨tr, ti, nr, ni, qr, qi, e1, e2, e3, i3, i4, i5, i6⟩

/-- The bits of the sum and of the power behind k rounds. -/
def pb (ar ai : Nat) (l : List Int) : Nat → (Nat × Nat) × (Nat × Nat)
  | 0 => ((0, 0), (4607182418800017408, 0))
  | k + 1 => ((cSumBits .add .f64 (pb ar ai l k).1.1 (pb ar ai l k).1.2 ((cMulBits (floatOfInt .f64 (l.getD k 0)) 0 (pb ar ai l k).2.1 (pb ar ai l k).2.2).getD (0, 0)).1 ((cMulBits (floatOfInt .f64 (l.getD k 0)) 0 (pb ar ai l k).2.1 (pb ar ai l k).2.2).getD (0, 0)).2).getD (0, 0),
      (cMulBits (pb ar ai l k).2.1 (pb ar ai l k).2.2 ar ai).getD (0, 0))

/-- The number that is raised to powers is small, and so are its powers. -/
def Good (ar ai : Nat) (X Y : Int) (l : List Int) : Prop :=
  Is ar X ∧ Is ai Y ∧ (-3 ≤ X ∧ X ≤ 3) ∧ (-3 ≤ Y ∧ Y ≤ 3) ∧ ∀ k, k ≤ l.length → (-34012224 ≤ (pw X Y k).1 ∧ (pw X Y k).1 ≤ 34012224) ∧ (-34012224 ≤ (pw X Y k).2 ∧ (pw X Y k).2 ≤ 34012224)

theorem pb_step {ar ai : Nat} {X Y : Int} {l : List Int} (hg : Good ar ai X Y l) (hl : l.length ≤ 200) (hs : Small 1048575 l) (k : Nat) (hk : k < l.length)
    (h : Is (pb ar ai l k).1.1 (sm X Y l k).1 ∧ Is (pb ar ai l k).1.2 (sm X Y l k).2 ∧ Is (pb ar ai l k).2.1 (pw X Y k).1 ∧ Is (pb ar ai l k).2.2 (pw X Y k).2) :
    (∃ tr ti, cMulBits (floatOfInt .f64 l[k]) 0 (pb ar ai l k).2.1 (pb ar ai l k).2.2 = some (tr, ti) ∧ cSumBits .add .f64 (pb ar ai l k).1.1 (pb ar ai l k).1.2 tr ti = some ((pb ar ai l (k + 1)).1.1, (pb ar ai l (k + 1)).1.2)) ∧
      cMulBits (pb ar ai l k).2.1 (pb ar ai l k).2.2 ar ai = some ((pb ar ai l (k + 1)).2.1, (pb ar ai l (k + 1)).2.2) ∧
      Is (pb ar ai l (k + 1)).1.1 (sm X Y l (k + 1)).1 ∧ Is (pb ar ai l (k + 1)).1.2 (sm X Y l (k + 1)).2 ∧ Is (pb ar ai l (k + 1)).2.1 (pw X Y (k + 1)).1 ∧ Is (pb ar ai l (k + 1)).2.2 (pw X Y (k + 1)).2 := by
  obtain ⟨hX, hY, bX, bY, hp⟩ := hg
  have hsk := sm_bd X Y l hs hp k (by omega)
  have hpk := hp k (by omega)
  have hz := elem_bd hs k hk
  obtain ⟨tr, ti, nr, ni, qr, qi, e1, e2, e3, j1, j2, j3, j4⟩ := round_is h.1 h.2.1 h.2.2.1 h.2.2.2 hX hY hz hpk.1 hpk.2 bX bY (by omega) (by omega)
  have ez : l.getD k 0 = l[k] := by rw [List.getD_eq_getElem?_getD, List.getElem?_eq_getElem hk]; rfl
  have ep : pb ar ai l (k + 1) = ((nr, ni), (qr, qi)) := by simp only [pb, ez, e1, Option.getD_some, e2, e3]
  rw [ep]
  refine ⟨⟨tr, ti, e1, e2⟩, e3, ?_, ?_, j3, j4⟩
  · simp only [sm]; rw [ez]; exact j1
  · simp only [sm]; rw [ez]; exact j2

theorem pb_is {ar ai : Nat} {X Y : Int} {l : List Int} (hg : Good ar ai X Y l) (hl : l.length ≤ 200) (hs : Small 1048575 l) (k : Nat) (hk : k ≤ l.length) :
    Is (pb ar ai l k).1.1 (sm X Y l k).1 ∧ Is (pb ar ai l k).1.2 (sm X Y l k).2 ∧ Is (pb ar ai l k).2.1 (pw X Y k).1 ∧ Is (pb ar ai l k).2.2 (pw X Y k).2 := by
  induction k with
  | zero => exact ⟨zero_is, zero_is, one_is, zero_is⟩
  | succ k ih => exact (pb_step hg hl hs k (by omega) (ih (by omega))).2.2

set_option maxHeartbeats 1600000 in
theorem poly_any (ar ai : Nat) (v : Value) (l : List Int) (w : World) (B : Nat) (hg : ∃ X Y, Good ar ai X Y l) (h : Rd w B v (l.map (Value.int .i64))) (hl : l.length ≤ 200) (hs : Small 1048575 l) :
    Calls Try.prog 19 #[.complex .f64 ar ai, v] w fun e w' => e = .returned (.complex .f64 (pb ar ai l l.length).1.1 (pb ar ai l l.length).1.2) ∧ w = w' := by
  obtain ⟨X, Y, hg⟩ := hg
  obtain ⟨A, c, rfl, hc, hm, _, hx⟩ := h
  have hll : (l.map (Value.int .i64)).length = l.length := List.length_map _
  rw [hll] at hc hx ⊢
  clear hll
  have Hg := Lib.hid hg
  clear hg
  go_enter Try.func19, Try.ntmps19
  go_wp2
  go_loop [5, 6, 8, 11] (fun s p _ i => ∃ k, k ≤ l.length ∧ i = .int .i64 (k : Nat) ∧ s = .complex .f64 (pb ar ai l k).1.1 (pb ar ai l k).1.2 ∧ p = .complex .f64 (pb ar ai l k).2.1 (pb ar ai l k).2.2)
    (fun _ _ _ i => l.length - (intOf i).toNat)
  case atStart => exact ⟨0, Nat.zero_le _, rfl, rfl, rfl⟩
  case round =>
    obtain ⟨k, hk, rfl, rfl, rfl⟩ := hrel
    by_cases hlt : k < l.length
    · obtain ⟨b, off, rfl, hb, hcell⟩ := hx (by omega)
      have hcx : w.cell? ⟨b, off + k, none⟩ = some (.int .i64 l[k]) := hcell k _ (by rw [List.getElem?_map, List.getElem?_eq_getElem hlt]; rfl)
      obtain ⟨⟨tr, ti, e1, e2⟩, e3, _⟩ := pb_step Hg.out hl hs k hlt (pb_is Hg.out hl hs k hk)
      have r1 := fun w => run_complex_mul (P := Try.prog) w 26 _ _ _ _ _ _ e1
      have r2 := fun w => run_complex_sum (P := Try.prog) w .add (Or.inl rfl) 26 .f64 _ _ _ _ _ _ e2
      have r3 := fun w => run_complex_mul (P := Try.prog) w 26 _ _ _ _ _ _ e3
      clear e1 e2 e3 hcell hx hs
      go_wp2
      go_round
      case rel => exact ⟨k + 1, by omega, by go_num, rfl, rfl⟩
      case measure => simp [intOf]; omega
    · obtain rfl : k = l.length := by omega
      clear hx hs
      go_wp2
      go_ret
      exact ⟨rfl, rfl⟩

theorem four_new (w : World) (t : TypeId) (c0 c1 c2 c3 : Array Value) :
    Blk ((((w.alloc (.cells c0 t)).alloc (.cells c1 t)).alloc (.cells c2 t)).alloc (.cells c3 t)) w.heap.size t c0 ∧ Blk ((((w.alloc (.cells c0 t)).alloc (.cells c1 t)).alloc (.cells c2 t)).alloc (.cells c3 t)) (w.heap.size + 1) t c1 ∧
    Blk ((((w.alloc (.cells c0 t)).alloc (.cells c1 t)).alloc (.cells c2 t)).alloc (.cells c3 t)) (w.heap.size + 2) t c2 ∧ Blk ((((w.alloc (.cells c0 t)).alloc (.cells c1 t)).alloc (.cells c2 t)).alloc (.cells c3 t)) (w.heap.size + 3) t c3 ∧
    Below w.heap.size w ((((w.alloc (.cells c0 t)).alloc (.cells c1 t)).alloc (.cells c2 t)).alloc (.cells c3 t)) := by
  have s1 : (w.alloc (.cells c0 t)).heap.size = w.heap.size + 1 := by simp
  have s2 : ((w.alloc (.cells c0 t)).alloc (.cells c1 t)).heap.size = w.heap.size + 2 := by simp
  have s3 : (((w.alloc (.cells c0 t)).alloc (.cells c1 t)).alloc (.cells c2 t)).heap.size = w.heap.size + 3 := by simp
  have b0 := (((Blk.new w t c0).alloc (.cells c1 t)).alloc (.cells c2 t)).alloc (.cells c3 t)
  have b1 := ((Blk.new (w.alloc (.cells c0 t)) t c1).alloc (.cells c2 t)).alloc (.cells c3 t)
  have b2 := (Blk.new ((w.alloc (.cells c0 t)).alloc (.cells c1 t)) t c2).alloc (.cells c3 t)
  have b3 := Blk.new (((w.alloc (.cells c0 t)).alloc (.cells c1 t)).alloc (.cells c2 t)) t c3
  rw [s1] at b1
  rw [s2] at b2
  rw [s3] at b3
  exact ⟨b0, b1, b2, b3, ((((Below.refl _ _).alloc (Nat.le_refl _) _).alloc (by omega) _).alloc (by omega) _).alloc (by omega) _⟩

set_option maxHeartbeats 1600000 in
theorem refPoly_any (X Y : Int) (v : Value) (l : List Int) (w : World) (h : Rd w w.heap.size v (l.map (Value.int .i64))) (hl : l.length ≤ 200) (hs : Small 1048575 l) (bX : -3 ≤ X ∧ X ≤ 3) (bY : -3 ≤ Y ∧ Y ≤ 3)
    (hp : ∀ k, k ≤ l.length → (-34012224 ≤ (pw X Y k).1 ∧ (pw X Y k).1 ≤ 34012224) ∧ (-34012224 ≤ (pw X Y k).2 ∧ (pw X Y k).2 ≤ 34012224)) :
    Calls Try.prog 20 #[.agg #[.int .i64 X, .int .i64 Y], v] w fun e w' => e = .returned (.agg #[.int .i64 (sm X Y l l.length).1, .int .i64 (sm X Y l l.length).2]) ∧ Below w.heap.size w w' := by
  obtain ⟨A, c, rfl, hc, hm, _, hx⟩ := h
  have hll : (l.map (Value.int .i64)).length = l.length := List.length_map _
  rw [hll] at hc hx ⊢
  clear hll
  have hsm := sm_bd X Y l hs hp
  have Hp := Lib.hid hp
  have Hs := Lib.hid hsm
  clear hp hsm
  go_enter Try.func20, Try.ntmps20
  go_wp2
  go_loopw [7] (fun i wr => ∃ k, k ≤ l.length ∧ i = .int .i64 (k : Nat) ∧ Blk wr w.heap.size 34 #[.int .i64 X, .int .i64 Y] ∧ Blk wr (w.heap.size + 1) 34 #[.int .i64 0, .int .i64 0] ∧
      Blk wr (w.heap.size + 2) 34 #[.int .i64 (sm X Y l k).1, .int .i64 (sm X Y l k).2] ∧ Blk wr (w.heap.size + 3) 34 #[.int .i64 (pw X Y k).1, .int .i64 (pw X Y k).2] ∧ Below w.heap.size w wr)
    (fun i _ => l.length - (intOf i).toNat)
  case atStart =>
    have h4 := four_new w 34 #[.int .i64 X, .int .i64 Y] #[.int .i64 0, .int .i64 0] #[.int .i64 0, .int .i64 0] #[.int .i64 1, .int .i64 0]
    exact ⟨0, Nat.zero_le _, rfl, h4⟩
  case round =>
    obtain ⟨k, hk, rfl, hB0, hB1, hB2, hB3, hnx⟩ := hrel
    have hsk := Hs.out k hk
    have hpk := Hp.out k hk
    by_cases hlt : k < l.length
    · obtain ⟨b, off, rfl, hb, hcell⟩ := hx (by omega)
      have hcx : wr.cell? ⟨b, off + k, none⟩ = some (.int .i64 l[k]) := (hnx.cell hb).trans (hcell k _ (by rw [List.getElem?_map, List.getElem?_eq_getElem hlt]; rfl))
      have hz := elem_bd hs k hlt
      have m1 := mul_bd hz hpk.1
      have m2 := mul_bd hz hpk.2
      have m3 := mul_bd hpk.1 bX
      have m4 := mul_bd hpk.2 bY
      have m5 := mul_bd hpk.1 bY
      have m6 := mul_bd hpk.2 bX
      have e1 : (sm X Y l (k + 1)).1 = (sm X Y l k).1 + l[k] * (pw X Y k).1 := by simp [sm, List.getD_eq_getElem?_getD, List.getElem?_eq_getElem hlt]
      have e2 : (sm X Y l (k + 1)).2 = (sm X Y l k).2 + l[k] * (pw X Y k).2 := by simp [sm, List.getD_eq_getElem?_getD, List.getElem?_eq_getElem hlt]
      have E1 := Lib.hid e1
      have E2 := Lib.hid e2
      have e3 : pw X Y (k + 1) = ((pw X Y k).1 * X - (pw X Y k).2 * Y, (pw X Y k).1 * Y + (pw X Y k).2 * X) := rfl
      have E3 := Lib.hid e3
      clear e1 e2 e3
      generalize (sm X Y l k).1 = S1 at *
      generalize (sm X Y l k).2 = S2 at *
      generalize (pw X Y k).1 = P1 at *
      generalize (pw X Y k).2 = P2 at *
      have a0 : wr.cell? ⟨w.heap.size + 2, 0, none⟩ = some (.int .i64 S1) := hB2.cell 0
      have a1 : wr.cell? ⟨w.heap.size + 2, 1, none⟩ = some (.int .i64 S2) := hB2.cell 1
      have p0 : wr.cell? ⟨w.heap.size + 3, 0, none⟩ = some (.int .i64 P1) := hB3.cell 0
      have p1 : wr.cell? ⟨w.heap.size + 3, 1, none⟩ = some (.int .i64 P2) := hB3.cell 1
      have fa0 : wr.frozen? ⟨w.heap.size + 2, 0, none⟩ = false := hB2.free 0
      have fa1 : wr.frozen? ⟨w.heap.size + 2, 1, none⟩ = false := hB2.free 1
      have s1 : IntKind.i64.wrap (l[k] * P1) = l[k] * P1 := IntWalk.i64_in _ (by omega)
      have s2 : IntKind.i64.wrap (l[k] * P2) = l[k] * P2 := IntWalk.i64_in _ (by omega)
      have s3 : IntKind.i64.wrap (S1 + l[k] * P1) = S1 + l[k] * P1 := IntWalk.i64_in _ (by omega)
      have s4 : IntKind.i64.wrap (S2 + l[k] * P2) = S2 + l[k] * P2 := IntWalk.i64_in _ (by omega)
      clear hcell hx hs hc hm
      go_wp2_with fail
      go_region
      obtain ⟨wn, hwn⟩ : ∃ wn, wn = ((wr.setCell ⟨w.heap.size + 2, 0, none⟩ (.int .i64 (S1 + l[k] * P1))).setCell ⟨w.heap.size + 2, 1, none⟩ (.int .i64 (S2 + l[k] * P2))).drew := ⟨_, rfl⟩
      rw [← hwn]
      have k0 : Blk wn w.heap.size 34 #[.int .i64 X, .int .i64 Y] := by
        rw [hwn]; exact (hB0.far (p := ⟨w.heap.size + 2, 0, none⟩) (by simp) _).far (p := ⟨w.heap.size + 2, 1, none⟩) (by simp) _
      have k1 : Blk wn (w.heap.size + 1) 34 #[.int .i64 0, .int .i64 0] := by
        rw [hwn]; exact (hB1.far (p := ⟨w.heap.size + 2, 0, none⟩) (by simp) _).far (p := ⟨w.heap.size + 2, 1, none⟩) (by simp) _
      have k2 : Blk wn (w.heap.size + 2) 34 #[.int .i64 (S1 + l[k] * P1), .int .i64 (S2 + l[k] * P2)] := by
        rw [hwn]; exact (hB2.put 0 _).put 1 _
      have k3 : Blk wn (w.heap.size + 3) 34 #[.int .i64 P1, .int .i64 P2] := by
        rw [hwn]; exact (hB3.far (p := ⟨w.heap.size + 2, 0, none⟩) (by simp) _).far (p := ⟨w.heap.size + 2, 1, none⟩) (by simp) _
      have kx : Below w.heap.size w wn := by
        rw [hwn]; exact ((hnx.setCell (p := ⟨w.heap.size + 2, 0, none⟩) (by simp) _).setCell (p := ⟨w.heap.size + 2, 1, none⟩) (by simp) _).drew
      clear hwn hB0 hB1 hB2 hB3 hnx a0 a1 p0 p1 fa0 fa1 s1 s2 s3 s4
      have c0 : wn.cell? ⟨w.heap.size, 0, none⟩ = some (.int .i64 X) := k0.cell 0
      have c1 : wn.cell? ⟨w.heap.size, 1, none⟩ = some (.int .i64 Y) := k0.cell 1
      have d0 : wn.cell? ⟨w.heap.size + 3, 0, none⟩ = some (.int .i64 P1) := k3.cell 0
      have d1 : wn.cell? ⟨w.heap.size + 3, 1, none⟩ = some (.int .i64 P2) := k3.cell 1
      go_wp2_with fail
      refine (refMul_any _ _ _ _ _ (by omega) (by omega) (by omega) (by omega)).mono ?_
      rintro e w1 ⟨rfl, hb2⟩
      have l0 := k0.below hb2 k0.lt
      have l1 := k1.below hb2 k1.lt
      have l2 := k2.below hb2 k2.lt
      have l3 := k3.below hb2 k3.lt
      have lx := kx.trans (hb2.mono kx.size)
      clear k0 k1 k2 k3 kx hb2 c0 c1 d0 d1
      have f0 : w1.cell? ⟨w.heap.size + 3, 0, none⟩ = some (.int .i64 P1) := l3.cell 0
      have f1 : w1.cell? ⟨w.heap.size + 3, 1, none⟩ = some (.int .i64 P2) := l3.cell 1
      have g0 : w1.frozen? ⟨w.heap.size + 3, 0, none⟩ = false := l3.free 0
      have g1 : w1.frozen? ⟨w.heap.size + 3, 1, none⟩ = false := l3.free 1
      go_wp2
      go_roundw
      case rel =>
        refine ⟨k + 1, by omega, by go_num, ?_, ?_, ?_, ?_, ?_⟩
        · exact (l0.far (p := ⟨w.heap.size + 3, 0, none⟩) (by simp) _).far (p := ⟨w.heap.size + 3, 1, none⟩) (by simp) _
        · exact (l1.far (p := ⟨w.heap.size + 3, 0, none⟩) (by simp) _).far (p := ⟨w.heap.size + 3, 1, none⟩) (by simp) _
        · rw [E1.out, E2.out]; exact (l2.far (p := ⟨w.heap.size + 3, 0, none⟩) (by simp) _).far (p := ⟨w.heap.size + 3, 1, none⟩) (by simp) _
        · rw [E3.out]; exact (l3.put 0 _).put 1 _
        · exact (lx.setCell (p := ⟨w.heap.size + 3, 0, none⟩) (by simp) _).setCell (p := ⟨w.heap.size + 3, 1, none⟩) (by simp) _
      case measure => simp [intOf]; omega
    · obtain rfl : k = l.length := by omega
      have a0 : wr.cell? ⟨w.heap.size + 2, 0, none⟩ = some (.int .i64 (sm X Y l l.length).1) := hB2.cell 0
      have a1 : wr.cell? ⟨w.heap.size + 2, 1, none⟩ = some (.int .i64 (sm X Y l l.length).2) := hB2.cell 1
      have d0 : wr.cell? ⟨w.heap.size + 1, 0, none⟩ = some (.int .i64 0) := hB1.cell 0
      have d1 : wr.cell? ⟨w.heap.size + 1, 1, none⟩ = some (.int .i64 0) := hB1.cell 1
      have f0 : wr.frozen? ⟨w.heap.size + 1, 0, none⟩ = false := hB1.free 0
      have f1 : wr.frozen? ⟨w.heap.size + 1, 1, none⟩ = false := hB1.free 1
      have e0 := hB1.same (i := 0) (by simp) (.int .i64 (sm X Y l l.length).1)
      have e1 := (hB1.put 0 (.int .i64 (sm X Y l l.length).1)).same (i := 1) (by simp) (.int .i64 (sm X Y l l.length).2)
      clear hx hB0 hB1 hB2 hB3 hs hc hm hsk hpk
      go_wp2
      refine bodyPost_ret (v := .agg #[.int .i64 (sm X Y l l.length).1, .int .i64 (sm X Y l l.length).2]) ?_ rfl ⟨rfl, ?_⟩
      · simp [results, Try.results20, go_sem, e0, e1]
      · exact (hnx.setCell (p := ⟨w.heap.size + 1, 0, none⟩) (by simp) _).setCell (p := ⟨w.heap.size + 1, 1, none⟩) (by simp) _
end Go.Proofs.Ytkbmlipdpahblaa
