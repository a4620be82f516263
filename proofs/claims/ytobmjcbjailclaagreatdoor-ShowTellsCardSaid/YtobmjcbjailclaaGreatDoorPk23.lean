/- Several texts in one: LawShowTells. Condition: each says its own. -/
import Derived.Test.YtobmjcbjailclaaGreatDoorPk14
import Derived.Test.YtobmjcbjailclaaGreatDoorPk15
import Derived.Test.YtobmjcbjailclaaGreatDoorPk22
/- The twentieth law on any ball, any text, any number: the law's walk. Condition: what the platform bounds. -/
namespace Go.Proofs.YtobmjcbjailclaaGreatDoor
set_option maxRecDepth 100000
open Go.RowKit Go.Shelf

/-- The bytes of a text. -/
def lst (s : ByteArray) : List Nat := s.data.toList.map UInt8.toNat
theorem lst_byt (s : ByteArray) : Byt (lst s) := by
  intro x hx
  obtain ⟨y, _, rfl⟩ := List.mem_map.1 hx
  exact y.toNat_lt
theorem lst_strN (s : ByteArray) : strN (lst s) = s := by
  unfold strN lst
  rw [List.map_map]
  have e : (s.data.toList.map (UInt8.ofNat ∘ UInt8.toNat)) = s.data.toList := by
    conv => rhs; rw [← List.map_id s.data.toList]
    exact List.map_congr_left fun x _ => by simp
  rw [e]
theorem lst_len (s : ByteArray) : (lst s).length = s.size := by
  unfold lst
  rw [List.length_map]
  rfl

/-- What a ball is told by, both ways. -/
theorem dec_both (s t : Bool) (A1 A2 A3 A4 : Option Addr) (k1 k2 k3 k4 : Nat) (n d m c : List Nat) (w : World) (dn : Dig n) (dd : Dig d) (dm : Dig m) (dc : Dig c) (h1 : Rt w 0 w.heap.size (.agg #[.bool s, .slice A1 n.length k1, .slice A2 d.length k2]) s n d) (h2 : Rt w 0 w.heap.size (.agg #[.bool t, .slice A3 m.length k3, .slice A4 c.length k4]) t m c)
    (ln : n.length ≤ 3) (ld : d.length ≤ 3) (lm : m.length ≤ 3) (lc : c.length ≤ 3) (i : Int) :
    ∃ (T : ByteArray) (O : Bool), (∀ W, Below w.heap.size w W → Calls Tryz.prog 12 #[.agg #[.bool s, .slice A1 n.length k1, .slice A2 d.length k2, .bool t, .slice A3 m.length k3, .slice A4 c.length k4], .int .i64 i] W fun e w' => e = .returned (.tuple #[.string T, .bool O]) ∧ Below W.heap.size W w') ∧
      (∀ W, Below w.heap.size w W → Calls Tryz.prog 13 #[.agg #[.bool s, .slice A1 n.length k1, .slice A2 d.length k2, .bool t, .slice A3 m.length k3, .slice A4 c.length k4], .int .i64 i] W fun e w' => e = .returned (.tuple #[.string T, .bool O]) ∧ Below W.heap.size W w') := by
  have q1 : ∀ W, Below w.heap.size w W → RQ W 0 W.heap.size (.agg #[.bool s, .slice A1 n.length k1, .slice A2 d.length k2]) (qv s (val n) (val d)) 3 := fun W hb => ⟨s, n, d, h1.after hb, dn, dd, ln, ld, rfl⟩
  have q2 : ∀ W, Below w.heap.size w W → RQ W 0 W.heap.size (.agg #[.bool t, .slice A3 m.length k3, .slice A4 c.length k4]) (qv t (val m) (val c)) 3 := fun W hb => ⟨t, m, c, h2.after hb, dm, dc, lm, lc, rfl⟩
  have i1 := fun W (hb : Below w.heap.size w W) => ballIs_any s t _ _ _ _ n d m c _ _ W dn dd dm dc (h1.after hb) (h2.after hb) (by omega) (by omega) (by omega) (by omega) rfl rfl
  have i2 := fun W (hb : Below w.heap.size w W) => refBallIs_any s t _ _ _ _ n d m c _ _ W dn dd dm dc (h1.after hb) (h2.after hb) (by omega) (by omega) (by omega) (by omega) rfl rfl
  rw [← isR_isQ s n d dn dd, ← isR_isQ t m c dm dc] at i2
  obtain ⟨D, hD⟩ : ∃ D : Nat, hold30 i = (D : Int) := ⟨(hold30 i).toNat, by have := hold30_range i; omega⟩
  cases hb : (isR s n d && (isR t m c && decide (cmpQ (qv s (val n) (val d)) (qv t (val m) (val c)) ≤ 0)))
  · rw [hb] at i1 i2
    exact ⟨_, _, fun W hw => showDec_no _ _ _ _ _ _ _ _ _ _ _ _ _ _ i W fun V hv => i1 V (hw.trans (hv.mono hw.size)), fun W hw => refShowDec_no _ _ _ _ _ _ _ _ _ _ _ _ _ _ i W fun V hv => i2 V (hw.trans (hv.mono hw.size))⟩
  · rw [hb] at i1 i2
    exact ⟨_, _, fun W hw => showDec_yes _ _ _ _ _ _ _ _ _ _ _ _ _ _ i W _ _ 3 D hD (fun V hv => i1 V (hw.trans (hv.mono hw.size))) (q1 W hw) (q2 W hw) (by omega) (by omega),
      fun W hw => refShowDec_yes _ _ _ _ _ _ _ _ _ _ _ _ _ _ i W _ _ 3 D hD (fun V hv => i2 V (hw.trans (hv.mono hw.size))) (q1 W hw) (q2 W hw) (by omega) (by omega)⟩

set_option maxHeartbeats 6400000 in
theorem lawShowTells_any (b0 b1 b2 b3 b4 b5 u : Value) (str : ByteArray) (s s' sx : Bool) (n m n' m' nx mx : List Nat) (d : Int) (w : World) (dn : Dig n) (dm : Dig m) (dn' : Dig n') (dm' : Dig m') (dnx : Dig nx) (dmx : Dig mx)
    (R1 : Rt w 0 w.heap.size (.agg #[b0, b1, b2]) s n m) (R2 : Rt w 0 w.heap.size (.agg #[b3, b4, b5]) s' n' m') (R3 : Rt w 0 w.heap.size u sx nx mx) (hstr : str.size ≤ maxLen) :
    Calls Tryz.prog 4 #[.agg #[b0, b1, b2, b3, b4, b5], .string str, u, .int .i64 d] w fun e w' => e = .returned (.bool true) ∧ Below w.heap.size w w' := by
  unfold maxLen at hstr
  obtain ⟨v1, v2, e1, hn, hm⟩ := R1
  obtain ⟨v4, v5, e2, hn', hm'⟩ := R2
  obtain ⟨v7, v8, rfl, hnx, hmx⟩ := R3
  simp only [Value.agg.injEq, Array.mk.injEq, List.cons.injEq, and_true] at e1 e2
  obtain ⟨rfl, rfl, rfl⟩ := e1
  obtain ⟨rfl, rfl, rfl⟩ := e2
  have hn2 := hn
  have hm2 := hm
  have hn2' := hn'
  have hm2' := hm'
  have hnx2 := hnx
  have hmx2 := hmx
  obtain ⟨A1, k1, rfl, m1⟩ := nt_len hn2
  obtain ⟨A2, k2, rfl, m2⟩ := nt_len hm2
  obtain ⟨A3, k3, rfl, m3⟩ := nt_len hn2'
  obtain ⟨A4, k4, rfl, m4⟩ := nt_len hm2'
  obtain ⟨A5, k5, rfl, m5⟩ := nt_len hnx2
  obtain ⟨A6, k6, rfl, m6⟩ := nt_len hmx2
  have HR1 := Lib.hid (show Rt w 0 w.heap.size (.agg #[.bool s, .slice A1 n.length k1, .slice A2 m.length k2]) s n m from ⟨_, _, rfl, hn, hm⟩)
  have HR2 := Lib.hid (show Rt w 0 w.heap.size (.agg #[.bool s', .slice A3 n'.length k3, .slice A4 m'.length k4]) s' n' m' from ⟨_, _, rfl, hn', hm'⟩)
  have HR3 := Lib.hid (show Rt w 0 w.heap.size (.agg #[.bool sx, .slice A5 nx.length k5, .slice A6 mx.length k6]) sx nx mx from ⟨_, _, rfl, hnx, hmx⟩)
  clear hn hm hn' hm' hnx hmx hn2 hm2 hn2' hm2' hnx2 hmx2
  go_enter Tryz.func4, Tryz.ntmps4
  go_wp2_with fail
  have bB := ((Blk.new w 36 #[.bool s, .slice A1 n.length k1, .slice A2 m.length k2, .bool s', .slice A3 n'.length k3, .slice A4 m'.length k4]).alloc (.cells #[.bool sx, .slice A5 nx.length k5, .slice A6 mx.length k6] 25)).alloc (.cells #[.bool s, .slice A1 n.length k1, .slice A2 m.length k2, .bool s', .slice A3 n'.length k3, .slice A4 m'.length k4, .bool sx, .slice A5 nx.length k5, .slice A6 mx.length k6] 25)
  have bX := (Blk.new (w.alloc (.cells #[.bool s, .slice A1 n.length k1, .slice A2 m.length k2, .bool s', .slice A3 n'.length k3, .slice A4 m'.length k4] 36)) 25 #[.bool sx, .slice A5 nx.length k5, .slice A6 mx.length k6]).alloc (.cells #[.bool s, .slice A1 n.length k1, .slice A2 m.length k2, .bool s', .slice A3 n'.length k3, .slice A4 m'.length k4, .bool sx, .slice A5 nx.length k5, .slice A6 mx.length k6] 25)
  have bN := Blk.new ((w.alloc (.cells #[.bool s, .slice A1 n.length k1, .slice A2 m.length k2, .bool s', .slice A3 n'.length k3, .slice A4 m'.length k4] 36)).alloc (.cells #[.bool sx, .slice A5 nx.length k5, .slice A6 mx.length k6] 25)) 25 #[.bool s, .slice A1 n.length k1, .slice A2 m.length k2, .bool s', .slice A3 n'.length k3, .slice A4 m'.length k4, .bool sx, .slice A5 nx.length k5, .slice A6 mx.length k6]
  have es : (w.alloc (.cells #[.bool s, .slice A1 n.length k1, .slice A2 m.length k2, .bool s', .slice A3 n'.length k3, .slice A4 m'.length k4] 36)).heap.size = w.heap.size + 1 := by simp
  have es2 : ((w.alloc (.cells #[.bool s, .slice A1 n.length k1, .slice A2 m.length k2, .bool s', .slice A3 n'.length k3, .slice A4 m'.length k4] 36)).alloc (.cells #[.bool sx, .slice A5 nx.length k5, .slice A6 mx.length k6] 25)).heap.size = w.heap.size + 1 + 1 := by simp
  have hB : Below w.heap.size w (((w.alloc (.cells #[.bool s, .slice A1 n.length k1, .slice A2 m.length k2, .bool s', .slice A3 n'.length k3, .slice A4 m'.length k4] 36)).alloc (.cells #[.bool sx, .slice A5 nx.length k5, .slice A6 mx.length k6] 25)).alloc (.cells #[.bool s, .slice A1 n.length k1, .slice A2 m.length k2, .bool s', .slice A3 n'.length k3, .slice A4 m'.length k4, .bool sx, .slice A5 nx.length k5, .slice A6 mx.length k6] 25)) := (((Below.refl _ _).alloc (Nat.le_refl _) _).alloc (by simp) _).alloc (by simp; omega) _
  rw [es] at bX
  rw [es2] at bN
  clear es es2
  generalize ((w.alloc (.cells #[.bool s, .slice A1 n.length k1, .slice A2 m.length k2, .bool s', .slice A3 n'.length k3, .slice A4 m'.length k4] 36)).alloc (.cells #[.bool sx, .slice A5 nx.length k5, .slice A6 mx.length k6] 25)).alloc (.cells #[.bool s, .slice A1 n.length k1, .slice A2 m.length k2, .bool s', .slice A3 n'.length k3, .slice A4 m'.length k4, .bool sx, .slice A5 nx.length k5, .slice A6 mx.length k6] 25) = w2 at *
  go_fit (big20_three w2 (w.heap.size + 1 + 1) n.length m.length n'.length m'.length nx.length mx.length k1 k2 k3 k4 k5 k6 A1 A2 A3 A4 A5 A6 (bN.cell 1) (bN.cell 2) (bN.cell 4) (bN.cell 5) (bN.cell 7) (bN.cell 8) bN.lt)
  intro e w3 hpost
  obtain ⟨⟨b, rfl, hb⟩, hb3⟩ := hpost
  have HB := Lib.hid (hB.trans (hb3.mono hB.size))
  have BB := Lib.hid (bB.below hb3 bB.lt)
  have BX := Lib.hid (bX.below hb3 bX.lt)
  clear hB bB bX bN hb3
  cases b
  · obtain ⟨⟨l1, l2⟩, ⟨l3, l4⟩, ⟨l5, l6⟩⟩ := hb rfl
    clear hb
    by_cases h100 : (100 : Int) < (str.size : Int)
    · go_wp2_with fail
      go_ret
      exact ⟨rfl, HB.out⟩
    · obtain ⟨T, O, hd1, hd2⟩ := dec_both s s' A1 A2 A3 A4 k1 k2 k3 k4 n m n' m' w dn dm dn' dm' HR1.out HR2.out l1 l2 l3 l4 d
      have HD1 := Lib.hid hd1
      have HD2 := Lib.hid hd2
      obtain ⟨D, hD⟩ : ∃ D : Nat, hold30 d = (D : Int) := ⟨(hold30 d).toNat, by have := hold30_range d; omega⟩
      have HRX : Hid (∀ W, Below w.heap.size w W → RQ W 0 W.heap.size (.agg #[.bool sx, .slice A5 nx.length k5, .slice A6 mx.length k6]) (qv sx (val nx) (val mx)) 3) := fun W hb => ⟨sx, nx, mx, HR3.out.after hb, dnx, dmx, l5, l6, rfl⟩
      have hll : (lst str).length ≤ 100 := by rw [lst_len]; omega
      have HN1 : Hid (∀ W, Below w.heap.size w W → Calls Tryz.prog 16 #[.string str, .agg #[.bool sx, .slice A5 nx.length k5, .slice A6 mx.length k6], .int .i64 d] W fun e w' => e = .returned (.bool (nearB (lst str) (qv sx (val nx) (val mx)) D)) ∧ Below W.heap.size W w') := fun W hb => by
        have := showNear_any (lst str) (lst_byt str) hll sx A5 A6 nx.length mx.length k5 k6 _ 3 d D hD W (HRX.out W hb) (by omega) (by omega)
        rw [lst_strN] at this
        exact this
      have HN2 : Hid (∀ W, Below w.heap.size w W → Calls Tryz.prog 17 #[.string str, .agg #[.bool sx, .slice A5 nx.length k5, .slice A6 mx.length k6], .int .i64 d] W fun e w' => e = .returned (.bool (nearB (lst str) (qv sx (val nx) (val mx)) D)) ∧ Below W.heap.size W w') := fun W hb => by
        have := refNear_any (lst str) (lst_byt str) hll sx A5 A6 nx.length mx.length k5 k6 _ 3 d D hD W (HRX.out W hb) (by omega) (by omega)
        rw [lst_strN] at this
        exact this
      have HB1 : Hid (∀ W, Calls Tryz.prog 14 #[.int .i64 d] W fun e w' => e = .returned (.int .i64 ((bl (10 ^ (hold30 d).toNat - 1) : Nat) : Int)) ∧ Below W.heap.size W w') := fun W => showBits_any d W
      have HB2 : Hid (∀ W, Calls Tryz.prog 15 #[.int .i64 d] W fun e w' => e = .returned (.int .i64 ((bl (10 ^ (hold30 d).toNat - 1) : Nat) : Int)) ∧ Below W.heap.size W w') := fun W => refBits20_any d W
      clear hd1 hd2 hD HRX hll HR1 HR2 HR3 dn dm dn' dm' dnx dmx l1 l2 l3 l4 l5 l6
      generalize ((bl (10 ^ (hold30 d).toNat - 1) : Nat) : Int) = NB at *
      generalize nearB (lst str) (qv sx (val nx) (val mx)) D = NR at *
      have r0 := BB.out.cell 0
      have r1 := BB.out.cell 1
      have r2 := BB.out.cell 2
      have r3 := BB.out.cell 3
      have r4 := BB.out.cell 4
      have r5 := BB.out.cell 5
      go_wp2_with fail
      go_fit (HD1.out _ HB.out)
      rintro e w4 ⟨rfl, hb4⟩
      replace HB := Lib.hid (HB.out.trans (hb4.mono HB.out.size))
      replace BB := Lib.hid (BB.out.below hb4 BB.out.lt)
      replace BX := Lib.hid (BX.out.below hb4 BX.out.lt)
      clear hb4 HD1 r0 r1 r2 r3 r4 r5
      have r0 := BB.out.cell 0
      have r1 := BB.out.cell 1
      have r2 := BB.out.cell 2
      have r3 := BB.out.cell 3
      have r4 := BB.out.cell 4
      have r5 := BB.out.cell 5
      go_wp2_with fail
      go_fit (HD2.out _ HB.out)
      rintro e w5 ⟨rfl, hb5⟩
      replace HB := Lib.hid (HB.out.trans (hb5.mono HB.out.size))
      replace BX := Lib.hid (BX.out.below hb5 BX.out.lt)
      clear hb5 HD2 r0 r1 r2 r3 r4 r5 BB
      go_wp2_with fail
      have c0 : w5.cell? ⟨w.heap.size + 1, 0, none⟩ = some (.bool sx) := BX.out.cell 0
      have c1 : w5.cell? ⟨w.heap.size + 1, 1, none⟩ = some (.slice A5 nx.length k5) := BX.out.cell 1
      have c2 : w5.cell? ⟨w.heap.size + 1, 2, none⟩ = some (.slice A6 mx.length k6) := BX.out.cell 2
      have hg := BX.out.lt
      have hk0 : Below w5.heap.size w5 w5.drew := (Below.refl _ _).drew
      clear BX
      go_region_held3 (fun W => W.cell? ⟨w.heap.size + 1, 0, none⟩ = some (.bool sx) ∧ W.cell? ⟨w.heap.size + 1, 1, none⟩ = some (.slice A5 nx.length k5) ∧ W.cell? ⟨w.heap.size + 1, 2, none⟩ = some (.slice A6 mx.length k6))
        (with_reducible (first | exact s3_of hk10 c0 c1 c2 hg | exact s3_of hk9 c0 c1 c2 hg | exact s3_of hk8 c0 c1 c2 hg | exact s3_of hk7 c0 c1 c2 hg | exact s3_of hk6 c0 c1 c2 hg | exact s3_of hk0 c0 c1 c2 hg | fail))
        (first
          | (go_at_call 14; go_fit (HB1.out _); rintro e w6 ⟨rfl, hb6⟩; have hk6 : Below w5.heap.size w5 w6 := Below.trans (Below.drew (Below.refl _ _)) hb6)
          | (go_at_call 15; go_fit (HB2.out _); rintro e w7 ⟨rfl, hb7⟩; have hk7 : Below w5.heap.size w5 w7 := hk6.trans (hb7.mono hk6.size))
          | (go_at_call 16; go_fit (HN1.out _ (HB.out.trans (hk7.mono HB.out.size))); rintro e w8 ⟨rfl, hb8⟩; have hk8 : Below w5.heap.size w5 w8 := hk7.trans (hb8.mono hk7.size))
          | (go_at_call 17; go_fit (HN2.out _ (HB.out.trans (hk8.mono HB.out.size))); rintro e w9 ⟨rfl, hb9⟩; have hk9 : Below w5.heap.size w5 w9 := hk8.trans (hb9.mono hk8.size))
          | (go_at_call 18; go_fit (known20_any _); rintro e w10 ⟨rfl, hb10⟩; have hk10 : Below w5.heap.size w5 w10 := hk9.trans (hb10.mono hk9.size))
          | fail)
      have HBF := Lib.hid (HB.out.trans (hk10.mono HB.out.size))
      clear hk0 hk6 hk7 hk8 hk9 hk10 hb6 hb7 hb8 hb9 hb10 c0 c1 c2 HB
      go_wp2_with fail
      go_ret
      exact ⟨rfl, HBF.out⟩
  · clear hb
    go_wp2_with fail
    go_ret
    exact ⟨rfl, HB.out⟩
end Go.Proofs.YtobmjcbjailclaaGreatDoor
