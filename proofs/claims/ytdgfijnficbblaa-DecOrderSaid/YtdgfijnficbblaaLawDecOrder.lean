/- 'DecOrder' returns true at any numbers and any scale. Condition: lengths as the platform bounds them. -/
import Derived.Test.YtdgfijnficbblaaDecBig
import Derived.Test.YtdgfijnficbblaaDecNum
import Derived.Test.YtdgfijnficbblaaOpenRat
namespace Go.Proofs.Ytdgfijnficbblaa
open Go.RowKit Go.Shelf Go.Lib

set_option maxHeartbeats 3200000 in
theorem lawDecOrder_any (u v : Value) (s t : Bool) (n d m c : List Nat) (k : Int) (w : World) (dn : Dig n) (dd : Dig d) (dm : Dig m) (dc : Dig c) (h : Rt w 0 w.heap.size u s n d) (h' : Rt w 0 w.heap.size v t m c)
    (ln : n.length ≤ 70368744177664) (ld : d.length ≤ 70368744177664) (lm : m.length ≤ 70368744177664) (lc : c.length ≤ 70368744177664) :
    Calls Try.prog 3 #[u, v, .int .i64 k] w fun e w' => e = .returned (.bool true) ∧ Below w.heap.size w w' := by
  obtain ⟨un, ud, rfl, hn, hd⟩ := h
  obtain ⟨vm, vc, rfl, hm, hc⟩ := h'
  have hn' := hn
  have hd' := hd
  have hm' := hm
  have hc' := hc
  obtain ⟨A1, k1, rfl, m1⟩ := nt_len hn'
  obtain ⟨A2, k2, rfl, m2⟩ := nt_len hd'
  obtain ⟨A3, k3, rfl, m3⟩ := nt_len hm'
  obtain ⟨A4, k4, rfl, m4⟩ := nt_len hc'
  clear hn' hd' hm' hc' m1 m2 m3 m4
  go_enter Try.func3, Try.ntmps3
  go_wp2_with fail
  have b0 := ((Blk.new w 24 #[.bool s, .slice A1 n.length k1, .slice A2 d.length k2]).alloc (.cells #[.bool t, .slice A3 m.length k3, .slice A4 c.length k4] 24)).alloc (.cells #[.bool s, .slice A1 n.length k1, .slice A2 d.length k2, .bool t, .slice A3 m.length k3, .slice A4 c.length k4] 24)
  have b1 := (Blk.new (w.alloc (.cells #[.bool s, .slice A1 n.length k1, .slice A2 d.length k2] 24)) 24 #[.bool t, .slice A3 m.length k3, .slice A4 c.length k4]).alloc (.cells #[.bool s, .slice A1 n.length k1, .slice A2 d.length k2, .bool t, .slice A3 m.length k3, .slice A4 c.length k4] 24)
  have b2 := Blk.new ((w.alloc (.cells #[.bool s, .slice A1 n.length k1, .slice A2 d.length k2] 24)).alloc (.cells #[.bool t, .slice A3 m.length k3, .slice A4 c.length k4] 24)) 24 #[.bool s, .slice A1 n.length k1, .slice A2 d.length k2, .bool t, .slice A3 m.length k3, .slice A4 c.length k4]
  have hB : Below w.heap.size w (((w.alloc (.cells #[.bool s, .slice A1 n.length k1, .slice A2 d.length k2] 24)).alloc (.cells #[.bool t, .slice A3 m.length k3, .slice A4 c.length k4] 24)).alloc (.cells #[.bool s, .slice A1 n.length k1, .slice A2 d.length k2, .bool t, .slice A3 m.length k3, .slice A4 c.length k4] 24)) := (((Below.refl _ _).alloc (Nat.le_refl _) _).alloc (by simp) _).alloc (by simp; omega) _
  have es : (w.alloc (.cells #[.bool s, .slice A1 n.length k1, .slice A2 d.length k2] 24)).heap.size = w.heap.size + 1 := by simp
  have es2 : ((w.alloc (.cells #[.bool s, .slice A1 n.length k1, .slice A2 d.length k2] 24)).alloc (.cells #[.bool t, .slice A3 m.length k3, .slice A4 c.length k4] 24)).heap.size = w.heap.size + 1 + 1 := by simp
  rw [es] at b1
  rw [es2] at b2
  clear es es2
  generalize (((w.alloc (.cells #[.bool s, .slice A1 n.length k1, .slice A2 d.length k2] 24)).alloc (.cells #[.bool t, .slice A3 m.length k3, .slice A4 c.length k4] 24)).alloc (.cells #[.bool s, .slice A1 n.length k1, .slice A2 d.length k2, .bool t, .slice A3 m.length k3, .slice A4 c.length k4] 24)) = w2 at *
  replace hn := hn.after hB
  replace hd := hd.after hB
  replace hm := hm.after hB
  replace hc := hc.after hB
  refine (big_two w2 (w.heap.size + 1 + 1) n.length d.length m.length c.length k1 k2 k3 k4 A1 A2 A3 A4 (b2.cell 1) (b2.cell 2) (b2.cell 4) (b2.cell 5) b2.lt ln ld lm lc).mono ?_
  rintro e w3 ⟨⟨b, rfl, hbig⟩, hb⟩
  replace hn := hn.after hb
  replace hd := hd.after hb
  replace hm := hm.after hb
  replace hc := hc.after hb
  replace hB := hB.trans (hb.mono hB.size)
  have q0 := b0.below hb b0.lt
  have q1 := b1.below hb b1.lt
  clear hb b0 b1 b2
  have c0 := q0.cell 0
  have c1 := q0.cell 1
  have c2 := q0.cell 2
  have e0 := q1.cell 0
  have e1 := q1.cell 1
  have e2 := q1.cell 2
  cases b
  · have hsum := hbig rfl
    clear hbig
    by_cases h8 : n.length + m.length + d.length + c.length ≤ 8
    · by_cases hk0 : 0 ≤ k
      · by_cases hk60 : k ≤ 60
        · obtain ⟨K, rfl⟩ : ∃ K : Nat, k = (K : Int) := ⟨k.toNat, by omega⟩
          have hK : K ≤ 60 := by omega
          have hh : hold60 (K : Int) = (K : Int) := by unfold hold60; omega
          obtain ⟨S, hS⟩ : ∃ z, nrS s (val n) (val d) = z := ⟨_, rfl⟩
          obtain ⟨N, hN⟩ : ∃ z, nrN (val n) (val d) = z := ⟨_, rfl⟩
          obtain ⟨D, hD⟩ : ∃ z, nrD (val n) (val d) = z := ⟨_, rfl⟩
          obtain ⟨T, hT⟩ : ∃ z, nrS t (val m) (val c) = z := ⟨_, rfl⟩
          obtain ⟨M, hM⟩ : ∃ z, nrN (val m) (val c) = z := ⟨_, rfl⟩
          obtain ⟨C, hC⟩ : ∃ z, nrD (val m) (val c) = z := ⟨_, rfl⟩
          obtain ⟨U, hU⟩ : ∃ z, rhe (N * 10 ^ K) D = z := ⟨_, rfl⟩
          obtain ⟨V, hV⟩ : ∃ z, rhe (M * 10 ^ K) C = z := ⟨_, rfl⟩
          obtain ⟨kk, hkk⟩ : ∃ z, cmpI (sg S N * (C : Int)) (sg T M * (D : Int)) = z := ⟨_, rfl⟩
          have D0 : 0 < D := by rw [← hD]; exact nrD_pos _ _
          have C0 : 0 < C := by rw [← hC]; exact nrD_pos _ _
          have t0 : 0 < 10 ^ K := Nat.pow_pos (by omega)
          obtain ⟨jj, hjj⟩ : ∃ z, cmpI (sg (nrS S U (10 ^ K)) (nrN U (10 ^ K)) * ((nrD V (10 ^ K) : Nat) : Int)) (sg (nrS T V (10 ^ K)) (nrN V (10 ^ K)) * ((nrD U (10 ^ K) : Nat) : Int)) = z := ⟨_, rfl⟩
          have hcase := Lib.hid (round_cmp D0 C0 t0 U V hU hV kk jj hkk hjj)
          have lim_r : ∀ {x y z : List Nat} {W Z : Nat}, Dig x → nrN (val x) (val y) = W → x.length ≤ 8 → rhe (W * 10 ^ K) Z ≤ W * 10 ^ K + 1 → (lim (rhe (W * 10 ^ K) Z)).length ≤ 100 := fun hx hw hl hr => by
            refine Nat.le_trans (lim_len_mono hr) ?_
            have lW : (lim _).length ≤ 8 := Nat.le_trans (lim_len_mono (hw ▸ nrN_le _ _)) (Nat.le_trans (lim_val_length _ hx) hl)
            have l1 := lim_mul_len (dig_lim _) (dig_lim (10 ^ K)) (val_lim _).symm (val_lim _).symm lW (ten_len10 hK)
            exact Nat.le_trans (lim_add_len (dig_lim _) (dig_lim 1) (val_lim _).symm (val_lim _).symm l1 (lim_length_le (by omega) : (lim 1).length ≤ 8 + 10)) (by omega)
          have lU : (lim U).length ≤ 100 := by rw [← hU]; exact lim_r (x := n) (y := d) (z := d) dn hN (by omega) (rhe_le _ _)
          have lV : (lim V).length ≤ 100 := by rw [← hV]; exact lim_r (x := m) (y := c) (z := c) dm hM (by omega) (rhe_le _ _)
          clear lim_r
          obtain ⟨FS, hFS⟩ : ∃ z, nrS S U (10 ^ K) = z := ⟨_, rfl⟩
          obtain ⟨FN, hFN⟩ : ∃ z, nrN U (10 ^ K) = z := ⟨_, rfl⟩
          obtain ⟨FD, hFD⟩ : ∃ z, nrD U (10 ^ K) = z := ⟨_, rfl⟩
          obtain ⟨GS, hGS⟩ : ∃ z, nrS T V (10 ^ K) = z := ⟨_, rfl⟩
          obtain ⟨GN, hGN⟩ : ∃ z, nrN V (10 ^ K) = z := ⟨_, rfl⟩
          obtain ⟨GD, hGD⟩ : ∃ z, nrD V (10 ^ K) = z := ⟨_, rfl⟩
          have lFN : (lim FN).length ≤ 100 := by rw [← hFN]; exact Nat.le_trans (lim_len_mono (nrN_le _ _)) lU
          have lGN : (lim GN).length ≤ 100 := by rw [← hGN]; exact Nat.le_trans (lim_len_mono (nrN_le _ _)) lV
          have lFD : (lim FD).length ≤ 100 := by rw [← hFD]; exact Nat.le_trans (lim_len_mono (nrD_le (Nat.le_refl _) t0)) (Nat.le_trans (ten_len10 hK) (by omega))
          have lGD : (lim GD).length ≤ 100 := by rw [← hGD]; exact Nat.le_trans (lim_len_mono (nrD_le (Nat.le_refl _) t0)) (Nat.le_trans (ten_len10 hK) (by omega))
          have E1 : nrS FS (val (lim FN)) (val (lim FD)) = FS := by rw [val_lim, val_lim, ← hFS, ← hFN, ← hFD]; exact nrS_idem _ _ _
          have E2 : nrN (val (lim FN)) (val (lim FD)) = FN := by rw [val_lim, val_lim, ← hFN, ← hFD]; exact (nr_idem _ _).1
          have E3 : nrD (val (lim FN)) (val (lim FD)) = FD := by rw [val_lim, val_lim, ← hFN, ← hFD]; exact (nr_idem _ _).2
          have E4 : nrS GS (val (lim GN)) (val (lim GD)) = GS := by rw [val_lim, val_lim, ← hGS, ← hGN, ← hGD]; exact nrS_idem _ _ _
          have E5 : nrN (val (lim GN)) (val (lim GD)) = GN := by rw [val_lim, val_lim, ← hGN, ← hGD]; exact (nr_idem _ _).1
          have E6 : nrD (val (lim GN)) (val (lim GD)) = GD := by rw [val_lim, val_lim, ← hGN, ← hGD]; exact (nr_idem _ _).2
          rw [hFS, hFN, hGD, hGS, hGN, hFD] at hjj
          have HC1 : Hid (∀ u v W, Rt W 0 W.heap.size u s n d → Rt W 0 W.heap.size v t m c → Calls Try.prog 5 #[u, v] W fun e w' => e = .returned (.int .i64 kk) ∧ Below W.heap.size W w') := fun u v W h h' => by
            have := ratCmp_any u v s t n d m c W dn dd dm dc h h' (by omega) (by omega) (by omega) (by omega) S T N D M C hS hN hD hT hM hC
            rw [hkk] at this
            exact this
          have HC2 : Hid (∀ u v W, Rt W 0 W.heap.size u FS (lim FN) (lim FD) → Rt W 0 W.heap.size v GS (lim GN) (lim GD) → Calls Try.prog 5 #[u, v] W fun e w' => e = .returned (.int .i64 jj) ∧ Below W.heap.size W w') := fun u v W h h' => by
            have := ratCmp_any u v FS GS (lim FN) (lim FD) (lim GN) (lim GD) W (dig_lim _) (dig_lim _) (dig_lim _) (dig_lim _) h h' (by omega) (by omega) (by omega) (by omega) FS GS FN FD GN GD E1 E2 E3 E4 E5 E6
            rw [hjj] at this
            exact this
          have HR1 : Hid (∀ u W, Rt W 0 W.heap.size u s n d → Calls Try.prog 6 #[u, .int .i64 (K : Int)] W (GivesT FS FN FD W)) := fun u W h => by
            have := round_any u s n d (K : Int) W dn dd h (by omega) (by omega) S N D K U hS hN hD hh hU
            rw [hFS, hFN, hFD] at this
            exact this
          have HR2 : Hid (∀ u W, Rt W 0 W.heap.size u t m c → Calls Try.prog 6 #[u, .int .i64 (K : Int)] W (GivesT GS GN GD W)) := fun u W h => by
            have := round_any u t m c (K : Int) W dm dc h (by omega) (by omega) T M C K V hT hM hC hh hV
            rw [hGS, hGN, hGD] at this
            exact this
          clear hS hN hD hT hM hC hU hV hkk hjj hFS hFN hFD hGS hGN hGD E1 E2 E3 E4 E5 E6 lU lV lFN lGN lFD lGD D0 C0 t0 hh
          have h8I : ¬ (8 : Int) < (n.length : Int) + (m.length : Int) + (d.length : Int) + (c.length : Int) := by omega
          have hg := q1.lt
          have hk3 : Below w3.heap.size w3 w3.drew := (Below.refl _ _).drew
          go_wp2_with fail
          go_region_held3 (fun W => W.cell? ⟨w.heap.size, 0, none⟩ = some (.bool s) ∧ W.cell? ⟨w.heap.size, 1, none⟩ = some (.slice A1 n.length k1) ∧ W.cell? ⟨w.heap.size, 2, none⟩ = some (.slice A2 d.length k2) ∧ W.cell? ⟨w.heap.size + 1, 0, none⟩ = some (.bool t) ∧ W.cell? ⟨w.heap.size + 1, 1, none⟩ = some (.slice A3 m.length k3) ∧ W.cell? ⟨w.heap.size + 1, 2, none⟩ = some (.slice A4 c.length k4))
            (first | exact s6_of hk7 c0 c1 c2 e0 e1 e2 hg | exact s6_of hk6 c0 c1 c2 e0 e1 e2 hg | exact s6_of hk5 c0 c1 c2 e0 e1 e2 hg | exact s6_of hk4 c0 c1 c2 e0 e1 e2 hg | exact s6_of hk3 c0 c1 c2 e0 e1 e2 hg | fail)
            (first
              | (have hx := hk6; go_at_call 5; refine (HC2.out _ _ _ (hR5.after hb6) (hR6.low (Nat.zero_le _))).mono ?_; rintro e w7 ⟨rfl, hb7⟩; have hk7 : Below w3.heap.size w3 w7 := hk6.trans (hb7.mono hk6.size))
              | (have hx := hk5; go_at_call 6; refine (HR2.out _ _ ⟨_, _, rfl, hm.after hk5, hc.after hk5⟩).mono ?_; rintro e w6 ⟨v6, rfl, hR6, hb6⟩; have hbb6 := hb6; have hk6 : Below w3.heap.size w3 w6 := hk5.trans (hb6.mono hk5.size))
              | (have hx := hk4; go_at_call 6; refine (HR1.out _ _ ⟨_, _, rfl, hn.after hk4, hd.after hk4⟩).mono ?_; rintro e w5 ⟨v5, rfl, hR5, hb5⟩; replace hR5 := hR5.low (Nat.zero_le _); have hk5 : Below w3.heap.size w3 w5 := hk4.trans (hb5.mono hk4.size))
              | (go_at_call 5; refine (HC1.out _ _ _ ⟨_, _, rfl, hn.drew, hd.drew⟩ ⟨_, _, rfl, hm.drew, hc.drew⟩).mono ?_; rintro e w4 ⟨rfl, hb4⟩; have hk4 : Below w3.heap.size w3 w4 := Below.trans hk3 hb4)
              | fail)
          have hB7 := hB.trans (hk7.mono hB.size)
          clear hk3 hk4 hk5 hk6 hk7 hx hb4 hb5 hb6 hbb6 hb7 hR5 hR6 HC1 HC2 HR1 HR2 c0 c1 c2 e0 e1 e2 q0 q1 hn hd hm hc hB
          rcases hcase.out with ⟨rfl, rfl⟩ | ⟨rfl, rfl⟩ | ⟨rfl, rfl⟩ | ⟨rfl, rfl⟩ | ⟨rfl, rfl⟩
          all_goals
            go_wp2_with fail
            refine (known3_any _).mono ?_
            rintro e w8 ⟨rfl, hb⟩
            replace hB7 := hB7.trans (hb.mono hB7.size)
            clear hb
            go_wp2_with fail
            go_ret
            exact ⟨rfl, hB7⟩
        · have hk3 : (60 : Int) < k := by omega
          have h8I : ¬ (8 : Int) < (n.length : Int) + (m.length : Int) + (d.length : Int) + (c.length : Int) := by omega
          clear hn hd hm hc
          go_wp2_with fail
          go_ret
          exact ⟨rfl, hB⟩
      · have hk3 : k < 0 := by omega
        have h8I : ¬ (8 : Int) < (n.length : Int) + (m.length : Int) + (d.length : Int) + (c.length : Int) := by omega
        clear hn hd hm hc
        go_wp2_with fail
        go_ret
        exact ⟨rfl, hB⟩
    · have h8I : (8 : Int) < (n.length : Int) + (m.length : Int) + (d.length : Int) + (c.length : Int) := by omega
      clear hn hd hm hc
      go_wp2_with fail
      go_ret
      exact ⟨rfl, hB⟩
  · clear hbig hn hd hm hc
    go_wp2_with fail
    go_ret
    exact ⟨rfl, hB⟩
end Go.Proofs.Ytdgfijnficbblaa
