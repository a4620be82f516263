/- The reference's 'Print' of limbs by its contract: the number's digits. Condition: a bound on lengths. -/
import Derived.Test.YtdgfijnficbblaaDoorPrint
import Derived.Test.YtdgfijnficbblaaDoorRefSmall
import Derived.Laws.Concat
namespace Go.Proofs.YtdgfijnficbblaaDoor
open Go.RowKit

theorem strN_append (a b : List Nat) : strN a ++ strN b = strN (a ++ b) := by
  unfold strN
  rw [ByteArray.mk_append_mk, List.map_append]

theorem add_str (a b : List Nat) (h : a.length + b.length ≤ 1000000) {P : Program} (w : World) : (Op.stringOp .add (strN a) (strN b)).run P w = .ok (.string (strN (a ++ b))) w := by
  rw [run_string_add_sum w _ _ (by rw [strN_size, strN_size]; omega), strN_append]

/-- One byte in a new block, as a string. -/
theorem one_str {P : Program} (w : World) (d : Nat) (hd : d < 256) (o : Obj) (e src dst t : TypeId) (ho : o = .cells #[.int .u8 (d : Int)] e) (hs : P.underlying src = some (.slice t)) (he : P.underlying t = some (.int .u8)) (hdst : P.underlying dst = some .string) :
    (convert src dst (.slice (some ⟨w.heap.size, 0, none⟩) 1 1)).run P (w.alloc o) = .ok (.string (strN [d])) (w.alloc o) := by
  subst ho
  refine OwnB.str (base := 0) (e := e) (cs := [d]) ?_ (by simp) (by simpa using hd) src dst t hs he hdst
  refine ⟨rfl, Or.inr ⟨w.heap.size, 1, #[.int .u8 (d : Int)], rfl, Nat.zero_le _, ?_, Nat.le_refl _, by unfold maxLen; omega, rfl, rfl⟩⟩
  show (w.heap.push _)[w.heap.size]? = _
  rw [Array.getElem?_push_size]

set_option maxHeartbeats 3200000 in
theorem refPrint_any (v : Value) (x : List Nat) (w : World) (hd : Dig x) (h : Nt w 0 w.heap.size v x) (hl : x.length ≤ 100) :
    Calls Tryd.prog 8 #[v] w fun e w' => e = .returned (.string (strN (prn (val x)))) ∧ Below w.heap.size w w' := by
  have lx := Nat.le_trans (limBd hd) hl
  have hnl := val_lt hd
  have hcon := refTrim_any _ x _ hd h (by omega)
  clear h
  generalize val x = n at *
  by_cases h0 : n = 0
  · subst h0
    go_enter Tryd.func8, Tryd.ntmps8
    go_wp2_with fail
    refine hcon.mono ?_
    rintro e w1 ⟨v1, rfl, h1, hb⟩
    rw [lim_zero] at h1
    obtain ⟨A', c', rfl, m'⟩ := nt_len h1
    clear h1
    go_wp2_with fail
    go_ret
    exact ⟨rfl, hb⟩
  · go_enter Tryd.func8, Tryd.ntmps8
    go_wp2_with fail
    refine hcon.mono ?_
    rintro e w1 ⟨v1, rfl, h1, hb⟩
    have hne : ¬ (lim n).length = 0 := fun h => h0 (lim_eq_nil.1 (List.eq_nil_of_length_eq_zero h))
    have z1 : ((((lim n).length : Nat) : Int) == 0) = false := beq_eq_false_iff_ne.2 (by omega)
    have H1 := Lib.hid (h1.low (Nat.zero_le _))
    have LX := Lib.hid lx
    have N0 := Lib.hid h0
    have DL : Hid ((dec n).length ≤ 2000) := by
      show _ ≤ _
      refine Nat.le_trans (dec_length_le (10 * x.length) n ?_) (by omega)
      rw [Nat.pow_mul]
      exact Nat.lt_of_lt_of_le hnl (Nat.pow_le_pow_left (by omega) _)
    obtain ⟨A, c, rfl, hm⟩ := nt_len h1
    clear hnl lx hne h0 h1
    go_wp2_with fail
    go_loopw [3, 4] (fun t s wr => ∃ (m : Nat) (cs : List Nat), Nt wr 0 wr.heap.size t (lim m) ∧ Hid (dec n = cs ++ dec m) ∧ s = .string (strN ((cs.map (48 + ·)).reverse)) ∧ Hid ((lim m).length ≤ 100) ∧ Below w.heap.size w wr)
      (fun a _ wr => rdM wr a)
    case atStart => exact ⟨n, [], H1.out, rfl, rfl, LX.out, hb⟩
    case round =>
      obtain ⟨m, cs, ha, HC, rfl, HL, hB⟩ := hrel
      by_cases hm0 : m = 0
      · subst hm0
        rw [lim_zero] at ha
        have HE : Hid (strN ((cs.map (48 + ·)).reverse) = strN (prn n)) := by
          have h1 := HC.out
          rw [dec_zero, List.append_nil] at h1
          show _ = _
          unfold prn digs
          rw [if_neg N0.out, h1]
        obtain ⟨A', c', rfl, m'⟩ := nt_len ha
        clear ha HC
        rw [HE.out]
        go_wp2_with fail
        go_ret
        exact ⟨rfl, hB⟩
      · have hml : (lim m).length ≠ 0 := fun h => hm0 (lim_eq_nil.1 (List.eq_nil_of_length_eq_zero h))
        have hl2 := HL.out
        have hd2 := dig_lim m
        have ha2 := ha
        obtain ⟨A', c', rfl, m'⟩ := nt_len ha
        have V := Lib.hid (val_lim m)
        have RM := Lib.hid (rdM_of ha)
        have hpos : (0 : Int) < ((lim m).length : Int) := by omega
        have HC2 : Hid (dec n = (cs ++ [m % 10]) ++ dec (m / 10)) := by
          show _ = _
          rw [HC.out, dec_pos hm0, List.append_assoc]
          rfl
        have hcl : Hid (cs.length ≤ 2000) := by
          have h1 := DL.out
          rw [HC.out, List.length_append] at h1
          show _ ≤ _
          omega
        go_wp2_with fail
        refine (refSmall_any _ (lim m) 10 _ hd2 (ha2.low (Nat.zero_le _)) (by omega) (by omega) (by omega)).mono ?_
        rw [V.out]
        rintro e w2 ⟨v2, rfl, h2, hb2⟩
        have hB2 := hB.trans (hb2.mono hB.size)
        have hr : m % 10 < 10 := Nat.mod_lt _ (by omega)
        have hvl := val_lt (dig_lim m)
        rw [V.out] at hvl
        have hl9 : Hid ((lim (m / 10)).length ≤ 100) := Nat.le_trans (lim_length_le (Nat.lt_of_le_of_lt (Nat.div_le_self _ _) hvl)) hl2
        have hm9 : Hid (m / 10 < m) := Nat.div_lt_self (Nat.pos_of_ne_zero hm0) (by omega)
        generalize m % 10 = r at *
        clear HC hB ha2 ha hvl
        obtain ⟨d, hd⟩ : ∃ d, 48 + r = d := ⟨_, rfl⟩
        have e1 : (48 : Int) + (r : Int) = (d : Int) := by omega
        have k1 : IntKind.u64.wrap (d : Int) = (d : Int) := IntWalk.u64_in _ (by omega)
        have k2 : IntKind.u8.wrap (d : Int) = (d : Int) := by unfold IntKind.wrap; simp [IntKind.bits, IntKind.signed]; omega
        have hone := one_str (P := Tryd.prog) w2 d (by omega) (.cells #[.int .u8 (d : Int)] 5) 5 36 9 5 rfl rfl rfl rfl
        have hadd : Hid (∀ W : World, (Op.stringOp .add (strN [d]) (strN ((cs.map (48 + ·)).reverse))).run Tryd.prog W = .ok (.string (strN ([d] ++ (cs.map (48 + ·)).reverse))) W) := fun W => add_str _ _ (by have := hcl.out; simp; omega) W
        have hadd1 := hadd.out (w2.alloc (.cells #[.int .u8 (d : Int)] 5))
        have HS : Hid (strN (d :: (cs.map (48 + ·)).reverse) = strN (((cs ++ [r]).map (48 + ·)).reverse)) := by
          show _ = _
          rw [← hd]
          simp
        have hsz : Hid (w.heap.size ≤ w2.heap.size) := hB2.size
        have H2 := Lib.hid ((h2.low (Nat.zero_le _)).alloc (Nat.le_refl _) (.cells #[.int .u8 (d : Int)] 5))
        have H3 := Lib.hid (H2.out.up (B' := (w2.alloc (.cells #[.int .u8 (d : Int)] 5)).heap.size) (by simp))
        have HB := Lib.hid (hB2.alloc hsz.out (.cells #[.int .u8 (d : Int)] 5))
        clear h2 hb2 hB2 hd
        go_wp2_with fail
        refine ⟨⟨m / 10, cs ++ [r], H3.out, HC2, by rw [HS.out], hl9, HB.out⟩, ?_⟩
        rw [rdM_of H3.out, RM.out, val_lim, V.out]
        exact hm9.out
end Go.Proofs.YtdgfijnficbblaaDoor
