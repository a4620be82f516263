/- The reference's 'Shift' by its contract: to the left. Condition: a bound on lengths. -/
import Derived.Test.YtobmjcbjailclaaGreatDoorKnown
import Derived.Test.YtobmjcbjailclaaGreatDoorNums
import Derived.Laws.BitsAllLaws
import Derived.Outline
namespace Go.Proofs.YtobmjcbjailclaaGreatDoor
set_option maxRecDepth 100000
open Go.RowKit

theorem leftIn_fin {a c : List Nat} {n s h : Nat} (hd : Dig a) (hs : s ≤ 31) (hl : LeftIn a c n s h (a.length + 1)) : val c = 4294967296 ^ n * (val a * 2 ^ s) := by
  have e := leftIn_end hl (Nat.le_refl _)
  by_cases h0 : h = 0
  · subst h0
    rw [Nat.mul_zero, Nat.add_zero] at e
    exact e
  · exfalso
    have e1 := val_lt hd
    have e2 := two_pow_le hs
    have p1 : 0 < 4294967296 ^ n := Nat.pow_pos (by omega)
    have p2 : 0 < 4294967296 ^ a.length := Nat.pow_pos (by omega)
    have e3 : val a * 2 ^ s < 4294967296 ^ a.length * 4294967296 := by
      calc val a * 2 ^ s ≤ val a * 2147483648 := Nat.mul_le_mul_left _ e2
        _ ≤ 4294967296 ^ a.length * 2147483648 := Nat.mul_le_mul_right _ (Nat.le_of_lt e1)
        _ < 4294967296 ^ a.length * 4294967296 := Nat.mul_lt_mul_of_pos_left (by omega) p2
    have e4 : 4294967296 ^ n * (val a * 2 ^ s) < 4294967296 ^ n * (4294967296 ^ a.length * 4294967296) := Nat.mul_lt_mul_of_pos_left e3 p1
    have e5 : 4294967296 ^ (n + (a.length + 1)) = 4294967296 ^ n * (4294967296 ^ a.length * 4294967296) := by rw [Nat.pow_add, Nat.pow_succ]
    rw [e5] at e
    generalize 4294967296 ^ n * (4294967296 ^ a.length * 4294967296) = Q at *
    have e6 : Q ≤ Q * h := Nat.le_mul_of_pos_right _ (by omega)
    omega


theorem nt_len2 {w : World} {L B : Nat} {v : Value} {x : List Nat} (h : Nt w L B v x) : ∃ A c, v = .slice A x.length c ∧ x.length ≤ 9223372036854775807 := by
  obtain ⟨A, c, rfl, hc, hm, _⟩ := h
  exact ⟨A, c, rfl, by unfold maxLen at hm; omega⟩

theorem Own.of_lb {w : World} {g base : Nat} {t : TypeId} {x : List Nat} (h : Lb w g t x) (hb : base ≤ g) (hm : x.length ≤ maxLen) : Own w base t (.slice (some ⟨g, 0, none⟩) x.length x.length) x := by
  refine ⟨by rw [lv_length, Nat.mul_one], .inr ⟨g, x.length, (lv x).toArray, rfl, hb, h, Nat.le_refl _, hm, ?_, ?_⟩⟩
  · rw [List.size_toArray, lv_length, Nat.mul_one]
  · show (lv x).take (x.length * 1) = lv x
    rw [Nat.mul_one, List.take_of_length_le (Nat.le_of_eq (lv_length x))]

set_option maxHeartbeats 3200000 in
theorem refShiftLeft_in (v : Value) (x : List Nat) (n : Int) (j : Nat) (w : World) (hd : Dig x) (h : Nt w 0 w.heap.size v x) (hl : x.length ≤ 90000) (hj1 : j ≤ 4096) (hn : n = (j : Int)) :
    Calls Tryz.prog 94 #[v, .int .i64 n] w (Gives (lim (val x * 2 ^ j)) w) := by
  subst hn
  have g1 : ¬ (j : Int) < -4096 := by omega
  have g2 : ¬ (4096 : Int) < (j : Int) := by omega
  have hxl := limBd' hd _ hl
  have vx := val_lim (val x)
  have hdp := dig_lim (val x)
  have VS : Hid (lim (val x * 2 ^ j) = lim (val (lim (val x)) * 2 ^ j)) := by rw [vx]; exact rfl
  clear vx
  obtain ⟨L, hL⟩ : ∃ L, j / 32 = L := ⟨_, rfl⟩
  obtain ⟨s, hs⟩ : ∃ s, j % 32 = s := ⟨_, rfl⟩
  have l1 : (j : Int) / 32 = (L : Int) := by omega
  have l2 : (j : Int) % 32 = (s : Int) := by omega
  have hs31 : s ≤ 31 := by omega
  have l3 : ¬ (j : Int) < 0 := by omega
  have HLJ : Hid (L = j / 32 ∧ s = j % 32) := ⟨hL.symm, hs.symm⟩
  have l4 : L ≤ 128 := by omega
  clear hL hs
  obtain ⟨i0, hi, hz0, hz1, hz2⟩ := info_parts Tryz.info32
  go_enter Tryz.func94, Tryz.ntmps94
  go_wp2_with fail
  refine (refTrim_any _ x _ hd h (by omega)).mono ?_
  rintro e w1 ⟨v1, rfl, h1', hb0⟩
  have h1 := h1'.low (Nat.zero_le _)
  generalize lim (val x) = p at *
  clear h hd hl h1'
  have hmk := make_limbs L (L : Int) rfl (by omega)
  obtain ⟨A, c, rfl, m1⟩ := nt_len2 h1
  go_wp2_with fail
  have hB0 := Lb.made w1 43 L
  have hw0 : Below w1.heap.size w1 (w1.alloc (.cells (madeCells #[.int .u32 0] L) 43)) := (Below.refl _ _).alloc (Nat.le_refl _) _
  generalize w1.alloc (.cells (madeCells #[.int .u32 0] L) 43) = w0 at *
  have hO0 := Own.of_lb (base := w1.heap.size) hB0 (Nat.le_refl _) (by rw [List.length_replicate]; unfold maxLen; omega)
  rw [List.length_replicate] at hO0
  clear hmk hB0 l1 l2 l3
  go_loopw [10, 12, 13, 14] (fun o lo i _ wr => ∃ (k b : Nat) (cs : List Nat), k ≤ p.length + 1 ∧ i = .int .i64 (k : Nat) ∧ lo = .int .u64 (b : Nat) ∧ Dig cs ∧ LeftIn p cs L s b k ∧ Own wr w1.heap.size 43 o cs ∧ Below w1.heap.size w1 wr)
    (fun _ _ i _ _ => p.length + 1 - (intOf i).toNat)
  case atStart => exact ⟨0, 0, _, Nat.zero_le _, rfl, rfl, dig_zeros _, leftIn_zero _ _ _, hO0, hw0⟩
  case round =>
    obtain ⟨k, b, cs, hk, rfl, rfl, hdc, hs0, hown, hb⟩ := hrel
    by_cases hlt : k < p.length + 1
    · have b1 := dig_getD hdp k
      have HS := leftIn_step hdp hs31 hs0
      have hbs := hs0.2.2
      have hTW := two_pow_le hs31
      have hcl : cs.length ≤ 1000000 := by have := hs0.1; omega
      have hat1 := at_any _ p k wr 0 w1.heap.size hdp (h1.below hb (Nat.le_refl _)) (by omega)
      clear hs0
      generalize p.getD k 0 = v1 at *
      have hp := shl_parts b1 hs31
      have W : IntKind.u64.wrap ((v1 : Int) * 2 ^ s) = ((v1 * 2 ^ s : Nat) : Int) := by
        have e : ((v1 * 2 ^ s : Nat) : Int) = (v1 : Int) * 2 ^ s := by rw [Int.natCast_mul, Int.natCast_pow]; rfl
        rw [← e]
        have := hp.1
        exact IntWalk.u64_in _ (by omega)
      obtain ⟨m, hm0⟩ : ∃ m, v1 * 2 ^ s = m := ⟨_, rfl⟩
      rw [hm0] at W HS hp
      clear hm0
      have hm1 := hp.1
      have hor : bits BinOp.or IntKind.u64 (m : Int) (b : Int) = ((m ||| b : Nat) : Int) := u64_or_nat _ _ (by omega) (by omega)
      have hdc2 := hdc.append (Dig.cons (Nat.mod_lt (m ||| b) (by omega)) Dig.nil)
      obtain ⟨q, hq⟩ : ∃ q, m / 4294967296 = q := ⟨_, rfl⟩
      rw [hq] at HS
      have hdv : (m : Int) / 4294967296 = (q : Int) := by omega
      clear hq
      clear hdc hp hm1 hTW
      generalize (m ||| b) = r at *
      have T1 := Lib.hid hat1
      clear hat1
      have hI : (k : Int) < (p.length : Int) + 1 := by omega
      go_wp2_with fail
      refine T1.out.mono ?_
      rintro e w2 ⟨rfl, rfl⟩
      go_wp2_with (at_builtin; refine wpList_append_limb rfl _ _ 23 rfl w1.heap.size 43 i0 Tryz.underlying23 hi hz0 hz1 hz2 _ cs rfl hown _ (r % 4294967296) (congrArg (Value.int .u32) (by omega)) rfl hcl hb.size ?_)
      intro v' w3 hown1 hg1
      have hb1 := hb.trans hg1
      clear hown hg1 hb hcl T1
      go_wp2
      go_roundw
      case rel => exact ⟨k + 1, q, _, by omega, by go_num, rfl, hdc2, HS, hown1, hb1⟩
      case measure => simp [intOf]; omega
    · obtain rfl : k = p.length + 1 := by omega
      have hv := leftIn_fin hdp hs31 hs0
      rw [HLJ.out.1, HLJ.out.2, shift_left_eq] at hv
      have hcl : cs.length ≤ 1000000 := by have := hs0.1; omega
      have V := Lib.hid hv
      have hr := hown.nt
      clear hs0 hv hown hi hz0 hz1 hz2
      go_wp2_with fail
      refine (refTrim_any _ cs _ hdc (hr.low (Nat.zero_le _)) hcl).mono ?_
      rintro e w2 ⟨v3, rfl, h3, hb3⟩
      rw [V.out] at h3
      go_wp2
      go_ret
      exact ⟨_, rfl, by rw [VS.out]; exact h3.low (Nat.le_trans hb0.size hb.size), hb0.trans ((hb.trans (hb3.mono hb.size)).mono hb0.size)⟩

set_option maxHeartbeats 3200000 in
theorem refShiftLeft_out (v : Value) (x : List Nat) (n : Int) (j : Nat) (w : World) (hd : Dig x) (h : Nt w 0 w.heap.size v x) (hl : x.length ≤ 90000) (hn : (4096 : Int) < n) (he : (4096 : Int) = (j : Int)) :
    Calls Tryz.prog 94 #[v, .int .i64 n] w (Gives (lim (val x * 2 ^ j)) w) := by
  have hj1 : j ≤ 4096 := by omega
  have g1 : ¬ n < -4096 := by omega
  have g3 : ¬ n < -(j : Int) := by omega
  have g2 : (j : Int) < n := by omega
  clear hn
  have hxl := limBd' hd _ hl
  have vx := val_lim (val x)
  have hdp := dig_lim (val x)
  have VS : Hid (lim (val x * 2 ^ j) = lim (val (lim (val x)) * 2 ^ j)) := by rw [vx]; exact rfl
  clear vx
  obtain ⟨L, hL⟩ : ∃ L, j / 32 = L := ⟨_, rfl⟩
  obtain ⟨s, hs⟩ : ∃ s, j % 32 = s := ⟨_, rfl⟩
  have l1 : (j : Int) / 32 = (L : Int) := by omega
  have l2 : (j : Int) % 32 = (s : Int) := by omega
  have hs31 : s ≤ 31 := by omega
  have l3 : ¬ (j : Int) < 0 := by omega
  have HLJ : Hid (L = j / 32 ∧ s = j % 32) := ⟨hL.symm, hs.symm⟩
  have l4 : L ≤ 128 := by omega
  clear hL hs
  obtain ⟨i0, hi, hz0, hz1, hz2⟩ := info_parts Tryz.info32
  go_enter Tryz.func94, Tryz.ntmps94
  go_wp2_with fail
  refine (refTrim_any _ x _ hd h (by omega)).mono ?_
  rintro e w1 ⟨v1, rfl, h1', hb0⟩
  have h1 := h1'.low (Nat.zero_le _)
  generalize lim (val x) = p at *
  clear h hd hl h1'
  have hmk := make_limbs L (L : Int) rfl (by omega)
  obtain ⟨A, c, rfl, m1⟩ := nt_len2 h1
  go_wp2_with fail
  have hB0 := Lb.made w1 43 L
  have hw0 : Below w1.heap.size w1 (w1.alloc (.cells (madeCells #[.int .u32 0] L) 43)) := (Below.refl _ _).alloc (Nat.le_refl _) _
  generalize w1.alloc (.cells (madeCells #[.int .u32 0] L) 43) = w0 at *
  have hO0 := Own.of_lb (base := w1.heap.size) hB0 (Nat.le_refl _) (by rw [List.length_replicate]; unfold maxLen; omega)
  rw [List.length_replicate] at hO0
  clear hmk hB0 l1 l2 l3
  go_loopw [10, 12, 13, 14] (fun o lo i _ wr => ∃ (k b : Nat) (cs : List Nat), k ≤ p.length + 1 ∧ i = .int .i64 (k : Nat) ∧ lo = .int .u64 (b : Nat) ∧ Dig cs ∧ LeftIn p cs L s b k ∧ Own wr w1.heap.size 43 o cs ∧ Below w1.heap.size w1 wr)
    (fun _ _ i _ _ => p.length + 1 - (intOf i).toNat)
  case atStart => exact ⟨0, 0, _, Nat.zero_le _, rfl, rfl, dig_zeros _, leftIn_zero _ _ _, hO0, hw0⟩
  case round =>
    obtain ⟨k, b, cs, hk, rfl, rfl, hdc, hs0, hown, hb⟩ := hrel
    by_cases hlt : k < p.length + 1
    · have b1 := dig_getD hdp k
      have HS := leftIn_step hdp hs31 hs0
      have hbs := hs0.2.2
      have hTW := two_pow_le hs31
      have hcl : cs.length ≤ 1000000 := by have := hs0.1; omega
      have hat1 := at_any _ p k wr 0 w1.heap.size hdp (h1.below hb (Nat.le_refl _)) (by omega)
      clear hs0
      generalize p.getD k 0 = v1 at *
      have hp := shl_parts b1 hs31
      have W : IntKind.u64.wrap ((v1 : Int) * 2 ^ s) = ((v1 * 2 ^ s : Nat) : Int) := by
        have e : ((v1 * 2 ^ s : Nat) : Int) = (v1 : Int) * 2 ^ s := by rw [Int.natCast_mul, Int.natCast_pow]; rfl
        rw [← e]
        have := hp.1
        exact IntWalk.u64_in _ (by omega)
      obtain ⟨m, hm0⟩ : ∃ m, v1 * 2 ^ s = m := ⟨_, rfl⟩
      rw [hm0] at W HS hp
      clear hm0
      have hm1 := hp.1
      have hor : bits BinOp.or IntKind.u64 (m : Int) (b : Int) = ((m ||| b : Nat) : Int) := u64_or_nat _ _ (by omega) (by omega)
      have hdc2 := hdc.append (Dig.cons (Nat.mod_lt (m ||| b) (by omega)) Dig.nil)
      obtain ⟨q, hq⟩ : ∃ q, m / 4294967296 = q := ⟨_, rfl⟩
      rw [hq] at HS
      have hdv : (m : Int) / 4294967296 = (q : Int) := by omega
      clear hq
      clear hdc hp hm1 hTW
      generalize (m ||| b) = r at *
      have T1 := Lib.hid hat1
      clear hat1
      have hI : (k : Int) < (p.length : Int) + 1 := by omega
      go_wp2_with fail
      refine T1.out.mono ?_
      rintro e w2 ⟨rfl, rfl⟩
      go_wp2_with (at_builtin; refine wpList_append_limb rfl _ _ 23 rfl w1.heap.size 43 i0 Tryz.underlying23 hi hz0 hz1 hz2 _ cs rfl hown _ (r % 4294967296) (congrArg (Value.int .u32) (by omega)) rfl hcl hb.size ?_)
      intro v' w3 hown1 hg1
      have hb1 := hb.trans hg1
      clear hown hg1 hb hcl T1
      go_wp2
      go_roundw
      case rel => exact ⟨k + 1, q, _, by omega, by go_num, rfl, hdc2, HS, hown1, hb1⟩
      case measure => simp [intOf]; omega
    · obtain rfl : k = p.length + 1 := by omega
      have hv := leftIn_fin hdp hs31 hs0
      rw [HLJ.out.1, HLJ.out.2, shift_left_eq] at hv
      have hcl : cs.length ≤ 1000000 := by have := hs0.1; omega
      have V := Lib.hid hv
      have hr := hown.nt
      clear hs0 hv hown hi hz0 hz1 hz2
      go_wp2_with fail
      refine (refTrim_any _ cs _ hdc (hr.low (Nat.zero_le _)) hcl).mono ?_
      rintro e w2 ⟨v3, rfl, h3, hb3⟩
      rw [V.out] at h3
      go_wp2
      go_ret
      exact ⟨_, rfl, by rw [VS.out]; exact h3.low (Nat.le_trans hb0.size hb.size), hb0.trans ((hb.trans (hb3.mono hb.size)).mono hb0.size)⟩

end Go.Proofs.YtobmjcbjailclaaGreatDoor
