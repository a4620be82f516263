/- 'NatOwn' returns true at any rows of limbs. No condition. -/
import Derived.Test.YtgbpaibggpgniaaLawBack
import Derived.Test.YtgbpaibggpgniaaAdds2
import Derived.Test.YtgbpaibggpgniaaAdds
import Derived.Test.YtgbpaibggpgniaaSubs
namespace Go.Proofs.Ytgbpaibggpgniaa
open Go.RowKit

theorem Nt.apart {g L B : Nat} {w w' : World} {v : Value} {x : List Nat} (h : Nt w L B v x) (ha : Apart g w w') (hs : B ≤ g ∨ g < L) : Nt w' L B v x :=
  h.stay (Nat.le_refl _) (Nat.le_refl _) fun p hl hb => ha.cell (by omega)

/-- The block of a row of one's own, if it has one. -/
theorem own_block {w : World} {base n : Nat} {e : TypeId} {v : Value} {x : List Value} (h : w.ownsRow base e 1 v n x) (hb : base < w.heap.size) :
    ∃ A c g, v = .slice A n c ∧ n ≤ c ∧ c ≤ maxLen ∧ base ≤ g ∧ g < w.heap.size ∧ (0 < n → A = some ⟨g, 0, none⟩ ∧ ∃ cur, n ≤ cur.size ∧ Blk w g e cur) := by
  obtain ⟨_, h | ⟨g, cap, cur, hv, hg, hc, hn, hm, hs, _⟩⟩ := h
  · exact ⟨none, 0, base, by rw [h.1, h.2], by omega, by unfold maxLen; omega, Nat.le_refl _, hb, fun h0 => by omega⟩
  · exact ⟨some ⟨g, 0, none⟩, cap, g, hv, hn, hm, hg, (Array.getElem?_eq_some_iff.1 hc).1, fun _ => ⟨rfl, cur, by omega, hc⟩⟩

set_option maxHeartbeats 6400000 in
theorem lawOwn_in (u v : Value) (a b : List Nat) (w : World) (da : Dig a) (db : Dig b) (ha : Nt w 0 w.heap.size u a) (hb_ : Nt w 0 w.heap.size v b) (la : a.length ≤ 8) (lb : b.length ≤ 8) :
    Calls Try.prog 10 #[u, v] w fun e w' => e = .returned (.bool true) ∧ Below w.heap.size w w' := by
  obtain ⟨i0, hi, hz0, hz1, hz2⟩ := info_parts Try.info32
  have hra := ha.rd
  have hlla : Hid ((lv a).length = a.length) := lv_length a
  have hllb : Hid ((lv b).length = b.length) := lv_length b
  have ka : (lv a).length ≤ 8 := by rw [lv_length]; exact la
  have kb : (lv b).length ≤ 8 := by rw [lv_length]; exact lb
  have hra' := hra
  have ha' := ha
  have hb' := hb_
  obtain ⟨A1, c1, rfl, m1⟩ := nt_len ha'
  obtain ⟨A2, c2, rfl, m2⟩ := nt_len hb'
  clear ha' hb'
  have HA := Lib.hid ha
  have HB := Lib.hid hb_
  clear ha
  go_enter Try.func10, Try.ntmps10
  go_wp2_with (at_builtin; refine wpList_append_rd rfl _ _ 22 rfl w.heap.size 27 i0 (.int .u32 0) 4 Try.underlying22 hi hz0 hz1 hz2 rfl _ _ _ rfl (World.ownsRow_lit w #[] 0 (Nat.le_refl _) (by decide) rfl) w.heap.size _ _ rfl (hra.alloc (Nat.le_refl _) _) (lv_one a) ?c1 ?c2 ?c3 ?_)
  case c1 => unfold maxLen; omega
  case c2 => omega
  case c3 => simp
  intro u1 w2 hown1 hg1
  have hb2 : Below w.heap.size w w2 := ((Below.refl _ _).alloc (Nat.le_refl _) _).grown hg1 (by simp) (fun k hk => by simp [Value.ownBlock] at hk; omega)
  have hs2 : w.heap.size < w2.heap.size := Nat.lt_of_lt_of_le (by simp) hg1.size
  have hx : Nt w2 w.heap.size w2.heap.size u1 a := Nt.of_own hown1
  obtain ⟨A3, c3, g, rfl, hc3, hm3, hwg, hg2, hblk⟩ := own_block hown1 hs2
  have HBLK := Lib.hid hblk
  have hb_2 := hb_.below hb2 (Nat.le_refl _)
  have hrb := (hb_2.up (Nat.le_of_lt hs2)).rd
  clear hown1 hg1 hra hra' hblk hb_ hb_2
  go_wp2_with (at_builtin; refine wpList_append_rd rfl _ _ 22 rfl w2.heap.size 27 i0 (.int .u32 0) 4 Try.underlying22 hi hz0 hz1 hz2 rfl _ _ _ rfl (World.ownsRow_lit w2 #[] 0 (Nat.le_refl _) (by decide) rfl) w2.heap.size _ _ rfl (hrb.alloc (Nat.le_refl _) _) (lv_one b) ?c1 ?c2 ?c3 ?_)
  case c1 => unfold maxLen; omega
  case c2 => omega
  case c3 => simp
  intro u2 w3 hown2 hg3
  have hb3 : Below w2.heap.size w2 w3 := ((Below.refl _ _).alloc (Nat.le_refl _) _).grown hg3 (by simp) (fun k hk => by simp [Value.ownBlock] at hk; omega)
  have hy := (Nt.of_own hown2).low (Nat.zero_le _)
  replace hx := (hx.after hb3).low (Nat.zero_le _)
  have hB := hb2.trans (hb3.mono (Nat.le_of_lt hs2))
  have hG3 : g < w3.heap.size := Nat.lt_of_lt_of_le hg2 hb3.size
  have HBLK3 : Hid (0 < (lv a).length → A3 = some ⟨g, 0, none⟩ ∧ ∃ cur, (lv a).length ≤ cur.size ∧ Blk w3 g 27 cur) := fun h0 => by
    obtain ⟨p, cur, hc, hk⟩ := HBLK.out h0
    exact ⟨p, cur, hc, hk.below hb3 hg2⟩
  rw [hlla.out] at HBLK3 hc3 hx ⊢
  have hB3 : Below w3.heap.size w3 w3 := Below.refl _ _
  clear hown2 hg3 hb2 hb3 HBLK hrb hi hz0 hz1 hz2 ka kb hlla hllb
  go_wp2_with fail
  refine (add_any _ _ _ _ _ da db hx hy (by omega) (by omega)).mono ?_
  rintro e w4 ⟨v4, rfl, s1, hb⟩
  replace hx := hx.after hb
  replace hy := hy.after hb
  replace hB := hB.trans (hb.mono hB.size)
  replace hB3 := hB3.trans (hb.mono hB3.size)
  clear hb
  go_wp2_with fail
  refine (Trim_any _ a _ da hx (by omega)).mono ?_
  rintro e w5 ⟨v5, rfl, t1, hb⟩
  have t2 := t1.low hB3.size
  clear t1
  replace hx := hx.after hb
  replace hy := hy.after hb
  replace s1 := s1.after hb
  replace hB := hB.trans (hb.mono hB.size)
  replace hB3 := hB3.trans (hb.mono hB3.size)
  clear hb
  go_wp2_with fail
  refine (mul_any _ _ _ _ _ da db hx hy (by omega) (by omega)).mono ?_
  rintro e w6 ⟨v6, rfl, h6, hb⟩
  clear h6
  replace hx := hx.after hb
  replace hy := hy.after hb
  replace s1 := s1.after hb
  replace t2 := t2.after hb
  replace hB := hB.trans (hb.mono hB.size)
  replace hB3 := hB3.trans (hb.mono hB3.size)
  clear hb
  go_wp2_with fail
  refine (div_any _ _ a b _ da db hx hy (by omega) (by omega)).mono ?_
  rintro e w7 ⟨v7, z7, rfl, h7, h8, hb⟩
  clear h7 h8
  replace hx := hx.after hb
  replace hy := hy.after hb
  replace s1 := s1.after hb
  replace t2 := t2.after hb
  replace hB := hB.trans (hb.mono hB.size)
  replace hB3 := hB3.trans (hb.mono hB3.size)
  clear hb
  go_wp2_with fail
  refine (gcd_any _ _ _ _ _ da db hx hy (by omega) (by omega)).mono ?_
  rintro e w8 ⟨v8, rfl, h8, hb⟩
  clear h8
  replace hx := hx.after hb
  replace hy := hy.after hb
  replace s1 := s1.after hb
  replace t2 := t2.after hb
  replace hB := hB.trans (hb.mono hB.size)
  replace hB3 := hB3.trans (hb.mono hB3.size)
  clear hb
  go_wp2_with fail
  refine (sub_any _ _ a b _ da db hx hy (by omega) (by omega)).mono ?_
  rintro e w9 ⟨v9, rfl, h9, hb⟩
  clear h9
  replace hx := hx.after hb
  replace hy := hy.after hb
  replace s1 := s1.after hb
  replace t2 := t2.after hb
  replace hB := hB.trans (hb.mono hB.size)
  replace hB3 := hB3.trans (hb.mono hB3.size)
  clear hb
  have ha1 := (HA.out.below hB (Nat.le_refl _)).up hB.size
  have hb1 := (HB.out.below hB (Nat.le_refl _)).up hB.size
  go_wp2_with fail
  refine (limbs_any _ _ _ _ _ hx ha1).mono ?_
  rintro e w10 ⟨rfl, hb⟩
  rw [eqb_rfl]
  replace hx := hx.after hb
  replace hy := hy.after hb
  replace s1 := s1.after hb
  replace t2 := t2.after hb
  replace ha1 := ha1.after hb
  replace hb1 := hb1.after hb
  replace hB := hB.trans (hb.mono hB.size)
  replace hB3 := hB3.trans (hb.mono hB3.size)
  clear hb
  go_wp2_with fail
  refine (limbs_any _ _ _ _ _ hy hb1).mono ?_
  rintro e w11 ⟨rfl, hb⟩
  rw [eqb_rfl]
  replace hx := hx.after hb
  replace hy := hy.after hb
  replace s1 := s1.after hb
  replace t2 := t2.after hb
  replace ha1 := ha1.after hb
  replace hb1 := hb1.after hb
  replace hB := hB.trans (hb.mono hB.size)
  replace hB3 := hB3.trans (hb.mono hB3.size)
  clear hb
  clear ha1 hb1
  have HBLK4 : Hid (0 < a.length → A3 = some ⟨g, 0, none⟩ ∧ ∃ cur, a.length ≤ cur.size ∧ Blk w11 g 27 cur) := fun h0 => by
    obtain ⟨p, cur, hc, hk⟩ := HBLK3.out h0
    exact ⟨p, cur, hc, hk.below hB3 hG3⟩
  clear hx hy HBLK3
  have hsw : Hid (w3.heap.size ≤ w11.heap.size) := hB3.size
  go_wp2_with fail
  go_loopw [10] (fun i wr => ∃ k : Nat, k ≤ a.length ∧ i = .int .i64 (k : Nat) ∧ Hid (0 < a.length → A3 = some ⟨g, 0, none⟩ ∧ ∃ cur, a.length ≤ cur.size ∧ Blk wr g 27 cur) ∧ Apart g w11 wr)
    (fun i _ => a.length - (intOf i).toNat)
  case atStart => exact ⟨0, Nat.zero_le _, rfl, HBLK4, Apart.refl _ _⟩
  case round =>
    obtain ⟨k, hk, rfl, HK, hap⟩ := hrel
    by_cases hlt : k < a.length
    · obtain ⟨rfl, cur, hcs, hbk⟩ := HK.out (by omega)
      have hcc := hbk.cell k
      rw [Array.getElem?_eq_getElem (by omega : k < cur.size)] at hcc
      have hfr := hbk.free k
      have hbk2 := hbk.put k (.int .u32 7)
      have hap2 := hap.put k (.int .u32 7)
      have hsz : a.length ≤ (cur.setIfInBounds k (.int .u32 7)).size := by rw [Array.size_setIfInBounds]; exact hcs
      have HK2 : Hid (0 < a.length → some (⟨g, 0, none⟩ : Addr) = some ⟨g, 0, none⟩ ∧ ∃ cur, a.length ≤ cur.size ∧ Blk (wr.setCell ⟨g, k, none⟩ (.int .u32 7)) g 27 cur) := fun _ => ⟨rfl, _, hsz, hbk2⟩
      have hkI : (k : Int) < (a.length : Int) := by omega
      generalize cur[k] = old at *
      clear hbk hap HK HBLK4 hbk2 hsz
      go_wp2_with fail
      go_roundw
      case rel => exact ⟨k + 1, by omega, by go_num, (fun h0 => ⟨trivial, (HK2.out h0).2⟩), hap2⟩
      case measure => simp [intOf]; omega
    · obtain rfl : k = a.length := by omega
      have s3 := (s1.apart hap (Or.inr hG3)).up (show w11.heap.size ≤ wr.heap.size from Nat.le_of_eq hap.2.1.symm)
      have t3 := (t2.apart hap (Or.inr hG3)).up (show w11.heap.size ≤ wr.heap.size from Nat.le_of_eq hap.2.1.symm)
      replace s3 := s3.low (Nat.zero_le _)
      replace t3 := t3.low (Nat.zero_le _)
      have hB9 := hB.trans (hap.below hwg)
      have ha1 := (HA.out.below hB9 (Nat.le_refl _)).up hB9.size
      have hb1 := (HB.out.below hB9 (Nat.le_refl _)).up hB9.size
      clear s1 t2 hap HK HBLK4 hB hB3
      have hB := hB9
      clear hB9
      go_wp2_with fail
      refine (refAdd_any _ _ _ _ _ da db ha1 hb1 (by omega) (by omega)).mono ?_
      rintro e w12 ⟨v20, rfl, s4', hb⟩
      have s4 := s4'.low (Nat.zero_le _)
      clear s4'
      replace s3 := s3.after hb
      replace t3 := t3.after hb
      replace ha1 := ha1.after hb
      replace hb1 := hb1.after hb
      replace hB := hB.trans (hb.mono hB.size)
      clear hb
      go_wp2_with fail
      refine (limbs_any _ _ _ _ _ s3 s4).mono ?_
      rintro e w13 ⟨rfl, hb⟩
      rw [eqb_rfl]
      replace s3 := s3.after hb
      replace t3 := t3.after hb
      replace ha1 := ha1.after hb
      replace hb1 := hb1.after hb
      replace s4 := s4.after hb
      replace hB := hB.trans (hb.mono hB.size)
      clear hb
      go_wp2_with fail
      refine (refTrim_any _ a _ da ha1 (by omega)).mono ?_
      rintro e w14 ⟨v21, rfl, t4', hb⟩
      have t4 := t4'.low (Nat.zero_le _)
      clear t4'
      replace s3 := s3.after hb
      replace t3 := t3.after hb
      replace ha1 := ha1.after hb
      replace hb1 := hb1.after hb
      replace s4 := s4.after hb
      replace hB := hB.trans (hb.mono hB.size)
      clear hb
      go_wp2_with fail
      refine (limbs_any _ _ _ _ _ t3 t4).mono ?_
      rintro e w15 ⟨rfl, hb⟩
      rw [eqb_rfl]
      replace s3 := s3.after hb
      replace t3 := t3.after hb
      replace ha1 := ha1.after hb
      replace hb1 := hb1.after hb
      replace s4 := s4.after hb
      replace t4 := t4.after hb
      replace hB := hB.trans (hb.mono hB.size)
      clear hb
      clear s3 t3 s4 t4 ha1 hb1
      go_wp2_with fail
      refine (known_any _).mono ?_
      rintro e w16 ⟨rfl, hb⟩
      replace hB := hB.trans (hb.mono hB.size)
      clear hb
      go_wp2_with fail
      go_ret
      exact ⟨rfl, hB⟩

set_option maxHeartbeats 3200000 in
theorem lawOwn_any (u v : Value) (a b : List Nat) (w : World) (da : Dig a) (db : Dig b) (ha : Nt w 0 w.heap.size u a) (hb_ : Nt w 0 w.heap.size v b) :
    Calls Try.prog 10 #[u, v] w fun e w' => e = .returned (.bool true) ∧ Below w.heap.size w w' := by
  by_cases la : a.length ≤ 8
  · by_cases lb : b.length ≤ 8
    · exact lawOwn_in u v a b w da db ha hb_ la lb
    · obtain ⟨A1, c1, rfl, m1⟩ := nt_len ha
      obtain ⟨A2, c2, rfl, m2⟩ := nt_len hb_
      have hgt : (8 : Int) < (b.length : Int) := by omega
      go_enter Try.func10, Try.ntmps10
      go_wp2
      go_ret
      exact ⟨rfl, Below.refl _ _⟩
  · obtain ⟨A1, c1, rfl, m1⟩ := nt_len ha
    obtain ⟨A2, c2, rfl, m2⟩ := nt_len hb_
    have hgt : (8 : Int) < (a.length : Int) := by omega
    go_enter Try.func10, Try.ntmps10
    go_wp2
    go_ret
    exact ⟨rfl, Below.refl _ _⟩
end Go.Proofs.Ytgbpaibggpgniaa
