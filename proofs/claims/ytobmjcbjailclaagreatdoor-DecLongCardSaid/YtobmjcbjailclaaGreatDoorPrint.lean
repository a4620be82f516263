/- The program's 'Print' of limbs by its contract: the number's digits. Condition: a bound on lengths. -/
import Derived.Test.YtobmjcbjailclaaGreatDoorSmall
import Derived.Test.YtobmjcbjailclaaGreatDoorNums
import Derived.Test.YtobmjcbjailclaaGreatDoorRev
import Derived.Test.YtobmjcbjailclaaGreatDoorLawLaws
namespace Go.Proofs.YtobmjcbjailclaaGreatDoor
set_option maxRecDepth 100000
open Go.RowKit

/-- The number that a slice's limbs make. -/
def rdM (w : World) (v : Value) : Nat :=
  match v with
  | .slice (some p) n _ => val ((List.range n).map fun j => match w.cell? ⟨p.block, p.off + j, none⟩ with
    | some (.int _ z) => z.toNat
    | _ => 0)
  | _ => 0

theorem rdM_of {w : World} {L B : Nat} {v : Value} {x : List Nat} (h : Nt w L B v x) : rdM w v = val x := by
  obtain ⟨A, c, rfl, hc, hm, hA, hx⟩ := h
  by_cases h0 : 0 < x.length
  · obtain ⟨b, off, rfl, _, _, hcell⟩ := hx h0
    unfold rdM
    show val _ = val x
    congr 1
    apply List.ext_getElem
    · simp
    · intro i h1 h2
      rw [List.getElem_map, List.getElem_range, hcell i h2]
      simp
  · obtain rfl : x = [] := List.eq_nil_of_length_eq_zero (by omega)
    unfold rdM
    cases A <;> rfl

theorem dec_bound {k n i : Nat} (h : n < 4294967296 ^ k) (hi : 10 ^ i ≤ n) : i < 10 * k := by
  have h1 : 4294967296 ^ k ≤ (10 ^ 10) ^ k := Nat.pow_le_pow_left (by omega) k
  rw [← Nat.pow_mul] at h1
  exact (Nat.pow_lt_pow_iff_right (by omega : 1 < 10)).1 (Nat.lt_of_le_of_lt hi (Nat.lt_of_lt_of_le h h1))

theorem digit_at (d : Nat) (h : d < 10) (hs : d < (ByteArray.mk #[48, 49, 50, 51, 52, 53, 54, 55, 56, 57]).size) : (((ByteArray.mk #[48, 49, 50, 51, 52, 53, 54, 55, 56, 57])[d]'hs).toNat : Int) = ((48 + d : Nat) : Int) := by
  have hc : d = 0 ∨ d = 1 ∨ d = 2 ∨ d = 3 ∨ d = 4 ∨ d = 5 ∨ d = 6 ∨ d = 7 ∨ d = 8 ∨ d = 9 := by omega
  rcases hc with rfl | rfl | rfl | rfl | rfl | rfl | rfl | rfl | rfl | rfl <;> rfl

/-- How long a row is. -/
def lenV : Value → Nat
  | .slice _ n _ => n
  | _ => 0

/-- A number's digits as bytes, the highest first. -/
def digs (n : Nat) : List Nat := ((dec n).map (48 + ·)).reverse

/-- What the loop that cuts noughts looks at. -/
theorem last_of (n z : Nat) (h : n ≠ 0) : ((dec n ++ List.replicate z 0).map (48 + ·)).length = (dec n).length + z ∧ 0 < (dec n).length ∧
    ∀ hl : ((dec n ++ List.replicate z 0).map (48 + ·)).length - 1 < ((dec n ++ List.replicate z 0).map (48 + ·)).length, (z ≠ 0 → ((dec n ++ List.replicate z 0).map (48 + ·))[((dec n ++ List.replicate z 0).map (48 + ·)).length - 1] = 48) ∧ (z = 0 → ((dec n ++ List.replicate z 0).map (48 + ·))[((dec n ++ List.replicate z 0).map (48 + ·)).length - 1] ≠ 48) := by
  have h1 : 0 < (dec n).length := by rw [dec_pos h]; simp
  refine ⟨by simp, h1, fun hl => ⟨fun hz => ?_, fun hz => ?_⟩⟩
  · rw [List.getElem_map, List.getElem_append_right (by simp; omega), List.getElem_replicate]
  · subst hz
    simp only [List.replicate_zero, List.append_nil]
    rw [List.getElem_map]
    intro hc
    have hne : dec n ≠ [] := List.ne_nil_of_length_pos h1
    refine dec_last n (dec n).dropLast ((dec n).getLast hne) (List.dropLast_concat_getLast hne).symm ?_
    rw [List.getLast_eq_getElem]
    simp only [List.length_map] at hc
    omega

theorem cut_in {w : World} {base : Nat} {e : TypeId} {v : Value} {n z : Nat} (hb : OwnB w base e v ((dec n ++ List.replicate z 0).map (48 + ·))) (h : n ≠ 0) :
    ∃ g cap L y, v = .slice (some ⟨g, 0, none⟩) L cap ∧ L = (dec n).length + z ∧ 0 < (dec n).length ∧ L ≤ cap ∧ w.cell? ⟨g, L - 1, none⟩ = some (.int .u8 ((y : Nat) : Int)) ∧
      (z ≠ 0 → y = 48 ∧ OwnB w base e (.slice (some ⟨g, 0, none⟩) (L - 1) cap) ((dec n ++ List.replicate (z - 1) 0).map (48 + ·))) ∧ (z = 0 → y ≠ 48) := by
  obtain ⟨hl, hd1, hlast⟩ := last_of n z h
  have hp : 0 < ((dec n ++ List.replicate z 0).map (48 + ·)).length := by omega
  obtain ⟨g, cap, rfl⟩ := hb.form hp
  obtain ⟨_, hg, hgl, hcap, hc⟩ := hb.cell hp
  have hlt : ((dec n ++ List.replicate z 0).map (48 + ·)).length - 1 < ((dec n ++ List.replicate z 0).map (48 + ·)).length := by omega
  obtain ⟨ha, hbb⟩ := hlast hlt
  refine ⟨g, cap, _, _, rfl, hl, hd1, hcap, (hc _ hlt).1, fun hz => ⟨ha hz, ?_⟩, hbb⟩
  have ht := hb.take (((dec n ++ List.replicate z 0).map (48 + ·)).length - 1) (by omega)
  have he : ((dec n ++ List.replicate z 0).map (48 + ·)).take (((dec n ++ List.replicate z 0).map (48 + ·)).length - 1) = (dec n ++ List.replicate (z - 1) 0).map (48 + ·) := by
    rw [hl, ← List.map_take, List.take_append, List.take_of_length_le (by omega), List.take_replicate]
    congr 3
    omega
  rw [he] at ht
  exact ht

set_option maxHeartbeats 3200000 in
theorem print_pos (v : Value) (x : List Nat) (w : World) (hd : Dig x) (h : Nt w 0 w.heap.size v x) (hl : x.length ≤ 100) (h0 : val x ≠ 0) :
    Calls Tryz.prog 81 #[v] w fun e w' => e = .returned (.string (strN (digs (val x)))) ∧ Below w.heap.size w w' := by
  have hne : ¬ (lim (val x)).length = 0 := fun h => h0 (lim_eq_nil.1 (List.eq_nil_of_length_eq_zero h))
  have z1 : ((((lim (val x)).length : Nat) : Int) == 0) = false := beq_eq_false_iff_ne.2 (by omega)
  go_enter Tryz.func81, Tryz.ntmps81
  go_wp2_with fail
  refine (Trim_any _ x _ hd h (by omega)).mono ?_
  rintro e w1 ⟨v1, rfl, h1, hb⟩
  have h1' := h1
  obtain ⟨A, c, rfl, hc, hm, _, _⟩ := h1'
  clear h
  obtain ⟨n, hn⟩ : ∃ n, val x = n := ⟨_, rfl⟩
  have lx := Nat.le_trans (limBd hd) hl
  rw [hn] at h1 hne z1 hc lx ⊢
  have e0 : n / 10 ^ (9 * 0) = n := by rw [Nat.mul_zero, Nat.pow_zero, Nat.div_one]
  have E0 := Lib.hid e0
  have LX := Lib.hid lx
  have NB : Hid (n < 4294967296 ^ x.length) := by show _ < _; rw [← hn]; exact val_lt hd
  have H1 := Lib.hid (h1.low (Nat.zero_le _))
  clear e0 lx
  obtain ⟨i0, hi, hz0, hz1, hz2⟩ := info_parts Tryz.info8
  go_wp2_with fail
  go_loopw [0, 3] (fun a b wr => ∃ j : Nat, Nt wr 0 wr.heap.size a (lim (n / 10 ^ (9 * j))) ∧ OwnB wr w.heap.size 5 b ((pad (9 * j) n).map (48 + ·)) ∧ Hid ((lim (n / 10 ^ (9 * j))).length ≤ 100) ∧ Hid (9 * j ≤ 2000) ∧ Below w.heap.size w wr)
    (fun a _ wr => rdM wr a)
  case atStart => exact ⟨0, by rw [E0.out]; exact H1.out, OwnB.nil _ _ _, by rw [E0.out]; exact LX.out, by show 9 * 0 ≤ 2000; omega, hb⟩
  case round =>
    obtain ⟨j, ha, hb, HL, HJ, hB⟩ := hrel
    by_cases hm0 : n / 10 ^ (9 * j) = 0
    · rw [hm0, lim_zero] at ha
      obtain ⟨A', c', rfl, m'⟩ := nt_len ha
      clear ha
      have HLT : n < 10 ^ (9 * j) := by
        rcases Nat.div_eq_zero_iff.1 hm0 with h | h
        · have : 0 < 10 ^ (9 * j) := Nat.pow_pos (by omega)
          omega
        · exact h
      obtain ⟨z0, hpd, hpz⟩ := pad_dec (9 * j) n HLT
      have hz0 : Hid (z0 ≤ 2000) := by have := HJ.out; show _ ≤ _; omega
      rw [hpd] at hb
      have HN0 : Hid (n ≠ 0) := by show _ ≠ _; rw [← hn]; exact h0
      have hdl : Hid ((dec n).length ≤ 2000) := by have := HJ.out; show _ ≤ _; omega
      clear hpd hpz HLT hm0 HL HJ NB E0 H1 LX
      go_wp2_with fail
      go_loopw [3] (fun b wr => ∃ z : Nat, OwnB wr w.heap.size 5 b ((dec n ++ List.replicate z 0).map (48 + ·)) ∧ Hid (z ≤ 2000) ∧ Below w.heap.size w wr)
        (fun b _ => lenV b)
      case atStart => exact ⟨z0, hb, hz0, hB⟩
      case round =>
        obtain ⟨z, hb, HZ, hB⟩ := hrel
        obtain ⟨g, cap, L, y, rfl, hL, hd1, hcap, hcell, hnz, hzz⟩ := cut_in hb HN0.out
        have hL1 : 1 ≤ L ∧ L ≤ 4000 := by have := HZ.out; have := hdl.out; omega
        have hL2 : z ≠ 0 → 2 ≤ L := by omega
        have hL3 : Hid (z = 0 → L = (dec n).length) := fun h => by omega
        clear hL hd1
        by_cases hz : z = 0
        · have hy := hzz hz
          have HO : Hid (OwnB wr w.heap.size 5 (.slice (some ⟨g, 0, none⟩) L cap) ((dec n).map (48 + ·))) := by
            subst hz
            rw [List.replicate_zero, List.append_nil] at hb
            exact hb
          clear hzz hnz hL2 hb hz
          have HCV : Hid (∀ (w' : World) (v : Value), OwnB w' w.heap.size 5 v (digs n) → (convert 22 9 v).run Tryz.prog w' = .ok (.string (strN (digs n))) w') := fun w' v h => by
            refine h.str ?_ ?_ 22 9 5 rfl rfl rfl
            · unfold digs
              rw [List.length_reverse, List.length_map, dec_pos HN0.out]
              simp
            · unfold digs
              intro y hy
              obtain ⟨u, hu, rfl⟩ := List.mem_map.1 (List.mem_reverse.1 hy)
              have := dec_lt n u hu
              omega
          have HRV : Hid (∀ w', Below w.heap.size w' w' → True) := fun _ _ => trivial
          have hnd : Hid (0 < ((dec n).map (48 + ·)).length ∧ ((dec n).map (48 + ·)).length ≤ 1000000) := by
            have h1 := hdl.out
            refine ⟨?_, ?_⟩ <;> rw [List.length_map]
            · rw [dec_pos HN0.out]; simp
            · omega
          by_cases h1 : L = 1
          · subst h1
            have hcon := rev_any _ _ _ _ _ HO.out hnd.out.1 hnd.out.2
            go_wp2_with fail
            refine hcon.mono ?_
            rintro e w2 ⟨rfl, h2, hb2⟩
            have hcv := HCV.out w2 _ h2
            have hbf := hB.trans hb2
            clear HO HCV hb2 hB h2 hcell
            go_wp2_with fail
            go_ret
            exact ⟨by rw [hn]; rfl, hbf⟩
          · have h1I : (1 : Int) < (L : Int) := by omega
            have hyI : ((y : Int) == 48) = false := beq_eq_false_iff_ne.2 (by omega)
            have hcon := rev_any _ _ _ _ _ HO.out hnd.out.1 hnd.out.2
            go_wp2_with fail
            refine hcon.mono ?_
            rintro e w2 ⟨rfl, h2, hb2⟩
            have hcv := HCV.out w2 _ h2
            have hbf := hB.trans hb2
            clear HO HCV hb2 hB h2 hcell
            go_wp2_with fail
            go_ret
            exact ⟨by rw [hn]; rfl, hbf⟩
        · obtain ⟨rfl, hb2⟩ := hnz hz
          have h1I : (1 : Int) < (L : Int) := by have := hL2 hz; omega
          have HB2 := Lib.hid hb2
          have HZ1 : Hid (z - 1 ≤ 2000) := Nat.le_trans (Nat.sub_le _ _) HZ.out
          have LN : ((L : Int) - 1).toNat = L - 1 := by omega
          clear hzz hnz hL2 hL3 hz hb2
          go_wp2_with fail
          refine ⟨⟨z - 1, HB2.out, HZ1, hB⟩, ?_⟩
          show L - 1 < L
          omega
    · have hnl : (lim (n / 10 ^ (9 * j))).length ≠ 0 := fun h => hm0 (lim_eq_nil.1 (List.eq_nil_of_length_eq_zero h))
      have hl2 := HL.out
      have hd2 := dig_lim (n / 10 ^ (9 * j))
      have ha2 := ha
      obtain ⟨A', c', rfl, m'⟩ := nt_len ha
      have V := Lib.hid (val_lim (n / 10 ^ (9 * j)))
      have HJ9 : Hid (9 * (j + 1) ≤ 2000) := by
        have h1 : 10 ^ (9 * j) ≤ n := Nat.le_of_not_lt fun hc => hm0 (Nat.div_eq_of_lt hc)
        have h2 := dec_bound NB.out h1
        show _ ≤ _
        omega
      have HM : Hid (n / 10 ^ (9 * j) / 1000000000 = n / 10 ^ (9 * (j + 1))) := by
        show _ = _
        have e : 10 ^ (9 * (j + 1)) = 10 ^ (9 * j) * 1000000000 := by rw [show 9 * (j + 1) = 9 * j + 9 from rfl, Nat.pow_add]
        rw [Nat.div_div_eq_div_mul, e]
      have RM := Lib.hid (rdM_of ha)
      have HGR : Hid (∀ k, k < 9 → n / 10 ^ (9 * j) % 1000000000 / 10 ^ k % 10 = n / 10 ^ (9 * j + k) % 10) := fun k hk => by
        rcases pad_group n j k with h | h
        · exact h
        · omega
      generalize n / 10 ^ (9 * j) = m at *
      have hpos : (0 : Int) < ((lim m).length : Int) := by omega
      go_wp2_with fail
      refine (small_any _ (lim m) 1000000000 _ hd2 (ha2.low (Nat.zero_le _)) (by omega) (by omega) (by omega)).mono ?_
      rw [V.out]
      rintro e w2 ⟨v2, rfl, h2, hb2⟩
      have hfar : Hid (∀ g, u3.ownBlock = some g → g < wr.heap.size ∨ w2.heap.size ≤ g) := fun g hg => Or.inl (hb.own_lt hg)
      obtain ⟨s0, hs0⟩ : ∃ s0, wr.heap.size = s0 := ⟨_, rfl⟩
      rw [hs0] at h2 hfar
      have hbo := hb.after hb2
      have hB2 := hB.trans (hb2.mono hB.size)
      have hrl : m % 1000000000 < 1000000000 := Nat.mod_lt _ (by omega)
      generalize m % 1000000000 = r at *
      clear hb hB ha2 ha
      have hq := h2
      go_wp2_with fail
      go_loopw [3, 5, 19] (fun b c i wr => ∃ k : Nat, k ≤ 9 ∧ i = .int .i64 (k : Nat) ∧ c = .int .u32 ((r / 10 ^ k : Nat) : Int) ∧ OwnB wr w.heap.size 5 b ((pad (9 * j + k) n).map (48 + ·)) ∧ Nt wr s0 w2.heap.size v2 (lim (m / 1000000000)) ∧ Hid (∀ g, b.ownBlock = some g → g < s0 ∨ w2.heap.size ≤ g) ∧ Hid (w2.heap.size ≤ wr.heap.size) ∧ Below w.heap.size w wr)
        (fun _ _ i _ => 9 - (intOf i).toNat)
      case atStart => exact ⟨0, by omega, rfl, by rw [Nat.pow_zero, Nat.div_one], hbo, hq, hfar, Nat.le_refl _, hB2⟩
      case round =>
        obtain ⟨k, hk, rfl, rfl, hb, hv2, HFAR, HSZ, hbw⟩ := hrel
        clear hbo
        by_cases hlt : k < 9
        · have hlI : (k : Int) < 9 := by omega
          have hrk : r / 10 ^ k < 1000000000 := Nat.lt_of_le_of_lt (Nat.div_le_self _ _) hrl
          have hdig := HGR.out k hlt
          generalize hqr : r / 10 ^ k = q at *
          obtain ⟨d, hd9⟩ : ∃ d, q % 10 = d := ⟨_, rfl⟩
          obtain ⟨q2, hq2⟩ : ∃ d, q / 10 = d := ⟨_, rfl⟩
          have e1 : (q : Int) % 10 = (d : Int) := by omega
          have e2 : (q : Int) / 10 = (q2 : Int) := by omega
          have hd10 : d < 10 := by omega
          have HPM : Hid ((pad (9 * j + k) n).map (48 + ·) ++ [48 + d] = (pad (9 * j + (k + 1)) n).map (48 + ·)) := by
            show _ = _
            rw [← Nat.add_assoc, pad_more, List.map_append, ← hdig, hd9]
            rfl
          have HQ : Hid (r / 10 ^ (k + 1) = q2) := by
            show _ = _
            rw [Nat.pow_succ, ← Nat.div_div_eq_div_mul, hqr, hq2]
          clear hdig hqr
          have hlen : ((pad (9 * j + k) n).map (48 + ·)).length ≤ 1000000 := by
            rw [List.length_map, pad_length]
            have := HJ.out
            omega
          have hbs : w.heap.size ≤ wr.heap.size := hbw.size
          go_wp2_with (at_builtin; refine wpList_append_byte3 rfl _ _ 22 rfl w.heap.size 5 i0 Tryz.underlying22 hi hz0 hz1 hz2 _ ((pad (9 * j + k) n).map (48 + ·)) rfl hb _ (48 + d) (congrArg (Value.int IntKind.u8) (digit_at d hd10 _)) rfl hlen hbs ?_)
          intro g cap w5 ho5 hb5 hk5 hg5 hl5
          have hv5 : Nt w5 s0 w2.heap.size v2 (lim (m / 1000000000)) := hv2.stay (Nat.le_refl _) (Nat.le_refl _) fun p h1 h2 => World.cell?_of_block (hk5 p.block (fun hc => by have := HFAR.out _ hc; omega) (Nat.lt_of_lt_of_le h2 HSZ.out))
          have hf5 : Hid (∀ g', (Value.slice (some ⟨g, 0, none⟩) (((pad (9 * j + k) n).map (48 + ·)).length + 1) cap).ownBlock = some g' → g' < s0 ∨ w2.heap.size ≤ g') := fun g' hg' => by
            have e : g = g' := Option.some.inj hg'
            rcases hg5 with h | h
            · exact e ▸ HFAR.out g h
            · have := HSZ.out
              omega
          have hb05 := hbw.trans hb5
          have hsz5 : Hid (w2.heap.size ≤ w5.heap.size) := Nat.le_trans HSZ.out hb5.size
          rw [HPM.out] at ho5
          clear hk5 hb5 hb hv2 hbw hg5
          go_wp2_with fail
          refine ⟨⟨k + 1, by omega, by go_num, by rw [HQ.out], ho5, hv5, hf5, hsz5, hb05⟩, ?_⟩
          simp [intOf]
          omega
        · obtain rfl : k = 9 := by omega
          have RV := Lib.hid (rdM_of hv2)
          have hvl := val_lt (dig_lim m)
          rw [V.out] at hvl
          have hl9 : Hid ((lim (m / 1000000000)).length ≤ 100) := Nat.le_trans (lim_length_le (Nat.lt_of_le_of_lt (Nat.div_le_self _ _) hvl)) hl2
          have hm9 : Hid (m / 1000000000 < m) := Nat.div_lt_self (Nat.pos_of_ne_zero hm0) (by omega)
          have hv9 := (hv2.low (Nat.zero_le _)).up HSZ.out
          clear hvl hv2 HFAR HSZ
          go_wp2_with fail
          refine ⟨⟨j + 1, by rw [← HM.out]; exact hv9, hb, by rw [← HM.out]; exact hl9, ?_, hbw⟩, ?_⟩
          · exact HJ9.out
          · rw [RV.out, RM.out, val_lim, V.out]
            exact hm9.out

/-- What a number is in digits. -/
def prn (n : Nat) : List Nat := if n = 0 then [48] else digs n

set_option maxHeartbeats 1600000 in
theorem print_any (v : Value) (x : List Nat) (w : World) (hd : Dig x) (h : Nt w 0 w.heap.size v x) (hl : x.length ≤ 100) :
    Calls Tryz.prog 81 #[v] w fun e w' => e = .returned (.string (strN (prn (val x)))) ∧ Below w.heap.size w w' := by
  by_cases h0 : val x = 0
  · rw [h0]
    go_enter Tryz.func81, Tryz.ntmps81
    go_wp2_with fail
    refine (Trim_any _ x _ hd h (by omega)).mono ?_
    rintro e w1 ⟨v1, rfl, h1, hb⟩
    rw [h0, lim_zero] at h1
    obtain ⟨A', c', rfl, m'⟩ := nt_len h1
    clear h h1
    go_wp2_with fail
    go_ret
    exact ⟨rfl, hb⟩
  · have := print_pos v x w hd h hl h0
    unfold prn
    rw [if_neg h0]
    exact this
end Go.Proofs.YtobmjcbjailclaaGreatDoor
