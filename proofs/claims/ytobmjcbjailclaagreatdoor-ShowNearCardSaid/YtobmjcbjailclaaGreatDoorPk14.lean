/- Several texts in one: ParseNum, TenBig, Limbs2, RefRatDiv, ShowBig, LawShowBits, OpenRat. Condition: each says its own. -/
import Derived.Maps.AppendAt
import Derived.WalkLawsBesides
import Derived.WalkSpells
import Derived.Deep.QuietTactic
import Derived.BigQuiet
import Derived.ProofKit
import Derived.OpenShut
import Derived.SizedLaws
import Derived.Lib.SmallJoins
import Derived.Test.YtobmjcbjailclaaGreatDoorPk1
import Derived.Test.YtobmjcbjailclaaGreatDoorPk2
import Derived.Test.YtobmjcbjailclaaGreatDoorPk6
import Derived.Test.YtobmjcbjailclaaGreatDoorPk12
import Derived.Test.YtobmjcbjailclaaGreatDoorPk13
/- Texts as numbers: two ways to read them give the same; in plain Lean. No condition on a program. -/
namespace Go.Proofs.YtobmjcbjailclaaGreatDoor

/-- A digit. -/
def isD (x : Nat) : Bool := decide (48 ≤ x ∧ x ≤ 57)
/-- Digits that may be read. -/
def okD (l : List Nat) : Bool := decide (1 ≤ l.length) && (decide (l.length ≤ 400) && l.all isD)
/-- The number that digits tell. -/
def numD (l : List Nat) : Nat := undec (l.map (· - 48))

/-- What stands ahead of a sign, and whether it stands there. -/
def cutB (c : Nat) (l : List Nat) : List Nat × List Nat × Bool :=
  (l.takeWhile (· != c), (l.dropWhile (· != c)).drop 1, l.contains c)

/-- The program's way: cut at a point, else at a stroke. -/
def wayA (neg : Bool) (r : List Nat) : Option (Bool × Nat × Nat) :=
  if r.contains 46 then
    (if (r.takeWhile (· != 46)).length ≠ 0 ∧ okD ((r.dropWhile (· != 46)).drop 1) = true ∧ okD (r.takeWhile (· != 46) ++ (r.dropWhile (· != 46)).drop 1) = true then
      some (neg, numD (r.takeWhile (· != 46) ++ (r.dropWhile (· != 46)).drop 1), 10 ^ ((r.dropWhile (· != 46)).drop 1).length) else none)
  else if r.contains 47 then
    (if okD (r.takeWhile (· != 47)) = true ∧ okD ((r.dropWhile (· != 47)).drop 1) = true ∧ numD ((r.dropWhile (· != 47)).drop 1) ≠ 0 then
      some (neg, numD (r.takeWhile (· != 47)), numD ((r.dropWhile (· != 47)).drop 1)) else none)
  else (if okD r = true then some (neg, numD r, 1) else none)

/-- The reference's way: so many digits, then what follows. -/
def wayB (neg : Bool) (r : List Nat) : Option (Bool × Nat × Nat) :=
  if r.takeWhile isD = [] then none
  else match r.dropWhile isD with
    | [] => some (neg, numD (r.takeWhile isD), 1)
    | c :: t =>
      if (t.takeWhile isD).length = 0 ∨ (t.takeWhile isD).length ≠ t.length ∨ (c ≠ 46 ∧ c ≠ 47) then none
      else if c = 47 then (if numD t = 0 then none else some (neg, numD (r.takeWhile isD), numD t))
      else some (neg, numD (r.takeWhile isD) * 10 ^ t.length + numD t, 10 ^ t.length)

theorem fold_start : ∀ (m : List Nat) (a : Nat), m.foldl (fun a x => a * 10 + x) a = a * 10 ^ m.length + m.foldl (fun a x => a * 10 + x) 0
  | [], a => by simp
  | x :: m, a => by
    rw [List.foldl_cons, List.foldl_cons, fold_start m (a * 10 + x), fold_start m (0 * 10 + x), List.length_cons, Nat.pow_succ]
    grind

theorem undec_append (l m : List Nat) : undec (l ++ m) = undec l * 10 ^ m.length + undec m := by
  unfold undec
  rw [List.foldl_append, fold_start]

theorem numD_append (l m : List Nat) : numD (l ++ m) = numD l * 10 ^ m.length + numD m := by
  unfold numD
  rw [List.map_append, undec_append, List.length_map]

theorem tw_all {p : Nat → Bool} : ∀ l : List Nat, (l.takeWhile p).length = l.length ↔ l.all p = true
  | [] => by simp
  | a :: r => by
    by_cases h : p a = true
    · simp [h, tw_all r]
    · simp [h]

theorem mem_tw {p : Nat → Bool} {x : Nat} : ∀ l : List Nat, x ∈ l.takeWhile p → p x = true
  | a :: r, h => by
    by_cases ha : p a = true
    · rw [List.takeWhile_cons, if_pos ha] at h
      rcases List.mem_cons.1 h with rfl | h
      · exact ha
      · exact mem_tw r h
    · rw [List.takeWhile_cons, if_neg ha] at h
      cases h

theorem dw_head {p : Nat → Bool} {c : Nat} {t : List Nat} : ∀ l : List Nat, l.dropWhile p = c :: t → p c = false
  | a :: r, h => by
    by_cases ha : p a = true
    · rw [List.dropWhile_cons, if_pos ha] at h
      exact dw_head r h
    · rw [List.dropWhile_cons, if_neg ha] at h
      have := (List.cons.inj h).1
      subst this
      simpa using ha

theorem cut_at {w t : List Nat} {c : Nat} (hw : c ∉ w) : (w ++ c :: t).takeWhile (· != c) = w ∧ (w ++ c :: t).dropWhile (· != c) = c :: t := by
  induction w with
  | nil => simp
  | cons a r ih =>
    have h1 : a ≠ c := fun h => hw (by simp [h])
    have h2 := ih fun h => hw (by simp [h])
    have h3 : (a != c) = true := bne_iff_ne.2 h1
    rw [List.cons_append, List.takeWhile_cons, List.dropWhile_cons, if_pos h3, if_pos h3, h2.1, h2.2]
    exact ⟨rfl, rfl⟩

theorem okD_mem {l : List Nat} {x : Nat} (hx : x ∈ l) (hn : isD x = false) : okD l = false := by
  have : l.all isD = false := by
    apply Bool.eq_false_iff.2
    intro h
    rw [List.all_eq_true.1 h x hx] at hn
    cases hn
  unfold okD
  rw [this]
  simp

theorem okD_of {l : List Nat} (h1 : 1 ≤ l.length) (h2 : l.length ≤ 400) (h3 : l.all isD = true) : okD l = true := by
  unfold okD
  rw [decide_eq_true h1, decide_eq_true h2, h3]
  rfl

theorem okD_iff {l : List Nat} (h2 : l.length ≤ 400) : okD l = true ↔ l.length ≠ 0 ∧ l.all isD = true := by
  unfold okD
  simp only [Bool.and_eq_true, decide_eq_true_eq]
  constructor
  · rintro ⟨a, _, c⟩; exact ⟨by omega, c⟩
  · rintro ⟨a, c⟩; exact ⟨by omega, h2, c⟩

theorem takeWhile_pre {p : Nat → Bool} {w r : List Nat} (h : ∀ x ∈ w, p x = true) : (w ++ r).takeWhile p = w ++ r.takeWhile p := by
  induction w with
  | nil => rfl
  | cons a t ih => rw [List.cons_append, List.takeWhile_cons, if_pos (h a (by simp)), ih fun x hx => h x (by simp [hx]), List.cons_append]

/-- The two ways agree on texts that are not too long. -/
theorem ways_same (neg : Bool) (r : List Nat) (hl : r.length ≤ 400) : wayA neg r = wayB neg r := by
  have hsplit : r.takeWhile isD ++ r.dropWhile isD = r := List.takeWhile_append_dropWhile
  have hw : ∀ x ∈ r.takeWhile isD, isD x = true := fun x hx => mem_tw r hx
  have d46 : isD 46 = false := by decide
  have d47 : isD 47 = false := by decide
  obtain ⟨w, hwe⟩ : ∃ w, r.takeWhile isD = w := ⟨_, rfl⟩
  obtain ⟨q, hqe⟩ : ∃ q, r.dropWhile isD = q := ⟨_, rfl⟩
  have hwall : w.all isD = true := List.all_eq_true.2 (hwe ▸ hw)
  have n46 : 46 ∉ w := fun h => by have := hw 46 (hwe ▸ h); rw [d46] at this; cases this
  have n47 : 47 ∉ w := fun h => by have := hw 47 (hwe ▸ h); rw [d47] at this; cases this
  unfold wayB
  rw [hwe, hqe]
  rw [hwe, hqe] at hsplit
  cases q with
  | nil =>
    rw [List.append_nil] at hsplit
    subst hsplit
    have c46 : w.contains 46 = false := by simpa using n46
    have c47 : w.contains 47 = false := by simpa using n47
    unfold wayA
    rw [c46, c47]
    simp only [Bool.false_eq_true, if_false]
    by_cases h0 : w = []
    · subst h0
      rfl
    · rw [if_neg h0, if_pos ((okD_iff hl).2 ⟨fun h => h0 (List.eq_nil_of_length_eq_zero h), hwall⟩)]
  | cons c t =>
    change wayA neg r = (if w = [] then none else if (t.takeWhile isD).length = 0 ∨ (t.takeWhile isD).length ≠ t.length ∨ (c ≠ 46 ∧ c ≠ 47) then none else if c = 47 then (if numD t = 0 then none else some (neg, numD w, numD t)) else some (neg, numD w * 10 ^ t.length + numD t, 10 ^ t.length))
    have hc : isD c = false := dw_head r hqe
    have hlen : w.length + (t.length + 1) = r.length := by rw [← hsplit]; simp
    have htl : t.length ≤ 400 := by omega
    have hcr : c ∈ r := by rw [← hsplit]; simp
    by_cases h46 : c = 46
    · subst h46
      have hr46 : r.contains 46 = true := by simpa using hcr
      obtain ⟨e1, e2⟩ := cut_at (t := t) n46
      rw [hsplit] at e1 e2
      unfold wayA
      rw [if_pos hr46, e1, e2]
      simp only [List.drop_succ_cons, List.drop_zero]
      by_cases h0 : w = []
      · rw [if_pos h0, if_neg (by rintro ⟨h, _⟩; exact h (by rw [h0]; rfl))]
      · have h0' : w.length ≠ 0 := fun h => h0 (List.eq_nil_of_length_eq_zero h)
        rw [if_neg h0]
        by_cases hk : okD t = true
        · obtain ⟨k1, k2⟩ := (okD_iff htl).1 hk
          have hwt : okD (w ++ t) = true := (okD_iff (by rw [List.length_append]; omega)).2 ⟨by rw [List.length_append]; omega, by rw [List.all_append, hwall, k2]; rfl⟩
          have ht := (tw_all t).2 k2
          rw [if_pos ⟨h0', hk, hwt⟩, if_neg (by rw [ht]; omega), if_neg (by omega), numD_append]
        · rw [if_neg (by rintro ⟨_, h, _⟩; exact hk h)]
          rw [if_pos ?_]
          by_cases hz : (t.takeWhile isD).length = 0
          · exact Or.inl hz
          · right; left
            intro he
            refine hk ((okD_iff htl).2 ⟨by omega, (tw_all t).1 he⟩)
    · by_cases h47 : c = 47
      · subst h47
        by_cases ht46 : 46 ∈ t
        · have hr46 : r.contains 46 = true := by
            have : 46 ∈ r := by rw [← hsplit]; simp [ht46]
            simpa using this
          have hpre : r.takeWhile (· != 46) = w ++ 47 :: t.takeWhile (· != 46) := by
            rw [← hsplit, takeWhile_pre (p := (· != 46)) (w := w) (fun x hx => bne_iff_ne.2 fun h => n46 (h ▸ hx)), List.takeWhile_cons, if_pos (by decide)]
          unfold wayA
          rw [if_pos hr46, hpre, if_neg (by rintro ⟨_, _, h⟩; rw [okD_mem (x := 47) (by simp) d47] at h; cases h)]
          have hne : (t.takeWhile isD).length ≠ t.length := fun h => by
            have := List.all_eq_true.1 ((tw_all t).1 h) 46 ht46
            rw [d46] at this; cases this
          by_cases h0 : w = []
          · rw [if_pos h0]
          · rw [if_neg h0, if_pos (Or.inr (Or.inl hne))]
        · have hr46 : r.contains 46 = false := by
            have : 46 ∉ r := by rw [← hsplit]; simp [n46, ht46]
            simpa using this
          have hr47 : r.contains 47 = true := by simpa using hcr
          obtain ⟨e1, e2⟩ := cut_at (t := t) n47
          rw [hsplit] at e1 e2
          unfold wayA
          rw [hr46, hr47, e1, e2]
          simp only [Bool.false_eq_true, if_false, if_true, List.drop_succ_cons, List.drop_zero]
          by_cases h0 : w = []
          · rw [if_pos h0, h0]
            rfl
          · have hkw : okD w = true := (okD_iff (by omega)).2 ⟨fun h => h0 (List.eq_nil_of_length_eq_zero h), hwall⟩
            rw [if_neg h0]
            by_cases hk : okD t = true
            · obtain ⟨k1, k2⟩ := (okD_iff htl).1 hk
              have ht := (tw_all t).2 k2
              have hcond : ¬ ((t.takeWhile isD).length = 0 ∨ (t.takeWhile isD).length ≠ t.length ∨ ((47 : Nat) ≠ 46 ∧ (47 : Nat) ≠ 47)) := by rw [ht]; omega
              rw [if_neg hcond]
              by_cases hz : numD t = 0
              · rw [if_pos hz, if_neg (show ¬ (okD w = true ∧ okD t = true ∧ numD t ≠ 0) from fun h => h.2.2 hz)]
              · rw [if_neg hz, if_pos (show okD w = true ∧ okD t = true ∧ numD t ≠ 0 from ⟨hkw, hk, hz⟩)]
            · have hcond : (t.takeWhile isD).length = 0 ∨ (t.takeWhile isD).length ≠ t.length ∨ ((47 : Nat) ≠ 46 ∧ (47 : Nat) ≠ 47) := by
                by_cases hz : (t.takeWhile isD).length = 0
                · exact Or.inl hz
                · right; left
                  intro he
                  exact hk ((okD_iff htl).2 ⟨by omega, (tw_all t).1 he⟩)
              rw [if_pos hcond, if_neg (show ¬ (okD w = true ∧ okD t = true ∧ numD t ≠ 0) from fun h => hk h.2.1)]
      · have hB : (if w = [] then (none : Option (Bool × Nat × Nat)) else if (t.takeWhile isD).length = 0 ∨ (t.takeWhile isD).length ≠ t.length ∨ (c ≠ 46 ∧ c ≠ 47) then none
            else if c = 47 then (if numD t = 0 then none else some (neg, numD w, numD t)) else some (neg, numD w * 10 ^ t.length + numD t, 10 ^ t.length)) = none := by
          split
          · rfl
          · rw [if_pos (Or.inr (Or.inr ⟨h46, h47⟩))]
        have e : wayA neg r = none := by
          have hpre : ∀ d, d ∉ w → c ≠ d → c ∈ r.takeWhile (· != d) := fun d hd hcd => by
            rw [← hsplit, takeWhile_pre (p := (· != d)) (w := w) (fun x hx => bne_iff_ne.2 fun h => hd (h ▸ hx)), List.takeWhile_cons, if_pos (bne_iff_ne.2 hcd)]
            simp
          unfold wayA
          split
          · rw [if_neg]
            rintro ⟨_, _, h⟩
            rw [okD_mem (x := c) (List.mem_append_left _ (hpre 46 n46 h46)) hc] at h
            cases h
          · split
            · rw [if_neg]
              rintro ⟨h, _⟩
              rw [okD_mem (x := c) (hpre 47 n47 h47) hc] at h
              cases h
            · rw [okD_mem hcr hc]
              rfl
        rw [e]
        exact hB.symm
end Go.Proofs.YtobmjcbjailclaaGreatDoor

/- The program's powers of ten, up to the thousandth. Condition: that bound. -/
namespace Go.Proofs.YtobmjcbjailclaaGreatDoor
set_option maxRecDepth 100000
open Go.RowKit

set_option maxHeartbeats 3200000 in
theorem ten_big (d : Nat) (w : World) (hd : d ≤ 1000) : Calls Tryz.prog 29 #[.int .i64 (d : Int)] w (Gives (lim (10 ^ d)) w) := by
  go_enter Tryz.func29, Tryz.ntmps29
  go_wp2_with fail
  refine (of_any 1 _ (by omega)).mono ?_
  rintro e w1 ⟨v1, rfl, h1, hb1⟩
  go_wp2_with fail
  have l0 : lim 1 = lim (10 ^ 0) := rfl
  rw [l0] at h1
  clear l0
  go_loopw [3, 6] (fun a i wr => ∃ k : Nat, k ≤ d ∧ i = .int .i64 (k : Nat) ∧ Nt wr w.heap.size wr.heap.size a (lim (10 ^ k)) ∧ Below w.heap.size w wr)
    (fun _ i _ => d - (intOf i).toNat)
  case atStart => exact ⟨0, Nat.zero_le _, rfl, h1, hb1⟩
  case round =>
    obtain ⟨k, hk, rfl, ha, hb⟩ := hrel
    clear h1 hb1
    by_cases hlt : k < d
    · have hlI : (k : Int) < (d : Int) := by omega
      have hl : (lim (10 ^ k)).length ≤ 1001 := lim_ten (Nat.pow_lt_pow_right (by omega) (Nat.lt_succ_self k)) (by omega)
      have dk := dig_lim (10 ^ k)
      have dt := dig_lim 10
      have lt : (lim 10).length ≤ 1 := lim_length_le (by omega)
      have V := Lib.hid (val_lim (10 ^ k))
      have V2 := Lib.hid (val_lim 10)
      have P : Hid (10 ^ k * 10 = 10 ^ (k + 1)) := (Nat.pow_succ ..).symm
      go_wp2_with fail
      refine (of_any 10 _ (by omega)).mono ?_
      rintro e w2 ⟨v2, rfl, h2, hb2⟩
      have ha2 := (ha.low (Nat.zero_le _)).after hb2
      have h2' := h2.low (Nat.zero_le _)
      have hb02 := hb.trans (hb2.mono hb.size)
      clear ha h2 hb hb2
      go_wp2_with fail
      refine (mul_any _ _ (lim (10 ^ k)) (lim 10) _ dk dt ha2 h2' (by omega) (by omega)).mono ?_
      rw [V.out, V2.out, P.out]
      rintro e w4 ⟨v4, rfl, h4, hb4⟩
      have h4' := h4.low hb02.size
      have hb04 := hb02.trans (hb4.mono hb02.size)
      clear h4 hb4 ha2 h2' hb02
      go_wp2_with fail
      go_roundw
      case rel => exact ⟨k + 1, by omega, by go_num, h4', hb04⟩
      case measure => simp [intOf]; omega
    · obtain rfl : k = d := by omega
      go_wp2_with fail
      go_ret
      exact ⟨_, rfl, ha, hb⟩

end Go.Proofs.YtobmjcbjailclaaGreatDoor

/- The look of the reference at two rows of limbs. Condition: none. -/
namespace Go.Proofs.YtobmjcbjailclaaGreatDoor
set_option maxRecDepth 100000
open Go.RowKit

set_option maxHeartbeats 800000 in
theorem refLimbs_any (u v : Value) (x y : List Nat) (w : World) (h : Nt w 0 w.heap.size u x) (h' : Nt w 0 w.heap.size v y) :
    Calls Tryz.prog 119 #[u, v] w fun e w' => e = .returned (.bool (eqb x y)) ∧ Below w.heap.size w w' := by
  obtain ⟨A, c, rfl, hc, hm, hA0, hx⟩ := h
  obtain ⟨A', c', rfl, hc', hm', hA0', hx'⟩ := h'
  unfold maxLen at hm hm'
  by_cases hxy : x.length = y.length
  · have hne : ((x.length : Int) != (y.length : Int)) = false := bne_false (by omega)
    have hyx : y.length ≤ x.length ∧ x.length ≤ y.length := by omega
    clear hxy
    go_enter Tryz.func119, Tryz.ntmps119
    go_wp2_with fail
    go_loopw [5] (fun i wr => ∃ k, k ≤ x.length ∧ i = .int .i64 (k : Nat) ∧ x.take k = y.take k ∧ Below w.heap.size w wr) (fun i _ => x.length - (intOf i).toNat)
    case atStart => exact ⟨0, Nat.zero_le _, rfl, rfl, Below.refl _ _⟩
    case round =>
      obtain ⟨k, hk, rfl, hv, hb⟩ := hrel
      have V := Lib.hid hv
      clear hv
      by_cases hlt : k < x.length
      · have hlt' : k < y.length := by omega
        obtain ⟨b, off, rfl, _, hbl, hcell⟩ := hx (by omega)
        obtain ⟨b', off', rfl, _, hbl', hcell'⟩ := hx' (by omega)
        have hc1 := (hb.cell (p := ⟨b, off + k, none⟩) hbl).trans (hcell k hlt)
        have hc2 := (hb.cell (p := ⟨b', off' + k, none⟩) hbl').trans (hcell' k hlt')
        have hI : (k : Int) < (y.length : Int) := by omega
        have hJ : (k : Int) < (x.length : Int) := by omega
        have hK : (0 : Int) ≤ (k : Int) := by omega
        clear hcell hcell' hx hx'
        by_cases he : x[k] = y[k]
        · have hv2 : x.take (k + 1) = y.take (k + 1) := by
            rw [List.take_add_one, List.take_add_one, V.out, List.getElem?_eq_getElem hlt, List.getElem?_eq_getElem hlt', he]
          have V2 := Lib.hid hv2
          have ht : (((x[k] : Nat) : Int) != ((y[k] : Nat) : Int)) = false := bne_false (by omega)
          clear hv2 he V
          generalize x[k] = p at *
          generalize y[k] = q at *
          go_wp2_with fail
          go_quiet (fail)
          go_wp2
          go_roundw
          case rel => exact ⟨k + 1, by omega, by go_num, V2.out, below_drewN hb _⟩
          case measure => simp [intOf]; omega
        · have ht : (((x[k] : Nat) : Int) != ((y[k] : Nat) : Int)) = true := bne_true (by omega)
          have e : eqb x y = false := decide_eq_false (fun e => he (by subst e; rfl))
          have E := Lib.hid e
          clear he e V
          generalize x[k] = p at *
          generalize y[k] = q at *
          go_wp2_with fail
          go_quiet (fail)
          go_wp2
          go_ret
          exact ⟨by rw [E.out]; rfl, below_drewN hb _⟩
      · obtain rfl : k = x.length := by omega
        have e : eqb x y = true := decide_eq_true (by
          have := V.out
          rw [List.take_length, List.take_of_length_le (by omega)] at this
          exact this)
        have E := Lib.hid e
        clear e V hx hx'
        go_wp2
        go_ret
        exact ⟨by rw [E.out]; rfl, hb⟩
  · have hne : ((x.length : Int) != (y.length : Int)) = true := bne_true (by omega)
    have e : eqb x y = false := decide_eq_false (fun e => hxy (by rw [e]))
    have E := Lib.hid e
    clear e hxy
    go_enter Tryz.func119, Tryz.ntmps119
    go_wp2
    go_ret
    exact ⟨by rw [E.out]; rfl, Below.refl _ _⟩
end Go.Proofs.YtobmjcbjailclaaGreatDoor

/- The reference's 'Div' of numbers with a divisor by its contract. Condition: a bound on lengths; the divisor is not 0. -/
namespace Go.Proofs.YtobmjcbjailclaaGreatDoor
set_option maxRecDepth 100000
open Go.RowKit

/-- What hands back a new number, and yes. -/
def GivesTB (s : Bool) (n d : Nat) (w : World) (e : Ending) (w' : World) : Prop :=
  ∃ v', e = .returned (.tuple #[v', .bool true]) ∧ Rt w' w.heap.size w'.heap.size v' s (lim n) (lim d) ∧ Below w.heap.size w w'

set_option maxHeartbeats 3200000 in
theorem ratDiv_any (u v : Value) (s t : Bool) (n d m c : List Nat) (w : World) (dn : Dig n) (dd : Dig d) (dm : Dig m) (dc : Dig c) (h : Rt w 0 w.heap.size u s n d) (h' : Rt w 0 w.heap.size v t m c)
    (ln : n.length ≤ 400) (ld : d.length ≤ 400) (lm : m.length ≤ 400) (lc : c.length ≤ 400) (S T : Bool) (N D M C : Nat) (hS : nrS s (val n) (val d) = S) (hN : nrN (val n) (val d) = N) (hD : nrD (val n) (val d) = D)
    (hM0 : M ≠ 0) (hT : nrS t (val m) (val c) = T) (hM : nrN (val m) (val c) = M) (hC : nrD (val m) (val c) = C) :
    Calls Tryz.prog 50 #[u, v] w (GivesTB (nrS (S != T) (N * C) (D * M)) (nrN (N * C) (D * M)) (nrD (N * C) (D * M)) w) := by
  obtain ⟨vn, vd, rfl, hn, hd⟩ := h
  obtain ⟨vm, vc, rfl, hm, hc⟩ := h'
  have hS' := Lib.hid hS
  have hN' := Lib.hid hN
  have hD' := Lib.hid hD
  have hT' := Lib.hid hT
  have hM' := Lib.hid hM
  have hC' := Lib.hid hC
  have lN : (lim N).length ≤ 400 := by rw [← hN]; exact nrN_len dn ln
  have lM : (lim M).length ≤ 400 := by rw [← hM]; exact nrN_len dm lm
  have lD : (lim D).length ≤ 400 := by rw [← hD]; exact nrD_len dd ld (by omega)
  have lC : (lim C).length ≤ 400 := by rw [← hC]; exact nrD_len dc lc (by omega)
  clear hS hN hD hT hM hC
  go_enter Tryz.func50, Tryz.ntmps50
  go_wp2_with fail
  have b0 := ((Blk.new w 25 #[.bool s, vn, vd]).alloc (.cells #[.bool t, vm, vc] 25)).alloc (.cells #[.bool false, .slice none 0 0, .slice none 0 0] 25)
  have b1 := (Blk.new (w.alloc (.cells #[.bool s, vn, vd] 25)) 25 #[.bool t, vm, vc]).alloc (.cells #[.bool false, .slice none 0 0, .slice none 0 0] 25)
  have b2 := Blk.new ((w.alloc (.cells #[.bool s, vn, vd] 25)).alloc (.cells #[.bool t, vm, vc] 25)) 25 #[.bool false, .slice none 0 0, .slice none 0 0]
  have hB : Below w.heap.size w (((w.alloc (.cells #[.bool s, vn, vd] 25)).alloc (.cells #[.bool t, vm, vc] 25)).alloc (.cells #[.bool false, .slice none 0 0, .slice none 0 0] 25)) := (((Below.refl _ _).alloc (Nat.le_refl _) _).alloc (by simp) _).alloc (by simp; omega) _
  have es : (w.alloc (.cells #[.bool s, vn, vd] 25)).heap.size = w.heap.size + 1 := by simp
  have es2 : ((w.alloc (.cells #[.bool s, vn, vd] 25)).alloc (.cells #[.bool t, vm, vc] 25)).heap.size = w.heap.size + 1 + 1 := by simp
  rw [es] at b1
  rw [es2] at b2
  clear es es2
  generalize ((w.alloc (.cells #[.bool s, vn, vd] 25)).alloc (.cells #[.bool t, vm, vc] 25)).alloc (.cells #[.bool false, .slice none 0 0, .slice none 0 0] 25) = w2 at *
  have hn2 := hn.after hB
  have hd2 := hd.after hB
  have hm2 := hm.after hB
  have hc2 := hc.after hB
  clear hn hd hm hc
  go_cut [6, 7] from 8 to 11 (fun p q wx => R2 w S T N D M C p q wx)
  case first =>
    have c00 := b0.cell 0
    have c01 := b0.cell 1
    have c02 := b0.cell 2
    have c10 := b1.cell 0
    have c11 := b1.cell 1
    have c12 := b1.cell 2
    have hg := b1.lt
    have SW : Hid (w.heap.size + 2 < w2.heap.size) := b2.lt
    obtain ⟨An, k1, rfl, m1⟩ := nt_len hn2
    obtain ⟨Ad, k2, rfl, m2⟩ := nt_len hd2
    obtain ⟨Am, k3, rfl, m3⟩ := nt_len hm2
    obtain ⟨Ac, k4, rfl, m4⟩ := nt_len hc2
    have HS0 : Hid (Below w2.heap.size w2 w2 ∧ w2.cell? ⟨w.heap.size, 0, none⟩ = some (.bool s) ∧ w2.cell? ⟨w.heap.size, 1, none⟩ = some (.slice An n.length k1) ∧ w2.cell? ⟨w.heap.size, 2, none⟩ = some (.slice Ad d.length k2) ∧ w2.cell? ⟨w.heap.size + 1, 0, none⟩ = some (.bool t) ∧ w2.cell? ⟨w.heap.size + 1, 1, none⟩ = some (.slice Am m.length k3) ∧ w2.cell? ⟨w.heap.size + 1, 2, none⟩ = some (.slice Ac c.length k4)) := ⟨Below.refl _ _, c00, c01, c02, c10, c11, c12⟩
    have HS2 : Hid (Below w2.heap.size w2 w2.drew ∧ w2.drew.cell? ⟨w.heap.size, 0, none⟩ = some (.bool s) ∧ w2.drew.cell? ⟨w.heap.size, 1, none⟩ = some (.slice An n.length k1) ∧ w2.drew.cell? ⟨w.heap.size, 2, none⟩ = some (.slice Ad d.length k2) ∧ w2.drew.cell? ⟨w.heap.size + 1, 0, none⟩ = some (.bool t) ∧ w2.drew.cell? ⟨w.heap.size + 1, 1, none⟩ = some (.slice Am m.length k3) ∧ w2.drew.cell? ⟨w.heap.size + 1, 2, none⟩ = some (.slice Ac c.length k4)) := ⟨(Below.refl _ _).drew, c00, c01, c02, c10, c11, c12⟩
    go_region_held3 (fun W => Below w2.heap.size w2 W ∧ W.cell? ⟨w.heap.size, 0, none⟩ = some (.bool s) ∧ W.cell? ⟨w.heap.size, 1, none⟩ = some (.slice An n.length k1) ∧ W.cell? ⟨w.heap.size, 2, none⟩ = some (.slice Ad d.length k2) ∧ W.cell? ⟨w.heap.size + 1, 0, none⟩ = some (.bool t) ∧ W.cell? ⟨w.heap.size + 1, 1, none⟩ = some (.slice Am m.length k3) ∧ W.cell? ⟨w.heap.size + 1, 2, none⟩ = some (.slice Ac c.length k4))
      (first | ((repeat (with_reducible (first | exact HS4.out | exact HS3.out | exact HS2.out | exact HS0.out | refine keep6d ?_ | refine keep6s ?_ (by have h3 := SZ3.out; have h4 := SZ4.out; omega) hg _ _ | refine keep6 ?_ ((Below.refl _ _).alloc (Nat.le_refl _) _) hg))); done) | fail)
      (first
        | (have hz := z2; have hx := hk3; go_at_call 22; refine (ratNorm_any _ t m c _ dm dc ⟨_, _, rfl, hm2.after (And.left (by assumption)), hc2.after (And.left (by assumption))⟩ (by omega) (by omega)).mono ?_; rw [hT'.out, hM'.out, hC'.out]; rintro e w4 ⟨v4, rfl, ⟨yn, yd, rfl, hyn, hyd⟩, hb4⟩; have HS4 := Lib.hid (keep6 (by assumption) hb4 hg); have SZ4 := Lib.hid (Below.size (And.left HS4.out)); have hyn' := hyn; have hyd' := hyd; obtain ⟨A5, k5, rfl, m5⟩ := nt_len hyn'; obtain ⟨A6, k6, rfl, m6⟩ := nt_len hyd'; clear hyn' hyd'; have y1 := z1.call0 hb4; have y2 := z2.call0 hb4; obtain ⟨f10, f11, f12, f13, f14, f15⟩ := y1.facts; obtain ⟨f20, f21, f22, f23, f24, f25⟩ := y2.facts; have SY := Lib.hid (show w3.heap.size + 0 ≤ w4.heap.size from Nat.le_trans (by simp) hb4.size); have Q4 := Lib.hid (Q0.of 2 0 hxn hxd (by simp) hb4 hyn hyd (by simp) b2 (And.left HS4.out) hB); clear hxn hxd hyn hyd)
        | (have hz := z1; have hx := hk3; go_at_call 22; refine (ratNorm_any _ t m c _ dm dc ⟨_, _, rfl, hm2.after (And.left (by assumption)), hc2.after (And.left (by assumption))⟩ (by omega) (by omega)).mono ?_; rw [hT'.out, hM'.out, hC'.out]; rintro e w4 ⟨v4, rfl, ⟨yn, yd, rfl, hyn, hyd⟩, hb4⟩; have HS4 := Lib.hid (keep6 (by assumption) hb4 hg); have SZ4 := Lib.hid (Below.size (And.left HS4.out)); have hyn' := hyn; have hyd' := hyd; obtain ⟨A5, k5, rfl, m5⟩ := nt_len hyn'; obtain ⟨A6, k6, rfl, m6⟩ := nt_len hyd'; clear hyn' hyd'; refine (fun (hq : Below (World.heap (World.alloc w3 (.cells #[.bool false, .slice none 0 0, .slice none 0 0] 25))).size (World.alloc w3 (.cells #[.bool false, .slice none 0 0, .slice none 0 0] 25)) w4) => ?_) ?_; rotate_left; with_reducible assumption; have y1 := z1.call1 hq; have y2 := zr_one hq; obtain ⟨f10, f11, f12, f13, f14, f15⟩ := y1.facts; obtain ⟨f20, f21, f22, f23, f24, f25⟩ := y2.facts; have ne1 := z1.ne; have ne2 := ne1.symm; have SY := Lib.hid (show w3.heap.size + 1 ≤ w4.heap.size from Nat.le_trans (by simp) hb4.size); have Q4 := Lib.hid (Q0.of 1 1 hxn hxd (by simp) (((Below.refl w3.heap.size w3).alloc (Nat.le_refl _) (.cells #[.bool false, .slice none 0 0, .slice none 0 0] 25)).trans (hq.mono (by simp))) hyn hyd (by simp) b2 (And.left HS4.out) hB); clear hxn hxd hyn hyd)
        | (have hz := z1; have hx := hk3; go_at_call 22; refine (ratNorm_any _ t m c _ dm dc ⟨_, _, rfl, hm2.after (And.left (by assumption)), hc2.after (And.left (by assumption))⟩ (by omega) (by omega)).mono ?_; rw [hT'.out, hM'.out, hC'.out]; rintro e w4 ⟨v4, rfl, ⟨yn, yd, rfl, hyn, hyd⟩, hb4⟩; have HS4 := Lib.hid (keep6 (by assumption) hb4 hg); have SZ4 := Lib.hid (Below.size (And.left HS4.out)); have hyn' := hyn; have hyd' := hyd; obtain ⟨A5, k5, rfl, m5⟩ := nt_len hyn'; obtain ⟨A6, k6, rfl, m6⟩ := nt_len hyd'; clear hyn' hyd'; have y1 := z1.call0 hb4; obtain ⟨f10, f11, f12, f13, f14, f15⟩ := y1.facts; obtain ⟨ga0, ga1, ga2, ga3, ga4, ga5⟩ := y1.more (.cells #[.bool false, .slice none 0 0, .slice none 0 0] 25); obtain ⟨gb0, gb1, gb2, gb3, gb4, gb5⟩ := y1.more (.cells #[.bool S, .slice A7 (lim N).length k7, .slice A8 (lim D).length k8] 25); obtain ⟨gc0, gc1, gc2, gc3, gc4, gc5⟩ := y1.more (.cells #[.bool T, .slice A5 (lim M).length k5, .slice A6 (lim C).length k6] 25); have ne1 := y1.ne; have ne2 := ne1.symm; have SY := Lib.hid (show w3.heap.size + 0 ≤ w4.heap.size from Nat.le_trans (by simp) hb4.size); have Q4 := Lib.hid (Q0.of 1 0 hxn hxd (by simp) hb4 hyn hyd (by simp) b2 (And.left HS4.out) hB); clear hxn hxd hyn hyd)
        | (have hx := hk3; go_at_call 22; refine (ratNorm_any _ t m c _ dm dc ⟨_, _, rfl, hm2.after (And.left (by assumption)), hc2.after (And.left (by assumption))⟩ (by omega) (by omega)).mono ?_; rw [hT'.out, hM'.out, hC'.out]; rintro e w4 ⟨v4, rfl, ⟨yn, yd, rfl, hyn, hyd⟩, hb4⟩; have HS4 := Lib.hid (keep6 (by assumption) hb4 hg); have SZ4 := Lib.hid (Below.size (And.left HS4.out)); have hyn' := hyn; have hyd' := hyd; obtain ⟨A5, k5, rfl, m5⟩ := nt_len hyn'; obtain ⟨A6, k6, rfl, m6⟩ := nt_len hyd'; clear hyn' hyd'; refine (fun (hq : Below (World.heap (World.alloc (World.alloc w3 (.cells #[.bool false, .slice none 0 0, .slice none 0 0] 25)) (.cells #[.bool false, .slice none 0 0, .slice none 0 0] 25))).size (World.alloc (World.alloc w3 (.cells #[.bool false, .slice none 0 0, .slice none 0 0] 25)) (.cells #[.bool false, .slice none 0 0, .slice none 0 0] 25)) w4) => ?_) ?_; rotate_left; with_reducible assumption; obtain ⟨y1, y2⟩ := zr_two hq; obtain ⟨f10, f11, f12, f13, f14, f15⟩ := y1.facts; obtain ⟨f20, f21, f22, f23, f24, f25⟩ := y2.facts; have SY := Lib.hid (show w3.heap.size + 2 ≤ w4.heap.size from Nat.le_trans (by simp) hb4.size); have Q4 := Lib.hid (Q0.of 0 2 hxn hxd (by simp) ((((Below.refl w3.heap.size w3).alloc (Nat.le_refl _) (.cells #[.bool false, .slice none 0 0, .slice none 0 0] 25)).alloc (by simp) (.cells #[.bool false, .slice none 0 0, .slice none 0 0] 25)).trans (hq.mono (by simp; omega))) hyn hyd (by simp) b2 (And.left HS4.out) hB); clear hxn hxd hyn hyd)
        | (have hx := hk3; go_at_call 22; refine (ratNorm_any _ t m c _ dm dc ⟨_, _, rfl, hm2.after (And.left (by assumption)), hc2.after (And.left (by assumption))⟩ (by omega) (by omega)).mono ?_; rw [hT'.out, hM'.out, hC'.out]; rintro e w4 ⟨v4, rfl, ⟨yn, yd, rfl, hyn, hyd⟩, hb4⟩; have HS4 := Lib.hid (keep6 (by assumption) hb4 hg); have SZ4 := Lib.hid (Below.size (And.left HS4.out)); have hyn' := hyn; have hyd' := hyd; obtain ⟨A5, k5, rfl, m5⟩ := nt_len hyn'; obtain ⟨A6, k6, rfl, m6⟩ := nt_len hyd'; clear hyn' hyd'; refine (fun (hq : Below (World.heap (World.alloc w3 (.cells #[.bool false, .slice none 0 0, .slice none 0 0] 25))).size (World.alloc w3 (.cells #[.bool false, .slice none 0 0, .slice none 0 0] 25)) w4) => ?_) ?_; rotate_left; with_reducible assumption; have y1 := zr_one hq; obtain ⟨f10, f11, f12, f13, f14, f15⟩ := y1.facts; obtain ⟨ga0, ga1, ga2, ga3, ga4, ga5⟩ := y1.more (.cells #[.bool false, .slice none 0 0, .slice none 0 0] 25); obtain ⟨gb0, gb1, gb2, gb3, gb4, gb5⟩ := y1.more (.cells #[.bool S, .slice A7 (lim N).length k7, .slice A8 (lim D).length k8] 25); obtain ⟨gc0, gc1, gc2, gc3, gc4, gc5⟩ := y1.more (.cells #[.bool T, .slice A5 (lim M).length k5, .slice A6 (lim C).length k6] 25); have ne1 := y1.ne; have ne2 := ne1.symm; have SY := Lib.hid (show w3.heap.size + 1 ≤ w4.heap.size from Nat.le_trans (by simp) hb4.size); have Q4 := Lib.hid (Q0.of 0 1 hxn hxd (by simp) (((Below.refl w3.heap.size w3).alloc (Nat.le_refl _) (.cells #[.bool false, .slice none 0 0, .slice none 0 0] 25)).trans (hq.mono (by simp))) hyn hyd (by simp) b2 (And.left HS4.out) hB); clear hxn hxd hyn hyd)
        | (have hx := hk3; go_at_call 22; refine (ratNorm_any _ t m c _ dm dc ⟨_, _, rfl, hm2.after (And.left (by assumption)), hc2.after (And.left (by assumption))⟩ (by omega) (by omega)).mono ?_; rw [hT'.out, hM'.out, hC'.out]; rintro e w4 ⟨v4, rfl, ⟨yn, yd, rfl, hyn, hyd⟩, hb4⟩; have HS4 := Lib.hid (keep6 (by assumption) hb4 hg); have SZ4 := Lib.hid (Below.size (And.left HS4.out)); have hyn' := hyn; have hyd' := hyd; obtain ⟨A5, k5, rfl, m5⟩ := nt_len hyn'; obtain ⟨A6, k6, rfl, m6⟩ := nt_len hyd'; clear hyn' hyd'; have SY := Lib.hid (show w3.heap.size + 0 ≤ w4.heap.size from Nat.le_trans (by simp) hb4.size); have Q4 := Lib.hid (Q0.of 0 0 hxn hxd (by simp) hb4 hyn hyd (by simp) b2 (And.left HS4.out) hB); clear hxn hxd hyn hyd)
        | (go_at_call 22; refine (ratNorm_any _ s n d _ dn dd ⟨_, _, rfl, hn2.after (And.left (by assumption)), hd2.after (And.left (by assumption))⟩ (by omega) (by omega)).mono ?_; rw [hS'.out, hN'.out, hD'.out]; rintro e w3 ⟨v3, rfl, ⟨xn, xd, rfl, hxn, hxd⟩, hk3⟩; have HS3 := Lib.hid (keep6 (by assumption) hk3 hg); have SZ3 := Lib.hid (Below.size (And.left HS3.out)); have hxn' := hxn; have hxd' := hxd; obtain ⟨A7, k7, rfl, m7⟩ := nt_len hxn'; obtain ⟨A8, k8, rfl, m8⟩ := nt_len hxd'; clear hxn' hxd'; refine (fun (hq : Below (World.heap (World.drew (World.alloc (World.alloc w2 (.cells #[.bool false, .slice none 0 0, .slice none 0 0] 25)) (.cells #[.bool false, .slice none 0 0, .slice none 0 0] 25)))).size (World.drew (World.alloc (World.alloc w2 (.cells #[.bool false, .slice none 0 0, .slice none 0 0] 25)) (.cells #[.bool false, .slice none 0 0, .slice none 0 0] 25))) w3) => ?_) ?_; rotate_left; with_reducible assumption; obtain ⟨z1, z2⟩ := zr_two (below_undrew hq); have SX := Lib.hid (show w2.heap.size + 2 ≤ w3.heap.size from Nat.le_trans (by simp) hk3.size))
        | (go_at_call 22; refine (ratNorm_any _ s n d _ dn dd ⟨_, _, rfl, hn2.after (And.left (by assumption)), hd2.after (And.left (by assumption))⟩ (by omega) (by omega)).mono ?_; rw [hS'.out, hN'.out, hD'.out]; rintro e w3 ⟨v3, rfl, ⟨xn, xd, rfl, hxn, hxd⟩, hk3⟩; have HS3 := Lib.hid (keep6 (by assumption) hk3 hg); have SZ3 := Lib.hid (Below.size (And.left HS3.out)); have hxn' := hxn; have hxd' := hxd; obtain ⟨A7, k7, rfl, m7⟩ := nt_len hxn'; obtain ⟨A8, k8, rfl, m8⟩ := nt_len hxd'; clear hxn' hxd'; refine (fun (hq : Below (World.heap (World.drew (World.alloc w2 (.cells #[.bool false, .slice none 0 0, .slice none 0 0] 25)))).size (World.drew (World.alloc w2 (.cells #[.bool false, .slice none 0 0, .slice none 0 0] 25))) w3) => ?_) ?_; rotate_left; with_reducible assumption; have z1 := zr_one (below_undrew hq); have SX := Lib.hid (show w2.heap.size + 1 ≤ w3.heap.size from Nat.le_trans (by simp) hk3.size))
        | (go_at_call 22; refine (ratNorm_any _ s n d _ dn dd ⟨_, _, rfl, hn2.after (And.left (by assumption)), hd2.after (And.left (by assumption))⟩ (by omega) (by omega)).mono ?_; rw [hS'.out, hN'.out, hD'.out]; rintro e w3 ⟨v3, rfl, ⟨xn, xd, rfl, hxn, hxd⟩, hk3⟩; have HS3 := Lib.hid (keep6 (by assumption) hk3 hg); have SZ3 := Lib.hid (Below.size (And.left HS3.out)); have hxn' := hxn; have hxd' := hxd; obtain ⟨A7, k7, rfl, m7⟩ := nt_len hxn'; obtain ⟨A8, k8, rfl, m8⟩ := nt_len hxd'; clear hxn' hxd'; have SX := Lib.hid (show w2.heap.size + 0 ≤ w3.heap.size from Nat.le_trans (by simp) hk3.size))
        | fail)
    all_goals (go_wp2_with fail; go_meet)
    all_goals (have hx3 := SX.out; have hy4 := SY.out; have hw2 := SW.out)
    all_goals first
      | with_reducible exact r2_a Q4.out (by omega)
      | with_reducible exact r2_b Q4.out (by omega)
      | with_reducible exact r2_c Q4.out y1 (by omega) (by omega)
      | with_reducible exact r2_e Q4.out y1 (by omega) (by omega)
      | with_reducible exact r2_d Q4.out y1 y2 (by omega) (by omega) (by omega)
      | with_reducible exact r2_d Q4.out y2 y1 (by omega) (by omega) (by omega)
      | trace_state
  case rest =>
    obtain ⟨gx, gy, xn, xd, yn, yd, rfl, rfl, hgx, hgy, hxn, hxd, hyn, hyd, hres, hBc, hgx2, hgy2⟩ := hcut
    clear hB b0 b1 b2 hn2 hd2 hm2 hc2
    obtain ⟨A1, k1, rfl, m1⟩ := nt_len hxn
    obtain ⟨A2, k2, rfl, m2⟩ := nt_len hxd
    obtain ⟨A3, k3, rfl, m3⟩ := nt_len hyn
    obtain ⟨A4, k4, rfl, m4⟩ := nt_len hyd
    have x0 := hgx.cell 0
    have x1 := hgx.cell 1
    have x2 := hgx.cell 2
    have y0 := hgy.cell 0
    have y1 := hgy.cell 1
    have y2 := hgy.cell 2
    have kx := hgx.lt
    have ky := hgy.lt
    have dN := dig_lim N
    have dD := dig_lim D
    have dM := dig_lim M
    have dC := dig_lim C
    have nex : w.heap.size + 1 + 1 ≠ gx := Nat.ne_of_lt hgx2
    have ney : w.heap.size + 1 + 1 ≠ gy := Nat.ne_of_lt hgy2
    have hk0 : Below wc.heap.size wc wc.drew := (Below.refl _ _).drew
    have VP : Hid (val (lim N) * val (lim C) = N * C) := by show _ = _; rw [val_lim, val_lim]
    have VQ : Hid (val (lim D) * val (lim M) = D * M) := by show _ = _; rw [val_lim, val_lim]
    have lP : (lim (N * C)).length ≤ 800 := lim_mul_len dN dC (val_lim _).symm (val_lim _).symm lN lC
    have lQ : (lim (D * M)).length ≤ 800 := lim_mul_len dD dM (val_lim _).symm (val_lim _).symm lD lM
    obtain ⟨P, hP⟩ : ∃ P, N * C = P := ⟨_, rfl⟩
    obtain ⟨Q, hQ⟩ : ∃ Q, D * M = Q := ⟨_, rfl⟩
    rw [hP] at VP lP
    rw [hQ] at VQ lQ
    have HP := Lib.hid hP
    have HQ := Lib.hid hQ
    clear hP hQ
    have WP := Lib.hid (val_lim P)
    have WQ := Lib.hid (val_lim Q)
    obtain ⟨ST, hST⟩ : ∃ b, (S != T) = b := ⟨_, rfl⟩
    have HST := Lib.hid hST
    obtain ⟨FS, hFS⟩ : ∃ z, nrS ST P Q = z := ⟨_, rfl⟩
    obtain ⟨FN, hFN⟩ : ∃ z, nrN P Q = z := ⟨_, rfl⟩
    obtain ⟨FD, hFD⟩ : ∃ z, nrD P Q = z := ⟨_, rfl⟩
    have HFS := Lib.hid hFS
    have HFN := Lib.hid hFN
    have HFD := Lib.hid hFD
    clear hFS hFN hFD
    have hbe : (!(S == T)) = ST := hST
    clear hST
    have hlm : ((((lim M).length : Nat) : Int) == 0) = false := by
      have : (lim M).length ≠ 0 := fun hc => hM0 (lim_eq_nil.1 (List.eq_nil_of_length_eq_zero hc))
      simp [this]
    clear hM0
    go_wp2_with fail
    go_region_held3 (fun W => W.cell? ⟨gx, 0, none⟩ = some (.bool S) ∧ W.cell? ⟨gx, 1, none⟩ = some (.slice A1 (lim N).length k1) ∧ W.cell? ⟨gx, 2, none⟩ = some (.slice A2 (lim D).length k2) ∧ W.cell? ⟨gy, 0, none⟩ = some (.bool T) ∧ W.cell? ⟨gy, 1, none⟩ = some (.slice A3 (lim M).length k3) ∧ W.cell? ⟨gy, 2, none⟩ = some (.slice A4 (lim C).length k4))
      (first | exact s6g_set (s6g_of hk9 x0 x1 x2 y0 y1 y2 kx ky) nex ney | exact s6g_of hk9 x0 x1 x2 y0 y1 y2 kx ky | exact s6g_of hk8 x0 x1 x2 y0 y1 y2 kx ky | exact s6g_of hk7 x0 x1 x2 y0 y1 y2 kx ky | exact s6g_of hk0 x0 x1 x2 y0 y1 y2 kx ky | fail)
      (first
        | (have hx := hk8; go_at_call 21; refine (ratOf_any ST _ _ (lim P) (lim Q) _ (dig_lim P) (dig_lim Q) (h7.after hb8) (h8.low (Nat.zero_le _)) (by omega) (by omega)).mono ?_; rw [WP.out, WQ.out, HFS.out, HFN.out, HFD.out]; rintro e w9 ⟨v9, rfl, ⟨an, ad, rfl, han, had⟩, hb9⟩; have han' := han; have had' := had; obtain ⟨A5, k5, rfl, m5⟩ := nt_len han'; obtain ⟨A6, k6, rfl, m6⟩ := nt_len had'; clear han' had'; have hk9 : Below wc.heap.size wc w9 := hk8.trans (hb9.mono hk8.size); have q9 := hres.below hk9 hres.lt; have r0 := q9.cell 0; have r1 := q9.cell 1; have r2 := q9.cell 2; have f0 := q9.free 0; have f1 := q9.free 1; have f2 := q9.free 2)
        | (have hx := hk7; go_at_call 36; refine (refMul_any _ _ (lim D) (lim M) _ dD dM (hxd.after hk7) (hyn.after hk7) (by omega) (by omega)).mono ?_; rw [VQ.out]; rintro e w8 ⟨v8, rfl, h8, hb8⟩; have hk8 : Below wc.heap.size wc w8 := hk7.trans (hb8.mono hk7.size))
        | (go_at_call 36; refine (refMul_any _ _ (lim N) (lim C) _ dN dC hxn.drew hyd.drew (by omega) (by omega)).mono ?_; rw [VP.out]; rintro e w7 ⟨v7, rfl, h7, hb7⟩; replace h7 := h7.low (Nat.zero_le _); have hk7 : Below wc.heap.size wc w7 := Below.trans (Below.drew (Below.refl _ _)) hb7)
        | fail)
    obtain ⟨e0, e1, e2, hR, hBf⟩ := store3 q9 (hBc.trans (hk9.mono hBc.size)) (by omega) FS (.slice A5 (lim FN).length k5) (.slice A6 (lim FD).length k6) (han.low (Nat.le_trans hres.lt hk8.size)) (had.low (Nat.le_trans hres.lt hk8.size))
    have HR := Lib.hid hR
    have HBF := Lib.hid hBf
    clear r0 r1 r2 f0 f1 f2 q9 han had hR hBf h7 h8 hb7 hb8 hb9
    unfold St3 at *
    go_wp2_with fail
    generalize ((World.setCell w9 ⟨w.heap.size + 1 + 1, 0, none⟩ (.bool FS)).setCell ⟨w.heap.size + 1 + 1, 1, none⟩ (.slice A5 (lim FN).length k5)).setCell ⟨w.heap.size + 1 + 1, 2, none⟩ (.slice A6 (lim FD).length k6) = WW at *
    refine bodyPost_ret (v := .tuple #[.agg #[.bool FS, .slice A5 (lim FN).length k5, .slice A6 (lim FD).length k6], .bool true]) ?_ rfl (by show GivesTB _ _ _ _ _ _; rw [HST.out, HP.out, HQ.out, HFS.out, HFN.out, HFD.out]; exact ⟨_, rfl, HR.out, HBF.out⟩)
    simp [results, Tryz.results50, go_sem, e0, e1, e2]

theorem ratDiv_q (u v : Value) (p q : Rat) (k j : Nat) (w : World) (h : RQ w 0 w.heap.size u p k) (h' : RQ w 0 w.heap.size v q j) (hk : k ≤ 400) (hj : j ≤ 400) (hq : q ≠ 0) : Calls Tryz.prog 50 #[u, v] w (GivesFB (p / q) w) := by
  obtain ⟨s, n, d, hR, dn, dd, ln, ld, rfl⟩ := h
  obtain ⟨t, m, c, hR', dm, dc, lm, lc, rfl⟩ := h'
  obtain ⟨e1, e2, e3⟩ := nr_q s (val n) (val d)
  obtain ⟨f1, f2, f3⟩ := nr_q t (val m) (val c)
  have := ratDiv_any u v s t n d m c w dn dd dm dc hR hR' (by omega) (by omega) (by omega) (by omega) _ _ _ _ _ _ e1 e2 e3 (fun hc => hq (qN_zero.1 hc)) f1 f2 f3
  obtain ⟨g1, g2, g3⟩ := nr_q (qS (qv s (val n) (val d)) != qS (qv t (val m) (val c))) (qN (qv s (val n) (val d)) * (qv t (val m) (val c)).den) ((qv s (val n) (val d)).den * qN (qv t (val m) (val c)))
  rw [g1, g2, g3, qv_div _ _ hq] at this
  exact this
end Go.Proofs.YtobmjcbjailclaaGreatDoor

/- The twentieth law's look at sizes: one number. No condition. -/
namespace Go.Proofs.YtobmjcbjailclaaGreatDoor
set_option maxRecDepth 100000
open Go.RowKit

set_option maxHeartbeats 1600000 in
theorem big20_one (w : World) (g n1 n2 k1 k2 : Nat) (A1 A2 : Option Addr) (c1 : w.cell? ⟨g, 1, none⟩ = some (.slice A1 n1 k1)) (c2 : w.cell? ⟨g, 2, none⟩ = some (.slice A2 n2 k2)) (hg : g < w.heap.size) :
    Calls Tryz.prog 11 #[.slice (some ⟨g, 0, none⟩) 1 1] w fun e w' => (∃ b, e = .returned (.bool b) ∧ (b = false → n1 ≤ 3 ∧ n2 ≤ 3)) ∧ Below w.heap.size w w' := by
  have hB : Below w.heap.size w w := Below.refl _ _
  by_cases h1 : n1 ≤ 3
  · by_cases h2 : n2 ≤ 3
    · have i1 : ¬ (3 : Int) < (n1 : Int) := by omega
      have i2 : ¬ (3 : Int) < (n2 : Int) := by omega
      go_enter Tryz.func11, Tryz.ntmps11
      go_wp2_with fail
      go_loopw [3] (fun i wr => ∃ k : Nat, k ≤ 1 ∧ i = .int .i64 (k : Int) ∧ Below w.heap.size w wr) (fun i _ => 1 - (RowKit.intOf i).toNat)
      case atStart => exact ⟨0, by omega, rfl, hB⟩
      case round =>
        obtain ⟨k, hk, rfl, hB⟩ := hrel
        have d1 := (hB.cell (p := ⟨g, 1, none⟩) hg).trans c1
        have d2 := (hB.cell (p := ⟨g, 2, none⟩) hg).trans c2
        clear c1 c2
        have hc : k = 0 ∨ k = 1 := by omega
        rcases hc with rfl | rfl
        · go_wp2_with fail
          refine ⟨⟨1, by omega, by go_num, hB⟩, ?_⟩
          simp [RowKit.intOf]
        · go_wp2_with fail
          go_ret
          exact ⟨⟨false, rfl, fun _ => ⟨h1, h2⟩⟩, hB⟩
    · have i1 : ¬ (3 : Int) < (n1 : Int) := by omega
      have i2 : (3 : Int) < (n2 : Int) := by omega
      go_enter Tryz.func11, Tryz.ntmps11
      go_wp2_with fail
      go_loopw [3] (fun i wr => i = .int .i64 0 ∧ Below w.heap.size w wr) (fun i _ => 1 - (RowKit.intOf i).toNat)
      case atStart => exact ⟨rfl, hB⟩
      case round =>
        obtain ⟨rfl, hB⟩ := hrel
        have d1 := (hB.cell (p := ⟨g, 1, none⟩) hg).trans c1
        have d2 := (hB.cell (p := ⟨g, 2, none⟩) hg).trans c2
        clear c1 c2
        go_wp2_with fail
        go_ret
        exact ⟨⟨true, rfl, fun h => by cases h⟩, hB⟩
  · have i1 : (3 : Int) < (n1 : Int) := by omega
    go_enter Tryz.func11, Tryz.ntmps11
    go_wp2_with fail
    go_loopw [3] (fun i wr => i = .int .i64 0 ∧ Below w.heap.size w wr) (fun i _ => 1 - (RowKit.intOf i).toNat)
    case atStart => exact ⟨rfl, hB⟩
    case round =>
      obtain ⟨rfl, hB⟩ := hrel
      have d1 := (hB.cell (p := ⟨g, 1, none⟩) hg).trans c1
      have d2 := (hB.cell (p := ⟨g, 2, none⟩) hg).trans c2
      clear c1 c2
      go_wp2_with fail
      go_ret
      exact ⟨⟨true, rfl, fun h => by cases h⟩, hB⟩
end Go.Proofs.YtobmjcbjailclaaGreatDoor

/- 'ShowBits' returns true at any number of digits. No condition. -/
namespace Go.Proofs.YtobmjcbjailclaaGreatDoor
set_option maxRecDepth 100000
open Go.RowKit

theorem bits_lt {m k : Nat} (hm : 1 ≤ m) : k < bl (m - 1) ↔ 2 ^ k < m := by
  by_cases h : m - 1 = 0
  · rw [h, bl_zero]
    have := Nat.two_pow_pos k
    omega
  · obtain ⟨a, b, c⟩ := bl_spec (m - 1) h
    constructor
    · intro hk
      have : 2 ^ k ≤ 2 ^ (bl (m - 1) - 1) := Nat.pow_le_pow_right (by omega) (by omega)
      omega
    · intro hk
      refine Nat.lt_of_not_le fun hle => ?_
      have : 2 ^ bl (m - 1) ≤ 2 ^ k := Nat.pow_le_pow_right (by omega) hle
      omega

theorem ten_pos (h : Nat) : 1 ≤ 10 ^ h := Nat.one_le_pow _ _ (by omega)

theorem bits_le {h : Nat} (hh : h ≤ 30) : bl (10 ^ h - 1) ≤ 100 := by
  refine Nat.le_of_not_lt fun hlt => ?_
  have h1 := (bits_lt (ten_pos h)).1 hlt
  have h2 : 10 ^ h ≤ 10 ^ 30 := Nat.pow_le_pow_right (by omega) hh
  have h3 : (10 : Nat) ^ 30 ≤ 2 ^ 100 := by decide
  omega

theorem cmpI_pos {a b : Nat} : 0 < cmpI (a : Int) (b : Int) ↔ b < a := by
  unfold cmpI
  by_cases h : (a : Int) < b
  · rw [if_pos h]; omega
  · rw [if_neg h]
    by_cases h2 : (b : Int) < a
    · rw [if_pos h2]; omega
    · rw [if_neg h2]; omega

set_option maxHeartbeats 3200000 in
theorem refBits20_any (d : Int) (w : World) : Calls Tryz.prog 15 #[.int .i64 d] w fun e w' => e = .returned (.int .i64 ((bl (10 ^ (hold30 d).toNat - 1) : Nat) : Int)) ∧ Below w.heap.size w w' := by
  obtain ⟨h, hh⟩ : ∃ h : Nat, (hold30 d).toNat = h := ⟨_, rfl⟩
  have hr := hold30_range d
  have hI : hold30 d = (h : Int) := by omega
  have h30 : h ≤ 30 := by omega
  rw [hh]
  have HI := Lib.hid hI
  obtain ⟨T, hT⟩ : ∃ T, bl (10 ^ h - 1) = T := ⟨_, rfl⟩
  have hT1 : T ≤ 100 := by rw [← hT]; exact bits_le h30
  have HL : Hid (∀ k, k < T ↔ 2 ^ k < 10 ^ h) := fun k => by rw [← hT]; exact bits_lt (ten_pos h)
  rw [hT]
  clear hT hh hr hI
  go_enter Tryz.func15, Tryz.ntmps15
  have hB : Below w.heap.size w w := Below.refl _ _
  go_wp2_with fail
  go_loopw [3] (fun p wr => ∃ k : Nat, k ≤ T ∧ p = .int .i64 (k : Nat) ∧ Below w.heap.size w wr)
    (fun p _ => T - (intOf p).toNat)
  case atStart => exact ⟨0, Nat.zero_le _, rfl, hB⟩
  case round =>
    obtain ⟨k, hk, rfl, hb⟩ := hrel
    clear hB
    obtain ⟨cz, hcz⟩ : ∃ cz, cmpI ((10 ^ h : Nat) : Int) ((2 ^ k : Nat) : Int) = cz := ⟨_, rfl⟩
    have hpos := cmpI_pos (a := 10 ^ h) (b := 2 ^ k)
    rw [hcz, ← HL.out k] at hpos
    have CZ := Lib.hid hcz
    have HP := Lib.hid hpos
    clear hcz hpos
    by_cases hlt : k < T
    · have hz : 0 < cz := HP.out.2 hlt
      go_wp2_with fail
      refine (refBit_any k _ (by omega)).mono ?_
      rintro e w1 ⟨v1, rfl, h1, hb1⟩
      have h1' := h1.low (Nat.zero_le _)
      have hb2 := hb.trans (hb1.mono hb.size)
      clear h1 hb1
      go_wp2_with fail
      refine (hold_any d _).mono ?_
      rintro e w2 ⟨rfl, rfl⟩
      rw [HI.out]
      go_wp2_with fail
      refine (refTen_any h _ h30).mono ?_
      rintro e w3 ⟨v3, rfl, h3, hb3⟩
      have h1'' := h1'.after hb3
      have h3' := h3.low (Nat.zero_le _)
      have hb4 := hb2.trans (hb3.mono hb2.size)
      clear h3 hb3 h1' hb2
      go_wp2_with fail
      refine (cmpBT_any _ _ k h _ (by omega) h30 h1'' h3').mono ?_
      rintro e w4 ⟨rfl, hb5⟩
      rw [CZ.out]
      have hb6 := hb4.trans (hb5.mono hb4.size)
      clear h1'' h3' hb4 hb5
      go_wp2_with fail
      go_roundw
      case rel => exact ⟨k + 1, by omega, by go_num, hb6⟩
      case measure => simp [intOf]; omega
    · have hz : ¬ 0 < cz := fun hc => hlt (HP.out.1 hc)
      obtain rfl : k = T := by omega
      go_wp2_with fail
      refine (refBit_any k _ (by omega)).mono ?_
      rintro e w1 ⟨v1, rfl, h1, hb1⟩
      have h1' := h1.low (Nat.zero_le _)
      have hb2 := hb.trans (hb1.mono hb.size)
      clear h1 hb1
      go_wp2_with fail
      refine (hold_any d _).mono ?_
      rintro e w2 ⟨rfl, rfl⟩
      rw [HI.out]
      go_wp2_with fail
      refine (refTen_any h _ h30).mono ?_
      rintro e w3 ⟨v3, rfl, h3, hb3⟩
      have h1'' := h1'.after hb3
      have h3' := h3.low (Nat.zero_le _)
      have hb4 := hb2.trans (hb3.mono hb2.size)
      clear h3 hb3 h1' hb2
      go_wp2_with fail
      refine (cmpBT_any _ _ k h _ (by omega) h30 h1'' h3').mono ?_
      rintro e w4 ⟨rfl, hb5⟩
      rw [CZ.out]
      have hb6 := hb4.trans (hb5.mono hb4.size)
      clear h1'' h3' hb4 hb5
      go_wp2_with fail
      go_ret
      exact ⟨rfl, hb6⟩

end Go.Proofs.YtobmjcbjailclaaGreatDoor

/- An argument that is a number with a divisor, read. Condition: what the platform bounds. -/
namespace Go.Proofs.YtobmjcbjailclaaGreatDoor
set_option maxRecDepth 100000
open Go.ChangeShapes Go.WideShapes Go.ChangeAt Go.RowKit Go.Joins

theorem open_nats {H : Type} {enc : TypeId × Value → H} {P : Program} {W : World} {held : Bool} {t e : TypeId} {n : Nat} {v : Value} {y : DataW H × List MemPlace} (ht : P.underlying t = some (.slice e)) (he : P.underlying e = some (.int .u32)) (hc : P.cellsOf e = 1) (hb : P.bytesOf e = 4)
    (h : DataW.trod enc P W 0 (fun _ => true) held n t [v] = some y) (hz : ∀ k ∈ y.1.weights P t, k ≤ reachBytes) : ∃ l : List Nat, Nt W 0 W.heap.size v l ∧ Dig l ∧ l.length ≤ 70368744177664 := by
  rcases open_ints ht he hc h with ⟨hcs, _⟩ | ⟨x, len, cap, zs, hcs, _, hl, hm, hzl, hy, hcell, hwz⟩
  · have hv : v = .slice none 0 0 := by simpa using hcs
    subst hv
    exact ⟨[], Nt.nil _ _ _, (fun k hk => by cases hk), by simp⟩
  · have hv : v = .slice (some x) len cap := by simpa using hcs
    subst hv
    rw [if_pos rfl] at hzl
    obtain ⟨l, hr, hw⟩ := rd_of_nats (w := W) (a := some x) (len := len) (cap := cap) (zs := zs) (.inr ⟨x, rfl, hl, hm, hzl, hcell, hwz⟩)
    refine ⟨l, Nt.of_rd hr, hw, ?_⟩
    have hlen : l.length = len := by
      obtain ⟨A, c, hv, _⟩ := hr
      have := (Value.slice.inj hv).2.1
      rw [lv_length] at this
      exact this.symm
    have h1 := hz ((((lits .u32 (zs.take len) : List (DataW H)).length) + (lits .u32 (zs.drop len) : List (DataW H)).length) * P.bytesOf e) (by rw [hy]; simp [DataW.weights, ht])
    have h2 : (lits .u32 (zs.take len) : List (DataW H)).length = len := by unfold lits; rw [List.length_map, List.length_take]; omega
    rw [h2, hb] at h1
    have h3 := reachBytes_lt
    have h4 : (2 : Nat) ^ 47 = 140737488355328 := by decide
    omega

/-- An argument of three cells: a sign, what is divided, the divisor. -/
theorem open_rat {H : Type} {enc : TypeId × Value → H} {P : Program} {W : World} {r : Reach} {b0 : Nat} {held : Bool} {t t0 t1 e : TypeId} {f0 f1 f2 : Field} {v : Value} {d : DataW H} {p : List MemPlace} (hs : P.underlying t = some (.struct #[f0, f1, f2])) (hone : Deep.oneCellFields P #[f0, f1, f2] = true) (hC : P.cellsOf t = 3)
    (e0 : f0.type = t0) (e1 : f1.type = t1) (e2 : f2.type = t1) (hb : P.underlying t0 = some .bool) (ht : P.underlying t1 = some (.slice e)) (he : P.underlying e = some (.int .u32)) (hc : P.cellsOf e = 1) (h4 : P.bytesOf e = 4)
    (hv : Value.okWide P W r b0 t v) (h : DataW.Trod enc P W 0 (fun _ => true) held t v d p) (hz : ∀ k ∈ d.weights P t, k ≤ reachBytes) :
    ∃ (s : Bool) (n m : List Nat), Rt W 0 W.heap.size v s n m ∧ Dig n ∧ Dig m ∧ n.length ≤ 70368744177664 ∧ m.length ≤ 70368744177664 := by
  obtain ⟨v0, v1, v2, y0, y1, y2, k, rfl, rfl, rfl, h0, h1, h2⟩ := Joins.open_agg3 hs hone hC hv h
  rw [e0] at h0
  rw [e1] at h1
  rw [e2] at h2
  obtain ⟨s, hs0, _⟩ := DataW.trod_bool hb h0
  have hv0 : v0 = .bool s := by simpa using hs0
  subst hv0
  have hw : ∀ k ∈ DataW.weightsEach P [f0.type, f1.type, f2.type] [y0.1, y1.1, y2.1], k ≤ reachBytes := fun k hk => hz k (by simpa [DataW.weights, hs] using hk)
  obtain ⟨n, hn, dn, ln⟩ := open_nats ht he hc h4 h1 fun k hk => hw k (DataW.weights_mem_each (j := 1) (t := f1.type) rfl rfl k (by rw [e1]; exact hk))
  obtain ⟨m, hm, dm, lm⟩ := open_nats ht he hc h4 h2 fun k hk => hw k (DataW.weights_mem_each (j := 2) (t := f2.type) rfl rfl k (by rw [e2]; exact hk))
  exact ⟨s, n, m, ⟨_, _, rfl, hn, hm⟩, dn, dm, ln, lm⟩
end Go.Proofs.YtobmjcbjailclaaGreatDoor
