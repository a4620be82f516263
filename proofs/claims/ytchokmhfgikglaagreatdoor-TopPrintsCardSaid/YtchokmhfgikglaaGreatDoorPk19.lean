/- Several texts in one: TopNumV, Ref16N. Condition: each says its own. -/
import Derived.Test.YtchokmhfgikglaaGreatDoorPk4
import Derived.Test.YtchokmhfgikglaaGreatDoorPk12
import Derived.Test.YtchokmhfgikglaaGreatDoorPk16
import Derived.Test.YtchokmhfgikglaaGreatDoorPk18
namespace Go.Proofs.YtchokmhfgikglaaGreatDoor
set_option maxRecDepth 100000
open Go.RowKit

theorem numD_lt {l : List Nat} (h : l.all isD = true) : numD l < 10 ^ l.length := by
  unfold numD
  have h1 := undec_lt (l := l.map (· - 48)) fun x hx => by
    obtain ⟨y, hy, rfl⟩ := List.mem_map.1 hx
    have := List.all_eq_true.1 h y hy
    unfold isD at this
    have := of_decide_eq_true this
    omega
  rw [List.length_map] at h1
  exact h1

theorem tw_all_d (r : List Nat) : (r.takeWhile isD).all isD = true := List.all_eq_true.2 fun _ h => mem_tw _ h

theorem wayB_bd {neg s : Bool} {r : List Nat} {n d : Nat} (h : wayB neg r = some (s, n, d)) : n < 10 ^ r.length ∧ d < 10 ^ (r.length + 1) := by
  have hlen : (r.takeWhile isD).length + (r.dropWhile isD).length = r.length := by
    rw [← List.length_append, List.takeWhile_append_dropWhile]
  have hA := numD_lt (tw_all_d r)
  have hp : ∀ a b, a ≤ b → 10 ^ a ≤ 10 ^ b := fun a b h => Nat.pow_le_pow_right (by decide) h
  unfold wayB at h
  split at h
  · cases h
  · split at h
    · rename_i e
      rw [e] at hlen
      simp only [Option.some.injEq, Prod.mk.injEq] at h
      obtain ⟨-, rfl, rfl⟩ := h
      have h1 := hp (r.takeWhile isD).length r.length (by omega)
      have h2 := hp 1 (r.length + 1) (by omega)
      omega
    · rename_i c t e
      rw [e, List.length_cons] at hlen
      split at h
      · cases h
      · rename_i hc
        have hT : t.all isD = true := (tw_all t).1 (by omega)
        have hT1 := numD_lt hT
        split at h
        · split at h
          · cases h
          · simp only [Option.some.injEq, Prod.mk.injEq] at h
            obtain ⟨-, rfl, rfl⟩ := h
            have h1 := hp (r.takeWhile isD).length r.length (by omega)
            have h2 := hp t.length (r.length + 1) (by omega)
            omega
        · simp only [Option.some.injEq, Prod.mk.injEq] at h
          obtain ⟨-, rfl, rfl⟩ := h
          refine ⟨?_, Nat.pow_lt_pow_right (by decide) (by omega)⟩
          have h1 := hp ((r.takeWhile isD).length + t.length) r.length (by omega)
          have h2 : numD (r.takeWhile isD) * 10 ^ t.length + 10 ^ t.length ≤ 10 ^ (r.takeWhile isD).length * 10 ^ t.length := by
            rw [← Nat.succ_mul]
            exact Nat.mul_le_mul_right _ hA
          rw [← Nat.pow_add] at h2
          omega

theorem wayB_sz {neg s : Bool} {r : List Nat} {n d : Nat} (h : wayB neg r = some (s, n, d)) : Sz (qv s n d) (r.length + 1) := by
  obtain ⟨h1, h2⟩ := wayB_bd h
  exact Sz.qv (lim_ten h1 (by omega)) (lim_ten h2 (Nat.le_refl _)) (by omega)

theorem expG_bd {l : List Nat} {z : Int} (h : expG l = some z) : -30 ≤ z ∧ z ≤ 30 := by
  unfold expG at h
  split at h
  · rename_i hc
    simp only [Option.some.injEq] at h
    subst h
    split <;> omega
  · cases h

theorem powT_sz {q : Rat} {k : Nat} {z : Int} (h : Sz q k) (h1 : 1 ≤ k) (h2 : -30 ≤ z) (h3 : z ≤ 30) : Sz (powT q z) (k + 5) := by
  unfold powT
  split
  · exact h.div (sz_ten (by omega)) h1
  · exact h.mul (sz_ten (by omega)) h1

theorem numV_sz {l : List Nat} (h : (numV l).2 = 0) : Sz (numV l).1 70 := by
  unfold numV at h ⊢
  split at h
  · cases h
  · rename_i hl
    rw [if_neg hl]
    split at h
    · rename_i he
      rw [if_pos he]
      split at h
      · rename_i s n d e h1 h2
        split at h
        · cases h
        · rename_i h47
          rw [if_neg h47]
          have hle : (strp (l.takeWhile (· != 101))).2.length ≤ 60 := Nat.le_trans (strp_len _) (Nat.le_trans (List.takeWhile_sublist _).length_le (by omega))
          have := powT_sz (wayB_sz h1) (by omega) (expG_bd h2).1 (expG_bd h2).2
          exact this.mono (by omega)
      · cases h
    · rename_i he
      rw [if_neg he]
      split at h
      · rename_i s n d h1
        have hle : (strp l).2.length ≤ 60 := Nat.le_trans (strp_len _) (by omega)
        exact (wayB_sz h1).mono (by omega)
      · cases h

/-- What hands back a number that is none, and a code. -/
def GivesX (c : Int) (w : World) (e : Ending) (w' : World) : Prop :=
  ∃ s F1 n1 l1 F2 n2 l2, e = .returned (.tuple #[.agg #[.bool s, .slice F1 n1 l1, .slice F2 n2 l2], .int .i64 c]) ∧ Below w.heap.size w w'

/-- What reading a word hands back. -/
def NumPost (l : List Nat) (w : World) (e : Ending) (w' : World) : Prop :=
  ((numV l).2 = 0 ∧ GivesC (numV l).1 0 w e w') ∨ ((numV l).2 ≠ 0 ∧ GivesX ((numV l).2 : Int) w e w')
end Go.Proofs.YtchokmhfgikglaaGreatDoor

namespace Go.Proofs.YtchokmhfgikglaaGreatDoor
set_option maxRecDepth 100000
open Go.RowKit Go.Lib

theorem numV_long {l : List Nat} (h : 60 < l.length) : numV l = (0, 3) := by unfold numV; rw [if_pos h]
theorem numV_plain {l : List Nat} (h : ¬ 60 < l.length) (h1 : 101 ∉ l) : numV l = match wayB (strp l).1 (strp l).2 with
    | some (s, n, d) => (qv s n d, 0)
    | none => (0, 2) := by unfold numV; rw [if_neg h, if_neg h1]; rfl
theorem numV_exp {l : List Nat} (h : ¬ 60 < l.length) (h1 : 101 ∈ l) : numV l = match wayB (strp (l.takeWhile (· != 101))).1 (strp (l.takeWhile (· != 101))).2, expG (l.dropWhile (· != 101)).tail with
    | some (s, n, d), some e => if 47 ∈ l then (0, 2) else (powT (qv s n d) e, 0)
    | _, _ => (0, 2) := by unfold numV; rw [if_neg h, if_pos h1]; rfl

theorem GivesC.x {q : Rat} {c : Int} {w w' : World} {e : Ending} (h : GivesC q c w e w') : GivesX c w e w' := by
  obtain ⟨v, rfl, ⟨an, ad, rfl, h1, h2⟩, hb⟩ := h
  obtain ⟨A1, k1, rfl, _⟩ := nt_len h1
  obtain ⟨A2, k2, rfl, _⟩ := nt_len h2
  exact ⟨_, _, _, _, _, _, _, rfl, hb⟩
theorem NumPost.bad {l : List Nat} {c : Nat} {w w' : World} {e : Ending} (hc : (numV l).2 = c) (h0 : c ≠ 0) (h : GivesX (c : Int) w e w') : NumPost l w e w' := Or.inr ⟨by rw [hc]; exact h0, by rw [hc]; exact h⟩
theorem NumPost.good {l : List Nat} {q : Rat} {w w' : World} {e : Ending} (hn : numV l = (q, 0)) (h : GivesC q 0 w e w') : NumPost l w e w' := Or.inl ⟨by rw [hn], by rw [hn]; exact h⟩
theorem PostR.c {o : Option (Bool × Nat × Nat)} {w w' : World} {e : Ending} (h : PostR o w e w') : ∃ q c, (o = none ∧ q = 0 ∧ c = 2 ∨ ∃ s n d, o = some (s, n, d) ∧ q = qv s n d ∧ c = 0) ∧ GivesC q c w e w' := by
  cases o with
  | none => exact ⟨_, _, Or.inl ⟨rfl, rfl, rfl⟩, h⟩
  | some x =>
    obtain ⟨s, n, d⟩ := x
    exact ⟨_, _, Or.inr ⟨s, n, d, rfl, rfl, rfl⟩, h⟩

set_option maxHeartbeats 6400000 in
theorem num16_long (l : List Nat) (h9 : l.length ≤ 1000000) (w : World) (h6 : 60 < l.length) :
    Calls Tryz.prog 41 #[.string (strN l)] w (NumPost l w) := by
  have HP : Hid (∀ e w', GivesX 3 w e w' → NumPost l w e w') := fun e w' h => NumPost.bad (c := 3) (by rw [numV_long h6]) (by decide) h
  obtain ⟨q0, hq0⟩ : ∃ q, (0 : Rat) = q := ⟨_, rfl⟩
  have HI0 : Hid (∀ W, Calls Tryz.prog 87 #[.int .i64 0] W (GivesF q0 W)) := fun W => by
    have := refInt_any 0 W (by omega)
    rw [int_zero, hq0] at this
    exact this
  have b0 := Blk.new w 60 #[.bool false, .slice none 0 0, .slice none 0 0]
  have hB : Below w.heap.size w (w.alloc (.cells #[.bool false, .slice none 0 0, .slice none 0 0] 60)) := (Below.refl _ _).alloc (Nat.le_refl _) _
  have hs := strN_size l
  have y0 : (60 : Int) < ((strN l).size : Int) := by omega
  generalize strN l = t at *
  go_enter Tryz.func41, Tryz.ntmps41
  go_wp2_with fail
  generalize w.alloc (.cells #[.bool false, .slice none 0 0, .slice none 0 0] 60) = w2 at *
  go_fit (HI0.out _)
  rintro e w3 ⟨v3, rfl, ⟨an, ad, rfl, han, had⟩, hb3⟩
  replace hB := hB.trans (hb3.mono hB.size)
  have hlt2 := b0.lt
  replace b0 := b0.below hb3 b0.lt
  obtain ⟨A1, k1, rfl, m1⟩ := nt_len han
  obtain ⟨A2, k2, rfl, m2⟩ := nt_len had
  have hx := RB.new (t := 60) (han.low (show w.heap.size + 1 ≤ _ from hlt2)) (had.low (show w.heap.size + 1 ≤ _ from hlt2))
  have hlt3 := b0.lt
  replace b0 := b0.alloc (.cells #[.bool (qS q0), .slice A1 (lim (qN q0)).length k1, .slice A2 (lim q0.den).length k2] 60)
  replace hB := hB.alloc hB.size (.cells #[.bool (qS q0), .slice A1 (lim (qN q0)).length k1, .slice A2 (lim q0.den).length k2] 60)
  clear hb3 m1 m2 HI0
  obtain ⟨g4, hg4⟩ : ∃ g, w3.heap.size = g := ⟨_, rfl⟩
  rw [hg4] at hx hlt3
  have HQ0 := Lib.hid hq0
  clear hq0 hs
  have hbn : Below w3.heap.size w3 (w3.alloc (.cells #[.bool (qS q0), .slice A1 (lim (qN q0)).length k1, .slice A2 (lim q0.den).length k2] 60)) := (Below.refl _ _).alloc (Nat.le_refl _) _
  have n1 := (han.low (show w.heap.size + 1 ≤ _ from hlt2)).after hbn
  have n2 := (had.low (show w.heap.size + 1 ≤ _ from hlt2)).after hbn
  clear hg4 hx hbn han had
  have f0 := b0.free 0
  have f1 := b0.free 1
  have f2 := b0.free 2
  have e0 := b0.cell 0
  have e1 := b0.cell 1
  have e2 := b0.cell 2
  obtain ⟨r0, r1, r2, hR, hBf⟩ := store3 b0 hB (Nat.le_refl _) (qS q0) (.slice A1 (lim (qN q0)).length k1) (.slice A2 (lim (q0).den).length k2) n1 n2
  have HR := Lib.hid hR
  have HBF := Lib.hid hBf
  clear n1 n2 hB b0 hR hBf
  unfold St3 at *
  go_wp2_with fail
  refine bodyPost_ret (v := .tuple #[.agg #[.bool (qS q0), .slice A1 (lim (qN q0)).length k1, .slice A2 (lim (q0).den).length k2], .int .i64 3]) ?_ rfl ?_
  · simp [results, Tryz.results41, go_sem, r0, r1, r2]
  · exact HP.out _ _ (GivesC.x ⟨_, rfl, HR.out, HBF.out⟩)

set_option maxHeartbeats 6400000 in
theorem num16_plain (l : List Nat) (hl : Byt l) (w : World) (h6 : ¬ 60 < l.length) (h1 : 101 ∉ l) :
    Calls Tryz.prog 41 #[.string (strN l)] w (NumPost l w) := by
  obtain ⟨o, ho⟩ : ∃ o, wayB (strp l).1 (strp l).2 = o := ⟨_, rfl⟩
  have HP : Hid (∀ q c e w', (o = none ∧ q = 0 ∧ c = 2 ∨ ∃ s n d, o = some (s, n, d) ∧ q = qv s n d ∧ c = 0) → GivesC q c w e w' → NumPost l w e w') := by
    intro q c e w' hc h
    have hn := numV_plain h6 h1
    rw [ho] at hn
    rcases hc with ⟨rfl, rfl, rfl⟩ | ⟨s, n, d, rfl, rfl, rfl⟩
    · exact NumPost.bad (c := 2) (by rw [hn]) (by decide) h.x
    · exact NumPost.good hn h
  have HF : Hid (∀ W, Calls Tryz.prog 88 #[.string (strN l), .int .u8 101] W fun e w' => e = .returned (.int .i64 (-1)) ∧ W = w') := fun W => by
    have := find16_any l hl (by omega) 101 W
    unfold findG at this
    rw [if_neg h1] at this
    exact this
  have HPA : Hid (∀ W, Calls Tryz.prog 89 #[.string (strN l)] W (PostR o W)) := fun W => by
    have := refParse3_any l hl (by omega) W
    rw [ho] at this
    exact this
  clear ho h1
  obtain ⟨q0, hq0⟩ : ∃ q, (0 : Rat) = q := ⟨_, rfl⟩
  have HI0 : Hid (∀ W, Calls Tryz.prog 87 #[.int .i64 0] W (GivesF q0 W)) := fun W => by
    have := refInt_any 0 W (by omega)
    rw [int_zero, hq0] at this
    exact this
  have b0 := Blk.new w 60 #[.bool false, .slice none 0 0, .slice none 0 0]
  have hB : Below w.heap.size w (w.alloc (.cells #[.bool false, .slice none 0 0, .slice none 0 0] 60)) := (Below.refl _ _).alloc (Nat.le_refl _) _
  have hs := strN_size l
  have y0 : ¬ (60 : Int) < ((strN l).size : Int) := by omega
  generalize strN l = t at *
  go_enter Tryz.func41, Tryz.ntmps41
  go_wp2_with fail
  generalize w.alloc (.cells #[.bool false, .slice none 0 0, .slice none 0 0] 60) = w2 at *
  go_fit (HI0.out _)
  rintro e w3 ⟨v3, rfl, ⟨an, ad, rfl, han, had⟩, hb3⟩
  replace hB := hB.trans (hb3.mono hB.size)
  have hlt2 := b0.lt
  replace b0 := b0.below hb3 b0.lt
  obtain ⟨A1, k1, rfl, m1⟩ := nt_len han
  obtain ⟨A2, k2, rfl, m2⟩ := nt_len had
  have hx := RB.new (t := 60) (han.low (show w.heap.size + 1 ≤ _ from hlt2)) (had.low (show w.heap.size + 1 ≤ _ from hlt2))
  have hlt3 := b0.lt
  replace b0 := b0.alloc (.cells #[.bool (qS q0), .slice A1 (lim (qN q0)).length k1, .slice A2 (lim q0.den).length k2] 60)
  replace hB := hB.alloc hB.size (.cells #[.bool (qS q0), .slice A1 (lim (qN q0)).length k1, .slice A2 (lim q0.den).length k2] 60)
  clear hb3 m1 m2 HI0
  obtain ⟨g4, hg4⟩ : ∃ g, w3.heap.size = g := ⟨_, rfl⟩
  rw [hg4] at hx hlt3
  have HQ0 := Lib.hid hq0
  clear hq0 hs
  clear hx hg4
  go_wp2_with fail
  generalize w3.alloc (.cells #[.bool (qS q0), .slice A1 (lim (qN q0)).length k1, .slice A2 (lim q0.den).length k2] 60) = w4 at *
  go_fit (HF.out _)
  rintro e w5 ⟨rfl, rfl⟩
  clear HF
  go_wp2_with fail
  go_fit (HPA.out _)
  rintro e w6 hp
  obtain ⟨q, c, hc, v6, rfl, ⟨bn, bd, rfl, hbn, hbd⟩, hb6⟩ := hp.c
  have HCC := Lib.hid hc
  have lt4 := b0.lt
  replace hB := hB.trans (hb6.mono hB.size)
  replace b0 := b0.below hb6 b0.lt
  obtain ⟨F1, l1, rfl, m1⟩ := nt_len hbn
  obtain ⟨F2, l2, rfl, m2⟩ := nt_len hbd
  have hbm : Below w6.heap.size w6 (w6.alloc (.cells #[.bool (qS q), .slice F1 (lim (qN q)).length l1, .slice F2 (lim q.den).length l2] 60)) := (Below.refl _ _).alloc (Nat.le_refl _) _
  have n1 := (hbn.low (show w.heap.size + 1 ≤ _ from lt4)).after hbm
  have n2 := (hbd.low (show w.heap.size + 1 ≤ _ from lt4)).after hbm
  replace b0 := b0.alloc (.cells #[.bool (qS q), .slice F1 (lim (qN q)).length l1, .slice F2 (lim q.den).length l2] 60)
  replace hB := hB.alloc hB.size (.cells #[.bool (qS q), .slice F1 (lim (qN q)).length l1, .slice F2 (lim q.den).length l2] 60)
  clear hc hp hb6 m1 m2 hbm hbn hbd HPA
  have f0 := b0.free 0
  have f1 := b0.free 1
  have f2 := b0.free 2
  have e0 := b0.cell 0
  have e1 := b0.cell 1
  have e2 := b0.cell 2
  obtain ⟨r0, r1, r2, hR, hBf⟩ := store3 b0 hB (Nat.le_refl _) (qS q) (.slice F1 (lim (qN q)).length l1) (.slice F2 (lim (q).den).length l2) n1 n2
  have HR := Lib.hid hR
  have HBF := Lib.hid hBf
  clear n1 n2 hB b0 hR hBf
  unfold St3 at *
  go_wp2_with fail
  refine bodyPost_ret (v := .tuple #[.agg #[.bool (qS q), .slice F1 (lim (qN q)).length l1, .slice F2 (lim (q).den).length l2], .int .i64 c]) ?_ rfl ?_
  · simp [results, Tryz.results41, go_sem, r0, r1, r2]
  · exact HP.out _ _ _ _ HCC.out ⟨_, rfl, HR.out, HBF.out⟩

/-- What is known of a word with an 'e'. -/
theorem num16_cases {l : List Nat} {o : Option (Bool × Nat × Nat)} {eo : Option Int} (h6 : ¬ 60 < l.length) (h1 : 101 ∈ l) (ho : wayB (strp (l.takeWhile (· != 101))).1 (strp (l.takeWhile (· != 101))).2 = o) (he : expG (l.dropWhile (· != 101)).tail = eo) :
    (o = none ∨ eo = none ∨ 47 ∈ l → numV l = (0, 2)) ∧ (∀ s n d z, o = some (s, n, d) → eo = some z → 47 ∉ l → numV l = (powT (qv s n d) z, 0)) := by
  have hn := numV_exp h6 h1
  rw [ho, he] at hn
  refine ⟨fun h => ?_, fun s n d z h2 h3 h4 => ?_⟩
  · rw [hn]
    cases o with
    | none => rfl
    | some x =>
      obtain ⟨s, n, d⟩ := x
      cases eo with
      | none => rfl
      | some z =>
        rcases h with h | h | h
        · cases h
        · cases h
        · simp only; rw [if_pos h]
  · rw [hn, h2, h3]
    simp only
    rw [if_neg h4]

set_option maxHeartbeats 12800000 in
theorem num16_exp (l : List Nat) (hl : Byt l) (w : World) (h6 : ¬ 60 < l.length) (h1 : 101 ∈ l) :
    Calls Tryz.prog 41 #[.string (strN l)] w (NumPost l w) := by
  obtain ⟨o, ho⟩ : ∃ o, wayB (strp (l.takeWhile (· != 101))).1 (strp (l.takeWhile (· != 101))).2 = o := ⟨_, rfl⟩
  obtain ⟨eo, heo⟩ : ∃ z, expG (l.dropWhile (· != 101)).tail = z := ⟨_, rfl⟩
  obtain ⟨hn1, hn2⟩ := num16_cases h6 h1 ho heo
  have HP1 : Hid (∀ q c e w', o = none ∨ eo = none ∨ 47 ∈ l → c = 2 → GivesC q c w e w' → NumPost l w e w') := fun q c e w' hc h2 h => by
    subst h2
    exact NumPost.bad (c := 2) (by rw [hn1 hc]) (by decide) h.x
  have HP2 : Hid (∀ s n d z e w', o = some (s, n, d) → eo = some z → 47 ∉ l → GivesC (powT (qv s n d) z) 0 w e w' → NumPost l w e w') := fun s n d z e w' h2 h3 h4 h => NumPost.good (hn2 s n d z h2 h3 h4) h
  have HSZ : Hid (∀ s n d, o = some (s, n, d) → Sz (qv s n d) 70) := fun s n d h => by
    have hle : (strp (l.takeWhile (· != 101))).2.length ≤ 60 := Nat.le_trans (strp_len _) (Nat.le_trans (List.takeWhile_sublist _).length_le (by omega))
    exact (wayB_sz (ho.trans h)).mono (by omega)
  have HEB : Hid (∀ z, eo = some z → -30 ≤ z ∧ z ≤ 30) := fun z h => expG_bd (heo.trans h)
  obtain ⟨K, hK⟩ : ∃ K, (l.takeWhile (· != 101)).length = K := ⟨_, rfl⟩
  have hKl : K < l.length := by rw [← hK]; exact tw_lt l h1
  have hbt : Byt (l.takeWhile (· != 101)) := fun x hx => hl x ((List.takeWhile_sublist _).subset hx)
  have hbd : Byt (l.dropWhile (· != 101)).tail := fun x hx => hl x ((List.dropWhile_sublist _).subset (List.mem_of_mem_tail hx))
  have x1 : (strN l).extract 0 K = strN (l.takeWhile (· != 101)) := by rw [strN_take, ← hK, take_tw]
  have x2 : (strN l).extract (K + 1) (strN l).size = strN (l.dropWhile (· != 101)).tail := by
    rw [strN_drop _ _ _ (by rw [strN_size]; exact Nat.le_refl _), ← hK, ← List.drop_drop, drop_tw, List.drop_one]
  have HF : Hid (∀ W, Calls Tryz.prog 88 #[.string (strN l), .int .u8 101] W fun e w' => e = .returned (.int .i64 (K : Int)) ∧ W = w') := fun W => by
    have := find16_any l hl (by omega) 101 W
    unfold findG at this
    rw [if_pos h1, hK] at this
    exact this
  have HF47 : Hid (∀ W, Calls Tryz.prog 88 #[.string (strN l), .int .u8 47] W fun e w' => e = .returned (.int .i64 (findG l 47)) ∧ W = w') := fun W => find16_any l hl (by omega) 47 W
  have hF47 : (47 ∈ l ∧ 0 ≤ findG l 47) ∨ (47 ∉ l ∧ findG l 47 = -1) := by
    unfold findG
    by_cases h : 47 ∈ l
    · left; rw [if_pos h]; exact ⟨h, by omega⟩
    · right; rw [if_neg h]; exact ⟨h, rfl⟩
  obtain ⟨f47, hf47⟩ : ∃ z, findG l 47 = z := ⟨_, rfl⟩
  rw [hf47] at HF47 hF47
  have H47 := Lib.hid hF47
  have htl : (l.takeWhile (· != 101)).length ≤ 400 := by omega
  have hdl : (l.dropWhile (· != 101)).tail.length ≤ 1000000 := by
    have := (List.dropWhile_sublist (· != 101) (l := l)).length_le
    rw [List.length_tail]; omega
  have HPA : Hid (∀ W, Calls Tryz.prog 89 #[.string (strN (l.takeWhile (· != 101)))] W (PostR o W)) := fun W => by
    have := refParse3_any _ hbt htl W
    rw [ho] at this
    exact this
  have HEX : Hid (∀ W, Calls Tryz.prog 90 #[.string (strN (l.dropWhile (· != 101)).tail)] W (ExpoGives (l.dropWhile (· != 101)).tail W)) := fun W => expo16_any _ hbd hdl W
  have HEO : Hid (∀ W e W', ExpoGives (l.dropWhile (· != 101)).tail W e W' → W = W' ∧ ∃ z b, e = .returned (.tuple #[.int .i64 z, .bool b]) ∧ eo = if b = true then some z else none) := fun W e W' h => by
    obtain ⟨h1, z, b, h2, h3⟩ := h
    exact ⟨h1, z, b, h2, heo.symm.trans h3⟩
  clear hK hbt hbd htl hdl ho heo hF47 hf47 hn1 hn2
  generalize (l.takeWhile (· != 101)) = tw at *
  generalize (l.dropWhile (· != 101)).tail = dr at *
  obtain ⟨q0, hq0⟩ : ∃ q, (0 : Rat) = q := ⟨_, rfl⟩
  have HI0 : Hid (∀ W, Calls Tryz.prog 87 #[.int .i64 0] W (GivesF q0 W)) := fun W => by
    have := refInt_any 0 W (by omega)
    rw [int_zero, hq0] at this
    exact this
  have b0 := Blk.new w 60 #[.bool false, .slice none 0 0, .slice none 0 0]
  have hB : Below w.heap.size w (w.alloc (.cells #[.bool false, .slice none 0 0, .slice none 0 0] 60)) := (Below.refl _ _).alloc (Nat.le_refl _) _
  have hs := strN_size l
  have y0 : ¬ (60 : Int) < ((strN l).size : Int) := by omega
  have y1 : ¬ (K : Int) < 0 := by omega
  have y2 : (K : Int) ≤ ((strN l).size : Int) := by omega
  have y3 : (K : Int) + 1 ≤ ((strN l).size : Int) := by omega
  have hKK : K < (strN l).size := by omega
  generalize strN l = t at *
  go_enter Tryz.func41, Tryz.ntmps41
  go_wp2_with fail
  generalize w.alloc (.cells #[.bool false, .slice none 0 0, .slice none 0 0] 60) = w2 at *
  go_fit (HI0.out _)
  rintro e w3 ⟨v3, rfl, ⟨an, ad, rfl, han, had⟩, hb3⟩
  replace hB := hB.trans (hb3.mono hB.size)
  have hlt2 := b0.lt
  replace b0 := b0.below hb3 b0.lt
  obtain ⟨A1, k1, rfl, m1⟩ := nt_len han
  obtain ⟨A2, k2, rfl, m2⟩ := nt_len had
  have hx := RB.new (t := 60) (han.low (show w.heap.size + 1 ≤ _ from hlt2)) (had.low (show w.heap.size + 1 ≤ _ from hlt2))
  have hlt3 := b0.lt
  replace b0 := b0.alloc (.cells #[.bool (qS q0), .slice A1 (lim (qN q0)).length k1, .slice A2 (lim q0.den).length k2] 60)
  replace hB := hB.alloc hB.size (.cells #[.bool (qS q0), .slice A1 (lim (qN q0)).length k1, .slice A2 (lim q0.den).length k2] 60)
  clear hb3 m1 m2 HI0
  obtain ⟨g4, hg4⟩ : ∃ g, w3.heap.size = g := ⟨_, rfl⟩
  rw [hg4] at hx hlt3
  have HQ0 := Lib.hid hq0
  clear hq0 hs
  have HG4 := Lib.hid hg4
  clear han had
  go_wp2_with fail
  generalize w3.alloc (.cells #[.bool (qS q0), .slice A1 (lim (qN q0)).length k1, .slice A2 (lim q0.den).length k2] 60) = w4 at *
  clear hg4 HG4
  go_fit (HF.out _)
  rintro e w5 ⟨rfl, rfl⟩
  clear HF
  go_wp2_with fail
  go_fit (HPA.out _)
  rintro e w6 hp
  obtain ⟨q, c, hc, v6, rfl, ⟨bn, bd, rfl, hbn, hbd⟩, hb6⟩ := hp.c
  have HCC := Lib.hid hc
  have lt4 := b0.lt
  replace hB := hB.trans (hb6.mono hB.size)
  replace b0 := b0.below hb6 b0.lt
  replace hx := hx.below hb6
  obtain ⟨F1, l1, rfl, m1⟩ := nt_len hbn
  obtain ⟨F2, l2, rfl, m2⟩ := nt_len hbd
  have hbm : Below w6.heap.size w6 (w6.alloc (.cells #[.bool (qS q), .slice F1 (lim (qN q)).length l1, .slice F2 (lim q.den).length l2] 60)) := (Below.refl _ _).alloc (Nat.le_refl _) _
  have hx8 := RB.new (t := 60) (hbn.low (show w.heap.size + 1 ≤ _ from lt4)) (hbd.low (show w.heap.size + 1 ≤ _ from lt4))
  have lt6 := b0.lt
  replace b0 := b0.below hbm b0.lt
  replace hx := hx.below hbm
  replace hB := hB.trans (hbm.mono hB.size)
  obtain ⟨g8, hg8⟩ : ∃ g, w6.heap.size = g := ⟨_, rfl⟩
  rw [hg8] at hx8 lt6
  have HG8 := Lib.hid hg8
  clear hc hp hb6 m1 m2 hbm hbn hbd HPA x1
  go_wp2_with fail
  generalize w6.alloc (.cells #[.bool (qS q), .slice F1 (lim (qN q)).length l1, .slice F2 (lim q.den).length l2] 60) = w7 at *
  clear hg8 HG8 x2
  go_fit (HEX.out _)
  rintro e w8 he9
  obtain ⟨rfl, z, b, rfl, hz⟩ := HEO.out _ _ _ he9
  have HZ := Lib.hid hz
  clear hz he9 HEX HEO y1 y2 y3 hKK
  rcases HCC.out with ⟨h1, rfl, rfl⟩ | ⟨s, n, d, h1, hq, rfl⟩
  · have H1 := Lib.hid h1
    clear h1 HF47 HCC hx8 y0
    obtain ⟨F1, l1, F2, l2, hblk, n1, n2, o1, o2⟩ := hx
    have x0 := hblk.cell 0
    have x1 := hblk.cell 1
    have x2 := hblk.cell 2
    clear hblk o1 o2
    have f0 := b0.free 0
    have f1 := b0.free 1
    have f2 := b0.free 2
    have e0 := b0.cell 0
    have e1 := b0.cell 1
    have e2 := b0.cell 2
    obtain ⟨r0, r1, r2, hR, hBf⟩ := store3 b0 hB (Nat.le_refl _) (qS q0) (.slice F1 (lim (qN q0)).length l1) (.slice F2 (lim (q0).den).length l2) n1 n2
    have HR := Lib.hid hR
    have HBF := Lib.hid hBf
    clear n1 n2 hB b0 hR hBf
    unfold St3 at *
    go_wp2_with fail
    refine bodyPost_ret (v := .tuple #[.agg #[.bool (qS q0), .slice F1 (lim (qN q0)).length l1, .slice F2 (lim (q0).den).length l2], .int .i64 2]) ?_ rfl ?_
    · simp [results, Tryz.results41, go_sem, r0, r1, r2]
    · exact HP1.out _ _ _ _ (Or.inl H1.out) rfl ⟨_, rfl, HR.out, HBF.out⟩
  · have H1 := Lib.hid h1
    have HQ := Lib.hid hq
    clear h1 hq HCC y0
    cases b with
    | false =>
      clear HF47 hx8
      obtain ⟨F1, l1, F2, l2, hblk, n1, n2, o1, o2⟩ := hx
      have x0 := hblk.cell 0
      have x1 := hblk.cell 1
      have x2 := hblk.cell 2
      clear hblk o1 o2
      have f0 := b0.free 0
      have f1 := b0.free 1
      have f2 := b0.free 2
      have e0 := b0.cell 0
      have e1 := b0.cell 1
      have e2 := b0.cell 2
      obtain ⟨r0, r1, r2, hR, hBf⟩ := store3 b0 hB (Nat.le_refl _) (qS q0) (.slice F1 (lim (qN q0)).length l1) (.slice F2 (lim (q0).den).length l2) n1 n2
      have HR := Lib.hid hR
      have HBF := Lib.hid hBf
      clear n1 n2 hB b0 hR hBf
      unfold St3 at *
      go_wp2_with fail
      refine bodyPost_ret (v := .tuple #[.agg #[.bool (qS q0), .slice F1 (lim (qN q0)).length l1, .slice F2 (lim (q0).den).length l2], .int .i64 2]) ?_ rfl ?_
      · simp [results, Tryz.results41, go_sem, r0, r1, r2]
      · exact HP1.out _ _ _ _ (Or.inr (Or.inl HZ.out)) rfl ⟨_, rfl, HR.out, HBF.out⟩
    | true =>
      have hz : eo = some z := HZ.out
      have hzb := HEB.out z hz
      have HZ2 := Lib.hid hz
      clear hz HZ HEB
      go_wp2_with fail
      go_fit (HF47.out _)
      rintro e w9 ⟨rfl, rfl⟩
      clear HF47
      rcases H47.out with ⟨h47, hge⟩ | ⟨h47, rfl⟩
      · have HM := Lib.hid h47
        clear h47 hx8
        obtain ⟨F1, l1, F2, l2, hblk, n1, n2, o1, o2⟩ := hx
        have x0 := hblk.cell 0
        have x1 := hblk.cell 1
        have x2 := hblk.cell 2
        clear hblk o1 o2
        have f0 := b0.free 0
        have f1 := b0.free 1
        have f2 := b0.free 2
        have e0 := b0.cell 0
        have e1 := b0.cell 1
        have e2 := b0.cell 2
        obtain ⟨r0, r1, r2, hR, hBf⟩ := store3 b0 hB (Nat.le_refl _) (qS q0) (.slice F1 (lim (qN q0)).length l1) (.slice F2 (lim (q0).den).length l2) n1 n2
        have HR := Lib.hid hR
        have HBF := Lib.hid hBf
        clear n1 n2 hB b0 hR hBf
        unfold St3 at *
        go_wp2_with fail
        refine bodyPost_ret (v := .tuple #[.agg #[.bool (qS q0), .slice F1 (lim (qN q0)).length l1, .slice F2 (lim (q0).den).length l2], .int .i64 2]) ?_ rfl ?_
        · simp [results, Tryz.results41, go_sem, r0, r1, r2]
        · exact HP1.out _ _ _ _ (Or.inr (Or.inr HM.out)) rfl ⟨_, rfl, HR.out, HBF.out⟩
      · have HM := Lib.hid h47
        clear h47 hx
        rw [HQ.out] at hx8
        have hsz := HSZ.out s n d H1.out
        clear HQ
        obtain ⟨Q, hQ⟩ : ∃ Q, qv s n d = Q := ⟨_, rfl⟩
        have HPP : Hid (∀ e w', GivesC (powT Q z) 0 w e w' → NumPost l w e w') := fun e w' h => HP2.out s n d z e w' H1.out HZ2.out HM.out (by rw [hQ]; exact h)
        rw [hQ] at hx8 hsz
        clear hQ HSZ HP1 HP2 H1 HZ2 HM H47
        obtain ⟨G1, j1, G2, j2, hblk, hrq⟩ := hx8.rq hsz
        have HRQ := Lib.hid hrq
        have HBLK := Lib.hid hblk
        have HB0 := Lib.hid b0
        have HB := Lib.hid hB
        have x0 := hblk.cell 0
        have x1 := hblk.cell 1
        have x2 := hblk.cell 2
        clear hrq hblk b0 hB hx8
        by_cases hneg : z < 0
        · have y5 : ¬ (0 : Int) ≤ z := by omega
          obtain ⟨m, rfl⟩ : ∃ m : Nat, z = -(m : Int) := ⟨(-z).toNat, by omega⟩
          have hm : m ≤ 30 := by omega
          have ym : ¬ m = 0 := by omega
          have HT : Hid (∀ W, Calls Tryz.prog 92 #[.int .i64 (m : Int)] W (GivesF ((10 ^ m : Nat) : Rat) W)) := fun W => ten16_any m W hm
          have hpw : powT Q (-(m : Int)) = Q / ((10 ^ m : Nat) : Rat) := by
            unfold powT
            rw [if_pos hneg, Int.neg_neg]
            rfl
          rw [hpw] at HPP
          have htz := sz_ten hm
          have htn : ((10 ^ m : Nat) : Rat) ≠ 0 := fun hc => by
            have h1 : 10 ^ m = 0 := by exact_mod_cast hc
            have h2 := Nat.pow_pos (n := m) (show 0 < 10 by decide)
            omega
          have hw64 : IntKind.i64.wrap (m : Int) = (m : Int) := IntWalk.i64_in _ (by omega)
          clear hpw hneg hzb
          generalize ((10 ^ m : Nat) : Rat) = tm at *
          obtain ⟨R, hR⟩ : ∃ R, Q / tm = R := ⟨_, rfl⟩
          rw [hR] at HPP
          have HDIV : Hid (∀ W u v, RQ W 0 W.heap.size u Q 70 → RQ W 0 W.heap.size v tm 5 → Calls Tryz.prog 93 #[u, v] W (GivesFB R W)) := fun W u v h1 h2 => by
            rw [← hR]
            exact ratDiv_q u v Q tm 70 5 W h1 h2 (by omega) (by omega) htn
          clear hR
          have HTZ := Lib.hid htz
          clear htz htn
          have hg7 : g8 < w7.heap.size := HBLK.out.lt
          have HS00 : Hid (Below w7.heap.size w7 w7 ∧ w7.cell? ⟨g8, 0, none⟩ = some (.bool (qS Q)) ∧ w7.cell? ⟨g8, 1, none⟩ = some (.slice G1 (lim (qN Q)).length j1) ∧ w7.cell? ⟨g8, 2, none⟩ = some (.slice G2 (lim Q.den).length j2)) := ⟨Below.refl _ _, HBLK.out.cell 0, HBLK.out.cell 1, HBLK.out.cell 2⟩
          have HS0 : Hid (Below w7.heap.size w7 w7.drew ∧ w7.drew.cell? ⟨g8, 0, none⟩ = some (.bool (qS Q)) ∧ w7.drew.cell? ⟨g8, 1, none⟩ = some (.slice G1 (lim (qN Q)).length j1) ∧ w7.drew.cell? ⟨g8, 2, none⟩ = some (.slice G2 (lim Q.den).length j2)) := sk_call HS00.out (Below.refl _ _).drew hg7
          clear x0 x1 x2
          go_wp2_with fail
          go_cut [12, 13] from 63 to 70 (fun r _ wx => RV 60 w7 R r wx)
          case first =>
            clear HB0 HB HPP
            go_region_held3 (fun W => Below w7.heap.size w7 W ∧ W.cell? ⟨g8, 0, none⟩ = some (.bool (qS Q)) ∧ W.cell? ⟨g8, 1, none⟩ = some (.slice G1 (lim (qN Q)).length j1) ∧ W.cell? ⟨g8, 2, none⟩ = some (.slice G2 (lim Q.den).length j2))
              (with_reducible (first | exact HS0.out | exact sk_allocd HS00.out hg7 | exact sk_alloc (by assumption) hg7 | exact sk_call (by assumption) (by assumption) hg7 | exact sk_set3 (by assumption) hg7 ZG.out | exact sk_alloc S10.out hg7 | fail))
              (first
                | (have hx := hb9
                   go_at_call 93
                   go_fit (HDIV.out _ _ _ (HRQ.out.after (And.left (by assumption))) (by first | with_reducible exact t9 | with_reducible exact t9.after ((Below.refl _ _).alloc (Nat.le_refl _) _)))
                   rintro e w10 ⟨v10, rfl, ⟨yn, yd, rfl, hyn, hyd⟩, hb10⟩
                   obtain ⟨F1, l1, rfl, m7⟩ := nt_len hyn
                   obtain ⟨F2, l2, rfl, m8⟩ := nt_len hyd
                   have S10 := Lib.hid (sk_call (by assumption) hb10 hg7)
                   (first
                     | (have H8 := Lib.hid z.lt; replace z := z.below hb10 z.lt; have r0 := z.cell 0; have r1 := z.cell 1; have r2 := z.cell 2; have f0 := z.free 0; have f1 := z.free 1; have f2 := z.free 2)
                     | (have z := (Blk.new w9 60 #[.bool false, .slice none 0 0, .slice none 0 0]).below hb10 (Blk.new w9 60 #[.bool false, .slice none 0 0, .slice none 0 0]).lt; have H8 := Lib.hid (Blk.new w9 60 #[.bool false, .slice none 0 0, .slice none 0 0]).lt; have ZG : Hid (w7.heap.size ≤ w9.heap.size) := (And.left S9.out).size; have r0 := z.cell 0; have r1 := z.cell 1; have r2 := z.cell 2; have f0 := z.free 0; have f1 := z.free 1; have f2 := z.free 2)
                     | skip))
                | (go_at_call 92
                   go_fit (HT.out _)
                   rintro e w9 ⟨v9, rfl, h9, hb9⟩
                   have t9 : RQ w9 0 w9.heap.size v9 tm 5 := RQ.of (h9.low (Nat.zero_le _)) HTZ.out
                   have S9 := Lib.hid (sk_call (by assumption) hb9 hg7)
                   (first
                     | (have z := (Blk.new w7 60 #[.bool false, .slice none 0 0, .slice none 0 0]).drew.below hb9 (Blk.new w7 60 #[.bool false, .slice none 0 0, .slice none 0 0]).drew.lt; have ZG : Hid (w7.heap.size ≤ w7.heap.size) := Nat.le_refl _)
                     | skip))
                | fail)
            all_goals (go_wp2_with fail; go_meet)
            all_goals first
              | with_reducible exact rv_new hyn hyd (And.left S9.out).size (And.left S10.out)
              | with_reducible exact rv_set hyn hyd (And.left S9.out).size (And.left S10.out) z H8.out ZG.out
              | with_reducible exact rv_set hyn hyd (Nat.le_trans (And.left S9.out).size (Nat.le_of_lt H8.out)) (And.left S10.out) z H8.out ZG.out
              | trace_state
          case rest =>
            obtain ⟨g12, D1, i1, D2, i2, rfl, hb12, n1, n2, hB12⟩ := hcut
            have b0 := HB0.out.below hB12 HB0.out.lt
            have hB := HB.out.trans (hB12.mono HB.out.size)
            have x0 := hb12.cell 0
            have x1 := hb12.cell 1
            have x2 := hb12.cell 2
            replace n1 := n1.low (show w.heap.size + 1 ≤ _ from HB0.out.lt)
            replace n2 := n2.low (show w.heap.size + 1 ≤ _ from HB0.out.lt)
            clear hb12 hB12 HS0 HS00 HRQ HBLK HB0 HB HT HDIV HTZ
            have f0 := b0.free 0
            have f1 := b0.free 1
            have f2 := b0.free 2
            have e0 := b0.cell 0
            have e1 := b0.cell 1
            have e2 := b0.cell 2
            obtain ⟨r0, r1, r2, hR, hBf⟩ := store3 b0 hB (Nat.le_refl _) (qS R) (.slice D1 (lim (qN R)).length i1) (.slice D2 (lim (R).den).length i2) n1 n2
            have HR := Lib.hid hR
            have HBF := Lib.hid hBf
            clear n1 n2 hB b0 hR hBf
            unfold St3 at *
            go_wp2_with fail
            refine bodyPost_ret (v := .tuple #[.agg #[.bool (qS R), .slice D1 (lim (qN R)).length i1, .slice D2 (lim (R).den).length i2], .int .i64 0]) ?_ rfl ?_
            · simp [results, Tryz.results41, go_sem, r0, r1, r2]
            · exact HPP.out _ _ ⟨_, rfl, HR.out, HBF.out⟩
        · have y5 : (0 : Int) ≤ z := by omega
          obtain ⟨m, rfl⟩ : ∃ m : Nat, z = (m : Int) := ⟨z.toNat, by omega⟩
          have hm : m ≤ 30 := by omega
          have HT : Hid (∀ W, Calls Tryz.prog 92 #[.int .i64 (m : Int)] W (GivesF ((10 ^ m : Nat) : Rat) W)) := fun W => ten16_any m W hm
          have hpw : powT Q (m : Int) = Q * ((10 ^ m : Nat) : Rat) := by unfold powT; rw [if_neg hneg]; rfl
          rw [hpw] at HPP
          have htz := sz_ten hm
          clear hpw hneg hzb
          generalize ((10 ^ m : Nat) : Rat) = tm at *
          obtain ⟨R, hR⟩ : ∃ R, Q * tm = R := ⟨_, rfl⟩
          rw [hR] at HPP
          have HRR := Lib.hid hR
          clear hR
          go_wp2_with fail
          go_region_with
            (first
              | (have hx9 := HB9
                 go_at_call 91
                 go_fit (ratMul_q _ _ Q tm 70 5 _ (HRQ.out.after HB9.out) HQ9.out (by omega) (by omega))
                 rw [HRR.out]
                 rintro e w10 ⟨v10, rfl, ⟨dn, dd, rfl, hdn, hdd⟩, hb10⟩
                 obtain ⟨D1, i1, rfl, m5⟩ := nt_len hdn
                 obtain ⟨D2, i2, rfl, m6⟩ := nt_len hdd
                 clear m5 m6
                 have c9 := HB0.out.below HB9.out HB0.out.lt
                 have c10 := c9.below hb10 c9.lt
                 have z0 := c10.free 0
                 have z1 := c10.free 1
                 have z2 := c10.free 2
                 have d0 := c10.cell 0
                 have d1 := c10.cell 1
                 have d2 := c10.cell 2
                 have C10 := Lib.hid c10
                 have hb9 := HB.out.trans (HB9.out.mono HB.out.size)
                 have HB10 := Lib.hid (hb9.trans (hb10.mono hb9.size))
                 have HDN := Lib.hid (hdn.low (show w.heap.size + 1 ≤ _ from c9.lt))
                 have HDD := Lib.hid (hdd.low (show w.heap.size + 1 ≤ _ from c9.lt))
                 clear c9 c10 hb9 hdn hdd hb10 hx9)
              | (go_at_call 92
                 go_fit (HT.out _)
                 rintro e w9 ⟨v9, rfl, ⟨cn, cd, rfl, hcn, hcd⟩, hb9⟩
                 have HB9 := Lib.hid (Below.trans ((Below.refl _ _).drew) hb9)
                 have HQ9 := Lib.hid (RQ.of ⟨_, _, rfl, hcn.low (Nat.zero_le _), hcd.low (Nat.zero_le _)⟩ htz)
                 have e9 := HBLK.out.below HB9.out HBLK.out.lt
                 have x0_9 := e9.cell 0
                 have x1_9 := e9.cell 1
                 have x2_9 := e9.cell 2
                 clear e9 hcn hcd hb9)
              | fail)
          all_goals
            obtain ⟨r0, r1, r2, hR, hBf⟩ := store3 C10.out HB10.out (Nat.le_refl _) (qS R) (.slice D1 (lim (qN R)).length i1) (.slice D2 (lim R.den).length i2) HDN.out HDD.out
            have HR := Lib.hid hR
            have HBF := Lib.hid hBf
            clear hR hBf d0 d1 d2 z0 z1 z2 C10
            unfold St3 at *
            go_wp2_with fail
            refine bodyPost_ret (v := .tuple #[.agg #[.bool (qS R), .slice D1 (lim (qN R)).length i1, .slice D2 (lim R.den).length i2], .int .i64 0]) ?_ rfl ?_
            · simp [results, Tryz.results41, go_sem, r0, r1, r2]
            · exact HPP.out _ _ ⟨_, rfl, HR.out, HBF.out⟩
end Go.Proofs.YtchokmhfgikglaaGreatDoor
