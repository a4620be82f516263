/- Several texts in one: Rats, FoldB, PrText, PrLine, DataPr, ToolS, RatsX, PrRun, OpenRats, Much, LawTopPrints, WrapAnd. Condition: each says its own. -/
import Derived.ProofKit
import Derived.OpenShut
import Derived.SizedLaws
import Derived.Lib.SmallJoins
import Derived.HandedShaped
import Derived.Handed
import Derived.Shelf.Vars
import Derived.Test.YtchokmhfgikglaaGreatDoorPk1
import Derived.Test.YtchokmhfgikglaaGreatDoorPk2
import Derived.Test.YtchokmhfgikglaaGreatDoorPk3
import Derived.Test.YtchokmhfgikglaaGreatDoorPk4
import Derived.Test.YtchokmhfgikglaaGreatDoorPk5
import Derived.Test.YtchokmhfgikglaaGreatDoorPk6
import Derived.Test.YtchokmhfgikglaaGreatDoorPk7
import Derived.Test.YtchokmhfgikglaaGreatDoorPk8
import Derived.Test.YtchokmhfgikglaaGreatDoorPk9
import Derived.Test.YtchokmhfgikglaaGreatDoorPk10
import Derived.Test.YtchokmhfgikglaaGreatDoorPk11
import Derived.Test.YtchokmhfgikglaaGreatDoorPk12
import Derived.Test.YtchokmhfgikglaaGreatDoorPk13
import Derived.Test.YtchokmhfgikglaaGreatDoorPk14
import Derived.Test.YtchokmhfgikglaaGreatDoorPk15
import Derived.Test.YtchokmhfgikglaaGreatDoorPk16
import Derived.Test.YtchokmhfgikglaaGreatDoorPk17
import Derived.Test.YtchokmhfgikglaaGreatDoorPk18
import Derived.Test.YtchokmhfgikglaaGreatDoorPk19
import Derived.Test.YtchokmhfgikglaaGreatDoorPk20
import Derived.Test.YtchokmhfgikglaaGreatDoorPk21
import Derived.Test.YtchokmhfgikglaaGreatDoorPk22
import Derived.Test.YtchokmhfgikglaaGreatDoorPk23
import Derived.Test.YtchokmhfgikglaaGreatDoorPk24
import Derived.Test.YtchokmhfgikglaaGreatDoorPk25
namespace Go.Proofs.YtchokmhfgikglaaGreatDoor
set_option maxRecDepth 100000
open Go.RowKit Go.Shelf Go.Lib
variable {w : World} {B : Nat} {v : Value} {x : List Nat}
theorem undec_dec : ∀ n : Nat, undec (dec n).reverse = n := by
  intro n
  induction n using Nat.strongRecOn with
  | _ n ih =>
    by_cases h : n = 0
    · rw [h, dec_zero]; rfl
    · rw [dec_pos h, List.reverse_cons, undec_snoc, ih (n / 10) (by omega)]
      omega

/-- What the frame of a law's proof tells of a slice of integers that came in, as 'Rd'. -/
theorem rd_of_row {k : IntKind} {w : World} {a : Option Addr} {len cap : Nat} {zs : List Int}
    (h : (a = none ∧ len = 0 ∧ cap = 0 ∧ zs = []) ∨ ∃ x, a = some x ∧ len ≤ cap ∧ cap ≤ maxLen ∧ zs.length = cap ∧ (∀ i, i < zs.length → w.cell? (x.add i) = some (.int k (zs.getD i 0))) ∧ ∀ n ∈ zs, (Lit.int k n).wf = true) :
    Rd w w.heap.size (.slice a len cap) ((zs.take len).map (Value.int k)) ∧ ∀ n ∈ zs.take len, (Lit.int k n).wf = true := by
  rcases h with ⟨rfl, rfl, rfl, rfl⟩ | ⟨x, rfl, hl, hm, hz, hcell, hwz⟩
  · exact ⟨Rd.nil w _, by simp⟩
  · have hlen : ((zs.take len).map (Value.int k)).length = len := by rw [List.length_map, List.length_take]; omega
    refine ⟨⟨some x, cap, by rw [hlen], by omega, hm, fun h => (by cases h), fun h0 => ?_⟩, fun n hn => hwz n (List.mem_of_mem_take hn)⟩
    obtain ⟨b, off, spot⟩ := x
    rw [hlen] at h0
    have hc := hcell 0 (by omega)
    have hspot : spot = none := by simpa [Addr.add] using World.cell?_spot hc
    subst hspot
    have hadd : ∀ i, (⟨b, off, none⟩ : Addr).add i = ⟨b, off + i, none⟩ := fun i => by unfold Addr.add; split <;> simp_all
    refine ⟨b, off, rfl, ?_, fun j u hu => ?_⟩
    · have := World.block_lt_of_cell? w _ hc
      rw [hadd] at this
      exact this
    · rw [List.getElem?_map, List.getElem?_take] at hu
      by_cases hj : j < len
      · rw [if_pos hj, List.getElem?_eq_getElem (by omega)] at hu
        have := hcell j (by omega)
        rw [hadd] at this
        rw [this]
        simp at hu
        subst hu
        simp [List.getD_eq_getElem?_getD, List.getElem?_eq_getElem (show j < zs.length by omega)]
      · rw [if_neg hj] at hu; simp at hu

theorem rd_of_nats {w : World} {a : Option Addr} {len cap : Nat} {zs : List Int}
    (h : (a = none ∧ len = 0 ∧ cap = 0 ∧ zs = []) ∨ ∃ x, a = some x ∧ len ≤ cap ∧ cap ≤ maxLen ∧ zs.length = cap ∧ (∀ i, i < zs.length → w.cell? (x.add i) = some (.int .u32 (zs.getD i 0))) ∧ ∀ n ∈ zs, (Lit.int .u32 n).wf = true) :
    ∃ l : List Nat, Rd w w.heap.size (.slice a len cap) (lv l) ∧ ∀ n ∈ l, n < 4294967296 := by
  obtain ⟨h1, h2⟩ := rd_of_row h
  have hb : ∀ n ∈ zs.take len, 0 ≤ n ∧ n < 4294967296 := fun n hn => by
    have := h2 n hn
    simp [Lit.wf, IntKind.min, IntKind.max, IntKind.bits, IntKind.signed] at this
    omega
  refine ⟨(zs.take len).map Int.toNat, ?_, ?_⟩
  · have : lv ((zs.take len).map Int.toNat) = (zs.take len).map (Value.int .u32) := by
      unfold lv
      rw [List.map_map]
      refine List.map_congr_left fun n hn => ?_
      have := hb n hn
      simp; omega
    rw [this]; exact h1
  · intro n hn
    obtain ⟨m, hm, rfl⟩ := List.mem_map.1 hn
    have := hb m hm
    omega

theorem Nt.of_rd (h : Rd w B v (lv x)) : Nt w 0 B v x := by
  obtain ⟨A, c, rfl, hc, hm, hA0, hx⟩ := h
  rw [lv_length] at hc hx ⊢
  refine ⟨A, c, rfl, hc, hm, hA0, fun h0 => ?_⟩
  obtain ⟨b, off, hA, hb, hcell⟩ := hx h0
  exact ⟨b, off, hA, Nat.zero_le _, hb, fun j hj => hcell j _ (by rw [lv_at, List.getElem?_eq_getElem hj]; rfl)⟩

theorem names_show (w : World) : Calls Tryz.prog 65 #[.string ⟨#[115, 104, 111, 119]⟩] w fun e w' => e = .returned (.int .i64 1) ∧ w = w' := by
  go_enter Tryz.func65, Tryz.ntmps65
  go_wp2_with fail
  go_ret
  exact ⟨rfl, rfl⟩
end Go.Proofs.YtchokmhfgikglaaGreatDoor
namespace Go.Proofs.YtchokmhfgikglaaGreatDoor
set_option maxRecDepth 100000
open Go.RowKit Go.Shelf Go.Lib

theorem same_q (u v : Value) (q : Rat) (w : World) (h : RQ w 0 w.heap.size u q 400) (h' : RQ w 0 w.heap.size v q 400) :
    Calls Tryz.prog 25 #[u, v] w fun e w' => e = .returned (.bool true) ∧ Below w.heap.size w w' := by
  obtain ⟨s, n, d, hR, dn, dd, ln, ld, hq⟩ := h
  obtain ⟨t, m, c, hR', dm, dc, lm, lc, hq'⟩ := h'
  obtain ⟨a1, a2, a3⟩ := nr_q s (val n) (val d)
  obtain ⟨b1, b2, b3⟩ := nr_q t (val m) (val c)
  rw [hq] at a1 a2 a3
  rw [hq'] at b1 b2 b3
  exact same_any u v s t n d m c w dn dd dm dc hR hR' ln ld lm lc _ _ _ _ _ _ a1 a2 a3 b1 b2 b3 rfl rfl rfl

theorem six_after {w w' : World} {b c k : Nat} {a0 a1 a2 b0 b1 b2 : Value} (hs : w.cell? ⟨b, k, none⟩ = some a0 ∧ w.cell? ⟨b, k + 1, none⟩ = some a1 ∧ w.cell? ⟨b, k + 2, none⟩ = some a2 ∧ w.cell? ⟨c, k, none⟩ = some b0 ∧ w.cell? ⟨c, k + 1, none⟩ = some b1 ∧ w.cell? ⟨c, k + 2, none⟩ = some b2)
    (hb : Below w.heap.size w w') (h1 : b < w.heap.size) (h2 : c < w.heap.size) : w'.cell? ⟨b, k, none⟩ = some a0 ∧ w'.cell? ⟨b, k + 1, none⟩ = some a1 ∧ w'.cell? ⟨b, k + 2, none⟩ = some a2 ∧ w'.cell? ⟨c, k, none⟩ = some b0 ∧ w'.cell? ⟨c, k + 1, none⟩ = some b1 ∧ w'.cell? ⟨c, k + 2, none⟩ = some b2 := by
  obtain ⟨x0, x1, x2, y0, y1, y2⟩ := hs
  exact ⟨(hb.cell (p := ⟨b, k, none⟩) h1).trans x0, (hb.cell (p := ⟨b, k + 1, none⟩) h1).trans x1, (hb.cell (p := ⟨b, k + 2, none⟩) h1).trans x2, (hb.cell (p := ⟨c, k, none⟩) h2).trans y0, (hb.cell (p := ⟨c, k + 1, none⟩) h2).trans y1, (hb.cell (p := ⟨c, k + 2, none⟩) h2).trans y2⟩

set_option maxHeartbeats 3200000 in
theorem rats_any (u v : Value) (xs : List Rat) (w : World) (h : RowIn w 0 w.heap.size u xs) (h' : RowIn w 0 w.heap.size v xs) (hz : ∀ q ∈ xs, Sz q 70) :
    Calls Tryz.prog 12 #[u, v] w fun e w' => e = .returned (.bool true) ∧ Below w.heap.size w w' := by
  obtain ⟨A, c, rfl, hc, hm, hA0, hx⟩ := h
  obtain ⟨A', c', rfl, hc', hm', hA0', hx'⟩ := h'
  have HX := Lib.hid hx
  have HX' := Lib.hid hx'
  have HZ : Hid (∀ k (h : k < xs.length), Sz xs[k] 70) := fun k h => hz _ (List.getElem_mem h)
  unfold maxLen at hm hm'
  clear hx hx' hz
  have hne : ((xs.length : Int) != (xs.length : Int)) = false := bne_false rfl
  go_enter Tryz.func12, Tryz.ntmps12
  go_wp2_with fail
  go_loopw [5] (fun i wr => ∃ k : Nat, k ≤ xs.length ∧ i = .int .i64 (k : Int) ∧ Below w.heap.size w wr) (fun i _ => xs.length - (RowKit.intOf i).toNat)
  case atStart => exact ⟨0, Nat.zero_le _, rfl, Below.refl _ _⟩
  case round =>
    obtain ⟨k, hk, rfl, hB⟩ := hrel
    by_cases hkn : k < xs.length
    · have y0 : (k : Int) < (xs.length : Int) := by omega
      obtain ⟨b, rfl, hl, hb, hcell⟩ := HX.out (by omega)
      obtain ⟨b', rfl, hl', hb', hcell'⟩ := HX'.out (by omega)
      obtain ⟨G1, j1, G2, j2, c0, c1, c2, m1, m2⟩ := (hcell k hkn).stay (Nat.zero_le _) hb (Nat.le_refl _) hB.size (fun p _ hp => hB.cell (p := p) hp)
      obtain ⟨G3, j3, G4, j4, d0, d1, d2, m3, m4⟩ := (hcell' k hkn).stay (Nat.zero_le _) hb' (Nat.le_refl _) hB.size (fun p _ hp => hB.cell (p := p) hp)
      have hsz := (HZ.out k hkn).mono (show 70 ≤ 400 by decide)
      have HQ := Lib.hid (RQ.of (v := .agg #[.bool (qS xs[k]), .slice G1 (lim (qN xs[k])).length j1, .slice G2 (lim xs[k].den).length j2]) ⟨_, _, rfl, m1, m2⟩ hsz)
      have HQ' := Lib.hid (RQ.of (v := .agg #[.bool (qS xs[k]), .slice G3 (lim (qN xs[k])).length j3, .slice G4 (lim xs[k].den).length j4]) ⟨_, _, rfl, m3, m4⟩ hsz)
      clear hcell hcell' m1 m2 m3 m4 hl hl' hsz
      generalize xs[k] = q at *
      have z0 : (0 : Int) ≤ (k : Int) := by omega
      have hbs := Nat.lt_of_lt_of_le hb hB.size
      have hbs' := Nat.lt_of_lt_of_le hb' hB.size
      have HS0 : Hid (wr.cell? ⟨b, k * 3, none⟩ = some (.bool (qS q)) ∧ wr.cell? ⟨b, k * 3 + 1, none⟩ = some (.slice G1 (lim (qN q)).length j1) ∧ wr.cell? ⟨b, k * 3 + 2, none⟩ = some (.slice G2 (lim q.den).length j2) ∧ wr.cell? ⟨b', k * 3, none⟩ = some (.bool (qS q)) ∧ wr.cell? ⟨b', k * 3 + 1, none⟩ = some (.slice G3 (lim (qN q)).length j3) ∧ wr.cell? ⟨b', k * 3 + 2, none⟩ = some (.slice G4 (lim q.den).length j4)) := ⟨c0, c1, c2, d0, d1, d2⟩
      have HB := Lib.hid hB
      clear hB
      go_wp2_with fail
      go_region_held3 (fun W => W.cell? ⟨b, k * 3, none⟩ = some (.bool (qS q)) ∧ W.cell? ⟨b, k * 3 + 1, none⟩ = some (.slice G1 (lim (qN q)).length j1) ∧ W.cell? ⟨b, k * 3 + 2, none⟩ = some (.slice G2 (lim q.den).length j2) ∧ W.cell? ⟨b', k * 3, none⟩ = some (.bool (qS q)) ∧ W.cell? ⟨b', k * 3 + 1, none⟩ = some (.slice G3 (lim (qN q)).length j3) ∧ W.cell? ⟨b', k * 3 + 2, none⟩ = some (.slice G4 (lim q.den).length j4))
        (first | exact HS0.out | exact HS5.out | fail)
        (first
          | (go_at_call 25; go_fit (same_q _ _ q _ HQ.out.drew HQ'.out.drew); rintro e w5 ⟨rfl, hb5⟩; have hb6 : Below wr.heap.size wr w5 := Below.trans (Below.drew (Below.refl _ _)) hb5; have HS5 := Lib.hid (six_after HS0.out hb6 hbs hbs'); have HB5 := Lib.hid (HB.out.trans (hb6.mono HB.out.size)))
          | fail)
      go_wp2_with fail
      go_roundw
      case rel => exact ⟨k + 1, by omega, by go_num, HB5.out⟩
      case measure => simp [RowKit.intOf]; omega
    · obtain rfl : k = xs.length := by omega
      have y0 : ¬ ((xs.length : Nat) : Int) < (xs.length : Int) := by omega
      go_wp2_with fail
      go_ret
      exact ⟨rfl, hB⟩
end Go.Proofs.YtchokmhfgikglaaGreatDoor

namespace Go.Proofs.YtchokmhfgikglaaGreatDoor
set_option maxRecDepth 100000
open Go.RowKit Go.Shelf Go.Lib

theorem ownS_strs {w : World} {base : Nat} {v : Value} {ls : List (List Nat)} (h : OwnS w base v ls) : Strs w v ls := by
  rcases h.2 with ⟨rfl, h0⟩ | ⟨g, cap, cur, rfl, hg, hh, hnc, hcm, hcs, htk⟩
  · exact ⟨none, 0, by rw [h0], by omega, by decide, fun h => by omega⟩
  · refine ⟨_, cap, rfl, hnc, hcm, fun h0 => ⟨g, rfl, (Array.getElem?_eq_some_iff.1 hh).1, fun j hj => ?_⟩⟩
    have := World.ownsRow.cells h (g := g) rfl j (.string (strN ls[j])) (by rw [List.getElem?_map, List.getElem?_eq_getElem hj]; rfl)
    rw [Addr.add_lit, Nat.zero_add] at this
    exact this

end Go.Proofs.YtchokmhfgikglaaGreatDoor

namespace Go.Proofs.YtchokmhfgikglaaGreatDoor

theorem pq_isD (n : Nat) : ∀ x ∈ prn n, isD x = true := by
  intro x hx
  unfold prn at hx
  split at hx
  · simp at hx; subst hx; decide
  · unfold digs at hx
    rw [List.mem_reverse] at hx
    obtain ⟨y, hy, rfl⟩ := List.mem_map.1 hx
    have := dec_lt n y hy
    unfold isD
    exact decide_eq_true (by omega)

theorem pq_num (n : Nat) : numD (prn n) = n := by
  unfold numD prn
  split
  · rename_i h; rw [h]; rfl
  · unfold digs
    rw [List.map_reverse, List.map_map]
    have e : (dec n).map ((· - 48) ∘ (48 + ·)) = dec n := by
      conv => rhs; rw [← List.map_id (dec n)]
      exact List.map_congr_left fun x _ => by simp
    rw [e]
    exact undec_dec n

theorem pq_ne (n : Nat) : prn n ≠ [] := by
  unfold prn
  split
  · simp
  · rename_i h
    unfold digs
    rw [dec_pos h]
    simp

theorem pq_notD {x : Nat} (h : isD x = true) : x ≠ 10 ∧ x ≠ 32 ∧ x ≠ 35 ∧ x ≠ 44 ∧ x ≠ 45 ∧ x ≠ 46 ∧ x ≠ 47 ∧ x ≠ 101 := by
  unfold isD at h
  have := of_decide_eq_true h
  omega

theorem pq_tw {p : Nat → Bool} {a b : List Nat} {c : Nat} (ha : ∀ x ∈ a, p x = true) (hc : p c = false) : (a ++ c :: b).takeWhile p = a ∧ (a ++ c :: b).dropWhile p = c :: b := by
  refine ⟨?_, ?_⟩
  · rw [List.takeWhile_append_of_pos ha, List.takeWhile_cons, if_neg (by rw [hc]; simp), List.append_nil]
  · rw [List.dropWhile_append_of_pos ha, List.dropWhile_cons, if_neg (by rw [hc]; simp)]
theorem pq_full {p : Nat → Bool} {a : List Nat} (ha : ∀ x ∈ a, p x = true) : a.takeWhile p = a ∧ a.dropWhile p = [] := by
  have h1 := List.takeWhile_append_of_pos (l₂ := []) ha
  have h2 := List.dropWhile_append_of_pos (l₂ := []) ha
  simp only [List.append_nil] at h1 h2
  exact ⟨by rw [h1]; simp, by rw [h2]; rfl⟩

/-- What a rational's text is made of. -/
theorem prQ_mem (q : Rat) : ∀ x ∈ prQ q, isD x = true ∨ x = 45 ∨ x = 47 := by
  intro x hx
  unfold prQ at hx
  rcases List.mem_append.1 hx with hx | hx
  · rcases List.mem_append.1 hx with hx | hx
    · unfold sgn at hx
      split at hx
      · simp at hx; exact Or.inr (Or.inl hx)
      · cases hx
    · exact Or.inl (pq_isD _ _ hx)
  · split at hx
    · cases hx
    · rcases List.mem_cons.1 hx with rfl | hx
      · exact Or.inr (Or.inr rfl)
      · exact Or.inl (pq_isD _ _ hx)
theorem prQ_no (q : Rat) : ∀ x ∈ prQ q, x ≠ 10 ∧ x ≠ 32 ∧ x ≠ 35 ∧ x ≠ 44 ∧ x ≠ 101 ∧ x < 128 := by
  intro x hx
  rcases prQ_mem q x hx with h | rfl | rfl
  · have := pq_notD h
    unfold isD at h
    have := of_decide_eq_true h
    omega
  · decide
  · decide
theorem prQ_ne (q : Rat) : prQ q ≠ [] := by
  intro h
  have := congrArg List.length h
  unfold prQ at this
  simp only [List.length_append, List.length_nil] at this
  have h2 : (prn (qN q)).length ≠ 0 := fun h => pq_ne _ (List.eq_nil_of_length_eq_zero h)
  omega

theorem strp_sgn (s : Bool) (x : Nat) (r : List Nat) (hx : isD x = true) : strp (sgn s ++ x :: r) = (s, x :: r) := by
  cases s
  · show strp (x :: r) = _
    unfold strp
    simp only
    rw [if_neg (pq_notD hx).2.2.2.2.1]
  · rfl

/-- It is read back. -/
theorem wayB_prQ (q : Rat) : wayB (strp (prQ q)).1 (strp (prQ q)).2 = some (qS q, qN q, q.den) := by
  obtain ⟨x, a, he⟩ := List.exists_cons_of_ne_nil (pq_ne (qN q))
  have ha : ∀ y ∈ x :: a, isD y = true := fun y hy => pq_isD (qN q) y (he ▸ hy)
  have hn : numD (x :: a) = qN q := by rw [← he]; exact pq_num _
  have d47 : isD 47 = false := by decide
  unfold prQ
  rw [he]
  by_cases hd : q.den = 1
  · rw [if_pos hd, List.append_nil, strp_sgn _ _ _ (ha x (by simp)), hd]
    obtain ⟨t1, t2⟩ := pq_full ha
    have := wb_whole (neg := qS q) (r := x :: a) (by rw [t1]; simp) t2
    rw [t1, hn] at this
    exact this
  · rw [if_neg hd, List.append_assoc, List.cons_append, strp_sgn _ _ _ (ha x (by simp))]
    obtain ⟨t1, t2⟩ := pq_tw (b := prn q.den) ha d47
    rw [List.cons_append] at t1 t2
    obtain ⟨t3, t4⟩ := pq_full (pq_isD q.den)
    have hpos : 0 < (prn q.den).length := List.length_pos_iff.2 (pq_ne _)
    have := wb_div (neg := qS q) (r := x :: (a ++ 47 :: prn q.den)) (t := prn q.den) (by rw [t1]; simp) t2 (by rw [t3]; omega) (by rw [t3]) (by rw [pq_num]; exact q.den_nz)
    rw [t1, hn, pq_num] at this
    exact this

/-- A word that a number is told by. -/
theorem numV_prQ (q : Rat) (h : (prQ q).length ≤ 60) : numV (prQ q) = (q, 0) := by
  unfold numV
  rw [if_neg (by omega), if_neg (fun hm => (prQ_no q _ hm).2.2.2.2.1 rfl), wayB_prQ]
  show (qv (qS q) (qN q) q.den, 0) = (q, 0)
  rw [qv_self]

/-- Words with blanks between them. -/
def jnS : List (List Nat) → List Nat
  | [] => []
  | [a] => a
  | a :: b :: r => a ++ 32 :: jnS (b :: r)

theorem wordsA_pre (a b cur : List Nat) (ha : ∀ x ∈ a, isG x = false) : wordsA cur (a ++ b) = wordsA (cur ++ a) b := by
  induction a generalizing cur with
  | nil => simp
  | cons x a ih =>
    rw [List.cons_append, wordsA_more (ha x (by simp)), ih _ fun y hy => ha y (by simp [hy])]
    simp

theorem words_jnS (ls : List (List Nat)) (h : ∀ a ∈ ls, a ≠ [] ∧ ∀ x ∈ a, isG x = false) : wordsA [] (jnS ls) = ls := by
  induction ls with
  | nil => rfl
  | cons a r ih =>
    obtain ⟨h1, h2⟩ := h a (by simp)
    have hr := ih fun b hb => h b (by simp [hb])
    cases r with
    | nil =>
      have := wordsA_pre a [] [] h2
      rw [List.append_nil, List.nil_append, wordsA_end h1] at this
      exact this
    | cons b r =>
      show wordsA [] (a ++ 32 :: jnS (b :: r)) = _
      rw [wordsA_pre a _ [] h2, List.nil_append, wordsA_stop h1 (by decide), hr]

theorem plain_id (l : List Nat) (h : 35 ∉ l) : plainG false l = l := by
  induction l with
  | nil => rfl
  | cons c r ih =>
    have hr := ih fun hc => h (List.mem_cons_of_mem _ hc)
    by_cases h10 : c = 10
    · subst h10; rw [plainG_nl, hr]
    · rw [plainG_off h10 (fun e => h (by rw [e]; simp)), hr]

theorem mem_jnS {x : Nat} (ls : List (List Nat)) (h : x ∈ jnS ls) : x = 32 ∨ ∃ a ∈ ls, x ∈ a := by
  induction ls with
  | nil => cases h
  | cons a r ih =>
    cases r with
    | nil => exact Or.inr ⟨a, by simp, h⟩
    | cons b r =>
      have h' : x ∈ a ++ 32 :: jnS (b :: r) := h
      rcases List.mem_append.1 h' with h1 | h1
      · exact Or.inr ⟨a, by simp, h1⟩
      · rcases List.mem_cons.1 h1 with h2 | h2
        · exact Or.inl h2
        · rcases ih h2 with h3 | ⟨c, h3, h4⟩
          · exact Or.inl h3
          · exact Or.inr ⟨c, List.mem_cons_of_mem _ h3, h4⟩

theorem jnS_len (ls : List (List Nat)) (m : Nat) (h : ∀ a ∈ ls, a.length ≤ m) : (jnS ls).length ≤ ls.length * (m + 1) := by
  induction ls with
  | nil => simp [jnS]
  | cons a r ih =>
    have ha := h a (by simp)
    have hr := ih fun b hb => h b (by simp [hb])
    cases r with
    | nil => simp only [jnS, List.length_cons, List.length_nil]; omega
    | cons b r =>
      show (a ++ 32 :: jnS (b :: r)).length ≤ _
      rw [List.length_append, List.length_cons, List.length_cons (a := a), Nat.succ_mul]
      omega

theorem rowV_prQ (xs : List Rat) (h : ∀ q ∈ xs, (prQ q).length ≤ 60) : rowV (xs.map prQ) = (0, xs) := by
  induction xs with
  | nil => rfl
  | cons q r ih =>
    have hq := numV_prQ q (h q (by simp))
    rw [List.map_cons, rowV_good (by rw [hq]), hq, ih fun p hp => h p (by simp [hp])]

/-- A row's text. -/
def rowT (xs : List Rat) : List Nat := jnS (xs.map prQ)

theorem rowT_no (xs : List Rat) : ∀ x ∈ rowT xs, x ≠ 10 ∧ x ≠ 35 ∧ x < 128 := by
  intro x hx
  rcases mem_jnS _ hx with rfl | ⟨a, ha, h⟩
  · decide
  · obtain ⟨q, _, rfl⟩ := List.mem_map.1 ha
    have := prQ_no q x h
    omega

theorem rowT_words (xs : List Rat) : wordsA [] (rowT xs) = xs.map prQ := words_jnS _ fun a ha => by
  obtain ⟨q, _, rfl⟩ := List.mem_map.1 ha
  refine ⟨prQ_ne q, fun x hx => ?_⟩
  have := prQ_no q x hx
  unfold isG
  simp
  omega

/-- It is read back as the row, with a blank ahead or without. -/
theorem textV_rowT (xs : List Rat) (h : ∀ q ∈ xs, (prQ q).length ≤ 60) : textV (rowT xs) = (0, xs) := by
  unfold textV wordsG
  rw [plain_id _ (fun hc => (rowT_no xs _ hc).2.1 rfl), rowT_words, rowV_prQ xs h]
theorem textV_rowT' (xs : List Rat) (h : ∀ q ∈ xs, (prQ q).length ≤ 60) : textV (32 :: rowT xs) = (0, xs) := by
  unfold textV wordsG
  rw [plainG_off (by decide) (by decide), plain_id _ (fun hc => (rowT_no xs _ hc).2.1 rfl), wordsA_gap (by decide), rowT_words, rowV_prQ xs h]

theorem prQ_len {q : Rat} {k : Nat} (h1 : (lim (qN q)).length ≤ k) (h2 : (lim q.den).length ≤ k) : (prQ q).length ≤ 20 * k + 4 := by
  have a := prn_len_of h1
  have b := prn_len_of h2
  have c := sgn_len (qS q)
  unfold prQ
  simp only [List.length_append]
  split <;> simp only [List.length_nil, List.length_cons] <;> omega

theorem rowT_len (xs : List Rat) (h : ∀ q ∈ xs, (lim (qN q)).length ≤ 1 ∧ (lim q.den).length ≤ 1) : (rowT xs).length ≤ xs.length * 25 := by
  have := jnS_len (xs.map prQ) 24 fun a ha => by
    obtain ⟨q, hq, rfl⟩ := List.mem_map.1 ha
    exact prQ_len (h q hq).1 (h q hq).2
  rw [List.length_map] at this
  exact this
end Go.Proofs.YtchokmhfgikglaaGreatDoor

namespace Go.Proofs.YtchokmhfgikglaaGreatDoor
set_option maxRecDepth 100000
open Go.RowKit Go.Shelf Go.Lib

theorem span_step (l : List Nat) (hl : Byt l) (f pos : Nat) (st : Option Nat) (acc : List (Nat × Nat)) (h : pos < l.length) (ha : l[pos] < 128) :
    Lib.spansFromP isSp (strN l) (f + 1) pos st acc = if l[pos] = 32 then (match st with
      | some a => Lib.spansFromP isSp (strN l) f (pos + 1) none (acc ++ [(a, pos)])
      | none => Lib.spansFromP isSp (strN l) f (pos + 1) none acc) else (match st with
      | some a => Lib.spansFromP isSp (strN l) f (pos + 1) (some a) acc
      | none => Lib.spansFromP isSp (strN l) f (pos + 1) (some pos) acc) := by
  have hs : pos < (strN l).size := by rw [strN_size]; exact h
  have hg := strN_get l hl pos hs h
  have hd := decode_ascii (strN l) pos hs (by rw [hg]; exact ha)
  rw [hg] at hd
  rw [Lib.spansFromP.eq_def]
  simp only [hs, if_true, hd]
  unfold isSp
  simp only [decide_eq_true_eq]
  cases st <;> rfl

theorem spans_ext (p : Nat → Bool) (s : ByteArray) : ∀ (f pos : Nat) (st : Option Nat) (acc : List (Nat × Nat)), ∃ more, (Lib.spansFromP p s f pos st acc).1 = acc ++ more ∧ more.length ≤ f
  | 0, pos, st, acc => ⟨[], by simp [Lib.spansFromP], Nat.le_refl _⟩
  | f + 1, pos, st, acc => by
    rw [Lib.spansFromP.eq_def]
    simp only
    split
    · split
      · cases st with
        | some a =>
          obtain ⟨m, h1, h2⟩ := spans_ext p s f (pos + (Utf8.decode s pos).2) none (acc ++ [(a, pos)])
          exact ⟨(a, pos) :: m, by rw [h1]; simp, by simp only [List.length_cons]; omega⟩
        | none =>
          obtain ⟨m, h1, h2⟩ := spans_ext p s f (pos + (Utf8.decode s pos).2) none acc
          exact ⟨m, h1, by omega⟩
      · cases st with
        | some a =>
          obtain ⟨m, h1, h2⟩ := spans_ext p s f (pos + (Utf8.decode s pos).2) (some a) acc
          exact ⟨m, h1, by omega⟩
        | none =>
          obtain ⟨m, h1, h2⟩ := spans_ext p s f (pos + (Utf8.decode s pos).2) (some pos) acc
          exact ⟨m, h1, by omega⟩
    · exact ⟨[], by simp, Nat.zero_le _⟩

theorem close_ext (s : ByteArray) (x : List (Nat × Nat) × Option Nat) : ∃ more, Lib.closeSpans s x = x.1 ++ more ∧ more.length ≤ 1 := by
  unfold Lib.closeSpans
  split
  · exact ⟨_, rfl, Nat.le_refl _⟩
  · exact ⟨[], by simp, Nat.zero_le _⟩

/-- The line that lays a row. -/
def lnL (c : Nat) (t : List Nat) : List Nat := 108 :: 101 :: 116 :: 32 :: c :: 32 :: 61 :: 32 :: t
/-- The line that shows it. -/
def lnS (c : Nat) : List Nat := [115, 104, 111, 119, 32, c]

theorem fields_let (c : Nat) (t : List Nat) (hl : Byt (lnL c t)) (hc : c < 128) (hc2 : c ≠ 32) : ∃ rest, Lib.goFieldsP isSp (strN (lnL c t)) = ⟨#[108, 101, 116]⟩ :: strN [c] :: ⟨#[61]⟩ :: rest ∧ rest.length ≤ t.length + 1 := by
  have e : Lib.spansFromP isSp (strN (lnL c t)) (t.length + 8) 0 none [] = Lib.spansFromP isSp (strN (lnL c t)) t.length 8 none [(0, 3), (4, 5), (6, 7)] := by
    have hn : (lnL c t).length = t.length + 8 := rfl
    rw [span_step _ hl (t.length + 7) 0 _ _ (by omega) (by show (108 : Nat) < 128; omega), if_neg (by show ¬ (108 : Nat) = 32; omega)]
    simp only
    rw [span_step _ hl (t.length + 6) 1 _ _ (by omega) (by show (101 : Nat) < 128; omega), if_neg (by show ¬ (101 : Nat) = 32; omega)]
    simp only
    rw [span_step _ hl (t.length + 5) 2 _ _ (by omega) (by show (116 : Nat) < 128; omega), if_neg (by show ¬ (116 : Nat) = 32; omega)]
    simp only
    rw [span_step _ hl (t.length + 4) 3 _ _ (by omega) (by show (32 : Nat) < 128; omega), if_pos (by show (32 : Nat) = 32; rfl)]
    simp only
    rw [span_step _ hl (t.length + 3) 4 _ _ (by omega) (by show c < 128; omega), if_neg (by show ¬ c = 32; omega)]
    simp only
    rw [span_step _ hl (t.length + 2) 5 _ _ (by omega) (by show (32 : Nat) < 128; omega), if_pos (by show (32 : Nat) = 32; rfl)]
    simp only
    rw [span_step _ hl (t.length + 1) 6 _ _ (by omega) (by show (61 : Nat) < 128; omega), if_neg (by show ¬ (61 : Nat) = 32; omega)]
    simp only
    rw [span_step _ hl t.length 7 _ _ (by omega) (by show (32 : Nat) < 128; omega), if_pos (by show (32 : Nat) = 32; rfl)]
    rfl
  obtain ⟨m1, h1, h2⟩ := spans_ext isSp (strN (lnL c t)) t.length 8 none [(0, 3), (4, 5), (6, 7)]
  obtain ⟨m2, h3, h4⟩ := close_ext (strN (lnL c t)) (Lib.spansFromP isSp (strN (lnL c t)) t.length 8 none [(0, 3), (4, 5), (6, 7)])
  refine ⟨(m1 ++ m2).map fun x => (strN (lnL c t)).extract x.1 x.2, ?_, by rw [List.length_map, List.length_append]; omega⟩
  unfold Lib.goFieldsP Lib.spansOfP
  rw [strN_size, show (lnL c t).length = t.length + 8 from rfl, e, h3, h1, List.append_assoc, List.map_append]
  have x1 : (strN (lnL c t)).extract 0 3 = ⟨#[108, 101, 116]⟩ := by rw [strN_mid]; rfl
  have x2 : (strN (lnL c t)).extract 4 5 = strN [c] := by rw [strN_mid]; rfl
  have x3 : (strN (lnL c t)).extract 6 7 = ⟨#[61]⟩ := by rw [strN_mid]; rfl
  simp only [List.map_cons, List.map_nil, x1, x2, x3]
  rfl

theorem aft_of (s x : List UInt8) (n : Nat) (h : Lib.index s x = (n : Int)) : aft ⟨s.toArray⟩ ⟨x.toArray⟩ = ⟨(s.drop (n + x.length)).toArray⟩ := by
  unfold aft Lib.cut
  simp only [h]
  rw [if_pos (by omega)]
  simp

theorem aft_let (c : Nat) (hc : c = 97 ∨ c = 98) (t : List Nat) : aft (aft (aft (strN (lnL c t)) ⟨#[108, 101, 116]⟩) (strN [c])) ⟨#[61]⟩ = strN (32 :: t) ∧ (aft (strN (lnL c t)) ⟨#[108, 101, 116]⟩).size = t.length + 5 ∧ (aft (aft (strN (lnL c t)) ⟨#[108, 101, 116]⟩) (strN [c])).size = t.length + 3 := by
  have h1 : aft (strN (lnL c t)) ⟨#[108, 101, 116]⟩ = strN (32 :: c :: 32 :: 61 :: 32 :: t) := by
    refine (aft_of (u8 (lnL c t)) [108, 101, 116] 0 ?_).trans rfl
    show Lib.index (108 :: 101 :: 116 :: _) [108, 101, 116] = 0
    rw [Lib.index, if_pos]
    simp [List.isPrefixOf]
  have h2 : aft (strN (32 :: c :: 32 :: 61 :: 32 :: t)) (strN [c]) = strN (32 :: 61 :: 32 :: t) := by
    refine (aft_of (u8 (32 :: c :: 32 :: 61 :: 32 :: t)) (u8 [c]) 1 ?_).trans rfl
    show Lib.index (32 :: UInt8.ofNat c :: _) [UInt8.ofNat c] = 1
    rcases hc with rfl | rfl <;> simp [Lib.index, List.isPrefixOf]
  have h3 : aft (strN (32 :: 61 :: 32 :: t)) ⟨#[61]⟩ = strN (32 :: t) := by
    refine (aft_of (u8 (32 :: 61 :: 32 :: t)) [61] 1 ?_).trans rfl
    show Lib.index (32 :: 61 :: _) [61] = 1
    simp [Lib.index, List.isPrefixOf]
  rw [h1, h2, h3]
  exact ⟨rfl, by rw [strN_size]; rfl, by rw [strN_size]; rfl⟩

theorem fields_show (c : Nat) (hc : c = 97 ∨ c = 98) : Lib.goFieldsP isSp (strN (lnS c)) = [⟨#[115, 104, 111, 119]⟩, strN [c]] := by
  rcases hc with rfl | rfl <;> decide +kernel

/-- What laying answers. -/
theorem let_a (xs : List Rat) (h : ∀ q ∈ xs, (prQ q).length ≤ 60) : letE [] [97] (32 :: rowT xs) = 0 ∧ letN [] [97] (32 :: rowT xs) = [[97]] ∧ letR [] [] [97] (32 :: rowT xs) = [xs] := by
  have ht := textV_rowT' xs h
  have he : letE [] [97] (32 :: rowT xs) = 0 := by
    unfold letE
    rw [ht, if_neg (by decide), if_neg (by simp), if_neg (by decide)]
  refine ⟨he, ?_, ?_⟩
  · unfold letN; rw [if_pos he]; decide
  · unfold letR; rw [if_pos he, ht]; rfl
theorem let_b (xs : List Rat) (h : ∀ q ∈ xs, (prQ q).length ≤ 60) : letE [[97]] [98] (32 :: rowT xs) = 0 ∧ letN [[97]] [98] (32 :: rowT xs) = [[97], [98]] ∧ letR [[97]] [xs] [98] (32 :: rowT xs) = [xs, xs] := by
  have ht := textV_rowT' xs h
  have he : letE [[97]] [98] (32 :: rowT xs) = 0 := by
    unfold letE
    rw [ht, if_neg (by decide), if_neg (by simp), if_neg (by decide)]
  refine ⟨he, ?_, ?_⟩
  · unfold letN; rw [if_pos he]; decide
  · unfold letR; rw [if_pos he, ht]; rfl
end Go.Proofs.YtchokmhfgikglaaGreatDoor

namespace Go.Proofs.YtchokmhfgikglaaGreatDoor
set_option maxRecDepth 100000
open Go.RowKit Go.Shelf Go.Lib

/-- A row of rationals anywhere: of a caller's, or of a call's own. -/
def RowX (w : World) (v : Value) (xs : List Rat) (k : Nat) : Prop :=
  ∃ A c, v = .slice A xs.length c ∧ xs.length ≤ c ∧ c ≤ maxLen ∧ (0 < xs.length → ∃ b off, A = some ⟨b, off, none⟩ ∧ b < w.heap.size ∧ ∀ j (h : j < xs.length), ∃ s F1 n1 c1 F2 n2 c2,
    w.cell? ⟨b, off + j * 3, none⟩ = some (.bool s) ∧ w.cell? ⟨b, off + j * 3 + 1, none⟩ = some (.slice F1 n1 c1) ∧ w.cell? ⟨b, off + j * 3 + 2, none⟩ = some (.slice F2 n2 c2) ∧
    RQ w 0 w.heap.size (.agg #[.bool s, .slice F1 n1 c1, .slice F2 n2 c2]) xs[j] k)
theorem RowX.after {w w' : World} {v : Value} {xs : List Rat} {k : Nat} (h : RowX w v xs k) (hb : Below w.heap.size w w') : RowX w' v xs k := by
  obtain ⟨A, c, rfl, hc, hm, hx⟩ := h
  refine ⟨A, c, rfl, hc, hm, fun h0 => ?_⟩
  obtain ⟨b, off, hA, hb', hcell⟩ := hx h0
  refine ⟨b, off, hA, Nat.lt_of_lt_of_le hb' hb.size, fun j hj => ?_⟩
  obtain ⟨s, F1, n1, c1, F2, n2, c2, e0, e1, e2, hq⟩ := hcell j hj
  exact ⟨s, F1, n1, c1, F2, n2, c2, (hb.cell (p := ⟨b, off + j * 3, none⟩) hb').trans e0, (hb.cell (p := ⟨b, off + j * 3 + 1, none⟩) hb').trans e1, (hb.cell (p := ⟨b, off + j * 3 + 2, none⟩) hb').trans e2, hq.after hb⟩
theorem RowX.of_in {w : World} {v : Value} {xs : List Rat} {k : Nat} (h : RowIn w 0 w.heap.size v xs) (hz : ∀ q ∈ xs, Sz q k) : RowX w v xs k := by
  obtain ⟨A, c, rfl, hc, hm, hA0, hx⟩ := h
  refine ⟨A, c, rfl, hc, hm, fun h0 => ?_⟩
  obtain ⟨b, hA, hl, hb, hcell⟩ := hx h0
  refine ⟨b, 0, hA, hb, fun j hj => ?_⟩
  obtain ⟨F1, l1, F2, l2, c0, c1, c2, n1, n2⟩ := hcell j hj
  rw [Nat.zero_add]
  exact ⟨_, F1, _, l1, F2, _, l2, c0, c1, c2, RQ.of ⟨_, _, rfl, n1, n2⟩ (hz _ (List.getElem_mem hj))⟩

theorem joinTail_sp (xs : List (List Nat)) : joinTail [32] (xs.map u8) = u8 ((xs.map (32 :: ·)).flatten) := by
  unfold joinTail
  induction xs with
  | nil => rfl
  | cons a t ih =>
    simp only [List.map_cons, List.flatten_cons] at ih ⊢
    rw [ih, u8_append]
    rfl

theorem jnS_eq (x : List Nat) (xs : List (List Nat)) : jnS (x :: xs) = x ++ (xs.map (32 :: ·)).flatten := by
  induction xs generalizing x with
  | nil => show x = _; simp
  | cons y r ih =>
    show x ++ 32 :: jnS (y :: r) = _
    rw [ih y]
    simp

/-- 'Join' by blanks, as the shelf says it. -/
theorem join_blanks (ls : List (List Nat)) (h : ls ≠ []) : (⟨(Lib.join ((ls.map strN).map (·.data.toList)) (ByteArray.mk #[32]).data.toList).toArray⟩ : ByteArray) = strN (jnS ls) := by
  cases ls with
  | nil => exact absurd rfl h
  | cons a t =>
    have e1 : ((a :: t).map strN).map (·.data.toList) = u8 a :: t.map u8 := by
      simp only [List.map_cons, List.map_map]
      rw [u8_data a]
      exact congrArg (u8 a :: ·) (List.map_congr_left fun x _ => u8_data x)
    rw [e1, join_cons]
    have e2 : (ByteArray.mk #[32]).data.toList = [32] := rfl
    rw [e2, joinTail_sp, ← u8_append, strN_u8, jnS_eq]

/-- Words of a call's own, joined by blanks. -/
theorem joinS_any (base : Nat) (v : Value) (ls : List (List Nat)) (w : World) (h : OwnS w base v ls) (hl : ls.length ≤ 1000000) (hj : (jnS ls).length ≤ 1000000) :
    Calls Tryz.prog 27 #[v, .string ⟨#[32]⟩] w fun e w' => e = .returned (.string (strN (jnS ls))) ∧ Below w.heap.size w w' := by
  obtain ⟨A, c, rfl, hc, hm, hx⟩ := ownS_strs h
  by_cases h0 : ls = []
  · subst h0
    exact (Any.strings_Join_none Tryz.lays156 Tryz.Builder_Extra_156 A c ⟨#[32]⟩ w).mono fun e w' ⟨h1, h2⟩ => ⟨h1, h2 ▸ Below.refl _ _⟩
  · obtain ⟨g, rfl, hg, hcell⟩ := hx (List.length_pos_iff.2 h0)
    have hJ := join_blanks ls h0
    have hlen : (Lib.join ((ls.map strN).map (·.data.toList)) (ByteArray.mk #[32]).data.toList).length = (jnS ls).length := by
      have := congrArg ByteArray.size hJ
      rw [strN_size] at this
      rw [← this]
      simp [ByteArray.size]
    have h := Any.strings_Join Tryz.lays156 Tryz.Builder_Extra_156 g 0 c (ls.map strN) ⟨#[32]⟩ w (fun j x hj => by
      rw [List.getElem?_map] at hj
      rw [Nat.zero_add]
      cases he : ls[j]? with
      | none => rw [he] at hj; cases hj
      | some n =>
        rw [he] at hj
        obtain ⟨h1, h2⟩ := List.getElem?_eq_some_iff.1 he
        have := hcell j h1
        rw [h2] at this
        rw [this]
        exact congrArg (fun z => some (Value.string z)) (Option.some.inj hj)) hg (by rw [List.length_map]; omega) (by rw [List.length_map]; exact hc) (by rw [hlen]; omega)
    rw [hJ, List.length_map] at h
    exact h

theorem rowT_len80 (xs : List Rat) (h : ∀ q ∈ xs, Sz q 80) : (rowT xs).length ≤ xs.length * 1605 := by
  have := jnS_len (xs.map prQ) 1604 fun a ha => by
    obtain ⟨q, hq, rfl⟩ := List.mem_map.1 ha
    exact prQ_len (h q hq).1 (h q hq).2
  rw [List.length_map] at this
  exact this

set_option maxHeartbeats 6400000 in
theorem dataPrint_q (v : Value) (xs : List Rat) (w : World) (h : RowX w v xs 80) (hl : xs.length ≤ 500) :
    Calls Tryz.prog 15 #[v] w fun e w' => e = .returned (.string (strN (rowT xs))) ∧ Below w.heap.size w w' := by
  have HXA : Hid (∀ W, Below w.heap.size w W → RowX W v xs 80) := fun W hb => h.after hb
  have hz : ∀ q ∈ xs, Sz q 80 := fun q hq => by
    obtain ⟨A, c, rfl, hc, hm, hx⟩ := h
    obtain ⟨j, hj, rfl⟩ := List.getElem_of_mem hq
    obtain ⟨b, off, hA, hb', hcell⟩ := hx (by omega)
    obtain ⟨s, F1, n1, c1, F2, n2, c2, e0, e1, e2, hq⟩ := hcell j hj
    exact hq.sz (by omega)
  have hrl := rowT_len80 xs hz
  have HPR : Hid (∀ W v q, RQ W 0 W.heap.size v q 80 → Calls Tryz.prog 26 #[v] W fun e w' => e = .returned (.string (strN (prQ q))) ∧ Below W.heap.size W w') := fun W v q h => decPrint_q v q W h
  have HJN : Hid (∀ W v, OwnS W w.heap.size v (xs.map prQ) → Calls Tryz.prog 27 #[v, .string ⟨#[32]⟩] W fun e w' => e = .returned (.string (strN (rowT xs))) ∧ Below W.heap.size W w') := fun W v h =>
    joinS_any w.heap.size v (xs.map prQ) W h (by rw [List.length_map]; omega) (by show (rowT xs).length ≤ _; omega)
  obtain ⟨i0, hi, hz0, hz1, hz2⟩ := info_parts Tryz.infoStr
  obtain ⟨A, c, rfl, hc, hm, hx⟩ := h
  unfold maxLen at hm
  clear hx hz hrl
  generalize strN (rowT xs) = T at *
  go_enter Tryz.func15, Tryz.ntmps15
  go_wp2_with fail
  go_loopw [3, 8] (fun v i wr => ∃ k : Nat, k ≤ xs.length ∧ i = .int .i64 (k : Int) ∧ OwnS wr w.heap.size v ((xs.map prQ).take k) ∧ Below w.heap.size w wr) (fun _ i _ => xs.length - (RowKit.intOf i).toNat)
  case atStart => exact ⟨0, Nat.zero_le _, rfl, World.ownsRow_nil _ _ _ _, Below.refl _ _⟩
  case round =>
    obtain ⟨k, hk, rfl, hown, hB⟩ := hrel
    by_cases hkn : k < xs.length
    · have y0 : (k : Int) < (xs.length : Int) := by omega
      obtain ⟨A', c', e', _, _, hx⟩ := HXA.out _ hB
      obtain ⟨rfl, _, rfl⟩ := Value.slice.inj e'
      obtain ⟨b, off, rfl, hb, hcell⟩ := hx (by omega)
      obtain ⟨s, F1, n1, c1, F2, n2, c2, x0, x1, x2, hq⟩ := hcell k hkn
      have HST : Hid ((xs.map prQ).take k ++ [prQ xs[k]] = (xs.map prQ).take (k + 1)) := by
        have := take_snoc' (xs.map prQ) k (by rw [List.length_map]; exact hkn)
        rw [List.getElem_map] at this
        exact this
      have HLEN : Hid (((xs.map prQ).take k).length ≤ 1000000) := by show _ ≤ _; rw [List.length_take, List.length_map]; omega
      generalize xs[k] = q at *
      have hal : Below wr.heap.size wr (wr.alloc (.cells #[.bool s, .slice F1 n1 c1, .slice F2 n2 c2] 60)) := (Below.refl _ _).alloc (Nat.le_refl _) _
      have b4 := Blk.new wr 60 #[.bool s, .slice F1 n1 c1, .slice F2 n2 c2]
      have z0 := b4.cell 0
      have z1 := b4.cell 1
      have z2 := b4.cell 2
      have HQ := Lib.hid (hq.after hal)
      have HB := Lib.hid (hB.trans (hal.mono hB.size))
      have HOW := Lib.hid (show OwnS _ _ _ _ from own_keep hown fun g hg => hal.block g (own_lt hown g hg).2)
      clear hcell hq hB hown b4 hal hx e'
      go_wp2_with fail
      generalize wr.alloc (.cells #[.bool s, .slice F1 n1 c1, .slice F2 n2 c2] 60) = w4 at *
      go_fit (HPR.out _ _ _ HQ.out)
      rintro e w5 ⟨rfl, hb5⟩
      have hB5 := HB.out.trans (hb5.mono HB.out.size)
      have HB5 := Lib.hid hB5
      have HBS := Lib.hid hB5.size
      have HO5 : Hid (OwnS w5 w.heap.size u3 ((xs.map prQ).take k)) := own_keep HOW.out fun g hg => hb5.block g (own_lt HOW.out g hg).2
      clear hb5 hB5 HOW HQ HB z0 z1 z2
      go_wp2_with (at_builtin; refine wpList_append_str rfl _ _ 22 rfl w.heap.size i0 Tryz.underlying22 hi hz0 hz1 hz2 u3 ((xs.map prQ).take k) rfl HO5.out (prQ q) rfl HLEN.out HBS.out ?_)
      intro v7 w7 ho7 hb7
      rw [HST.out] at ho7
      have hB7 := HB5.out.trans hb7
      clear HO5 HB5 HBS hb7
      go_wp2_with fail
      go_roundw
      case rel => exact ⟨k + 1, by omega, by go_num, ho7, hB7⟩
      case measure => simp [RowKit.intOf]; omega
    · obtain rfl : k = xs.length := by omega
      have y0 : ¬ ((xs.length : Nat) : Int) < (xs.length : Int) := by omega
      rw [List.take_of_length_le (by rw [List.length_map]; exact Nat.le_refl _)] at hown
      have HOW := Lib.hid hown
      have HBE := Lib.hid hB
      clear hown HXA hB
      go_wp2_with fail
      go_fit (HJN.out _ _ HOW.out)
      rintro e w7 ⟨rfl, hb7⟩
      have HB7 := Lib.hid (HBE.out.trans (hb7.mono HBE.out.size))
      clear hb7
      go_wp2_with fail
      go_ret
      exact ⟨rfl, HB7.out⟩
end Go.Proofs.YtchokmhfgikglaaGreatDoor

namespace Go.Proofs.YtchokmhfgikglaaGreatDoor
set_option maxRecDepth 100000
open Go.RowKit Go.Shelf Go.Lib

set_option maxHeartbeats 6400000 in
theorem row_show (p : Nat) (D : Nat → Prop) (ns : List (List Nat)) (rs : List (List Rat)) (n : List Nat) (r : List Rat) (g : Nat) (w : World) (h : SessPr w p D ns rs) (hp : PureS ns rs) (hnb : Byt n)
    (hg0 : w.cell? ⟨g, 0, none⟩ = some (.string ⟨#[115, 104, 111, 119]⟩)) (hg1 : w.cell? ⟨g, 1, none⟩ = some (.string (strN n))) (hgl : g < w.heap.size) (hh : hasG ns n = true) (hr : rs[atG ns n]? = some r)
    (hz : ∀ q ∈ r, Sz q 80) (hl : r.length ≤ 500) :
    Calls Tryz.prog 66 #[.agg #[.pointer (some ⟨p, 0, none⟩)], .slice (some ⟨g, 0, none⟩) 2 2] w fun e w' => e = .returned (.string (strN (rowT r))) ∧ Below w.heap.size w w' := by
  have HROWS : Hid (∀ W, Below w.heap.size w W → Calls Tryz.prog 126 #[.agg #[.pointer (some ⟨p, 0, none⟩)], .slice (some ⟨g, 1, none⟩) 1 1] W fun e w' =>
      (∃ g' c' v, e = .returned (.tuple #[.slice (some ⟨g', 0, none⟩) 1 c', .int .i64 0]) ∧ w'.cell? ⟨g', 0, none⟩ = some v ∧ g' < w'.heap.size ∧ RowIn w' 0 w'.heap.size v r) ∧ Below W.heap.size W w') := fun W hb =>
    rows_one p D ns rs n r g 1 1 W (h.below hb) hp hnb ((hb.cell (p := ⟨g, 1, none⟩) hgl).trans hg1) (Nat.lt_of_lt_of_le hgl hb.size) hh hr
  have HPR : Hid (∀ W v, RowIn W 0 W.heap.size v r → Calls Tryz.prog 15 #[v] W fun e w' => e = .returned (.string (strN (rowT r))) ∧ Below W.heap.size W w') := fun W v h => dataPrint_q v r W (RowX.of_in h hz) hl
  clear h hp hh hr hz hl hnb
  generalize strN (rowT r) = T at *
  generalize strN n = tn at *
  have hal : Below w.heap.size w (w.alloc (.cells #[.pointer (some ⟨p, 0, none⟩)] 64)) := (Below.refl _ _).alloc (Nat.le_refl _) _
  have b0 := Blk.new w 64 #[.pointer (some ⟨p, 0, none⟩)]
  go_enter Tryz.func66, Tryz.ntmps66
  have hx0 := (hal.cell (p := ⟨g, 0, none⟩) hgl).trans hg0
  have HN : Hid (∀ W, Calls Tryz.prog 65 #[.string ⟨#[115, 104, 111, 119]⟩] W fun e w' => e = .returned (.int .i64 1) ∧ W = w') := fun W => names_show W
  go_wp2_with fail
  generalize w.alloc (.cells #[.pointer (some ⟨p, 0, none⟩)] 64) = w2 at *
  go_fit (HN.out _)
  rintro e w3 ⟨rfl, rfl⟩
  have x0 : w2.cell? ⟨w.heap.size, 0, none⟩ = some (.pointer (some ⟨p, 0, none⟩)) := b0.cell 0
  have hgl2 := Nat.lt_of_lt_of_le hgl hal.size
  have hgb := b0.lt
  go_wp2_with fail
  go_region_held3 (fun W => W.cell? ⟨w.heap.size, 0, none⟩ = some (.pointer (some ⟨p, 0, none⟩)))
    (first | exact x0 | exact (HB4.out.cell (p := ⟨w.heap.size, 0, none⟩) hgb).trans x0 | fail)
    (first
      | (go_at_call 126; go_fit (HROWS.out _ hal.drew); rintro e w4 ⟨⟨g4, c4, v4, rfl, hc4, hg4, hr4⟩, hb4⟩; have HC4 := Lib.hid hc4; have HR4 := Lib.hid hr4; have HB4 := Lib.hid (show Below w2.heap.size w2 w4 from Below.trans (Below.drew (Below.refl _ _)) hb4); clear hc4 hr4 hb4)
      | fail)
  have hy0 := (HB4.out.cell (p := ⟨g, 0, none⟩) hgl2).trans hx0
  have HBw := Lib.hid (hal.trans (HB4.out.mono hal.size))
  clear x0 hx0
  have c4' := HC4.out
  obtain ⟨A4, k4, rfl, _⟩ := HR4.out
  go_wp2_with fail
  go_fit (HPR.out _ _ HR4.out)
  rintro e w5 ⟨rfl, hb5⟩
  have HB7 := Lib.hid (HBw.out.trans (hb5.mono HBw.out.size))
  clear hb5
  go_wp2_with fail
  go_ret
  exact ⟨rfl, HB7.out⟩

set_option maxHeartbeats 3200000 in
theorem line_show (p g : Nat) (s T : ByteArray) (w : World) (hg0 : w.cell? ⟨g, 0, none⟩ = some (.string ⟨#[115, 104, 111, 119]⟩)) (hgl : g < w.heap.size)
    (HL : ∀ W, Below w.heap.size w W → Calls Tryz.prog 66 #[.agg #[.pointer (some ⟨p, 0, none⟩)], .slice (some ⟨g, 0, none⟩) 2 2] W fun e w' => e = .returned (.string T) ∧ Below W.heap.size W w') :
    Calls Tryz.prog 32 #[.agg #[.pointer (some ⟨p, 0, none⟩)], .string s, .slice (some ⟨g, 0, none⟩) 2 2] w fun e w' => e = .returned (.string T) ∧ Below w.heap.size w w' := by
  have HROW := Lib.hid HL
  have HN : Hid (∀ W, Calls Tryz.prog 65 #[.string ⟨#[115, 104, 111, 119]⟩] W fun e w' => e = .returned (.int .i64 1) ∧ W = w') := fun W => names_show W
  have hal : Below w.heap.size w (w.alloc (.cells #[.pointer (some ⟨p, 0, none⟩)] 64)) := (Below.refl _ _).alloc (Nat.le_refl _) _
  have b0 := Blk.new w 64 #[.pointer (some ⟨p, 0, none⟩)]
  have x0 := (hal.cell (p := ⟨g, 0, none⟩) hgl).trans hg0
  clear HL
  go_enter Tryz.func32, Tryz.ntmps32
  go_wp2_with fail
  generalize w.alloc (.cells #[.pointer (some ⟨p, 0, none⟩)] 64) = w2 at *
  have x1 := b0.cell 0
  go_fit (HN.out _)
  rintro e w3 ⟨rfl, rfl⟩
  go_wp2_with fail
  go_fit (HROW.out _ hal)
  rintro e w4 ⟨rfl, hb4⟩
  have HB := Lib.hid (hal.trans (hb4.mono hal.size))
  clear hb4
  go_wp2_with fail
  go_ret
  exact ⟨rfl, HB.out⟩
end Go.Proofs.YtchokmhfgikglaaGreatDoor

namespace Go.Proofs.YtchokmhfgikglaaGreatDoor
set_option maxRecDepth 100000
open Go.RowKit Go.Shelf Go.Lib

/-- Six cells of two rows. -/
theorem six_after' {w w' : World} {b c k m : Nat} {a0 a1 a2 b0 b1 b2 : Value} (hs : w.cell? ⟨b, k, none⟩ = some a0 ∧ w.cell? ⟨b, k + 1, none⟩ = some a1 ∧ w.cell? ⟨b, k + 2, none⟩ = some a2 ∧ w.cell? ⟨c, m, none⟩ = some b0 ∧ w.cell? ⟨c, m + 1, none⟩ = some b1 ∧ w.cell? ⟨c, m + 2, none⟩ = some b2)
    (hb : Below w.heap.size w w') (h1 : b < w.heap.size) (h2 : c < w.heap.size) : w'.cell? ⟨b, k, none⟩ = some a0 ∧ w'.cell? ⟨b, k + 1, none⟩ = some a1 ∧ w'.cell? ⟨b, k + 2, none⟩ = some a2 ∧ w'.cell? ⟨c, m, none⟩ = some b0 ∧ w'.cell? ⟨c, m + 1, none⟩ = some b1 ∧ w'.cell? ⟨c, m + 2, none⟩ = some b2 := by
  obtain ⟨x0, x1, x2, y0, y1, y2⟩ := hs
  exact ⟨(hb.cell (p := ⟨b, k, none⟩) h1).trans x0, (hb.cell (p := ⟨b, k + 1, none⟩) h1).trans x1, (hb.cell (p := ⟨b, k + 2, none⟩) h1).trans x2, (hb.cell (p := ⟨c, m, none⟩) h2).trans y0, (hb.cell (p := ⟨c, m + 1, none⟩) h2).trans y1, (hb.cell (p := ⟨c, m + 2, none⟩) h2).trans y2⟩

theorem RQ.mono {w : World} {L B : Nat} {v : Value} {q : Rat} {k m : Nat} (h : RQ w L B v q k) (hk : k ≤ m) : RQ w L B v q m := by
  obtain ⟨s, n, d, hR, dn, dd, ln, ld, hq⟩ := h
  exact ⟨s, n, d, hR, dn, dd, by omega, by omega, hq⟩

set_option maxHeartbeats 3200000 in
theorem rats_x (u v : Value) (xs : List Rat) (w : World) (h : RowX w u xs 400) (h' : RowX w v xs 400) :
    Calls Tryz.prog 12 #[u, v] w fun e w' => e = .returned (.bool true) ∧ Below w.heap.size w w' := by
  have HXA : Hid (∀ W, Below w.heap.size w W → RowX W u xs 400) := fun W hb => h.after hb
  have HXB : Hid (∀ W, Below w.heap.size w W → RowX W v xs 400) := fun W hb => h'.after hb
  obtain ⟨A, c, rfl, hc, hm, hx⟩ := h
  obtain ⟨A', c', rfl, hc', hm', hx'⟩ := h'
  unfold maxLen at hm hm'
  clear hx hx'
  have hne : ((xs.length : Int) != (xs.length : Int)) = false := bne_false rfl
  go_enter Tryz.func12, Tryz.ntmps12
  go_wp2_with fail
  go_loopw [5] (fun i wr => ∃ k : Nat, k ≤ xs.length ∧ i = .int .i64 (k : Int) ∧ Below w.heap.size w wr) (fun i _ => xs.length - (RowKit.intOf i).toNat)
  case atStart => exact ⟨0, Nat.zero_le _, rfl, Below.refl _ _⟩
  case round =>
    obtain ⟨k, hk, rfl, hB⟩ := hrel
    by_cases hkn : k < xs.length
    · have y0 : (k : Int) < (xs.length : Int) := by omega
      obtain ⟨A1, c1, e1, _, _, hx1⟩ := HXA.out _ hB
      obtain ⟨rfl, _, rfl⟩ := Value.slice.inj e1
      obtain ⟨b, off, rfl, hbs, hcell⟩ := hx1 (by omega)
      obtain ⟨s, F1, n1, l1, F2, n2, l2, x0, x1, x2, hq⟩ := hcell k hkn
      obtain ⟨A2, c2, e2, _, _, hx2⟩ := HXB.out _ hB
      obtain ⟨rfl, _, rfl⟩ := Value.slice.inj e2
      obtain ⟨b', off', rfl, hbs', hcell'⟩ := hx2 (by omega)
      obtain ⟨s', G1, m1, k1, G2, m2, k2, x0', x1', x2', hq'⟩ := hcell' k hkn
      have HQ := Lib.hid hq
      have HQ' := Lib.hid hq'
      clear hcell hcell' e1 e2 hx1 hx2 hq hq'
      generalize xs[k] = q at *
      have z0 : (0 : Int) ≤ (k : Int) := by omega
      have HS0 : Hid (wr.cell? ⟨b, off + k * 3, none⟩ = some (.bool s) ∧ wr.cell? ⟨b, off + k * 3 + 1, none⟩ = some (.slice F1 n1 l1) ∧ wr.cell? ⟨b, off + k * 3 + 2, none⟩ = some (.slice F2 n2 l2) ∧ wr.cell? ⟨b', off' + k * 3, none⟩ = some (.bool s') ∧ wr.cell? ⟨b', off' + k * 3 + 1, none⟩ = some (.slice G1 m1 k1) ∧ wr.cell? ⟨b', off' + k * 3 + 2, none⟩ = some (.slice G2 m2 k2)) := ⟨x0, x1, x2, x0', x1', x2'⟩
      have HB := Lib.hid hB
      clear hB
      go_wp2_with fail
      go_region_held3 (fun W => W.cell? ⟨b, off + k * 3, none⟩ = some (.bool s) ∧ W.cell? ⟨b, off + k * 3 + 1, none⟩ = some (.slice F1 n1 l1) ∧ W.cell? ⟨b, off + k * 3 + 2, none⟩ = some (.slice F2 n2 l2) ∧ W.cell? ⟨b', off' + k * 3, none⟩ = some (.bool s') ∧ W.cell? ⟨b', off' + k * 3 + 1, none⟩ = some (.slice G1 m1 k1) ∧ W.cell? ⟨b', off' + k * 3 + 2, none⟩ = some (.slice G2 m2 k2))
        (first | exact HS0.out | exact HS5.out | fail)
        (first
          | (go_at_call 25; go_fit (same_q _ _ q _ HQ.out.drew HQ'.out.drew); rintro e w5 ⟨rfl, hb5⟩; have hb6 : Below wr.heap.size wr w5 := Below.trans (Below.drew (Below.refl _ _)) hb5; have HS5 := Lib.hid (six_after' HS0.out hb6 hbs hbs'); have HB5 := Lib.hid (HB.out.trans (hb6.mono HB.out.size)))
          | fail)
      go_wp2_with fail
      go_roundw
      case rel => exact ⟨k + 1, by omega, by go_num, HB5.out⟩
      case measure => simp [RowKit.intOf]; omega
    · obtain rfl : k = xs.length := by omega
      have y0 : ¬ ((xs.length : Nat) : Int) < (xs.length : Int) := by omega
      go_wp2_with fail
      go_ret
      exact ⟨rfl, hB⟩
end Go.Proofs.YtchokmhfgikglaaGreatDoor

namespace Go.Proofs.YtchokmhfgikglaaGreatDoor
set_option maxRecDepth 100000
open Go.RowKit Go.Shelf Go.Lib

/-- A row that is not too great. -/
def Sml (xs : List Rat) : Prop := xs.length ≤ 12 ∧ ∀ q ∈ xs, Sz q 1

theorem Sml.word {xs : List Rat} (h : Sml xs) : ∀ q ∈ xs, (prQ q).length ≤ 60 := fun q hq => by
  have := prQ_len (h.2 q hq).1 (h.2 q hq).2
  omega
theorem Sml.len {xs : List Rat} (h : Sml xs) : (rowT xs).length ≤ 300 := by
  have := rowT_len xs h.2
  have := h.1
  omega
theorem Sml.sz {xs : List Rat} (h : Sml xs) (k : Nat) (hk : 1 ≤ k) : ∀ q ∈ xs, Sz q k := fun q hq => (h.2 q hq).mono hk
theorem rowT_byt (xs : List Rat) : Byt (rowT xs) := fun x hx => by have := rowT_no xs x hx; omega
theorem lnL_byt (c : Nat) (hc : c < 128) (xs : List Rat) : Byt (lnL c (rowT xs)) := fun x hx => by
  unfold lnL at hx
  simp only [List.mem_cons] at hx
  rcases hx with rfl | rfl | rfl | rfl | rfl | rfl | rfl | rfl | hx
  · decide
  · decide
  · decide
  · decide
  · omega
  · decide
  · decide
  · decide
  · exact rowT_byt xs x hx

theorem pr_let (p c : Nat) (hc : c = 97 ∨ c = 98) (ns ns' : List (List Nat)) (rs rs' : List (List Rat)) (xs : List Rat) (hx : Sml xs) (hpu : PureS ns rs)
    (he : letE ns [c] (32 :: rowT xs) = 0) (hn : letN ns [c] (32 :: rowT xs) = ns') (hr : letR ns rs [c] (32 :: rowT xs) = rs') : LineDo p ns rs ns' rs' (strN (lnL c (rowT xs))) ⟨#[111, 107]⟩ := by
  have hc128 : c < 128 := by omega
  have hlen := hx.len
  obtain ⟨rest, hf, hrl⟩ := fields_let c (rowT xs) (lnL_byt c hc128 xs) hc128 (by omega)
  obtain ⟨a1, a2, a3⟩ := aft_let c hc (rowT xs)
  have hsz : (strN (lnL c (rowT xs))).size = (rowT xs).length + 8 := by rw [strN_size]; rfl
  refine ⟨⟨#[108, 101, 116]⟩, _, hf, ⟨by decide, by decide⟩, by omega, by decide, fun W g D hs hm hcl hg hD => ?_⟩
  have hc0 := hcl 0 (by simp)
  have hc1 := hcl 1 (by simp)
  have hc2 := hcl 2 (by simp)
  have hnw : (strN [c] :: (⟨#[61]⟩ : ByteArray) :: rest).length + 1 = rest.length + 3 := rfl
  rw [hnw]
  refine line_let p g (rest.length + 3) D (strN (lnL c (rowT xs))) ns' rs' W hc0 hg (by omega) fun V hb => ?_
  have h := let_any p D ns rs [c] (32 :: rowT xs) (strN (lnL c (rowT xs))) g (rest.length + 3) V (hs.below hb) hpu (hm.below hb) (fun x hx => by simp at hx; omega) (by simp) (fun x hx => by
      rcases List.mem_cons.1 hx with rfl | hx
      · decide
      · exact rowT_byt xs x hx) (by rw [List.length_cons]; omega) (by rw [textV_rowT' xs hx.word]; have := hx.1; show xs.length ≤ 256; omega) ((hb.cell (p := ⟨g, 0, none⟩) hg).trans hc0) ((hb.cell (p := ⟨g, 1, none⟩) hg).trans hc1) ((hb.cell (p := ⟨g, 2, none⟩) hg).trans hc2)
    (Nat.lt_of_lt_of_le hg hb.size) hD (by omega) (by omega) (by omega) (by omega) (by omega) a1 he
  rw [hn, hr] at h
  exact h

theorem pr_show (p c : Nat) (hc : c = 97 ∨ c = 98) (ns : List (List Nat)) (rs : List (List Rat)) (xs : List Rat) (hx : Sml xs) (hpu : PureS ns rs) (hh : hasG ns [c] = true) (hr : rs[atG ns [c]]? = some xs) :
    LineDo p ns rs ns rs (strN (lnS c)) (strN (rowT xs)) := by
  have hlen := hx.len
  refine ⟨⟨#[115, 104, 111, 119]⟩, _, fields_show c hc, ⟨by decide, by decide⟩, by rw [strN_size]; show 6 ≤ 1024; omega, by rw [strN_size]; omega, fun W g D hs hm hcl hg hD => ?_⟩
  have hc0 := hcl 0 (by simp)
  have hc1 := hcl 1 (by simp)
  refine (line_show p g (strN (lnS c)) (strN (rowT xs)) W hc0 hg fun V hb => ?_).mono ?_
  · exact row_show p D ns rs [c] xs g V (hs.below hb) hpu (fun x hx => by simp at hx; omega) ((hb.cell (p := ⟨g, 0, none⟩) hg).trans hc0) ((hb.cell (p := ⟨g, 1, none⟩) hg).trans hc1) (Nat.lt_of_lt_of_le hg hb.size) hh hr (hx.sz 80 (by omega)) (by have := hx.1; omega)
  · rintro e w' ⟨rfl, hb⟩
    exact ⟨D, rfl, hs.below hb, Turned.of_below hb, fun j hj => Or.inl hj⟩

def prL (xs : List Rat) : List (List Nat) := [lnL 97 (rowT xs), lnS 97, lnL 98 (rowT xs), lnS 98, []]
def prNS (k : Nat) : List (List Nat) := if k = 0 then [] else if k ≤ 2 then [[97]] else [[97], [98]]
def prRS (xs : List Rat) (k : Nat) : List (List Rat) := if k = 0 then [] else if k ≤ 2 then [xs] else [xs, xs]
def prW1 (xs : List Rat) : List Nat := [111, 107, 10] ++ (rowT xs ++ [10])
def prO (xs : List Rat) (k : Nat) : List UInt8 := if k = 0 then [] else if k = 1 then u8 [111, 107, 10] else if k = 2 then u8 (prW1 xs) else if k = 3 then u8 (prW1 xs ++ [111, 107, 10]) else u8 (prW1 xs ++ prW1 xs)

theorem pure_one {xs : List Rat} (h : Sml xs) : PureS [[97]] [xs] := by
  refine ⟨by decide, by unfold Rises; decide, fun r hr => ?_⟩
  rcases List.mem_cons.1 hr with rfl | hr
  · exact ⟨by have := h.1; omega, h.sz 70 (by omega)⟩
  · cases hr
theorem pure_two {xs : List Rat} (h : Sml xs) : PureS [[97], [98]] [xs, xs] := by
  refine ⟨by decide, by unfold Rises; decide, fun r hr => ?_⟩
  rcases List.mem_cons.1 hr with rfl | hr
  · exact ⟨by have := h.1; omega, h.sz 70 (by omega)⟩
  · rcases List.mem_cons.1 hr with rfl | hr
    · exact ⟨by have := h.1; omega, h.sz 70 (by omega)⟩
    · cases hr

theorem jn_byt (ls : List (List Nat)) (h : ∀ a ∈ ls, Byt a) : Byt (jn ls) := by
  induction ls with
  | nil => intro x hx; cases hx
  | cons a r ih =>
    have hr := ih fun b hb => h b (by simp [hb])
    cases r with
    | nil => exact h a (by simp)
    | cons b r =>
      intro x hx
      have hx' : x ∈ a ++ 10 :: jn (b :: r) := hx
      rcases List.mem_append.1 hx' with h1 | h1
      · exact h a (by simp) x h1
      · rcases List.mem_cons.1 h1 with rfl | h1
        · decide
        · exact hr x h1
theorem jn_len (ls : List (List Nat)) (m : Nat) (h : ∀ a ∈ ls, a.length ≤ m) : (jn ls).length ≤ ls.length * (m + 1) := by
  induction ls with
  | nil => simp [jn]
  | cons a r ih =>
    have ha := h a (by simp)
    have hr := ih fun b hb => h b (by simp [hb])
    cases r with
    | nil => simp only [jn, List.length_cons, List.length_nil]; omega
    | cons b r =>
      show (a ++ 10 :: jn (b :: r)).length ≤ _
      rw [List.length_append, List.length_cons, List.length_cons (a := a), Nat.succ_mul]
      omega

theorem prL_mem {xs : List Rat} (hx : Sml xs) : ∀ a ∈ prL xs, Byt a ∧ a.length ≤ 308 ∧ 10 ∉ a := by
  have hlen := hx.len
  have hl : ∀ c, c < 128 → c ≠ 10 → Byt (lnL c (rowT xs)) ∧ (lnL c (rowT xs)).length ≤ 308 ∧ 10 ∉ lnL c (rowT xs) := fun c hc hc2 => by
    refine ⟨lnL_byt c hc xs, by show (rowT xs).length + 8 ≤ 308; omega, fun hm => ?_⟩
    unfold lnL at hm
    simp only [List.mem_cons] at hm
    rcases hm with h | h | h | h | h | h | h | h | h
    all_goals first
      | omega
      | exact (rowT_no xs _ h).1 rfl
  intro a ha
  unfold prL at ha
  simp only [List.mem_cons, List.not_mem_nil, or_false] at ha
  rcases ha with rfl | rfl | rfl | rfl | rfl
  · exact hl 97 (by omega) (by omega)
  · exact ⟨by unfold Byt lnS; decide, by decide, by decide⟩
  · exact hl 98 (by omega) (by omega)
  · exact ⟨by unfold Byt lnS; decide, by decide, by decide⟩
  · refine ⟨fun x hx => ?_, by decide, by decide⟩
    cases hx

theorem u8_out (a b : List Nat) : u8 a ++ (strN b ++ (⟨#[10]⟩ : ByteArray)).data.toList = u8 (a ++ (b ++ [10])) := by
  have e : (strN b ++ (⟨#[10]⟩ : ByteArray)) = strN (b ++ [10]) := strN_append b [10]
  rw [e, u8_data, ← u8_append]

theorem pr_run (xs : List Rat) (hx : Sml xs) (w : World) (hm : MaxAt w) : Calls Tryz.prog 16 #[.string (strN (jn (prL xs)))] w fun e w' => e = .returned (.string (strN (prW1 xs ++ prW1 xs))) ∧ Below w.heap.size w w' := by
  have hmem := prL_mem hx
  have hsub : ∀ k, ∀ a ∈ (prL xs).drop k, a ∈ prL xs := fun k a ha => (List.drop_sublist _ _).subset ha
  have hp := pcs_of (prL xs) (by unfold prL; simp) (fun k => jn_byt _ fun a ha => (hmem a (hsub k a ha)).1) (fun a ha => (hmem a ha).2.2) (fun k => by
    have h1 := jn_len ((prL xs).drop k) 308 fun a ha => (hmem a (hsub k a ha)).2.1
    have h2 : ((prL xs).drop k).length ≤ 5 := by rw [List.length_drop]; show 5 - k ≤ 5; omega
    omega)
  have hlen := hx.len
  have hW1 : (prW1 xs).length ≤ 304 := by unfold prW1; simp only [List.length_append, List.length_cons, List.length_nil]; omega
  refine (callsIn_wide (n := 8)).1 ?_
  obtain ⟨la1, la2, la3⟩ := let_a xs hx.word
  obtain ⟨lb1, lb2, lb3⟩ := let_b xs hx.word
  refine toolRun_any 8 (Nat.le_refl _) (strN (jn (prL xs))) 4 _ _ _ hp rfl prNS (prRS xs) (prO xs) w hm rfl rfl rfl (fun k _ => ?_) (by unfold prO prW1 u8; simp) (fun k hk => ?_)
  · have hu : ∀ l : List Nat, (u8 l).length = l.length := fun l => by unfold u8; simp
    unfold prO
    split
    · simp
    · split
      · rw [hu]; simp
      · split
        · rw [hu]; omega
        · split
          · rw [hu, List.length_append]; simp only [List.length_cons, List.length_nil]; omega
          · rw [hu, List.length_append]; omega
  · match k, hk with
    | 0, _ => exact ⟨by show (strN (lnL 97 (rowT xs))).size ≤ _; rw [strN_size]; show (rowT xs).length + 8 ≤ _; omega, Or.inr ⟨_, pr_let _ 97 (Or.inl rfl) _ _ _ _ xs hx kn_pure0 la1 la2 la3, rfl⟩⟩
    | 1, _ => exact ⟨by show (strN (lnS 97)).size ≤ _; rw [strN_size]; decide, Or.inr ⟨_, pr_show _ 97 (Or.inl rfl) _ _ xs hx (pure_one hx) (by decide) (by show [xs][atG [[97]] [97]]? = _; rfl), (u8_out [111, 107, 10] (rowT xs)).symm⟩⟩
    | 2, _ => exact ⟨by show (strN (lnL 98 (rowT xs))).size ≤ _; rw [strN_size]; show (rowT xs).length + 8 ≤ _; omega, Or.inr ⟨_, pr_let _ 98 (Or.inr rfl) _ _ _ _ xs hx (pure_one hx) lb1 lb2 lb3, (u8_append _ _)⟩⟩
    | 3, _ => exact ⟨by show (strN (lnS 98)).size ≤ _; rw [strN_size]; decide, Or.inr ⟨_, pr_show _ 98 (Or.inr rfl) _ _ xs hx (pure_two hx) (by decide) (by show [xs, xs][atG [[97], [98]] [98]]? = _; rfl), by
        show prO xs 4 = prO xs 3 ++ _
        have e3 : prO xs 3 = u8 (prW1 xs ++ [111, 107, 10]) := rfl
        have e4 : prO xs 4 = u8 (prW1 xs ++ prW1 xs) := rfl
        rw [e3, u8_out, e4, List.append_assoc]
        rfl⟩⟩
    | 4, _ => exact ⟨by show (strN []).size ≤ _; rw [strN_size]; decide, Or.inl ⟨kn_w2, rfl, rfl, rfl⟩⟩
end Go.Proofs.YtchokmhfgikglaaGreatDoor

namespace Go.Proofs.YtchokmhfgikglaaGreatDoor
set_option maxRecDepth 100000
open Go.ChangeShapes Go.WideShapes Go.ChangeAt Go.RowKit Go.Joins Go.Deep

/-- A slice of rationals of a caller's, as signs and limbs. -/
def RowO (w : World) (v : Value) (ts : List (Bool × List Nat × List Nat)) : Prop :=
  ∃ A c, v = .slice A ts.length c ∧ ts.length ≤ c ∧ c ≤ maxLen ∧ (0 < ts.length → ∃ b off, A = some ⟨b, off, none⟩ ∧ b < w.heap.size ∧ ∀ j (h : j < ts.length), ∃ F1 c1 F2 c2,
    w.cell? ⟨b, off + j * 3, none⟩ = some (.bool ts[j].1) ∧ w.cell? ⟨b, off + j * 3 + 1, none⟩ = some (.slice F1 ts[j].2.1.length c1) ∧ w.cell? ⟨b, off + j * 3 + 2, none⟩ = some (.slice F2 ts[j].2.2.length c2) ∧
    Rt w 0 w.heap.size (.agg #[.bool ts[j].1, .slice F1 ts[j].2.1.length c1, .slice F2 ts[j].2.2.length c2]) ts[j].1 ts[j].2.1 ts[j].2.2 ∧ Dig ts[j].2.1 ∧ Dig ts[j].2.2)

theorem RowO.after {w w' : World} {v : Value} {ts : List (Bool × List Nat × List Nat)} (h : RowO w v ts) (hb : Below w.heap.size w w') : RowO w' v ts := by
  obtain ⟨A, c, rfl, hc, hm, hx⟩ := h
  refine ⟨A, c, rfl, hc, hm, fun h0 => ?_⟩
  obtain ⟨b, off, hA, hb', hcell⟩ := hx h0
  refine ⟨b, off, hA, Nat.lt_of_lt_of_le hb' hb.size, fun j hj => ?_⟩
  obtain ⟨F1, c1, F2, c2, e0, e1, e2, hR, d1, d2⟩ := hcell j hj
  exact ⟨F1, c1, F2, c2, (hb.cell (p := ⟨b, off + j * 3, none⟩) hb').trans e0, (hb.cell (p := ⟨b, off + j * 3 + 1, none⟩) hb').trans e1, (hb.cell (p := ⟨b, off + j * 3 + 2, none⟩) hb').trans e2, hR.after hb, d1, d2⟩

/-- Not too great. -/
def SmT (ts : List (Bool × List Nat × List Nat)) : Prop := ts.length ≤ 12 ∧ ∀ t ∈ ts, t.2.1.length ≤ 1 ∧ t.2.2.length ≤ 1
def qT (t : Bool × List Nat × List Nat) : Rat := qv t.1 (val t.2.1) (val t.2.2)

theorem RowO.x {w : World} {v : Value} {ts : List (Bool × List Nat × List Nat)} (h : RowO w v ts) (hs : SmT ts) : RowX w v (ts.map qT) 1 := by
  obtain ⟨A, c, rfl, hc, hm, hx⟩ := h
  refine ⟨A, c, by rw [List.length_map], by rw [List.length_map]; exact hc, hm, fun h0 => ?_⟩
  rw [List.length_map] at h0
  obtain ⟨b, off, hA, hb, hcell⟩ := hx h0
  refine ⟨b, off, hA, hb, fun j hj => ?_⟩
  rw [List.length_map] at hj
  obtain ⟨F1, c1, F2, c2, e0, e1, e2, hR, d1, d2⟩ := hcell j hj
  have hl := hs.2 _ (List.getElem_mem hj)
  refine ⟨_, F1, _, c1, F2, _, c2, e0, e1, e2, _, _, _, hR, d1, d2, hl.1, hl.2, ?_⟩
  rw [List.getElem_map]
  rfl

theorem RowX.sz {w : World} {v : Value} {xs : List Rat} {k : Nat} (h : RowX w v xs k) (hk : 1 ≤ k) : ∀ q ∈ xs, Sz q k := fun q hq => by
  obtain ⟨A, c, rfl, hc, hm, hx⟩ := h
  obtain ⟨j, hj, rfl⟩ := List.getElem_of_mem hq
  obtain ⟨b, off, hA, hb', hcell⟩ := hx (by omega)
  obtain ⟨s, F1, n1, c1, F2, n2, c2, e0, e1, e2, hq⟩ := hcell j hj
  exact hq.sz hk
theorem RowX.mono {w : World} {v : Value} {xs : List Rat} {k m : Nat} (h : RowX w v xs k) (hk : k ≤ m) : RowX w v xs m := by
  obtain ⟨A, c, rfl, hc, hm, hx⟩ := h
  refine ⟨A, c, rfl, hc, hm, fun h0 => ?_⟩
  obtain ⟨b, off, hA, hb', hcell⟩ := hx h0
  refine ⟨b, off, hA, hb', fun j hj => ?_⟩
  obtain ⟨s, F1, n1, c1, F2, n2, c2, e0, e1, e2, hq⟩ := hcell j hj
  exact ⟨s, F1, n1, c1, F2, n2, c2, e0, e1, e2, hq.mono hk⟩

theorem open_nats' {H : Type} {enc : TypeId × Value → H} {P : Program} {W : World} {held : Bool} {t e : TypeId} {n : Nat} {v : Value} {y : DataW H × List MemPlace} (ht : P.underlying t = some (.slice e)) (he : P.underlying e = some (.int .u32)) (hc : P.cellsOf e = 1)
    (h : DataW.trod enc P W 0 (fun _ => true) held n t [v] = some y) : ∃ l : List Nat, Nt W 0 W.heap.size v l ∧ Dig l := by
  rcases open_ints ht he hc h with ⟨hcs, _⟩ | ⟨x, len, cap, zs, hcs, _, hl, hm, hzl, hy, hcell, hwz⟩
  · have hv : v = .slice none 0 0 := by simpa using hcs
    subst hv
    exact ⟨[], Nt.nil _ _ _, fun k hk => by cases hk⟩
  · have hv : v = .slice (some x) len cap := by simpa using hcs
    subst hv
    rw [if_pos rfl] at hzl
    obtain ⟨l, hr, hw⟩ := rd_of_nats (w := W) (a := some x) (len := len) (cap := cap) (zs := zs) (.inr ⟨x, rfl, hl, hm, hzl, hcell, hwz⟩)
    exact ⟨l, Nt.of_rd hr, hw⟩

/-- An argument that is a slice of rationals. -/
theorem open_rats {H : Type} {enc : TypeId × Value → H} {P : Program} {W : World} {held : Bool} {t e t0 t1 u : TypeId} {f0 f1 f2 : Field} {a : Option Addr} {len cap : Nat} {d : DataW H} {p : List MemPlace} (ht : P.underlying t = some (.slice e)) (hs : P.underlying e = some (.struct #[f0, f1, f2])) (hone : Deep.oneCellFields P #[f0, f1, f2] = true) (hC : P.cellsOf e = 3)
    (e0 : f0.type = t0) (e1 : f1.type = t1) (e2 : f2.type = t1) (hb : P.underlying t0 = some .bool) (ht1 : P.underlying t1 = some (.slice u)) (hu : P.underlying u = some (.int .u32)) (hc1 : P.cellsOf u = 1)
    (h : DataW.Trod enc P W 0 (fun _ => true) held t (.slice a len cap) d p) : ∃ ts, RowO W (.slice a len cap) ts := by
  obtain ⟨fuel, hf⟩ := h
  rcases DataW.trod_slice ht hf with ⟨hcs, _⟩ | ⟨x, len', cap', elems, rest, n, _, hcs, _, _, hl, hm, hlen, hel, _, _⟩
  · simp [Value.cells] at hcs
    obtain ⟨rfl, rfl, rfl⟩ := hcs
    exact ⟨[], none, 0, rfl, Nat.le_refl _, by decide, fun h => absurd h (by simp)⟩
  · simp [Value.cells] at hcs
    obtain ⟨rfl, rfl, rfl⟩ := hcs
    have each : ∀ i : Fin len, ∃ z : Bool × List Nat × List Nat, ∃ F1 c1 F2 c2, W.cell? ((x.add (i.val * 3)).add 0) = some (.bool z.1) ∧ W.cell? ((x.add (i.val * 3)).add 1) = some (.slice F1 z.2.1.length c1) ∧ W.cell? ((x.add (i.val * 3)).add 2) = some (.slice F2 z.2.2.length c2) ∧
        Rt W 0 W.heap.size (.agg #[.bool z.1, .slice F1 z.2.1.length c1, .slice F2 z.2.2.length c2]) z.1 z.2.1 z.2.2 ∧ Dig z.2.1 ∧ Dig z.2.2 := by
      intro ⟨i, hi⟩
      have hy := hel i hi
      rw [List.getElem?_eq_getElem (by omega), hC, Option.bind_eq_some_iff] at hy
      obtain ⟨cs, hcs, hy⟩ := hy
      obtain ⟨y0, y1, y2, k, _, hl3, h0, h1, h2⟩ := trod_struct3 hs hy
      obtain ⟨o0, k0⟩ := hone_of hone 0 f0 rfl
      obtain ⟨o1, k1⟩ := hone_of hone 1 f1 rfl
      obtain ⟨o2, k2⟩ := hone_of hone 2 f2 rfl
      rw [hC] at hl3
      match cs, hl3 with
      | [c0, c1, c2], _ =>
        rw [o0, k0, e0] at h0
        rw [o1, k1, e1] at h1
        rw [o2, k2, e2] at h2
        obtain ⟨s, hs0, _⟩ := DataW.trod_bool hb h0
        have hv0 : c0 = .bool s := by simpa using hs0
        subst hv0
        obtain ⟨l1, n1, d1⟩ := open_nats' ht1 hu hc1 h1
        obtain ⟨l2, n2, d2⟩ := open_nats' ht1 hu hc1 h2
        obtain ⟨F1, k1, rfl, _⟩ := nt_len n1
        obtain ⟨F2, k2, rfl, _⟩ := nt_len n2
        have hcell := World.cells?_some hcs
        refine ⟨(s, l1, l2), F1, k1, F2, k2, ?_, ?_, ?_, ⟨_, _, rfl, n1, n2⟩, d1, d2⟩
        · exact hcell.2.2 0 (by omega)
        · exact hcell.2.2 1 (by omega)
        · exact hcell.2.2 2 (by omega)
    obtain ⟨f, hfx⟩ := Classical.axiomOfChoice each
    refine ⟨List.ofFn f, some x, cap, by rw [List.length_ofFn], by rw [List.length_ofFn]; exact hl, hm, fun h0 => ?_⟩
    rw [List.length_ofFn] at h0
    obtain ⟨b, off, spot⟩ := x
    obtain ⟨_, _, _, _, hc0, _⟩ := hfx ⟨0, h0⟩
    have hspot : spot = none := by simpa [Addr.add] using World.cell?_spot hc0
    subst hspot
    have hadd : ∀ i j, ((⟨b, off, none⟩ : Addr).add i).add j = ⟨b, off + i + j, none⟩ := fun i j => by rw [Addr.add_lit, Addr.add_lit]
    have hg := World.block_lt_of_cell? W _ hc0
    rw [hadd] at hg
    refine ⟨b, off, rfl, hg, fun j hj => ?_⟩
    rw [List.length_ofFn] at hj
    obtain ⟨F1, c1, F2, c2, a0, a1, a2, rest⟩ := hfx ⟨j, hj⟩
    rw [hadd] at a0 a1 a2
    rw [List.getElem_ofFn]
    exact ⟨F1, c1, F2, c2, a0, a1, a2, rest⟩
end Go.Proofs.YtchokmhfgikglaaGreatDoor

namespace Go.Proofs.YtchokmhfgikglaaGreatDoor
set_option maxRecDepth 100000
open Go.RowKit Go.Shelf Go.Lib

set_option maxHeartbeats 3200000 in
theorem much_any (g : Nat) (v : Value) (ts : List (Bool × List Nat × List Nat)) (w : World) (hg : w.cell? ⟨g, 0, none⟩ = some v) (h : RowO w v ts) :
    Calls Tryz.prog 14 #[.slice (some ⟨g, 0, none⟩) 1 1] w fun e w' => (e = .returned (.bool true) ∨ (e = .returned (.bool false) ∧ SmT ts)) ∧ Below w.heap.size w w' := by
  obtain ⟨A, c, rfl, hc, hm, hx⟩ := h
  unfold maxLen at hm
  have HX := Lib.hid hx
  clear hx
  go_enter Tryz.func14, Tryz.ntmps14
  go_wp2_with fail
  go_loopw [3] (fun i wr => (i = .int .i64 0 ∨ (i = .int .i64 1 ∧ SmT ts)) ∧ wr = w) (fun i _ => 1 - (RowKit.intOf i).toNat)
  case atStart => exact ⟨Or.inl rfl, rfl⟩
  case round =>
    obtain ⟨rfl | ⟨rfl, hs⟩, rfl⟩ := hrel
    · by_cases h12 : 12 < ts.length
      · have y0 : (12 : Int) < (ts.length : Int) := by omega
        go_wp2_with fail
        go_ret
        exact ⟨Or.inl rfl, Below.refl _ _⟩
      have y0 : ¬ (12 : Int) < (ts.length : Int) := by omega
      go_wp2_with fail
      go_loopw [4] (fun i wr2 => ∃ k : Nat, k ≤ ts.length ∧ i = .int .i64 (k : Int) ∧ wr2 = wr ∧ ∀ j (h : j < ts.length), j < k → ts[j].2.1.length ≤ 1 ∧ ts[j].2.2.length ≤ 1) (fun i _ => ts.length - (RowKit.intOf i).toNat)
      case atStart => exact ⟨0, Nat.zero_le _, rfl, rfl, fun j h h0 => by omega⟩
      case round =>
        obtain ⟨k, hk, rfl, rfl, hall⟩ := hrel
        have HALL := Lib.hid hall
        clear hall
        by_cases hkn : k < ts.length
        · have z0 : (k : Int) < (ts.length : Int) := by omega
          have z1 : (0 : Int) ≤ (k : Int) := by omega
          obtain ⟨b, off, rfl, hb, hcell⟩ := HX.out (by omega)
          obtain ⟨F1, c1, F2, c2, e0, e1, e2, _, _, _⟩ := hcell k hkn
          clear hcell
          obtain ⟨n1, hn1⟩ : ∃ n, ts[k].2.1.length = n := ⟨_, rfl⟩
          obtain ⟨n2, hn2⟩ : ∃ n, ts[k].2.2.length = n := ⟨_, rfl⟩
          have HN : Hid (n1 ≤ 1 → n2 ≤ 1 → ∀ j (h : j < ts.length), j < k + 1 → ts[j].2.1.length ≤ 1 ∧ ts[j].2.2.length ≤ 1) := fun h1 h2 j hj hjk => by
            by_cases he : j = k
            · subst he; omega
            · exact HALL.out j hj (by omega)
          rw [hn1] at e1
          rw [hn2] at e2
          clear hn1 hn2 HALL e0
          by_cases h1 : 1 < n1
          · have u1 : (1 : Int) < (n1 : Int) := by omega
            go_wp2_with fail
            go_ret
            exact ⟨Or.inl rfl, Below.refl _ _⟩
          · have u1 : ¬ (1 : Int) < (n1 : Int) := by omega
            by_cases h2 : 1 < n2
            · have u2 : (1 : Int) < (n2 : Int) := by omega
              go_wp2_with fail
              go_ret
              exact ⟨Or.inl rfl, Below.refl _ _⟩
            · have u2 : ¬ (1 : Int) < (n2 : Int) := by omega
              have HN2 := Lib.hid (HN.out (by omega) (by omega))
              clear HN
              go_wp2_with fail
              go_roundw
              case rel => exact ⟨k + 1, by omega, by go_num, by trivial, HN2.out⟩
              case measure => simp [RowKit.intOf]; omega
        · obtain rfl : k = ts.length := by omega
          have z0 : ¬ ((ts.length : Nat) : Int) < (ts.length : Int) := by omega
          have HS : Hid (SmT ts) := ⟨by omega, fun t ht => by
            obtain ⟨j, hj, rfl⟩ := List.getElem_of_mem ht
            exact HALL.out j hj hj⟩
          clear HALL
          go_wp2_with fail
          go_roundw
          case rel => exact ⟨Or.inr ⟨by go_num, HS.out⟩, by trivial⟩
          case measure => simp [RowKit.intOf]
    · have HS := Lib.hid hs
      clear hs
      go_wp2_with fail
      go_ret
      exact ⟨Or.inr ⟨rfl, HS.out⟩, Below.refl _ _⟩
end Go.Proofs.YtchokmhfgikglaaGreatDoor

namespace Go.Proofs.YtchokmhfgikglaaGreatDoor
set_option maxRecDepth 100000
open Go.RowKit Go.Shelf Go.Lib

theorem beq_bytes (a : ByteArray) : (a == a) = true := by
  obtain ⟨d⟩ := a
  show (d == d) = true
  exact beq_self_eq_true d

theorem pr_script (t : List Nat) : [108, 101, 116, 32, 97, 32, 61, 32] ++ t ++ [10, 115, 104, 111, 119, 32, 97, 10, 108, 101, 116, 32, 98, 32, 61, 32] ++ t ++ [10, 115, 104, 111, 119, 32, 98, 10] = jn [lnL 97 t, lnS 97, lnL 98 t, lnS 98, []] := by
  simp [jn, lnL, lnS]

set_option maxHeartbeats 6400000 in
theorem lawTopPrints_any (v : Value) (ts : List (Bool × List Nat × List Nat)) (w : World) (h : RowO w v ts) (hm : MaxAt w) :
    Calls Tryz.prog 4 #[v] w fun e w' => e = .returned (.bool true) ∧ Below w.heap.size w w' := by
  have hal : Below w.heap.size w (w.alloc (.cells #[v] 35)) := (Below.refl _ _).alloc (Nat.le_refl _) _
  have b0 := Blk.new w 35 #[v]
  have HMU := Lib.hid (much_any w.heap.size v ts _ (b0.cell 0) (h.after hal))
  have HX : Hid (SmT ts → ∀ W, Below w.heap.size w W → RowX W v (ts.map qT) 1) := fun hs W hb => (h.x hs).after hb
  have HM : Hid (∀ W, Below w.heap.size w W → MaxAt W) := fun W hb => hm.below hb
  have HAL := Lib.hid hal
  obtain ⟨A, c, rfl, hd⟩ := h
  clear hd
  generalize hxs : ts.map qT = xs at *
  have hln : ts.length = xs.length := by rw [← hxs, List.length_map]
  generalize hn : ts.length = n at *
  subst hln
  clear hm hal b0
  go_enter Tryz.func4, Tryz.ntmps4
  go_wp2_with fail
  go_fit HMU.out
  rintro e w3 ⟨rfl | ⟨rfl, hs⟩, hb3⟩
  · have HB := Lib.hid (HAL.out.trans (hb3.mono HAL.out.size))
    clear hb3
    go_wp2_with fail
    go_ret
    exact ⟨rfl, HB.out⟩
  have HB3 := Lib.hid (HAL.out.trans (hb3.mono HAL.out.size))
  have HXA : Hid (∀ W, Below w.heap.size w W → RowX W (.slice A xs.length c) xs 1) := HX.out hs
  have hsm : Sml xs := ⟨by rw [← hn]; exact hs.1, (HXA.out _ HB3.out).sz (Nat.le_refl _)⟩
  have hlen := hsm.len
  have hbyt := rowT_byt xs
  have HPR := Lib.hid (dataPrint_q _ xs w3 ((HXA.out _ HB3.out).mono (by omega)) (by have := hsm.1; omega))
  have HRUN : Hid (∀ W, Below w.heap.size w W → Calls Tryz.prog 16 #[.string (strN (jn (prL xs)))] W fun e w' => e = .returned (.string (strN (prW1 xs ++ prW1 xs))) ∧ Below W.heap.size W w') := fun W hb => pr_run xs hsm W (HM.out W hb)
  have HPA : Hid (∀ W, Below w.heap.size w W → Calls Tryz.prog 17 #[.string (strN (rowT xs))] W fun e w' => ∃ v, e = .returned (.tuple #[v, .int .i64 0]) ∧ RowIn w' 0 w'.heap.size v xs ∧ Below W.heap.size W w') := fun W hb => by
    have hp := dataParse_any (rowT xs) hbyt (by omega) (by rw [textV_rowT xs hsm.word]; have := hsm.1; show xs.length ≤ 256; omega) W (HM.out W hb)
    rw [textV_rowT xs hsm.word] at hp
    refine hp.mono ?_
    rintro e w' (⟨_, v, h1, h2, h3⟩ | ⟨h1, _⟩)
    · exact ⟨v, h1, h2.low (Nat.zero_le _), h3⟩
    · exact absurd rfl h1
  have HRT : Hid (∀ W u v, RowX W u xs 400 → RowX W v xs 400 → Calls Tryz.prog 12 #[u, v] W fun e w' => e = .returned (.bool true) ∧ Below W.heap.size W w') := fun W u v h1 h2 => rats_x u v xs W h1 h2
  have HKN : Hid (∀ W, Below w.heap.size w W → Calls Tryz.prog 13 #[] W fun e w' => e = .returned (.bool true) ∧ Below W.heap.size W w') := fun W hb => topKnown_any W (HM.out W hb)
  have HSZ := Lib.hid (hsm.sz 400 (by omega))
  have ha1 : Hid (∀ W : World, (Op.stringOp .add ⟨#[108, 101, 116, 32, 97, 32, 61, 32]⟩ (strN (rowT xs))).run Tryz.prog W = .ok (.string (strN ([108, 101, 116, 32, 97, 32, 61, 32] ++ rowT xs))) W) := fun W => add_str [108, 101, 116, 32, 97, 32, 61, 32] _ (by simp; omega) W
  have ha2 : Hid (∀ W : World, (Op.stringOp .add (strN ([108, 101, 116, 32, 97, 32, 61, 32] ++ rowT xs)) ⟨#[10, 115, 104, 111, 119, 32, 97, 10, 108, 101, 116, 32, 98, 32, 61, 32]⟩).run Tryz.prog W = .ok (.string (strN ([108, 101, 116, 32, 97, 32, 61, 32] ++ rowT xs ++ [10, 115, 104, 111, 119, 32, 97, 10, 108, 101, 116, 32, 98, 32, 61, 32]))) W) := fun W => add_str _ [10, 115, 104, 111, 119, 32, 97, 10, 108, 101, 116, 32, 98, 32, 61, 32] (by simp; omega) W
  have ha3 : Hid (∀ W : World, (Op.stringOp .add (strN ([108, 101, 116, 32, 97, 32, 61, 32] ++ rowT xs ++ [10, 115, 104, 111, 119, 32, 97, 10, 108, 101, 116, 32, 98, 32, 61, 32])) (strN (rowT xs))).run Tryz.prog W = .ok (.string (strN ([108, 101, 116, 32, 97, 32, 61, 32] ++ rowT xs ++ [10, 115, 104, 111, 119, 32, 97, 10, 108, 101, 116, 32, 98, 32, 61, 32] ++ rowT xs))) W) := fun W => add_str _ _ (by simp; omega) W
  have ha4 : Hid (∀ W : World, (Op.stringOp .add (strN ([108, 101, 116, 32, 97, 32, 61, 32] ++ rowT xs ++ [10, 115, 104, 111, 119, 32, 97, 10, 108, 101, 116, 32, 98, 32, 61, 32] ++ rowT xs)) ⟨#[10, 115, 104, 111, 119, 32, 98, 10]⟩).run Tryz.prog W = .ok (.string (strN (jn (prL xs)))) W) := fun W => by
    have := add_str ([108, 101, 116, 32, 97, 32, 61, 32] ++ rowT xs ++ [10, 115, 104, 111, 119, 32, 97, 10, 108, 101, 116, 32, 98, 32, 61, 32] ++ rowT xs) [10, 115, 104, 111, 119, 32, 98, 10] (by simp; omega) (P := Tryz.prog) W
    rw [pr_script] at this
    exact this
  have hc1 : Hid (∀ W : World, (Op.stringOp .add ⟨#[111, 107, 10]⟩ (strN (rowT xs))).run Tryz.prog W = .ok (.string (strN ([111, 107, 10] ++ rowT xs))) W) := fun W => add_str [111, 107, 10] _ (by simp; omega) W
  have hc2 : Hid (∀ W : World, (Op.stringOp .add (strN ([111, 107, 10] ++ rowT xs)) ⟨#[10, 111, 107, 10]⟩).run Tryz.prog W = .ok (.string (strN ([111, 107, 10] ++ rowT xs ++ [10, 111, 107, 10]))) W) := fun W => add_str _ [10, 111, 107, 10] (by simp; omega) W
  have hc3 : Hid (∀ W : World, (Op.stringOp .add (strN ([111, 107, 10] ++ rowT xs ++ [10, 111, 107, 10])) (strN (rowT xs))).run Tryz.prog W = .ok (.string (strN ([111, 107, 10] ++ rowT xs ++ [10, 111, 107, 10] ++ rowT xs))) W) := fun W => add_str _ _ (by simp; omega) W
  have hc4 : Hid (∀ W : World, (Op.stringOp .add (strN ([111, 107, 10] ++ rowT xs ++ [10, 111, 107, 10] ++ rowT xs)) ⟨#[10]⟩).run Tryz.prog W = .ok (.string (strN (prW1 xs ++ prW1 xs))) W) := fun W => by
    have := add_str ([111, 107, 10] ++ rowT xs ++ [10, 111, 107, 10] ++ rowT xs) [10] (by simp; omega) (P := Tryz.prog) W
    have e : [111, 107, 10] ++ rowT xs ++ [10, 111, 107, 10] ++ rowT xs ++ [10] = prW1 xs ++ prW1 xs := by unfold prW1; simp
    rw [e] at this
    exact this
  clear HMU HX hs hb3 hlen hbyt hsm HM
  generalize strN (jn (prL xs)) = SC at *
  generalize strN (prW1 xs ++ prW1 xs) = WT at *
  generalize strN ([108, 101, 116, 32, 97, 32, 61, 32] ++ rowT xs ++ [10, 115, 104, 111, 119, 32, 97, 10, 108, 101, 116, 32, 98, 32, 61, 32] ++ rowT xs) = S3 at *
  generalize strN ([108, 101, 116, 32, 97, 32, 61, 32] ++ rowT xs ++ [10, 115, 104, 111, 119, 32, 97, 10, 108, 101, 116, 32, 98, 32, 61, 32]) = S2 at *
  generalize strN ([108, 101, 116, 32, 97, 32, 61, 32] ++ rowT xs) = S1 at *
  generalize strN ([111, 107, 10] ++ rowT xs ++ [10, 111, 107, 10] ++ rowT xs) = U3 at *
  generalize strN ([111, 107, 10] ++ rowT xs ++ [10, 111, 107, 10]) = U2 at *
  generalize strN ([111, 107, 10] ++ rowT xs) = U1 at *
  generalize strN (rowT xs) = T at *
  have hbq := beq_bytes WT
  go_wp2_with fail
  go_fit HPR.out
  rintro e w4 ⟨rfl, hb4⟩
  have HB4 := Lib.hid (HB3.out.trans (hb4.mono HB3.out.size))
  have a1 := ha1.out
  have a2 := ha2.out
  have a3 := ha3.out
  have a4 := ha4.out
  clear hb4 HPR ha1 ha2 ha3 ha4
  go_wp2_with fail
  go_fit (HRUN.out _ HB4.out)
  rintro e w5 ⟨rfl, hb5⟩
  have HB5 := Lib.hid (HB4.out.trans (hb5.mono HB4.out.size))
  have c1 := hc1.out
  have c2 := hc2.out
  have c3 := hc3.out
  have c4 := hc4.out
  clear hb5 hc1 hc2 hc3 hc4 a1 a2 a3 a4
  go_wp2_with fail
  go_fit (HPA.out _ HB5.out)
  rintro e w6 ⟨v6, rfl, hr6, hb6⟩
  have HB6 := Lib.hid (HB5.out.trans (hb6.mono HB5.out.size))
  have HR6 := Lib.hid (RowX.of_in hr6 HSZ.out)
  have HR0 := Lib.hid ((HXA.out _ HB6.out).mono (show 1 ≤ 400 by omega))
  clear hb6 hr6 c1 c2 c3 c4
  obtain ⟨A6, c6, rfl, _⟩ := HR6.out
  go_wp2_with fail
  go_fit (HRT.out _ _ _ HR0.out HR6.out)
  rintro e w7 ⟨rfl, hb7⟩
  have HB7 := Lib.hid (HB6.out.trans (hb7.mono HB6.out.size))
  clear hb7
  go_wp2_with fail
  go_fit (HKN.out _ HB7.out)
  rintro e w8 ⟨rfl, hb8⟩
  have HB8 := Lib.hid (HB7.out.trans (hb8.mono HB7.out.size))
  clear hb8
  go_wp2_with fail
  go_ret
  exact ⟨rfl, HB8.out⟩
end Go.Proofs.YtchokmhfgikglaaGreatDoor

namespace Go.Proofs.YtchokmhfgikglaaGreatDoor
open Go.RowKit
variable {H : Type} {enc : TypeId × Value → H}

theorem wrap_and_shaped {a : Assume} {C : Checked} {os : Os} {f : FuncId} {fn : Func} {s : ChangeSpec} {conds : List PathCond} {apart fresh handsOn again : Bool} {X : World → Array Value → Prop}
    (hX : ∀ (w w' : World) (args : Array Value), w.heap = w'.heap → X w args → X w' args)
    (own : ownKnob C.prog.godebug = none) (started : os.Started) (noInit : C.prog.inits.idxOf? f = none) (hfn : C.prog.funcs[f]? = some fn)
    (witness : ∃ (w : World) (tape : Tape) (i : Input), w.os = os ∧ (w.forCall tape i).Shaped C.prog ∧ i.vars = [] ∧ Input.okWide C.prog (w.forCall tape i) .any w.heap.size f i ∧
      ((s.pre enc C.prog fn conds apart (w.forCall tape i).memory i.args ∧ X (w.forCall tape i).memory i.args) ∧ sizedMet enc C.prog fn (OpenSpec.ofChange s) apart (w.forCall tape i).memory i.args) ∧ a.holds C.prog (lone (Frame.enter C.prog f i.args .normal) [] (w.forCall tape i)))
    (contract : ∀ (W : World) (base : Nat) (args : Array Value) (ds gs : List (DataW H)) (before : List MemPlace),
      (∀ (j : Nat) t v, fn.params[j]? = some t → args[j]? = some v → Value.okWide C.prog W .any base t v) →
      DataW.Whole enc C.prog fn.params.toList s.vars apart W args.toList ds gs before →
      conds.all (PathCond.test C.prog ⟨fn.params.toList, ds, s.plain.varTypes C.prog, gs⟩) = true →
      (DataW.weightsEach C.prog (fn.params.toList ++ s.plain.varTypes C.prog) (ds ++ gs)).all (· ≤ reachBytes) = true → X W args → W.ShapedOpen C.prog →
      Calls C.prog f args W fun e W' => ∃ v, e = .returned v ∧ s.post enc C.prog fn apart fresh handsOn again W args v W') :
    ReturnsInHanded a C os f .any (fun w args => (s.pre enc C.prog fn conds apart w args ∧ X w args) ∧ sizedMet enc C.prog fn (OpenSpec.ofChange s) apart w args) (s.post enc C.prog fn apart fresh handsOn again) := by
  refine returnsInHanded_of_calls own started noInit witness ?_
  intro w tape i _ hsh _ hok hpre _
  obtain ⟨_, _, _, fn', hfn', _, _, _, _, hval⟩ := hok
  obtain rfl : fn' = fn := Option.some.inj (hfn'.symm.trans hfn)
  obtain ⟨⟨⟨ds, gs, before, hw, hc⟩, hx⟩, hz⟩ := hpre
  have hw' := DataW.Whole.of_heap (w' := w.forCall tape i) (by rfl) hw
  refine (contract (w.forCall tape i) w.heap.size i.args ds gs before hval hw' hc (hz.weights hw) (hX _ _ _ (by rfl) hx) hsh).mono fun e W' ⟨v, he, hp⟩ => ?_
  subst he
  exact ChangeSpec.post_blind hp

theorem maxAt_shaped (W : World) (h : W.ShapedOpen Tryz.prog) : MaxAt W :=
  cell_of_shapedOpen_int (g := 0) (t := 3) (zero := #[.int .i64 0]) (k := .i64) h (of_decide_eq_true (by kernel_rfl)) (by kernel_rfl) rfl (by kernel_rfl) (by kernel_rfl) Tryz.underlying3
end Go.Proofs.YtchokmhfgikglaaGreatDoor
