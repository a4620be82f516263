/- The law's look at sizes. No condition. -/
import Derived.Test.YtdgfijnficbblaaDecKnown
namespace Go.Proofs.Ytdgfijnficbblaa
open Go.RowKit Go.Shelf Go.Lib

set_option maxHeartbeats 1600000 in
theorem big_two (w : World) (g n1 n2 n3 n4 k1 k2 k3 k4 : Nat) (A1 A2 A3 A4 : Option Addr) (c1 : w.cell? ⟨g, 1, none⟩ = some (.slice A1 n1 k1)) (c2 : w.cell? ⟨g, 2, none⟩ = some (.slice A2 n2 k2)) (c3 : w.cell? ⟨g, 4, none⟩ = some (.slice A3 n3 k3)) (c4 : w.cell? ⟨g, 5, none⟩ = some (.slice A4 n4 k4))
    (hg : g < w.heap.size) (m1 : n1 ≤ 70368744177664) (m2 : n2 ≤ 70368744177664) (m3 : n3 ≤ 70368744177664) (m4 : n4 ≤ 70368744177664) :
    Calls Try.prog 4 #[.slice (some ⟨g, 0, none⟩) 2 2] w fun e w' => (∃ b, e = .returned (.bool b) ∧ (b = false → n1 + n2 + n3 + n4 ≤ 16)) ∧ Below w.heap.size w w' := by
  go_enter Try.func4, Try.ntmps4
  have hB : Below w.heap.size w w := Below.refl _ _
  go_wp2_with fail
  go_loopw [3, 4] (fun n i wr => ∃ k m : Nat, k ≤ 2 ∧ i = .int .i64 (k : Int) ∧ n = .int .i64 (m : Int) ∧ m ≤ 16 ∧ (k = 0 → m = 0) ∧ (k = 1 → m = n1 + n2) ∧ (k = 2 → m = n1 + n2 + n3 + n4) ∧ Below w.heap.size w wr) (fun _ i _ => 2 - (RowKit.intOf i).toNat)
  case atStart => exact ⟨0, 0, by omega, rfl, rfl, by omega, fun _ => rfl, by omega, by omega, hB⟩
  case round =>
    obtain ⟨k, m, hk, rfl, rfl, hm, h0, h1, h2, hB⟩ := hrel
    have d1 := (hB.cell (p := ⟨g, 1, none⟩) hg).trans c1
    have d2 := (hB.cell (p := ⟨g, 2, none⟩) hg).trans c2
    have d3 := (hB.cell (p := ⟨g, 4, none⟩) hg).trans c3
    have d4 := (hB.cell (p := ⟨g, 5, none⟩) hg).trans c4
    clear c1 c2 c3 c4
    have hc : k = 0 ∨ k = 1 ∨ k = 2 := by omega
    rcases hc with rfl | rfl | rfl
    · obtain rfl := h0 rfl
      obtain ⟨M, hM⟩ : ∃ M, n1 + n2 = M := ⟨_, rfl⟩
      have w1 : (n1 : Int) + (n2 : Int) = (M : Int) := by omega
      have HM := Lib.hid hM
      clear hM
      clear h0 h1 h2
      by_cases hb : M ≤ 16
      · have hbI : ¬ (16 : Int) < (M : Int) := by omega
        go_wp2_with fail
        go_quiet (fail)
        have hB2 : Below w.heap.size w (wr.drewN nq) := ⟨hB.os, hB.tape, hB.output, hB.size, hB.block⟩
        clear d1 d2 d3 d4
        go_wp2_with fail
        refine ⟨⟨1, M, by omega, by go_num, rfl, hb, by omega, fun _ => HM.out.symm, by omega, hB2⟩, ?_⟩
        simp [RowKit.intOf]
      · have hbI : (16 : Int) < (M : Int) := by omega
        go_wp2_with fail
        go_quiet (fail)
        have hB2 : Below w.heap.size w (wr.drewN nq) := ⟨hB.os, hB.tape, hB.output, hB.size, hB.block⟩
        clear d1 d2 d3 d4
        go_wp2_with fail
        go_ret
        exact ⟨⟨true, rfl, fun h => by cases h⟩, hB2⟩
    · have h1' := h1 rfl
      obtain ⟨m3', hm3⟩ : ∃ M, m + n3 = M := ⟨_, rfl⟩
      obtain ⟨M, hM⟩ : ∃ M, m3' + n4 = M := ⟨_, rfl⟩
      have w0 : (m : Int) + (n3 : Int) = (m3' : Int) := by omega
      have w1 : (m3' : Int) + (n4 : Int) = (M : Int) := by omega
      have HM : Hid (M = n1 + n2 + n3 + n4) := by show _ = _; omega
      have hm3b : m3' ≤ 70368744177664 + 16 := by omega
      clear hM hm3 h1'
      clear h0 h1 h2
      by_cases hb : M ≤ 16
      · have hbI : ¬ (16 : Int) < (M : Int) := by omega
        go_wp2_with fail
        go_quiet (fail)
        have hB2 : Below w.heap.size w (wr.drewN nq) := ⟨hB.os, hB.tape, hB.output, hB.size, hB.block⟩
        clear d1 d2 d3 d4
        go_wp2_with fail
        refine ⟨⟨2, M, by omega, by go_num, rfl, hb, by omega, by omega, fun _ => HM.out, hB2⟩, ?_⟩
        simp [RowKit.intOf]
      · have hbI : (16 : Int) < (M : Int) := by omega
        go_wp2_with fail
        go_quiet (fail)
        have hB2 : Below w.heap.size w (wr.drewN nq) := ⟨hB.os, hB.tape, hB.output, hB.size, hB.block⟩
        clear d1 d2 d3 d4
        go_wp2_with fail
        go_ret
        exact ⟨⟨true, rfl, fun h => by cases h⟩, hB2⟩
    · have h2' := h2 rfl
      clear h0 h1 h2 d1 d2 d3 d4
      go_wp2_with fail
      go_ret
      exact ⟨⟨false, rfl, fun _ => by omega⟩, hB⟩
end Go.Proofs.Ytdgfijnficbblaa
