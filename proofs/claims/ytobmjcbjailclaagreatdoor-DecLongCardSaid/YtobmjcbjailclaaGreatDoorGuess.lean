/- The program's 'guess' by its contract. Condition: the limbs' sizes, the divisor's highest bit. -/
import Derived.Test.YtobmjcbjailclaaGreatDoorNumQuot
import Derived.Test.YtobmjcbjailclaaGreatDoorSmall
namespace Go.Proofs.YtobmjcbjailclaaGreatDoor
set_option maxRecDepth 100000
open Go.RowKit

set_option maxHeartbeats 3200000 in
theorem guess_any (high mid low b1 b2 : Nat) (w : World) (h1 : high ≤ b1) (hn : 2147483648 ≤ b1) (hb1 : b1 < 4294967296) (hb2 : b2 < 4294967296) (hm : mid < 4294967296) (hl : low < 4294967296) :
    Calls Tryz.prog 134 #[.int .u32 (high : Int), .int .u32 (mid : Int), .int .u32 (low : Int), .int .u32 (b1 : Int), .int .u32 (b2 : Int)] w fun e w' => e = .returned (.int .u64 (guessN 4294967296 (high * 4294967296 + mid) low b1 b2 : Nat)) ∧ Below w.heap.size w w' := by
  obtain ⟨m, hm0⟩ : ∃ m, high * 4294967296 = m := ⟨_, rfl⟩
  have hW2 : (high : Int) * 4294967296 = (m : Int) := by omega
  obtain ⟨u, hu0⟩ : ∃ u, m + mid = u := ⟨_, rfl⟩
  have hml : m < 18446744073709551616 := by omega
  have hor : bits BinOp.or IntKind.u64 (m : Int) (mid : Int) = (u : Int) := by
    rw [u64_or_nat m mid (by omega) (by omega), Nat.or_comm, or_add (m := m) (h := mid) (s := 32) (by omega) ⟨high, by omega⟩]
    omega
  have hul : u < 18446744073709551616 := by omega
  have hub : Hid (u < (b1 + 1) * 4294967296) := by show _ < _; omega
  rw [hm0, hu0]
  have hs := guessAt_start (B := 4294967296) (u := u) (b2 := b2) (by omega : 0 < b1) hb1 hl
  have HS0 := Lib.hid hs
  have hb1I : ¬ (b1 : Int) = 0 := by omega
  have hql : u / b1 < 18446744073709551616 := Nat.lt_of_le_of_lt (Nat.div_le_self _ _) hul
  have hrl : u % b1 < b1 := Nat.mod_lt _ (by omega)
  obtain ⟨q0, hq0⟩ : ∃ q, u / b1 = q := ⟨_, rfl⟩
  obtain ⟨r0, hr0⟩ : ∃ r, u % b1 = r := ⟨_, rfl⟩
  have hdv : (u : Int) / (b1 : Int) = (q0 : Int) := by rw [← hq0]; exact (Int.natCast_ediv u b1).symm
  have hmd : (u : Int).tmod (b1 : Int) = (r0 : Int) := by rw [Int.tmod_eq_emod_of_nonneg (by omega), ← hr0]; exact (Int.natCast_emod u b1).symm
  rw [hq0] at hql HS0
  rw [hr0] at hrl HS0
  clear hs hm0 hu0 hq0 hr0
  go_enter Tryz.func134, Tryz.ntmps134
  go_wp2_with fail
  go_region
  go_wp2_with fail
  have hb0 : Below w.heap.size w w.drew := (Below.refl _ _).drew
  clear hdv hmd hor hW2
  go_loopw [12, 13] (fun a b wr => ∃ (q r : Nat), a = .int .u64 (q : Nat) ∧ b = .int .u64 (r : Nat) ∧ q < 18446744073709551616 ∧ r < 4294967296 ∧ Hid (GuessAt 4294967296 u low b1 b2 q r) ∧ Below w.heap.size w wr)
    (fun a _ _ => (intOf a).toNat)
  case atStart => exact ⟨q0, r0, rfl, rfl, hql, by omega, HS0, hb0⟩
  case round =>
    obtain ⟨q, r, rfl, rfl, hq, hr, HG, hb⟩ := hrel
    clear hql hrl HS0 hb0
    by_cases hqB : q < 4294967296
    · have hq0 : (q : Int) / 4294967296 = 0 := by omega
      obtain ⟨m2, hm2⟩ : ∃ z, q * b2 = z := ⟨_, rfl⟩
      have hm2l : m2 < 18446744073709551616 := by
        have : q * b2 ≤ 4294967296 * 4294967295 := Nat.mul_le_mul (by omega) (by omega)
        omega
      have hm2I : (q : Int) * (b2 : Int) = (m2 : Int) := by rw [← hm2]; exact (Int.natCast_mul _ _).symm
      obtain ⟨m3, hm3⟩ : ∃ z, r * 4294967296 = z := ⟨_, rfl⟩
      have hm3l : m3 < 18446744073709551616 := by omega
      have hm3I : (r : Int) * 4294967296 = (m3 : Int) := by omega
      obtain ⟨t, ht⟩ : ∃ z, m3 + low = z := ⟨_, rfl⟩
      have htl : t < 18446744073709551616 := by omega
      have hort : bits BinOp.or IntKind.u64 (m3 : Int) (low : Int) = (t : Int) := by
        rw [u64_or_nat m3 low (by omega) (by omega), Nat.or_comm, or_add (m := m3) (h := low) (s := 32) (by omega) ⟨r, by omega⟩]
        omega
      by_cases hle : m2 ≤ t
      · have hend := guessAt_end (by omega : 0 < b1) (by omega : 0 < 4294967296) HG.out hqB (by rw [hm2, hm3, ht]; exact hle)
        have HEND := Lib.hid hend
        clear hm2 hm3 ht hend
        go_wp2_with fail
        go_ret
        exact ⟨by rw [← HEND.out]; rfl, hb⟩
      · have hlt : Hid (r * 4294967296 + low < q * b2) := by show _ < _; omega
        clear hm2 hm3 ht
        have hls := guessAt_less (by omega : 0 < b1) (by omega : 0 < 4294967296) HG.out (Or.inr hlt.out)
        have hq1 := hls.1
        obtain ⟨p, hp⟩ : ∃ p, q - 1 = p := ⟨_, rfl⟩
        have ep : (q : Int) - 1 = (p : Int) := by omega
        have hpq : Hid (p < q) := by show p < q; omega
        have hpl : p < 18446744073709551615 := by omega
        rw [hp] at hls
        clear hp
        obtain ⟨r1, hr1⟩ : ∃ r1, r + b1 = r1 := ⟨_, rfl⟩
        have er : (r : Int) + (b1 : Int) = (r1 : Int) := by omega
        rw [hr1] at hls
        have HLS := Lib.hid hls
        by_cases hbr : r1 < 4294967296
        · have hd1 : (r1 : Int) / 4294967296 = 0 := by omega
          have HGP : Hid (GuessAt 4294967296 u low b1 b2 p r1) := ⟨HLS.out.2.1, HLS.out.2.2, hbr⟩
          clear hls hr1
          go_wp2_with fail
          refine ⟨⟨p, r1, rfl, rfl, by omega, hbr, HGP, hb⟩, ?_⟩
          have := hpq.out
          simp only [intOf]
          omega
        · have hbk := guessAt_break (by omega : 0 < b1) hb2 hub.out hls.2.1 hls.2.2 (by omega : 4294967296 ≤ r1)
          have HBK := Lib.hid hbk
          have hd1 : (r1 : Int) / 4294967296 = 1 := by omega
          clear hls hr1 hbk
          go_wp2_with fail
          go_ret
          exact ⟨by rw [← HBK.out]; rfl, hb⟩
    · obtain ⟨z, hz⟩ : ∃ z : Int, (q : Int) / 4294967296 = z := ⟨_, rfl⟩
      have hz0 : ¬ z = 0 := by omega
      have hls := guessAt_less (by omega : 0 < b1) (by omega : 0 < 4294967296) HG.out (Or.inl (by omega))
      have hq1 := hls.1
      obtain ⟨p, hp⟩ : ∃ p, q - 1 = p := ⟨_, rfl⟩
      have ep : (q : Int) - 1 = (p : Int) := by omega
      have hpq : Hid (p < q) := by show p < q; omega
      have hpl : p < 18446744073709551615 := by omega
      rw [hp] at hls
      clear hp
      obtain ⟨r1, hr1⟩ : ∃ r1, r + b1 = r1 := ⟨_, rfl⟩
      have er : (r : Int) + (b1 : Int) = (r1 : Int) := by omega
      rw [hr1] at hls
      have HLS := Lib.hid hls
      by_cases hbr : r1 < 4294967296
      · have hd1 : (r1 : Int) / 4294967296 = 0 := by omega
        have HGP : Hid (GuessAt 4294967296 u low b1 b2 p r1) := ⟨HLS.out.2.1, HLS.out.2.2, hbr⟩
        clear hls hr1
        go_wp2_with fail
        refine ⟨⟨p, r1, rfl, rfl, by omega, hbr, HGP, hb⟩, ?_⟩
        have := hpq.out
        simp only [intOf]
        omega
      · have hbk := guessAt_break (by omega : 0 < b1) hb2 hub.out hls.2.1 hls.2.2 (by omega : 4294967296 ≤ r1)
        have HBK := Lib.hid hbk
        have hd1 : (r1 : Int) / 4294967296 = 1 := by omega
        clear hls hr1 hbk
        go_wp2_with fail
        go_ret
        exact ⟨by rw [← HBK.out]; rfl, hb⟩
end Go.Proofs.YtobmjcbjailclaaGreatDoor
