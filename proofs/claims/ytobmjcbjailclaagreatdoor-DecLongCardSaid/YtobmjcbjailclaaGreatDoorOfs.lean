/- 'Of' and the reference's: a number of 64 bits as limbs. No condition. -/
import Derived.Test.YtobmjcbjailclaaGreatDoorShiftAny
import Derived.Outline
namespace Go.Proofs.YtobmjcbjailclaaGreatDoor
set_option maxRecDepth 100000
open Go.RowKit

theorem val_two (n : Nat) : val [n % 4294967296, n / 4294967296] = n := by
  simp only [val]
  omega

theorem lv_two (n : Nat) : (lv [n % 4294967296, n / 4294967296]).toArray = #[.int .u32 ((n : Int) % 4294967296), .int .u32 ((n : Int) / 4294967296)] := by
  simp [lv]

theorem two_laid (n : Nat) (w : World) (e : TypeId) (W : World) (hW : W = w.alloc (.cells #[.int .u32 ((n : Int) % 4294967296), .int .u32 ((n : Int) / 4294967296)] e)) :
    Nt W w.heap.size W.heap.size (.slice (some ⟨w.heap.size, 0, none⟩) 2 2) [n % 4294967296, n / 4294967296] ∧ Below w.heap.size w W := by
  subst hW
  rw [← lv_two]
  have hs : (w.alloc (.cells (lv [n % 4294967296, n / 4294967296]).toArray e)).heap.size = w.heap.size + 1 := by simp
  refine ⟨?_, (Below.refl _ _).alloc (Nat.le_refl _) _⟩
  rw [hs]
  exact nt_new w e [n % 4294967296, n / 4294967296] (by simp)

theorem dig_two {n : Nat} (hn : n < 18446744073709551616) : Dig [n % 4294967296, n / 4294967296] := Dig.cons (Nat.mod_lt _ (by omega)) (dig_one (by omega))

set_option maxHeartbeats 800000 in
theorem of_any (n : Nat) (w : World) (hn : n < 18446744073709551616) :
    Calls Tryz.prog 54 #[.int .u64 (n : Int)] w (Gives (lim n) w) := by
  have hd := dig_two hn
  have V := Lib.hid (val_two n)
  go_enter Tryz.func54, Tryz.ntmps54
  go_wp2_with fail
  obtain ⟨W, hW⟩ : ∃ W, w.alloc (.cells #[.int .u32 ((n : Int) % 4294967296), .int .u32 ((n : Int) / 4294967296)] 43) = W := ⟨_, rfl⟩
  obtain ⟨hl, hb⟩ := two_laid n w _ W hW.symm
  rw [hW]
  clear hW
  refine (trim_any _ _ _ _ _ hd hl).mono ?_
  rintro e w2 ⟨v2, rfl, h2, rfl⟩
  rw [V.out] at h2
  go_wp2
  go_ret
  exact ⟨_, rfl, h2, hb⟩

set_option maxHeartbeats 800000 in
theorem refOf_any (n : Nat) (w : World) (hn : n < 18446744073709551616) :
    Calls Tryz.prog 83 #[.int .u64 (n : Int)] w (Gives (lim n) w) := by
  have hd := dig_two hn
  have V := Lib.hid (val_two n)
  go_enter Tryz.func83, Tryz.ntmps83
  go_wp2_with fail
  obtain ⟨W, hW⟩ : ∃ W, w.alloc (.cells #[.int .u32 ((n : Int) % 4294967296), .int .u32 ((n : Int) / 4294967296)] 43) = W := ⟨_, rfl⟩
  obtain ⟨hl, hb⟩ := two_laid n w _ W hW.symm
  rw [hW]
  clear hW
  refine (refTrim_any _ _ _ hd (hl.low (Nat.zero_le _)) (by simp)).mono ?_
  rintro e w2 ⟨v2, rfl, h2, hb2⟩
  rw [V.out] at h2
  go_wp2
  go_ret
  exact ⟨_, rfl, h2.low hb.size, hb.trans (hb2.mono hb.size)⟩
end Go.Proofs.YtobmjcbjailclaaGreatDoor
