/- The law's 'known' about halves. No condition. -/
import Derived.Test.YtdgfijnficbblaaDecC
import Derived.Test.YtdgfijnficbblaaShiftAny
namespace Go.Proofs.Ytdgfijnficbblaa
open Go.RowKit Go.Shelf Go.Lib

theorem fix_one (w : World) (v : Value) (h : Rt w 0 w.heap.size v false [5] [2]) : Calls Try.prog 14 #[v, .int .i64 0] w fun e w' => e = .returned (.string (strN [50])) ∧ Below w.heap.size w w' := by
  have hv5 : val [5] = 5 := rfl
  have hv2 : val [2] = 2 := rfl
  have := fixed_any v false [5] [2] 0 w (by intro x hx; simp at hx; omega) (by intro x hx; simp at hx; omega) h (by simp) (by simp) false 5 2 0 2 (by rw [hv5, hv2]; exact (nr_low (by decide) (by decide) (by decide)).1) (by rw [hv5, hv2]; exact (nr_low (s := false) (by decide) (by decide) (by decide)).2.1) (by rw [hv5, hv2]; exact (nr_low (s := false) (by decide) (by decide) (by decide)).2.2) (by decide) (by decide)
  have e : sgn (nrS false 2 (10 ^ 0)) ++ pnt (prn 2) 0 = [50] := by
    unfold prn digs
    rw [if_neg (by omega), dec_pos (by omega), show 2 / 10 = 0 from rfl, dec_zero]
    rfl
  rw [e] at this
  exact this

theorem fix_two (w : World) (v : Value) (h : Rt w 0 w.heap.size v true [1] [8]) : Calls Try.prog 14 #[v, .int .i64 2] w fun e w' => e = .returned (.string (strN [45, 48, 46, 49, 50])) ∧ Below w.heap.size w w' := by
  have hv5 : val [1] = 1 := rfl
  have hv2 : val [8] = 8 := rfl
  have := fixed_any v true [1] [8] 2 w (by intro x hx; simp at hx; omega) (by intro x hx; simp at hx; omega) h (by simp) (by simp) true 1 8 2 12 (by rw [hv5, hv2]; exact (nr_low (by decide) (by decide) (by decide)).1) (by rw [hv5, hv2]; exact (nr_low (s := false) (by decide) (by decide) (by decide)).2.1) (by rw [hv5, hv2]; exact (nr_low (s := false) (by decide) (by decide) (by decide)).2.2) (by decide) (by decide)
  have e : sgn (nrS true 12 (10 ^ 2)) ++ pnt (prn 12) 2 = [45, 48, 46, 49, 50] := by
    unfold prn digs
    rw [if_neg (by omega), dec_pos (by omega), show 12 / 10 = 1 from rfl, dec_pos (by omega), show 1 / 10 = 0 from rfl, dec_zero]
    rfl
  rw [e] at this
  exact this

theorem rt_laid (w : World) (e : TypeId) (s : Bool) (x y : Nat) :
    Rt ((w.alloc (.cells #[.int .u32 (x : Int)] e)).alloc (.cells #[.int .u32 (y : Int)] e)) 0 ((w.alloc (.cells #[.int .u32 (x : Int)] e)).alloc (.cells #[.int .u32 (y : Int)] e)).heap.size (.agg #[.bool s, .slice (some ⟨w.heap.size, 0, none⟩) 1 1, .slice (some ⟨w.heap.size + 1, 0, none⟩) 1 1]) s [x] [y] ∧
      Below w.heap.size w ((w.alloc (.cells #[.int .u32 (x : Int)] e)).alloc (.cells #[.int .u32 (y : Int)] e)) := by
  obtain ⟨h1, b1⟩ := nt_laid w e [x] (by simp)
  obtain ⟨h2, b2⟩ := nt_laid (w.alloc (.cells #[.int .u32 (x : Int)] e)) e [y] (by simp)
  have e1 : (w.alloc (.cells #[.int .u32 (x : Int)] e)).heap.size = w.heap.size + 1 := by simp
  rw [e1] at h2
  exact ⟨⟨_, _, rfl, (h1.alloc (Nat.le_refl _) _).up (by simp), h2⟩, b1.trans (b2.mono b1.size)⟩

set_option maxHeartbeats 1600000 in
theorem known3_any (w : World) : Calls Try.prog 7 #[] w fun e w' => e = .returned (.bool true) ∧ Below w.heap.size w w' := by
  obtain ⟨h1, hB⟩ := rt_laid w 38 false 5 2
  have hcon := fix_one _ _ h1
  have t1 : (strN [50]).toList = [50] := by rw [ByteArray.toList_eq]; rfl
  have t2 : (strN [45, 48, 46, 49, 50]).toList = [45, 48, 46, 49, 50] := by rw [ByteArray.toList_eq]; rfl
  clear h1
  go_enter Try.func7, Try.ntmps7
  go_wp2_with fail
  refine hcon.mono ?_
  rintro e w1 ⟨rfl, hb⟩
  have hB1 := hB.trans (hb.mono hB.size)
  obtain ⟨h2, hB2⟩ := rt_laid w1 38 true 1 8
  have hcon2 := fix_two _ _ h2
  have hB3 := hB1.trans (hB2.mono hB1.size)
  clear hcon hb h2 hB2 hB1
  go_wp2_with fail
  refine hcon2.mono ?_
  rintro e w2 ⟨rfl, hb⟩
  have hB4 := hB3.trans (hb.mono hB3.size)
  clear hcon2 hb hB3
  go_wp2_with fail
  go_ret
  exact ⟨rfl, hB4⟩
end Go.Proofs.Ytdgfijnficbblaa
