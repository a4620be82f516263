/- The library's Reverse of bytes of the call's own, by the shelf; such bytes as a string. Condition: sizes. -/
import Derived.Test.YtobmjcbjailclaaGreatDoorLay
import Derived.Test.YtobmjcbjailclaaGreatDoorBytes
import Derived.Laws.IdiomStrings
namespace Go.Proofs.YtobmjcbjailclaaGreatDoor
set_option maxRecDepth 100000
open Go.RowKit Go.Shelf Go.Lib

/-- A number as a byte. -/
def encB (n : Nat) : Value := .int .u8 (n : Int)

theorem OwnB.cell {w : World} {base : Nat} {e : TypeId} {g c cap : Nat} {cs : List Nat} (h : OwnB w base e (.slice (some ⟨g, 0, none⟩) c cap) cs) (_ : 0 < cs.length) :
    c = cs.length ∧ base ≤ g ∧ g < w.heap.size ∧ cs.length ≤ cap ∧ ∀ j (hj : j < cs.length), w.cell? ⟨g, j, none⟩ = some (.int .u8 (cs[j] : Nat)) ∧ w.frozen? ⟨g, j, none⟩ = false := by
  obtain ⟨hl, h | ⟨g', cap', cur, hv, hg, hc, hn, hm, hz, ht⟩⟩ := h
  · cases h.1
  · cases hv
    refine ⟨rfl, hg, (Array.getElem?_eq_some_iff.1 hc).1, hn, fun j hj => ⟨?_, ?_⟩⟩
    · have h1 : (List.take (cs.length * 1) cur.toList)[j]? = (bv cs)[j]? := by rw [ht]
      rw [List.getElem?_take, if_pos (by omega)] at h1
      have h2 : (bv cs)[j]? = some (.int .u8 (cs[j] : Nat)) := by unfold bv; rw [List.getElem?_map, List.getElem?_eq_getElem hj]; rfl
      simp [World.cell?, hc]
      rw [h2] at h1
      simpa using h1
    · simp [World.frozen?, hc]

/-- The row's other form: an address and cells. -/
theorem OwnB.form {w : World} {base : Nat} {e : TypeId} {v : Value} {cs : List Nat} (h : OwnB w base e v cs) (hp : 0 < cs.length) : ∃ g cap, v = .slice (some ⟨g, 0, none⟩) cs.length cap := by
  obtain ⟨hl, h | ⟨g', cap', cur, hv, rest⟩⟩ := h
  · omega
  · exact ⟨g', cap', hv⟩

/-- The row shortened. -/
theorem OwnB.take {w : World} {base : Nat} {e : TypeId} {g c cap : Nat} {cs : List Nat} (h : OwnB w base e (.slice (some ⟨g, 0, none⟩) c cap) cs) (n : Nat) (hn : n ≤ cs.length) : OwnB w base e (.slice (some ⟨g, 0, none⟩) n cap) (cs.take n) := by
  obtain ⟨hl, h | ⟨g', cap', cur, hv, hg, hc, hn', hm, hz, ht⟩⟩ := h
  · cases h.1
  · cases hv
    have hl2 : (cs.take n).length = n := by rw [List.length_take]; omega
    refine ⟨by unfold bv; simp, Or.inr ⟨g, cap, cur, by rw [hl2], hg, hc, by rw [hl2]; omega, hm, hz, ?_⟩⟩
    rw [hl2]
    have h1 : List.take (n * 1) (List.take (cs.length * 1) cur.toList) = List.take (n * 1) (bv cs) := by rw [ht]
    rw [List.take_take, show min (n * 1) (cs.length * 1) = n * 1 by omega] at h1
    rw [h1]
    unfold bv
    rw [Nat.mul_one, List.map_take]

theorem below_put (base : Nat) (w : World) (n g : Nat) (f : Array Value → Array Value) (h : base ≤ g) : Below base w (Go.Sort.mapBlock (Go.Sort.ahead w n) g f) := by
  refine ⟨rfl, rfl, rfl, ?_, fun k hk => ?_⟩
  · simp [Go.Sort.mapBlock, Go.Sort.ahead]
  · show (w.heap.modify g _)[k]? = _
    rw [Array.getElem?_modify, if_neg (by omega)]

theorem rev_any (cs : List Nat) (v : Value) (w : World) (base : Nat) (e : TypeId) (h : OwnB w base e v cs) (hp : 0 < cs.length) (hl : cs.length ≤ 1000000) :
    Calls Tryz.prog 116 #[v] w fun r w' => r = .returned (.tuple #[]) ∧ OwnB w' base e v cs.reverse ∧ Below base w w' := by
  obtain ⟨g, cap, rfl⟩ := h.form hp
  obtain ⟨_, hg, hgl, hcap, hc⟩ := h.cell hp
  obtain ⟨hl0, h | ⟨g', cap', cur, hv, hg', hc', hn', hm, hz, ht⟩⟩ := h
  · cases h.1
  cases hv
  have H : Go.Sort.Holds encB w g 0 cs.toArray := fun j hj => by
    have hj' : j < cs.length := by simpa using hj
    obtain ⟨h1, h2⟩ := hc j hj'
    rw [Nat.zero_add]
    refine ⟨?_, h2⟩
    rw [h1, getElem!_pos _ j hj]
    rfl
  have hcon := AnyE.slices_Reverse Tryz.laysE35 encB (fun _ => rfl) g 0 cap cs w H (by omega)
  refine Calls.mono hcon ?_
  rintro r w' ⟨rfl, n, rfl⟩
  refine ⟨rfl, ?_, below_put _ _ _ _ _ hg⟩
  refine ⟨by unfold bv; simp, Or.inr ⟨g, cap, Go.Sort.putCells encB 0 cs.reverse.toArray cur, by rw [List.length_reverse], hg, ?_, by rw [List.length_reverse]; exact hn', hm, ?_, ?_⟩⟩
  · show (w.heap.modify g _)[g]? = _
    rw [Array.getElem?_modify, if_pos rfl, hc']
    rfl
  · simp [Go.Sort.putCells, hz]
  · have hcl : cs.length ≤ cur.size := by omega
    apply List.ext_getElem?
    intro j
    rw [Nat.mul_one, List.getElem?_take, List.length_reverse]
    by_cases hj : j < cs.length
    · rw [if_pos hj]
      simp only [Go.Sort.putCells, Array.getElem?_toList, Array.getElem?_mapIdx]
      have hjc : j < cur.size := by omega
      rw [Array.getElem?_eq_getElem hjc]
      simp only [Option.map_some]
      rw [if_pos ⟨by omega, by simp; omega⟩]
      unfold bv encB
      rw [List.getElem?_map, List.getElem?_eq_getElem (by simpa using hj)]
      simp only [Nat.sub_zero, Option.map_some]
      rw [getElem!_pos _ j (by simpa using hj)]
      simp
    · rw [if_neg hj, List.getElem?_eq_none]
      unfold bv
      simp
      omega

/-- Bytes as a string. -/
def strN (cs : List Nat) : ByteArray := ⟨(cs.map UInt8.ofNat).toArray⟩

theorem strN_size (cs : List Nat) : (strN cs).size = cs.length := by show (cs.map UInt8.ofNat).toArray.size = _; simp

theorem OwnB.str {P : Program} {w : World} {base : Nat} {e : TypeId} {v : Value} {cs : List Nat} (h : OwnB w base e v cs) (hp : 0 < cs.length) (hb : ∀ x ∈ cs, x < 256) (src dst t : TypeId) (hs : P.underlying src = some (.slice t)) (he : P.underlying t = some (.int .u8)) (hd : P.underlying dst = some .string) :
    (convert src dst v).run P w = .ok (.string (strN cs)) w := by
  obtain ⟨g, cap, rfl⟩ := h.form hp
  obtain ⟨_, hg, hgl, hcap, hc⟩ := h.cell hp
  have hl : (cs.map UInt8.ofNat).length = cs.length := List.length_map ..
  have := run_convert_bytes_back (P := P) w src dst t ⟨g, 0, none⟩ cap (cs.map UInt8.ofNat) hs he hd (fun j hj => by
    have hj' : j < cs.length := by rw [hl] at hj; exact hj
    have hplain : (⟨g, 0, none⟩ : Addr).add j = ⟨g, j, none⟩ := by unfold Addr.add; split <;> simp_all
    rw [hplain, (hc j hj').1, List.getElem_map]
    have := hb _ (List.getElem_mem hj')
    congr 2
    simp [UInt8.toNat_ofNat']
    omega)
  rw [hl] at this
  exact this
end Go.Proofs.YtobmjcbjailclaaGreatDoor
