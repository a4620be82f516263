/- Several texts in one: Lay, Rev, Print, StrAdd, DecC. Condition: each says its own. -/
import Derived.Test.YtobmjcbjailclaaGreatDoorProg
import Derived.Shelf.Strings.SlTrimAscii
import Derived.Shelf.SlicesE.Reverse
import Derived.Shelf.Strings.Repeat
import Derived.Shelf.Strings.Search2
import Derived.Shelf.Small.Wraps
import Derived.Laws.IdiomStrings
import Derived.Laws.Concat
import Derived.Test.YtobmjcbjailclaaGreatDoorPk1
import Derived.Test.YtobmjcbjailclaaGreatDoorPk6
import Derived.Test.YtobmjcbjailclaaGreatDoorPk10
import Derived.Test.YtobmjcbjailclaaGreatDoorPk12
/- Where some of the library's functions lie in this program (written by the shelf's tool). No condition. -/
namespace Go.Proofs
open Go.Shelf
def Tryz.lays105_ren : Go.Shelf.Ren := ⟨fun | 105 => 115 | 212 => 136 | 99 => 137 | 165 => 138 | 166 => 139 | 170 => 140 | 169 => 141 | 263 => 149 | 264 => 150 | 206 => 103 | 240 => 151 | 241 => 152 | 276 => 155 | 277 => 156 | n => n, fun | 9 => 9 | 3 => 3 | 4 => 4 | 20 => 20 | 0 => 0 | 46 => 85 | 109 => 122 | 5 => 5 | 72 => 126 | 76 => 130 | 51 => 43 | 146 => 87 | 53 => 68 | 148 => 137 | 70 => 124 | 37 => 22 | 75 => 129 | 127 => 139 | 164 => 145 | 80 => 133 | n => n, fun | n => n⟩
theorem Tryz.lays105 : Go.Proofs.Lays.n105 Tryz.prog Tryz.lays105_ren := {
  mixed := by kernel_rfl
  f99 := Tryz.func137.trans (congrArg some (by kernel_rfl))
  f105 := Tryz.func115.trans (congrArg some (by kernel_rfl))
  f165 := Tryz.func138.trans (congrArg some (by kernel_rfl))
  f166 := Tryz.func139.trans (congrArg some (by kernel_rfl))
  f169 := Tryz.func141.trans (congrArg some (by kernel_rfl))
  f170 := Tryz.func140.trans (congrArg some (by kernel_rfl))
  f206 := Tryz.func103.trans (congrArg some (by kernel_rfl))
  f212 := Tryz.func136.trans (congrArg some (by kernel_rfl))
  f240 := Tryz.func151.trans (congrArg some (by kernel_rfl))
  f241 := Tryz.func152.trans (congrArg some (by kernel_rfl))
  f263 := Tryz.func149.trans (congrArg some (by kernel_rfl))
  f264 := Tryz.func150.trans (congrArg some (by kernel_rfl))
  f276 := Tryz.func155.trans (congrArg some (by kernel_rfl))
  f277 := Tryz.func156.trans (congrArg some (by kernel_rfl))
  t0 := Tryz.underlying0
  a0 := Tryz.isAgg0
  z0 := Tryz.sizeOf0
  v0 := Tryz.zeroValue0
  t3 := Tryz.underlying3
  a3 := Tryz.isAgg3
  z3 := Tryz.sizeOf3
  v3 := Tryz.zeroValue3
  t4 := Tryz.underlying4
  a4 := Tryz.isAgg4
  z4 := Tryz.sizeOf4
  v4 := Tryz.zeroValue4
  t5 := Tryz.underlying5
  a5 := Tryz.isAgg5
  z5 := Tryz.sizeOf5
  v5 := Tryz.zeroValue5
  t9 := Tryz.underlying9
  a9 := Tryz.isAgg9
  z9 := Tryz.sizeOf9
  v9 := Tryz.zeroValue9
  t20 := Tryz.underlying20
  a20 := Tryz.isAgg20
  z20 := Tryz.sizeOf20
  v20 := Tryz.zeroValue20
  t37 := Tryz.underlying22
  a37 := Tryz.isAgg22
  z37 := Tryz.sizeOf22
  v37 := Tryz.zeroValue22
  t46 := Tryz.underlying85
  a46 := Tryz.isAgg85
  z46 := Tryz.sizeOf85
  v46 := Tryz.zeroValue85
  t51 := Tryz.underlying43
  a51 := Tryz.isAgg43
  z51 := Tryz.sizeOf43
  v51 := Tryz.zeroValue43
  t53 := Tryz.underlying68
  a53 := Tryz.isAgg68
  z53 := Tryz.sizeOf68
  v53 := Tryz.zeroValue68
  t70 := Tryz.underlying124
  a70 := Tryz.isAgg124
  z70 := Tryz.sizeOf124
  v70 := Tryz.zeroValue124
  t72 := Tryz.underlying126
  a72 := Tryz.isAgg126
  z72 := Tryz.sizeOf126
  v72 := Tryz.zeroValue126
  t75 := Tryz.underlying129
  a75 := Tryz.isAgg129
  z75 := Tryz.sizeOf129
  v75 := Tryz.zeroValue129
  t76 := Tryz.underlying130
  a76 := Tryz.isAgg130
  z76 := Tryz.sizeOf130
  v76 := Tryz.zeroValue130
  t109 := Tryz.underlying122
  a109 := Tryz.isAgg122
  z109 := Tryz.sizeOf122
  v109 := Tryz.zeroValue122
  t127 := Tryz.underlying139
  a127 := Tryz.isAgg139
  z127 := Tryz.sizeOf139
  v127 := Tryz.zeroValue139
  t146 := Tryz.underlying87
  a146 := Tryz.isAgg87
  z146 := Tryz.sizeOf87
  v146 := Tryz.zeroValue87
  t148 := Tryz.underlying137
  a148 := Tryz.isAgg137
  z148 := Tryz.sizeOf137
  v148 := Tryz.zeroValue137
  t164 := Tryz.underlying145
  a164 := Tryz.isAgg145
  z164 := Tryz.sizeOf145
  v164 := Tryz.zeroValue145 }
theorem Tryz.Builder_Extra_105 : Builder.Extra Tryz.prog Tryz.lays105_ren := {
  sizeBuilder := by kernel_rfl
  liesBuilder := by kernel_rfl
  t5 := Tryz.underlying5
  a5 := Tryz.isAgg5
  z5 := Tryz.sizeOf5
  v5 := Tryz.zeroValue5
  infoByte := by kernel_rfl
  cellsByte := by kernel_rfl
  sizeByte := by kernel_rfl
  neB5 := by decide }
def Tryz.laysE35_ren : Go.Shelf.Ren := ⟨fun | 35 => 116 | n => n, fun | 22 => 22 | 23 => 5 | 3 => 3 | 4 => 4 | 0 => 0 | n => n, fun | n => n⟩
theorem Tryz.laysE35 : Go.Proofs.SlLaysE.n35 Tryz.prog Tryz.laysE35_ren := {
  mixed := by kernel_rfl
  f35 := ⟨Tryz.f116.name, by decide, Tryz.func116.trans (congrArg some (by kernel_rfl))⟩
  t0 := Tryz.underlying0
  a0 := Tryz.isAgg0
  z0 := Tryz.sizeOf0
  v0 := Tryz.zeroValue0
  t3 := Tryz.underlying3
  a3 := Tryz.isAgg3
  z3 := Tryz.sizeOf3
  v3 := Tryz.zeroValue3
  t4 := Tryz.underlying4
  a4 := Tryz.isAgg4
  z4 := Tryz.sizeOf4
  v4 := Tryz.zeroValue4
  t22 := Tryz.underlying22
  a22 := Tryz.isAgg22
  z22 := Tryz.sizeOf22
  v22 := Tryz.zeroValue22
  a23 := Tryz.isAgg5
  z23 := Tryz.sizeOf5 }
def Tryz.lays160_ren : Go.Shelf.Ren := ⟨fun | 160 => 70 | 232 => 106 | 231 => 105 | 227 => 107 | 234 => 109 | 233 => 108 | 236 => 111 | 235 => 110 | 228 => 127 | 271 => 130 | 151 => 129 | 197 => 128 | 120 => 147 | 152 => 146 | 260 => 145 | 137 => 153 | 119 => 154 | 224 => 125 | 225 => 124 | 217 => 123 | 266 => 143 | n => n, fun | 9 => 9 | 4 => 4 | 3 => 3 | 5 => 5 | 117 => 101 | 116 => 100 | 0 => 0 | 124 => 104 | 21 => 21 | 105 => 116 | 46 => 85 | 119 => 140 | 139 => 143 | 138 => 142 | n => n, fun | 3 => 2 | 4 => 3 | n => n⟩
theorem Tryz.lays160 : Go.Proofs.Lays.n160 Tryz.prog Tryz.lays160_ren := {
  mixed := by kernel_rfl
  f119 := Tryz.func154.trans (congrArg some (by kernel_rfl))
  f120 := Tryz.func147.trans (congrArg some (by kernel_rfl))
  f137 := Tryz.func153.trans (congrArg some (by kernel_rfl))
  f151 := Tryz.func129.trans (congrArg some (by kernel_rfl))
  f152 := Tryz.func146.trans (congrArg some (by kernel_rfl))
  f160 := Tryz.func70.trans (congrArg some (by kernel_rfl))
  f197 := Tryz.func128.trans (congrArg some (by kernel_rfl))
  f217 := Tryz.func123.trans (congrArg some (by kernel_rfl))
  f224 := Tryz.func125.trans (congrArg some (by kernel_rfl))
  f225 := Tryz.func124.trans (congrArg some (by kernel_rfl))
  f227 := Tryz.func107.trans (congrArg some (by kernel_rfl))
  f228 := Tryz.func127.trans (congrArg some (by kernel_rfl))
  f231 := Tryz.func105.trans (congrArg some (by kernel_rfl))
  f232 := Tryz.func106.trans (congrArg some (by kernel_rfl))
  f233 := Tryz.func108.trans (congrArg some (by kernel_rfl))
  f234 := Tryz.func109.trans (congrArg some (by kernel_rfl))
  f235 := Tryz.func110.trans (congrArg some (by kernel_rfl))
  f236 := Tryz.func111.trans (congrArg some (by kernel_rfl))
  f260 := Tryz.func145.trans (congrArg some (by kernel_rfl))
  f266 := Tryz.func143.trans (congrArg some (by kernel_rfl))
  f271 := Tryz.func130.trans (congrArg some (by kernel_rfl))
  t0 := Tryz.underlying0
  a0 := Tryz.isAgg0
  z0 := Tryz.sizeOf0
  v0 := Tryz.zeroValue0
  t3 := Tryz.underlying3
  a3 := Tryz.isAgg3
  z3 := Tryz.sizeOf3
  v3 := Tryz.zeroValue3
  t4 := Tryz.underlying4
  a4 := Tryz.isAgg4
  z4 := Tryz.sizeOf4
  v4 := Tryz.zeroValue4
  t5 := Tryz.underlying5
  a5 := Tryz.isAgg5
  z5 := Tryz.sizeOf5
  v5 := Tryz.zeroValue5
  t9 := Tryz.underlying9
  a9 := Tryz.isAgg9
  z9 := Tryz.sizeOf9
  v9 := Tryz.zeroValue9
  t21 := Tryz.underlying21
  a21 := Tryz.isAgg21
  z21 := Tryz.sizeOf21
  v21 := Tryz.zeroValue21
  t46 := Tryz.underlying85
  a46 := Tryz.isAgg85
  z46 := Tryz.sizeOf85
  v46 := Tryz.zeroValue85
  t105 := Tryz.underlying116
  a105 := Tryz.isAgg116
  z105 := Tryz.sizeOf116
  v105 := Tryz.zeroValue116
  t116 := Tryz.underlying100
  a116 := Tryz.isAgg100
  z116 := Tryz.sizeOf100
  t117 := Tryz.underlying101
  a117 := Tryz.isAgg101
  z117 := Tryz.sizeOf101
  v117 := Tryz.zeroValue101
  t119 := Tryz.underlying140
  a119 := Tryz.isAgg140
  z119 := Tryz.sizeOf140
  t124 := Tryz.underlying104
  a124 := Tryz.isAgg104
  z124 := Tryz.sizeOf104
  v124 := Tryz.zeroValue104
  t138 := Tryz.underlying142
  a138 := Tryz.isAgg142
  z138 := Tryz.sizeOf142
  v138 := Tryz.zeroValue142
  t139 := Tryz.underlying143
  a139 := Tryz.isAgg143
  z139 := Tryz.sizeOf143
  v139 := Tryz.zeroValue143
  g3 := by kernel_rfl
  g4 := by kernel_rfl }
def Tryz.lays219_ren : Go.Shelf.Ren := ⟨fun | 219 => 104 | 217 => 123 | 225 => 124 | 224 => 125 | 267 => 126 | 266 => 143 | 314 => 144 | n => n, fun | 9 => 9 | 3 => 3 | 4 => 4 | 5 => 5 | 46 => 85 | 146 => 87 | 51 => 43 | n => n, fun | 1 => 0 | n => n⟩
theorem Tryz.lays219 : Go.Proofs.Lays.n219 Tryz.prog Tryz.lays219_ren := {
  mixed := by kernel_rfl
  f217 := Tryz.func123.trans (congrArg some (by kernel_rfl))
  f219 := Tryz.func104.trans (congrArg some (by kernel_rfl))
  f224 := Tryz.func125.trans (congrArg some (by kernel_rfl))
  f225 := Tryz.func124.trans (congrArg some (by kernel_rfl))
  f266 := Tryz.func143.trans (congrArg some (by kernel_rfl))
  f267 := Tryz.func126.trans (congrArg some (by kernel_rfl))
  f314 := Tryz.func144.trans (congrArg some (by kernel_rfl))
  t3 := Tryz.underlying3
  a3 := Tryz.isAgg3
  z3 := Tryz.sizeOf3
  v3 := Tryz.zeroValue3
  t4 := Tryz.underlying4
  a4 := Tryz.isAgg4
  z4 := Tryz.sizeOf4
  v4 := Tryz.zeroValue4
  t5 := Tryz.underlying5
  a5 := Tryz.isAgg5
  z5 := Tryz.sizeOf5
  v5 := Tryz.zeroValue5
  t9 := Tryz.underlying9
  a9 := Tryz.isAgg9
  z9 := Tryz.sizeOf9
  v9 := Tryz.zeroValue9
  t46 := Tryz.underlying85
  a46 := Tryz.isAgg85
  z46 := Tryz.sizeOf85
  v46 := Tryz.zeroValue85
  t51 := Tryz.underlying43
  a51 := Tryz.isAgg43
  z51 := Tryz.sizeOf43
  v51 := Tryz.zeroValue43
  t146 := Tryz.underlying87
  a146 := Tryz.isAgg87
  z146 := Tryz.sizeOf87
  v146 := Tryz.zeroValue87
  g1 := by kernel_rfl }
def Tryz.lays103_ren : Go.Shelf.Ren := ⟨fun | 103 => 25 | 210 => 68 | 206 => 103 | n => n, fun | 9 => 9 | 4 => 4 | 24 => 38 | 3 => 3 | n => n, fun | n => n⟩
theorem Tryz.lays103 : Go.Proofs.Lays.n103 Tryz.prog Tryz.lays103_ren := {
  mixed := by kernel_rfl
  f103 := Tryz.func25.trans (congrArg some (by kernel_rfl))
  f206 := Tryz.func103.trans (congrArg some (by kernel_rfl))
  f210 := Tryz.func68.trans (congrArg some (by kernel_rfl))
  t3 := Tryz.underlying3
  a3 := Tryz.isAgg3
  z3 := Tryz.sizeOf3
  v3 := Tryz.zeroValue3
  t4 := Tryz.underlying4
  a4 := Tryz.isAgg4
  z4 := Tryz.sizeOf4
  v4 := Tryz.zeroValue4
  t9 := Tryz.underlying9
  a9 := Tryz.isAgg9
  z9 := Tryz.sizeOf9
  v9 := Tryz.zeroValue9
  t24 := Tryz.underlying38
  a24 := Tryz.isAgg38
  z24 := Tryz.sizeOf38
  v24 := Tryz.zeroValue38 }
end Go.Proofs

/- The library's Reverse of bytes of the call's own, by the shelf; such bytes as a string. Condition: sizes. -/
namespace Go.Proofs.YtobmjcbjailclaaGreatDoor
set_option maxRecDepth 100000
open Go.RowKit Go.Shelf Go.Lib

/-- A number as a byte. -/
def encB (n : Nat) : Value := .int .u8 (n : Int)

theorem OwnB.cell {w : World} {base : Nat} {e : TypeId} {g c cap : Nat} {cs : List Nat} (h : OwnB w base e (.slice (some ⟨g, 0, none⟩) c cap) cs) (_ : 0 < cs.length) :
    c = cs.length ∧ base ≤ g ∧ g < w.heap.size ∧ cs.length ≤ cap ∧ ∀ j (hj : j < cs.length), w.cell? ⟨g, j, none⟩ = some (.int .u8 (cs[j] : Nat)) ∧ w.frozen? ⟨g, j, none⟩ = false := by
  obtain ⟨hl, h | ⟨g', cap', cur, hv, hg, hc, hn, hm, hz, ht⟩⟩ := h
  · cases h.1
  · cases hv
    refine ⟨rfl, hg, (Array.getElem?_eq_some_iff.1 hc).1, hn, fun j hj => ⟨?_, ?_⟩⟩
    · have h1 : (List.take (cs.length * 1) cur.toList)[j]? = (bv cs)[j]? := by rw [ht]
      rw [List.getElem?_take, if_pos (by omega)] at h1
      have h2 : (bv cs)[j]? = some (.int .u8 (cs[j] : Nat)) := by unfold bv; rw [List.getElem?_map, List.getElem?_eq_getElem hj]; rfl
      simp [World.cell?, hc]
      rw [h2] at h1
      simpa using h1
    · simp [World.frozen?, hc]

/-- The row's other form: an address and cells. -/
theorem OwnB.form {w : World} {base : Nat} {e : TypeId} {v : Value} {cs : List Nat} (h : OwnB w base e v cs) (hp : 0 < cs.length) : ∃ g cap, v = .slice (some ⟨g, 0, none⟩) cs.length cap := by
  obtain ⟨hl, h | ⟨g', cap', cur, hv, rest⟩⟩ := h
  · omega
  · exact ⟨g', cap', hv⟩

/-- The row shortened. -/
theorem OwnB.take {w : World} {base : Nat} {e : TypeId} {g c cap : Nat} {cs : List Nat} (h : OwnB w base e (.slice (some ⟨g, 0, none⟩) c cap) cs) (n : Nat) (hn : n ≤ cs.length) : OwnB w base e (.slice (some ⟨g, 0, none⟩) n cap) (cs.take n) := by
  obtain ⟨hl, h | ⟨g', cap', cur, hv, hg, hc, hn', hm, hz, ht⟩⟩ := h
  · cases h.1
  · cases hv
    have hl2 : (cs.take n).length = n := by rw [List.length_take]; omega
    refine ⟨by unfold bv; simp, Or.inr ⟨g, cap, cur, by rw [hl2], hg, hc, by rw [hl2]; omega, hm, hz, ?_⟩⟩
    rw [hl2]
    have h1 : List.take (n * 1) (List.take (cs.length * 1) cur.toList) = List.take (n * 1) (bv cs) := by rw [ht]
    rw [List.take_take, show min (n * 1) (cs.length * 1) = n * 1 by omega] at h1
    rw [h1]
    unfold bv
    rw [Nat.mul_one, List.map_take]

theorem below_put (base : Nat) (w : World) (n g : Nat) (f : Array Value → Array Value) (h : base ≤ g) : Below base w (Go.Sort.mapBlock (Go.Sort.ahead w n) g f) := by
  refine ⟨rfl, rfl, rfl, ?_, fun k hk => ?_⟩
  · simp [Go.Sort.mapBlock, Go.Sort.ahead]
  · show (w.heap.modify g _)[k]? = _
    rw [Array.getElem?_modify, if_neg (by omega)]

theorem rev_any (cs : List Nat) (v : Value) (w : World) (base : Nat) (e : TypeId) (h : OwnB w base e v cs) (hp : 0 < cs.length) (hl : cs.length ≤ 1000000) :
    Calls Tryz.prog 116 #[v] w fun r w' => r = .returned (.tuple #[]) ∧ OwnB w' base e v cs.reverse ∧ Below base w w' := by
  obtain ⟨g, cap, rfl⟩ := h.form hp
  obtain ⟨_, hg, hgl, hcap, hc⟩ := h.cell hp
  obtain ⟨hl0, h | ⟨g', cap', cur, hv, hg', hc', hn', hm, hz, ht⟩⟩ := h
  · cases h.1
  cases hv
  have H : Go.Sort.Holds encB w g 0 cs.toArray := fun j hj => by
    have hj' : j < cs.length := by simpa using hj
    obtain ⟨h1, h2⟩ := hc j hj'
    rw [Nat.zero_add]
    refine ⟨?_, h2⟩
    rw [h1, getElem!_pos _ j hj]
    rfl
  have hcon := AnyE.slices_Reverse Tryz.laysE35 encB (fun _ => rfl) g 0 cap cs w H (by omega)
  refine Calls.mono hcon ?_
  rintro r w' ⟨rfl, n, rfl⟩
  refine ⟨rfl, ?_, below_put _ _ _ _ _ hg⟩
  refine ⟨by unfold bv; simp, Or.inr ⟨g, cap, Go.Sort.putCells encB 0 cs.reverse.toArray cur, by rw [List.length_reverse], hg, ?_, by rw [List.length_reverse]; exact hn', hm, ?_, ?_⟩⟩
  · show (w.heap.modify g _)[g]? = _
    rw [Array.getElem?_modify, if_pos rfl, hc']
    rfl
  · simp [Go.Sort.putCells, hz]
  · have hcl : cs.length ≤ cur.size := by omega
    apply List.ext_getElem?
    intro j
    rw [Nat.mul_one, List.getElem?_take, List.length_reverse]
    by_cases hj : j < cs.length
    · rw [if_pos hj]
      simp only [Go.Sort.putCells, Array.getElem?_toList, Array.getElem?_mapIdx]
      have hjc : j < cur.size := by omega
      rw [Array.getElem?_eq_getElem hjc]
      simp only [Option.map_some]
      rw [if_pos ⟨by omega, by simp; omega⟩]
      unfold bv encB
      rw [List.getElem?_map, List.getElem?_eq_getElem (by simpa using hj)]
      simp only [Nat.sub_zero, Option.map_some]
      rw [getElem!_pos _ j (by simpa using hj)]
      simp
    · rw [if_neg hj, List.getElem?_eq_none]
      unfold bv
      simp
      omega

/-- Bytes as a string. -/
def strN (cs : List Nat) : ByteArray := ⟨(cs.map UInt8.ofNat).toArray⟩

theorem strN_size (cs : List Nat) : (strN cs).size = cs.length := by show (cs.map UInt8.ofNat).toArray.size = _; simp

theorem OwnB.str {P : Program} {w : World} {base : Nat} {e : TypeId} {v : Value} {cs : List Nat} (h : OwnB w base e v cs) (hp : 0 < cs.length) (hb : ∀ x ∈ cs, x < 256) (src dst t : TypeId) (hs : P.underlying src = some (.slice t)) (he : P.underlying t = some (.int .u8)) (hd : P.underlying dst = some .string) :
    (convert src dst v).run P w = .ok (.string (strN cs)) w := by
  obtain ⟨g, cap, rfl⟩ := h.form hp
  obtain ⟨_, hg, hgl, hcap, hc⟩ := h.cell hp
  have hl : (cs.map UInt8.ofNat).length = cs.length := List.length_map ..
  have := run_convert_bytes_back (P := P) w src dst t ⟨g, 0, none⟩ cap (cs.map UInt8.ofNat) hs he hd (fun j hj => by
    have hj' : j < cs.length := by rw [hl] at hj; exact hj
    have hplain : (⟨g, 0, none⟩ : Addr).add j = ⟨g, j, none⟩ := by unfold Addr.add; split <;> simp_all
    rw [hplain, (hc j hj').1, List.getElem_map]
    have := hb _ (List.getElem_mem hj')
    congr 2
    simp [UInt8.toNat_ofNat']
    omega)
  rw [hl] at this
  exact this
end Go.Proofs.YtobmjcbjailclaaGreatDoor

/- The program's 'Print' of limbs by its contract: the number's digits. Condition: a bound on lengths. -/
namespace Go.Proofs.YtobmjcbjailclaaGreatDoor
set_option maxRecDepth 100000
open Go.RowKit

/-- The number that a slice's limbs make. -/
def rdM (w : World) (v : Value) : Nat :=
  match v with
  | .slice (some p) n _ => val ((List.range n).map fun j => match w.cell? ⟨p.block, p.off + j, none⟩ with
    | some (.int _ z) => z.toNat
    | _ => 0)
  | _ => 0

theorem rdM_of {w : World} {L B : Nat} {v : Value} {x : List Nat} (h : Nt w L B v x) : rdM w v = val x := by
  obtain ⟨A, c, rfl, hc, hm, hA, hx⟩ := h
  by_cases h0 : 0 < x.length
  · obtain ⟨b, off, rfl, _, _, hcell⟩ := hx h0
    unfold rdM
    show val _ = val x
    congr 1
    apply List.ext_getElem
    · simp
    · intro i h1 h2
      rw [List.getElem_map, List.getElem_range, hcell i h2]
      simp
  · obtain rfl : x = [] := List.eq_nil_of_length_eq_zero (by omega)
    unfold rdM
    cases A <;> rfl

theorem dec_bound {k n i : Nat} (h : n < 4294967296 ^ k) (hi : 10 ^ i ≤ n) : i < 10 * k := by
  have h1 : 4294967296 ^ k ≤ (10 ^ 10) ^ k := Nat.pow_le_pow_left (by omega) k
  rw [← Nat.pow_mul] at h1
  exact (Nat.pow_lt_pow_iff_right (by omega : 1 < 10)).1 (Nat.lt_of_le_of_lt hi (Nat.lt_of_lt_of_le h h1))

theorem digit_at (d : Nat) (h : d < 10) (hs : d < (ByteArray.mk #[48, 49, 50, 51, 52, 53, 54, 55, 56, 57]).size) : (((ByteArray.mk #[48, 49, 50, 51, 52, 53, 54, 55, 56, 57])[d]'hs).toNat : Int) = ((48 + d : Nat) : Int) := by
  have hc : d = 0 ∨ d = 1 ∨ d = 2 ∨ d = 3 ∨ d = 4 ∨ d = 5 ∨ d = 6 ∨ d = 7 ∨ d = 8 ∨ d = 9 := by omega
  rcases hc with rfl | rfl | rfl | rfl | rfl | rfl | rfl | rfl | rfl | rfl <;> rfl

/-- How long a row is. -/
def lenV : Value → Nat
  | .slice _ n _ => n
  | _ => 0

/-- A number's digits as bytes, the highest first. -/
def digs (n : Nat) : List Nat := ((dec n).map (48 + ·)).reverse

/-- What the loop that cuts noughts looks at. -/
theorem last_of (n z : Nat) (h : n ≠ 0) : ((dec n ++ List.replicate z 0).map (48 + ·)).length = (dec n).length + z ∧ 0 < (dec n).length ∧
    ∀ hl : ((dec n ++ List.replicate z 0).map (48 + ·)).length - 1 < ((dec n ++ List.replicate z 0).map (48 + ·)).length, (z ≠ 0 → ((dec n ++ List.replicate z 0).map (48 + ·))[((dec n ++ List.replicate z 0).map (48 + ·)).length - 1] = 48) ∧ (z = 0 → ((dec n ++ List.replicate z 0).map (48 + ·))[((dec n ++ List.replicate z 0).map (48 + ·)).length - 1] ≠ 48) := by
  have h1 : 0 < (dec n).length := by rw [dec_pos h]; simp
  refine ⟨by simp, h1, fun hl => ⟨fun hz => ?_, fun hz => ?_⟩⟩
  · rw [List.getElem_map, List.getElem_append_right (by simp; omega), List.getElem_replicate]
  · subst hz
    simp only [List.replicate_zero, List.append_nil]
    rw [List.getElem_map]
    intro hc
    have hne : dec n ≠ [] := List.ne_nil_of_length_pos h1
    refine dec_last n (dec n).dropLast ((dec n).getLast hne) (List.dropLast_concat_getLast hne).symm ?_
    rw [List.getLast_eq_getElem]
    simp only [List.length_map] at hc
    omega

theorem cut_in {w : World} {base : Nat} {e : TypeId} {v : Value} {n z : Nat} (hb : OwnB w base e v ((dec n ++ List.replicate z 0).map (48 + ·))) (h : n ≠ 0) :
    ∃ g cap L y, v = .slice (some ⟨g, 0, none⟩) L cap ∧ L = (dec n).length + z ∧ 0 < (dec n).length ∧ L ≤ cap ∧ w.cell? ⟨g, L - 1, none⟩ = some (.int .u8 ((y : Nat) : Int)) ∧
      (z ≠ 0 → y = 48 ∧ OwnB w base e (.slice (some ⟨g, 0, none⟩) (L - 1) cap) ((dec n ++ List.replicate (z - 1) 0).map (48 + ·))) ∧ (z = 0 → y ≠ 48) := by
  obtain ⟨hl, hd1, hlast⟩ := last_of n z h
  have hp : 0 < ((dec n ++ List.replicate z 0).map (48 + ·)).length := by omega
  obtain ⟨g, cap, rfl⟩ := hb.form hp
  obtain ⟨_, hg, hgl, hcap, hc⟩ := hb.cell hp
  have hlt : ((dec n ++ List.replicate z 0).map (48 + ·)).length - 1 < ((dec n ++ List.replicate z 0).map (48 + ·)).length := by omega
  obtain ⟨ha, hbb⟩ := hlast hlt
  refine ⟨g, cap, _, _, rfl, hl, hd1, hcap, (hc _ hlt).1, fun hz => ⟨ha hz, ?_⟩, hbb⟩
  have ht := hb.take (((dec n ++ List.replicate z 0).map (48 + ·)).length - 1) (by omega)
  have he : ((dec n ++ List.replicate z 0).map (48 + ·)).take (((dec n ++ List.replicate z 0).map (48 + ·)).length - 1) = (dec n ++ List.replicate (z - 1) 0).map (48 + ·) := by
    rw [hl, ← List.map_take, List.take_append, List.take_of_length_le (by omega), List.take_replicate]
    congr 3
    omega
  rw [he] at ht
  exact ht

set_option maxHeartbeats 3200000 in
theorem print_pos (v : Value) (x : List Nat) (w : World) (hd : Dig x) (h : Nt w 0 w.heap.size v x) (hl : x.length ≤ 100) (h0 : val x ≠ 0) :
    Calls Tryz.prog 81 #[v] w fun e w' => e = .returned (.string (strN (digs (val x)))) ∧ Below w.heap.size w w' := by
  have hne : ¬ (lim (val x)).length = 0 := fun h => h0 (lim_eq_nil.1 (List.eq_nil_of_length_eq_zero h))
  have z1 : ((((lim (val x)).length : Nat) : Int) == 0) = false := beq_eq_false_iff_ne.2 (by omega)
  go_enter Tryz.func81, Tryz.ntmps81
  go_wp2_with fail
  refine (Trim_any _ x _ hd h (by omega)).mono ?_
  rintro e w1 ⟨v1, rfl, h1, hb⟩
  have h1' := h1
  obtain ⟨A, c, rfl, hc, hm, _, _⟩ := h1'
  clear h
  obtain ⟨n, hn⟩ : ∃ n, val x = n := ⟨_, rfl⟩
  have lx := Nat.le_trans (limBd hd) hl
  rw [hn] at h1 hne z1 hc lx ⊢
  have e0 : n / 10 ^ (9 * 0) = n := by rw [Nat.mul_zero, Nat.pow_zero, Nat.div_one]
  have E0 := Lib.hid e0
  have LX := Lib.hid lx
  have NB : Hid (n < 4294967296 ^ x.length) := by show _ < _; rw [← hn]; exact val_lt hd
  have H1 := Lib.hid (h1.low (Nat.zero_le _))
  clear e0 lx
  obtain ⟨i0, hi, hz0, hz1, hz2⟩ := info_parts Tryz.info8
  go_wp2_with fail
  go_loopw [0, 3] (fun a b wr => ∃ j : Nat, Nt wr 0 wr.heap.size a (lim (n / 10 ^ (9 * j))) ∧ OwnB wr w.heap.size 5 b ((pad (9 * j) n).map (48 + ·)) ∧ Hid ((lim (n / 10 ^ (9 * j))).length ≤ 100) ∧ Hid (9 * j ≤ 2000) ∧ Below w.heap.size w wr)
    (fun a _ wr => rdM wr a)
  case atStart => exact ⟨0, by rw [E0.out]; exact H1.out, OwnB.nil _ _ _, by rw [E0.out]; exact LX.out, by show 9 * 0 ≤ 2000; omega, hb⟩
  case round =>
    obtain ⟨j, ha, hb, HL, HJ, hB⟩ := hrel
    by_cases hm0 : n / 10 ^ (9 * j) = 0
    · rw [hm0, lim_zero] at ha
      obtain ⟨A', c', rfl, m'⟩ := nt_len ha
      clear ha
      have HLT : n < 10 ^ (9 * j) := by
        rcases Nat.div_eq_zero_iff.1 hm0 with h | h
        · have : 0 < 10 ^ (9 * j) := Nat.pow_pos (by omega)
          omega
        · exact h
      obtain ⟨z0, hpd, hpz⟩ := pad_dec (9 * j) n HLT
      have hz0 : Hid (z0 ≤ 2000) := by have := HJ.out; show _ ≤ _; omega
      rw [hpd] at hb
      have HN0 : Hid (n ≠ 0) := by show _ ≠ _; rw [← hn]; exact h0
      have hdl : Hid ((dec n).length ≤ 2000) := by have := HJ.out; show _ ≤ _; omega
      clear hpd hpz HLT hm0 HL HJ NB E0 H1 LX
      go_wp2_with fail
      go_loopw [3] (fun b wr => ∃ z : Nat, OwnB wr w.heap.size 5 b ((dec n ++ List.replicate z 0).map (48 + ·)) ∧ Hid (z ≤ 2000) ∧ Below w.heap.size w wr)
        (fun b _ => lenV b)
      case atStart => exact ⟨z0, hb, hz0, hB⟩
      case round =>
        obtain ⟨z, hb, HZ, hB⟩ := hrel
        obtain ⟨g, cap, L, y, rfl, hL, hd1, hcap, hcell, hnz, hzz⟩ := cut_in hb HN0.out
        have hL1 : 1 ≤ L ∧ L ≤ 4000 := by have := HZ.out; have := hdl.out; omega
        have hL2 : z ≠ 0 → 2 ≤ L := by omega
        have hL3 : Hid (z = 0 → L = (dec n).length) := fun h => by omega
        clear hL hd1
        by_cases hz : z = 0
        · have hy := hzz hz
          have HO : Hid (OwnB wr w.heap.size 5 (.slice (some ⟨g, 0, none⟩) L cap) ((dec n).map (48 + ·))) := by
            subst hz
            rw [List.replicate_zero, List.append_nil] at hb
            exact hb
          clear hzz hnz hL2 hb hz
          have HCV : Hid (∀ (w' : World) (v : Value), OwnB w' w.heap.size 5 v (digs n) → (convert 22 9 v).run Tryz.prog w' = .ok (.string (strN (digs n))) w') := fun w' v h => by
            refine h.str ?_ ?_ 22 9 5 rfl rfl rfl
            · unfold digs
              rw [List.length_reverse, List.length_map, dec_pos HN0.out]
              simp
            · unfold digs
              intro y hy
              obtain ⟨u, hu, rfl⟩ := List.mem_map.1 (List.mem_reverse.1 hy)
              have := dec_lt n u hu
              omega
          have HRV : Hid (∀ w', Below w.heap.size w' w' → True) := fun _ _ => trivial
          have hnd : Hid (0 < ((dec n).map (48 + ·)).length ∧ ((dec n).map (48 + ·)).length ≤ 1000000) := by
            have h1 := hdl.out
            refine ⟨?_, ?_⟩ <;> rw [List.length_map]
            · rw [dec_pos HN0.out]; simp
            · omega
          by_cases h1 : L = 1
          · subst h1
            have hcon := rev_any _ _ _ _ _ HO.out hnd.out.1 hnd.out.2
            go_wp2_with fail
            refine hcon.mono ?_
            rintro e w2 ⟨rfl, h2, hb2⟩
            have hcv := HCV.out w2 _ h2
            have hbf := hB.trans hb2
            clear HO HCV hb2 hB h2 hcell
            go_wp2_with fail
            go_ret
            exact ⟨by rw [hn]; rfl, hbf⟩
          · have h1I : (1 : Int) < (L : Int) := by omega
            have hyI : ((y : Int) == 48) = false := beq_eq_false_iff_ne.2 (by omega)
            have hcon := rev_any _ _ _ _ _ HO.out hnd.out.1 hnd.out.2
            go_wp2_with fail
            refine hcon.mono ?_
            rintro e w2 ⟨rfl, h2, hb2⟩
            have hcv := HCV.out w2 _ h2
            have hbf := hB.trans hb2
            clear HO HCV hb2 hB h2 hcell
            go_wp2_with fail
            go_ret
            exact ⟨by rw [hn]; rfl, hbf⟩
        · obtain ⟨rfl, hb2⟩ := hnz hz
          have h1I : (1 : Int) < (L : Int) := by have := hL2 hz; omega
          have HB2 := Lib.hid hb2
          have HZ1 : Hid (z - 1 ≤ 2000) := Nat.le_trans (Nat.sub_le _ _) HZ.out
          have LN : ((L : Int) - 1).toNat = L - 1 := by omega
          clear hzz hnz hL2 hL3 hz hb2
          go_wp2_with fail
          refine ⟨⟨z - 1, HB2.out, HZ1, hB⟩, ?_⟩
          show L - 1 < L
          omega
    · have hnl : (lim (n / 10 ^ (9 * j))).length ≠ 0 := fun h => hm0 (lim_eq_nil.1 (List.eq_nil_of_length_eq_zero h))
      have hl2 := HL.out
      have hd2 := dig_lim (n / 10 ^ (9 * j))
      have ha2 := ha
      obtain ⟨A', c', rfl, m'⟩ := nt_len ha
      have V := Lib.hid (val_lim (n / 10 ^ (9 * j)))
      have HJ9 : Hid (9 * (j + 1) ≤ 2000) := by
        have h1 : 10 ^ (9 * j) ≤ n := Nat.le_of_not_lt fun hc => hm0 (Nat.div_eq_of_lt hc)
        have h2 := dec_bound NB.out h1
        show _ ≤ _
        omega
      have HM : Hid (n / 10 ^ (9 * j) / 1000000000 = n / 10 ^ (9 * (j + 1))) := by
        show _ = _
        have e : 10 ^ (9 * (j + 1)) = 10 ^ (9 * j) * 1000000000 := by rw [show 9 * (j + 1) = 9 * j + 9 from rfl, Nat.pow_add]
        rw [Nat.div_div_eq_div_mul, e]
      have RM := Lib.hid (rdM_of ha)
      have HGR : Hid (∀ k, k < 9 → n / 10 ^ (9 * j) % 1000000000 / 10 ^ k % 10 = n / 10 ^ (9 * j + k) % 10) := fun k hk => by
        rcases pad_group n j k with h | h
        · exact h
        · omega
      generalize n / 10 ^ (9 * j) = m at *
      have hpos : (0 : Int) < ((lim m).length : Int) := by omega
      go_wp2_with fail
      refine (small_any _ (lim m) 1000000000 _ hd2 (ha2.low (Nat.zero_le _)) (by omega) (by omega) (by omega)).mono ?_
      rw [V.out]
      rintro e w2 ⟨v2, rfl, h2, hb2⟩
      have hfar : Hid (∀ g, u3.ownBlock = some g → g < wr.heap.size ∨ w2.heap.size ≤ g) := fun g hg => Or.inl (hb.own_lt hg)
      obtain ⟨s0, hs0⟩ : ∃ s0, wr.heap.size = s0 := ⟨_, rfl⟩
      rw [hs0] at h2 hfar
      have hbo := hb.after hb2
      have hB2 := hB.trans (hb2.mono hB.size)
      have hrl : m % 1000000000 < 1000000000 := Nat.mod_lt _ (by omega)
      generalize m % 1000000000 = r at *
      clear hb hB ha2 ha
      have hq := h2
      go_wp2_with fail
      go_loopw [3, 5, 19] (fun b c i wr => ∃ k : Nat, k ≤ 9 ∧ i = .int .i64 (k : Nat) ∧ c = .int .u32 ((r / 10 ^ k : Nat) : Int) ∧ OwnB wr w.heap.size 5 b ((pad (9 * j + k) n).map (48 + ·)) ∧ Nt wr s0 w2.heap.size v2 (lim (m / 1000000000)) ∧ Hid (∀ g, b.ownBlock = some g → g < s0 ∨ w2.heap.size ≤ g) ∧ Hid (w2.heap.size ≤ wr.heap.size) ∧ Below w.heap.size w wr)
        (fun _ _ i _ => 9 - (intOf i).toNat)
      case atStart => exact ⟨0, by omega, rfl, by rw [Nat.pow_zero, Nat.div_one], hbo, hq, hfar, Nat.le_refl _, hB2⟩
      case round =>
        obtain ⟨k, hk, rfl, rfl, hb, hv2, HFAR, HSZ, hbw⟩ := hrel
        clear hbo
        by_cases hlt : k < 9
        · have hlI : (k : Int) < 9 := by omega
          have hrk : r / 10 ^ k < 1000000000 := Nat.lt_of_le_of_lt (Nat.div_le_self _ _) hrl
          have hdig := HGR.out k hlt
          generalize hqr : r / 10 ^ k = q at *
          obtain ⟨d, hd9⟩ : ∃ d, q % 10 = d := ⟨_, rfl⟩
          obtain ⟨q2, hq2⟩ : ∃ d, q / 10 = d := ⟨_, rfl⟩
          have e1 : (q : Int) % 10 = (d : Int) := by omega
          have e2 : (q : Int) / 10 = (q2 : Int) := by omega
          have hd10 : d < 10 := by omega
          have HPM : Hid ((pad (9 * j + k) n).map (48 + ·) ++ [48 + d] = (pad (9 * j + (k + 1)) n).map (48 + ·)) := by
            show _ = _
            rw [← Nat.add_assoc, pad_more, List.map_append, ← hdig, hd9]
            rfl
          have HQ : Hid (r / 10 ^ (k + 1) = q2) := by
            show _ = _
            rw [Nat.pow_succ, ← Nat.div_div_eq_div_mul, hqr, hq2]
          clear hdig hqr
          have hlen : ((pad (9 * j + k) n).map (48 + ·)).length ≤ 1000000 := by
            rw [List.length_map, pad_length]
            have := HJ.out
            omega
          have hbs : w.heap.size ≤ wr.heap.size := hbw.size
          go_wp2_with (at_builtin; refine wpList_append_byte3 rfl _ _ 22 rfl w.heap.size 5 i0 Tryz.underlying22 hi hz0 hz1 hz2 _ ((pad (9 * j + k) n).map (48 + ·)) rfl hb _ (48 + d) (congrArg (Value.int IntKind.u8) (digit_at d hd10 _)) rfl hlen hbs ?_)
          intro g cap w5 ho5 hb5 hk5 hg5 hl5
          have hv5 : Nt w5 s0 w2.heap.size v2 (lim (m / 1000000000)) := hv2.stay (Nat.le_refl _) (Nat.le_refl _) fun p h1 h2 => World.cell?_of_block (hk5 p.block (fun hc => by have := HFAR.out _ hc; omega) (Nat.lt_of_lt_of_le h2 HSZ.out))
          have hf5 : Hid (∀ g', (Value.slice (some ⟨g, 0, none⟩) (((pad (9 * j + k) n).map (48 + ·)).length + 1) cap).ownBlock = some g' → g' < s0 ∨ w2.heap.size ≤ g') := fun g' hg' => by
            have e : g = g' := Option.some.inj hg'
            rcases hg5 with h | h
            · exact e ▸ HFAR.out g h
            · have := HSZ.out
              omega
          have hb05 := hbw.trans hb5
          have hsz5 : Hid (w2.heap.size ≤ w5.heap.size) := Nat.le_trans HSZ.out hb5.size
          rw [HPM.out] at ho5
          clear hk5 hb5 hb hv2 hbw hg5
          go_wp2_with fail
          refine ⟨⟨k + 1, by omega, by go_num, by rw [HQ.out], ho5, hv5, hf5, hsz5, hb05⟩, ?_⟩
          simp [intOf]
          omega
        · obtain rfl : k = 9 := by omega
          have RV := Lib.hid (rdM_of hv2)
          have hvl := val_lt (dig_lim m)
          rw [V.out] at hvl
          have hl9 : Hid ((lim (m / 1000000000)).length ≤ 100) := Nat.le_trans (lim_length_le (Nat.lt_of_le_of_lt (Nat.div_le_self _ _) hvl)) hl2
          have hm9 : Hid (m / 1000000000 < m) := Nat.div_lt_self (Nat.pos_of_ne_zero hm0) (by omega)
          have hv9 := (hv2.low (Nat.zero_le _)).up HSZ.out
          clear hvl hv2 HFAR HSZ
          go_wp2_with fail
          refine ⟨⟨j + 1, by rw [← HM.out]; exact hv9, hb, by rw [← HM.out]; exact hl9, ?_, hbw⟩, ?_⟩
          · exact HJ9.out
          · rw [RV.out, RM.out, val_lim, V.out]
            exact hm9.out

/-- What a number is in digits. -/
def prn (n : Nat) : List Nat := if n = 0 then [48] else digs n

set_option maxHeartbeats 1600000 in
theorem print_any (v : Value) (x : List Nat) (w : World) (hd : Dig x) (h : Nt w 0 w.heap.size v x) (hl : x.length ≤ 100) :
    Calls Tryz.prog 81 #[v] w fun e w' => e = .returned (.string (strN (prn (val x)))) ∧ Below w.heap.size w w' := by
  by_cases h0 : val x = 0
  · rw [h0]
    go_enter Tryz.func81, Tryz.ntmps81
    go_wp2_with fail
    refine (Trim_any _ x _ hd h (by omega)).mono ?_
    rintro e w1 ⟨v1, rfl, h1, hb⟩
    rw [h0, lim_zero] at h1
    obtain ⟨A', c', rfl, m'⟩ := nt_len h1
    clear h h1
    go_wp2_with fail
    go_ret
    exact ⟨rfl, hb⟩
  · have := print_pos v x w hd h hl h0
    unfold prn
    rw [if_neg h0]
    exact this
end Go.Proofs.YtobmjcbjailclaaGreatDoor

/- Bytes as strings, one behind the other. No condition. -/
namespace Go.Proofs.YtobmjcbjailclaaGreatDoor
set_option maxRecDepth 100000
open Go.RowKit

theorem strN_append (a b : List Nat) : strN a ++ strN b = strN (a ++ b) := by
  unfold strN
  rw [ByteArray.mk_append_mk, List.map_append]

theorem add_str (a b : List Nat) (h : a.length + b.length ≤ 1000000) {P : Program} (w : World) : (Op.stringOp .add (strN a) (strN b)).run P w = .ok (.string (strN (a ++ b))) w := by
  rw [run_string_add_sum w _ _ (by rw [strN_size, strN_size]; omega), strN_append]
end Go.Proofs.YtobmjcbjailclaaGreatDoor

/- The program's 'Fixed' of numbers with a divisor by its contract. Condition: bounds on lengths. -/
namespace Go.Proofs.YtobmjcbjailclaaGreatDoor
set_option maxRecDepth 100000
open Go.RowKit Go.Shelf Go.Lib

/-- A sign as bytes. -/
def sgn (s : Bool) : List Nat := if s then [45] else []

theorem sgn_len (s : Bool) : (sgn s).length ≤ 1 := by cases s <;> simp [sgn]

set_option maxHeartbeats 1600000 in
theorem sign_any (v : Value) (s : Bool) (vn vd : Value) (w : World) (hv : v = .agg #[.bool s, vn, vd]) :
    Calls Tryz.prog 78 #[v] w fun e w' => e = .returned (.string (strN (sgn s))) ∧ Below w.heap.size w w' := by
  subst hv
  have hB : Below w.heap.size w (w.alloc (.cells #[.bool s, vn, vd] 25)) := (Below.refl _ _).alloc (Nat.le_refl _) _
  cases s
  · go_enter Tryz.func78, Tryz.ntmps78
    go_wp2_with fail
    go_ret
    exact ⟨rfl, hB⟩
  · go_enter Tryz.func78, Tryz.ntmps78
    go_wp2_with fail
    go_ret
    exact ⟨rfl, hB⟩

/-- Digits with a point ahead of the last so many. -/
def pnt (cs : List Nat) (n : Nat) : List Nat := if n = 0 then cs else
  (List.replicate (n + 1 - cs.length) 48 ++ cs).take ((List.replicate (n + 1 - cs.length) 48 ++ cs).length - n) ++ [46] ++ (List.replicate (n + 1 - cs.length) 48 ++ cs).drop ((List.replicate (n + 1 - cs.length) 48 ++ cs).length - n)

theorem strN_take (cs : List Nat) (M : Nat) : (strN cs).extract 0 M = strN (cs.take M) := by
  unfold strN
  apply ByteArray.ext
  rw [ByteArray.data_extract]
  apply Array.toList_inj.1
  simp [List.map_take]
theorem strN_drop (cs : List Nat) (M L : Nat) (h : cs.length ≤ L) : (strN cs).extract M L = strN (cs.drop M) := by
  unfold strN
  apply ByteArray.ext
  rw [ByteArray.data_extract]
  apply Array.toList_inj.1
  have h2 : (List.drop M (List.map UInt8.ofNat cs)).length ≤ L - M := by rw [List.length_drop, List.length_map]; omega
  simp [List.map_drop]
  exact List.take_of_length_le h2

set_option maxHeartbeats 1600000 in
theorem pointed_any (cs : List Nat) (n : Nat) (w : World) (hl : cs.length ≤ 100000) (hn : n ≤ 1000) :
    Calls Tryz.prog 80 #[.string (strN cs), .int .i64 (n : Int)] w fun e w' => e = .returned (.string (strN (pnt cs n))) ∧ Below w.heap.size w w' := by
  by_cases h0 : n = 0
  · subst h0
    go_enter Tryz.func80, Tryz.ntmps80
    go_wp2_with fail
    go_ret
    exact ⟨rfl, Below.refl _ _⟩
  · have hnI : ((n : Int) == 0) = false := beq_eq_false_iff_ne.2 (by omega)
    have hsz := strN_size cs
    obtain ⟨Z, hZ⟩ : ∃ Z, n + 1 - cs.length = Z := ⟨_, rfl⟩
    have hmx : max (0 : Int) ((n : Int) + 1 - (cs.length : Int)) = (Z : Int) := by omega
    have hp : Hid (pnt cs n = (List.replicate Z 48 ++ cs).take ((List.replicate Z 48 ++ cs).length - n) ++ [46] ++ (List.replicate Z 48 ++ cs).drop ((List.replicate Z 48 ++ cs).length - n)) := by
      show _ = _
      unfold pnt
      rw [if_neg h0, hZ]
    have hrep : ∀ w, Calls Tryz.prog 115 #[.string ⟨#[48]⟩, .int .i64 (Z : Int)] w fun e w' => e = .returned (.string (strN (List.replicate Z 48))) ∧ Below w.heap.size w w' := fun w => by
      have h := Any.strings_Repeat Tryz.lays105 Tryz.Builder_Extra_105 ⟨#[48]⟩ Z w (by omega) (by show 1 * Z ≤ _; omega)
      have e : (⟨(Lib.repeatL [48] Z).toArray⟩ : ByteArray) = strN (List.replicate Z 48) := by
        unfold strN
        rw [List.map_replicate]
        congr 2
        clear hZ hmx hp h0 h
        induction Z with
        | zero => rfl
        | succ z ih => rw [Lib.repeatL, ih, List.replicate_succ]; rfl
      show Calls Tryz.prog 115 _ _ _
      rw [← e]
      exact h
    have HREP := Lib.hid hrep
    obtain ⟨cs2, hcs⟩ : ∃ c, List.replicate Z 48 ++ cs = c := ⟨_, rfl⟩
    have hadd : Hid (∀ W : World, (Op.stringOp .add (strN (List.replicate Z 48)) (strN cs)).run Tryz.prog W = .ok (.string (strN cs2)) W) := fun W => by rw [← hcs]; exact add_str _ _ (by simp; omega) W
    have hl2 : n < cs2.length ∧ cs2.length ≤ 102000 := by rw [← hcs]; simp; omega
    rw [hcs] at hp
    clear hrep hcs hZ
    go_enter Tryz.func80, Tryz.ntmps80
    go_wp2_with fail
    refine (HREP.out _).mono ?_
    rintro e w1 ⟨rfl, hb⟩
    have hadd1 := hadd.out w1
    clear HREP hadd
    obtain ⟨L, hL⟩ : ∃ L, cs2.length = L := ⟨_, rfl⟩
    obtain ⟨M, hM⟩ : ∃ M, L - n = M := ⟨_, rfl⟩
    have s2 : (strN cs2).size = L := by rw [strN_size, hL]
    have x1 : (strN cs2).extract 0 M = strN (cs2.take M) := strN_take _ _
    have x2 : (strN cs2).extract M L = strN (cs2.drop M) := strN_drop _ _ _ (Nat.le_of_eq hL)
    have w1' : IntKind.i64.wrap ((L : Int) - (n : Int)) = (M : Int) := by rw [IntWalk.i64_in _ (by omega)]; omega
    have hML : (M : Int) ≤ (L : Int) := by omega
    have a1 : ∀ W : World, (Op.stringOp .add (strN (cs2.take M)) ⟨#[46]⟩).run Tryz.prog W = .ok (.string (strN (cs2.take M ++ [46]))) W := fun W => add_str (cs2.take M) [46] (by rw [List.length_take]; simp; omega) W
    have a2 : ∀ W : World, (Op.stringOp .add (strN (cs2.take M ++ [46])) (strN (cs2.drop M))).run Tryz.prog W = .ok (.string (strN (cs2.take M ++ [46] ++ cs2.drop M))) W := fun W => add_str (cs2.take M ++ [46]) (cs2.drop M) (by simp; omega) W
    rw [hL, hM] at hp
    generalize strN cs2 = t at *
    generalize strN (cs2.take M) = t1 at *
    generalize strN (cs2.drop M) = t2 at *
    generalize strN (cs2.take M ++ [46]) = t3 at *
    have HPE := Lib.hid (congrArg strN hp.out)
    generalize strN (cs2.take M ++ [46] ++ cs2.drop M) = t4 at *
    clear hL hM hp
    subst s2
    go_wp2_with fail
    go_quiet (fail)
    go_wp2_with fail
    go_ret
    exact ⟨by rw [HPE.out]; rfl, ⟨hb.os, hb.tape, hb.output, hb.size, hb.block⟩⟩

theorem ten_len10 {k : Nat} (h : k ≤ 60) : (lim (10 ^ k)).length ≤ 10 := by
  refine lim_length_le (Nat.lt_of_le_of_lt (Nat.pow_le_pow_right (by omega) h) ?_)
  rw [show 60 = 6 * 10 from rfl, Nat.pow_mul]
  exact Nat.pow_lt_pow_left (by omega) (by omega)

theorem nrS_idem (s : Bool) (n d : Nat) : nrS (nrS s n d) (nrN n d) (nrD n d) = nrS s n d := by
  by_cases h : n = 0 ∨ d = 0
  · obtain ⟨e1, e2, e3⟩ := nr_zero (s := s) h
    rw [e1, e2, e3]
    rfl
  · have h1 : nrN n d ≠ 0 := fun hc => h (nrN_zero.1 hc)
    have h2 : nrD n d ≠ 0 := by have := nrD_pos n d; omega
    exact (nr_some h1 h2).1

theorem pnt_len (cs : List Nat) (n : Nat) : (pnt cs n).length ≤ cs.length + n + 2 := by
  unfold pnt
  split
  · omega
  · simp; omega

theorem prn_len_of {U k : Nat} (h : (lim U).length ≤ k) : (prn U).length ≤ 10 * k + 1 := by
  have h1 : U < 10 ^ (10 * k) := by
    have h2 := val_lt (dig_lim U)
    rw [val_lim] at h2
    rw [Nat.pow_mul]
    exact Nat.lt_of_lt_of_le h2 (Nat.le_trans (Nat.pow_le_pow_right (by omega) h) (Nat.pow_le_pow_left (by omega) _))
  have h3 := dec_length_le _ _ h1
  unfold prn
  split
  · simp
  · unfold digs
    rw [List.length_reverse, List.length_map]
    omega

set_option maxHeartbeats 3200000 in
theorem fixed_any (v : Value) (s : Bool) (n d : List Nat) (k : Int) (w : World) (dn : Dig n) (dd : Dig d) (h : Rt w 0 w.heap.size v s n d) (ln : n.length ≤ 70) (ld : d.length ≤ 70)
    (S : Bool) (N D K U : Nat) (hS : nrS s (val n) (val d) = S) (hN : nrN (val n) (val d) = N) (hD : nrD (val n) (val d) = D) (hK : hold60 k = (K : Int)) (hU : rhe (N * 10 ^ K) D = U) :
    Calls Tryz.prog 30 #[v, .int .i64 k] w fun e w' => e = .returned (.string (strN (sgn (nrS S U (10 ^ K)) ++ pnt (prn U) K))) ∧ Below w.heap.size w w' := by
  obtain ⟨vn, vd, rfl, hn, hd⟩ := h
  have hr := hold60_range k
  have hK60 : K ≤ 60 := by omega
  have hD0 : D ≠ 0 := by have := nrD_pos (val n) (val d); omega
  have lN : (lim N).length ≤ 70 := by rw [← hN]; exact Nat.le_trans (lim_len_mono (nrN_le _ _)) (Nat.le_trans (lim_val_length n dn) ln)
  have lD : (lim D).length ≤ 71 := by rw [← hD]; exact nrD_len2 dd (by omega) (by omega)
  have dN := dig_lim N
  have dD := dig_lim D
  have VN := Lib.hid (val_lim N)
  have VD := Lib.hid (val_lim D)
  have dU := dig_lim U
  have lT := ten_len10 hK60
  have lU : (lim U).length ≤ 90 := by
    rw [← hU]
    refine Nat.le_trans (lim_len_mono (rhe_le _ _)) ?_
    have l1 : (lim (N * 10 ^ K)).length ≤ 80 := lim_mul_len (dig_lim N) (dig_lim (10 ^ K)) (val_lim _).symm (val_lim _).symm lN lT
    exact Nat.le_trans (lim_add_len (dig_lim (N * 10 ^ K)) (dig_lim 1) (val_lim _).symm (val_lim _).symm l1 (lim_length_le (by omega) : (lim 1).length ≤ 80)) (by omega)
  have lP : (prn U).length ≤ 2000 := by
    have := prn_len_of lU
    omega
  have hnorm := fun w (hR : Rt w 0 w.heap.size (.agg #[.bool s, vn, vd]) s n d) => prNorm_any (.agg #[.bool s, vn, vd]) s n d w dn dd hR (by omega) (by omega)
  have E1 : nrS S (val (lim N)) (val (lim D)) = S := by rw [val_lim, val_lim, ← hS, ← hN, ← hD]; exact nrS_idem _ _ _
  have E2 : nrN (val (lim N)) (val (lim D)) = N := by rw [val_lim, val_lim, ← hN, ← hD]; exact (nr_idem _ _).1
  have E3 : nrD (val (lim N)) (val (lim D)) = D := by rw [val_lim, val_lim, ← hN, ← hD]; exact (nr_idem _ _).2
  rw [hS, hN, hD] at hnorm
  have HNORM := Lib.hid hnorm
  have hheld := fun w => dheld_any k w
  rw [hK] at hheld
  have HHELD := Lib.hid hheld
  have hKK : hold60 (K : Int) = (K : Int) := by unfold hold60; omega
  have hrnd := fun v w (hR : Rt w 0 w.heap.size v S (lim N) (lim D)) => round_any v S (lim N) (lim D) (K : Int) w dN dD hR (by omega) (by omega) S N D K U E1 E2 E3 hKK hU
  have HRND := Lib.hid hrnd
  have HU := Lib.hid hU
  obtain ⟨FS, hFS⟩ : ∃ z, nrS S U (10 ^ K) = z := ⟨_, rfl⟩
  obtain ⟨TXT, hTXT⟩ : ∃ z, strN (sgn FS ++ pnt (prn U) K) = z := ⟨_, rfl⟩
  have hadd : Hid (∀ W : World, (Op.stringOp .add (strN (sgn FS)) (strN (pnt (prn U) K))).run Tryz.prog W = .ok (.string TXT) W) := fun W => by
    rw [← hTXT]
    exact add_str _ _ (by have h1 := pnt_len (prn U) K; have h2 := sgn_len FS; omega) W
  rw [hFS, hTXT]
  have HFS := Lib.hid hFS
  clear hnorm hheld hS hN hD hK hr hU hFS hTXT hrnd E1 E2 E3 hKK
  go_enter Tryz.func30, Tryz.ntmps30
  go_wp2_with fail
  have b0 := Blk.new w 25 #[.bool s, vn, vd]
  have hB : Below w.heap.size w (w.alloc (.cells #[.bool s, vn, vd] 25)) := (Below.refl _ _).alloc (Nat.le_refl _) _
  generalize w.alloc (.cells #[.bool s, vn, vd] 25) = w2 at *
  replace hn := (hn.below hB (Nat.le_refl _)).up hB.size
  replace hd := (hd.below hB (Nat.le_refl _)).up hB.size
  have c0 := b0.cell 0
  have c1 := b0.cell 1
  have c2 := b0.cell 2
  go_wp2_with fail
  refine (HNORM.out _ ⟨vn, vd, rfl, hn, hd⟩).mono ?_
  rintro e w3 ⟨v3, rfl, ⟨an, ad, rfl, h1, h2⟩, hb⟩
  have q0 := b0.below hb b0.lt
  replace h1 := h1.low (show w.heap.size + 1 ≤ _ from b0.lt)
  replace h2 := h2.low (show w.heap.size + 1 ≤ _ from b0.lt)
  replace hB := hB.trans (hb.mono hB.size)
  have hl1 := h1
  have hl2 := h2
  obtain ⟨A6, c6, rfl, m6⟩ := nt_len hl1
  obtain ⟨A7, c7, rfl, m7⟩ := nt_len hl2
  have r0 := q0.cell 0
  have r1 := q0.cell 1
  have r2 := q0.cell 2
  have f0 := q0.free 0
  have f1 := q0.free 1
  have f2 := q0.free 2
  clear hl1 hl2 hb b0 c0 c1 c2 hn hd HNORM
  go_wp2_with fail
  refine (HHELD.out _).mono ?_
  rintro e w4 ⟨rfl, rfl⟩
  clear HHELD
  have p3 := ((q0.put 0 (.bool S)).put 1 (.slice A6 (lim N).length c6)).put 2 (.slice A7 (lim D).length c7)
  have hBB := ((hB.setCell (p := ⟨w.heap.size, 0, none⟩) (Nat.le_refl _) (.bool S)).setCell (p := ⟨w.heap.size, 1, none⟩) (Nat.le_refl _) (.slice A6 (lim N).length c6)).setCell (p := ⟨w.heap.size, 2, none⟩) (Nat.le_refl _) (.slice A7 (lim D).length c7)
  have t1 := ((h1.put3 (g := w.heap.size) (by omega) 0 (.bool S)).put3 (g := w.heap.size) (by omega) 1 (.slice A6 (lim N).length c6)).put3 (g := w.heap.size) (by omega) 2 (.slice A7 (lim D).length c7)
  have t2 := ((h2.put3 (g := w.heap.size) (by omega) 0 (.bool S)).put3 (g := w.heap.size) (by omega) 1 (.slice A6 (lim N).length c6)).put3 (g := w.heap.size) (by omega) 2 (.slice A7 (lim D).length c7)
  have P3 := Lib.hid p3
  have HBB := Lib.hid hBB
  have T1 := Lib.hid t1
  have T2 := Lib.hid t2
  clear p3 hBB t1 t2 h1 h2 hB q0
  go_wp2_with fail
  clear r0 r1 r2 f0 f1 f2
  replace P3 := P3.out
  replace HBB := HBB.out
  replace T1 := T1.out
  replace T2 := T2.out
  generalize ((World.setCell w3 ⟨w.heap.size, 0, none⟩ (.bool S)).setCell ⟨w.heap.size, 1, none⟩ (.slice A6 (lim N).length c6)).setCell ⟨w.heap.size, 2, none⟩ (.slice A7 (lim D).length c7) = w5 at *
  have c0 : w5.cell? ⟨w.heap.size, 0, none⟩ = some (.bool S) := by rw [P3.cell]; rfl
  have c1 : w5.cell? ⟨w.heap.size, 1, none⟩ = some (.slice A6 (lim N).length c6) := by rw [P3.cell]; rfl
  have c2 : w5.cell? ⟨w.heap.size, 2, none⟩ = some (.slice A7 (lim D).length c7) := by rw [P3.cell]; rfl
  have hg := P3.lt
  have hk5 : Below w5.heap.size w5 w5.drew := (Below.refl _ _).drew
  have hun := fun w (hR : Rt w 0 w.heap.size (.agg #[.bool S, .slice A6 (lim N).length c6, .slice A7 (lim D).length c7]) S (lim N) (lim D)) => units_any (.agg #[.bool S, .slice A6 (lim N).length c6, .slice A7 (lim D).length c7]) S (lim N) (lim D) K w dN dD hR (by omega) (by omega) hK60 (by rw [VD.out]; exact hD0)
  rw [VN.out, VD.out, HU.out] at hun
  have HUN := Lib.hid hun
  have HPR : Hid (∀ v w, Nt w 0 w.heap.size v (lim U) → Calls Tryz.prog 81 #[v] w fun e w' => e = .returned (.string (strN (prn U))) ∧ Below w.heap.size w w') := fun v w h => by
    have := print_any v (lim U) w dU h (by omega)
    rw [val_lim] at this
    exact this
  have HPT : Hid (∀ w, Calls Tryz.prog 80 #[.string (strN (prn U)), .int .i64 (K : Int)] w fun e w' => e = .returned (.string (strN (pnt (prn U) K))) ∧ Below w.heap.size w w') := fun w => pointed_any (prn U) K w (by omega) (by omega)
  clear hun P3
  generalize strN (prn U) = tp at *
  generalize strN (pnt (prn U) K) = tq at *
  have hadd1 := hadd.out
  clear hadd
  go_region_held3 (fun W => W.cell? ⟨w.heap.size, 0, none⟩ = some (.bool S) ∧ W.cell? ⟨w.heap.size, 1, none⟩ = some (.slice A6 (lim N).length c6) ∧ W.cell? ⟨w.heap.size, 2, none⟩ = some (.slice A7 (lim D).length c7))
    (first | exact s3_of hk10 c0 c1 c2 hg | exact s3_of hk9 c0 c1 c2 hg | exact s3_of hk8 c0 c1 c2 hg | exact s3_of hk7 c0 c1 c2 hg | exact s3_of hk6 c0 c1 c2 hg | exact s3_of hk5 c0 c1 c2 hg | fail)
    (first
      | (go_at_call 79; refine (HRND.out _ _ ⟨_, _, rfl, (T1.low (Nat.zero_le _)).drew, (T2.low (Nat.zero_le _)).drew⟩).mono ?_; rw [HFS.out]; rintro e w6 ⟨v6, rfl, ⟨rn, rd, rfl, h6n, h6d⟩, hb6⟩; have hk6 : Below w5.heap.size w5 w6 := Below.trans hk5 hb6)
      | (go_at_call 78; refine (sign_any (.agg #[.bool FS, rn, rd]) FS rn rd _ rfl).mono ?_; rintro e w7 ⟨rfl, hb7⟩; have hk7 : Below w5.heap.size w5 w7 := hk6.trans (hb7.mono hk6.size))
      | (go_at_call 82; refine (HUN.out _ ⟨_, _, rfl, (T1.low (Nat.zero_le _)).after hk7, (T2.low (Nat.zero_le _)).after hk7⟩).mono ?_; rintro e w8 ⟨v8, rfl, h8, hb8⟩; replace h8 := h8.low (Nat.zero_le _); have hk8 : Below w5.heap.size w5 w8 := hk7.trans (hb8.mono hk7.size))
      | (go_at_call 81; refine (HPR.out _ _ h8).mono ?_; rintro e w9 ⟨rfl, hb9⟩; have hk9 : Below w5.heap.size w5 w9 := hk8.trans (hb9.mono hk8.size))
      | (go_at_call 80; refine (HPT.out _).mono ?_; rintro e w10 ⟨rfl, hb10⟩; have hk10 : Below w5.heap.size w5 w10 := hk9.trans (hb10.mono hk9.size))
      | fail)
  have hBF := HBB.trans (hk10.mono HBB.size)
  clear hk5 hk6 hk7 hk8 hk9 hk10 hb6 hb7 hb8 hb9 hb10 h8 T1 T2 c0 c1 c2 h6n h6d
  go_wp2_with fail
  go_ret
  exact ⟨rfl, hBF⟩
end Go.Proofs.YtobmjcbjailclaaGreatDoor
