/- Several texts in one: Lay2, Lay3, Lay, Rev, Print. Condition: each says its own. -/
import Derived.Test.YtchokmhfgikglaaGreatDoorProg
import Derived.Shelf.Strings.SlTrimAscii
import Derived.Shelf.Strings.Split
import Derived.Shelf.Strings.OnBuilder
import Derived.Shelf.Strings.FieldsFuncAny
import Derived.Shelf.Strconv.AtoiAll
import Derived.Shelf.Strings.Cut
import Derived.Shelf.Strings.Search1
import Derived.Shelf.Strings.Builder1
import Derived.Shelf.SlicesE.Reverse
import Derived.Shelf.Strings.Repeat
import Derived.Shelf.Strings.Search2
import Derived.Shelf.Small.Wraps
import Derived.Laws.IdiomStrings
import Derived.Test.YtchokmhfgikglaaGreatDoorPk1
import Derived.Test.YtchokmhfgikglaaGreatDoorPk4
namespace Go.Proofs
open Go.Shelf
def Tryz.lays146_ren : Go.Shelf.Ren := ⟨fun | 146 => 68 | 221 => 132 | 268 => 205 | 138 => 206 | 143 => 106 | 195 => 272 | 197 => 105 | 218 => 273 | 219 => 166 | 260 => 165 | 217 => 70 | 225 => 216 | 224 => 217 | 267 => 218 | 266 => 134 | 314 => 286 | n => n, fun | 9 => 9 | 31 => 22 | 3 => 3 | 4 => 4 | 0 => 0 | 105 => 131 | 21 => 21 | 5 => 5 | 46 => 126 | 119 => 227 | 139 => 230 | 138 => 229 | 146 => 187 | 51 => 122 | n => n, fun | 1 => 0 | 3 => 2 | 4 => 3 | n => n⟩
theorem Tryz.lays146 : Go.Proofs.Lays.n146 Tryz.prog Tryz.lays146_ren := {
  mixed := by kernel_rfl
  f138 := Tryz.func206.trans (congrArg some (by kernel_rfl))
  f143 := Tryz.func106.trans (congrArg some (by kernel_rfl))
  f146 := Tryz.func68.trans (congrArg some (by kernel_rfl))
  f195 := Tryz.func272.trans (congrArg some (by kernel_rfl))
  f197 := Tryz.func105.trans (congrArg some (by kernel_rfl))
  f217 := Tryz.func70.trans (congrArg some (by kernel_rfl))
  f218 := Tryz.func273.trans (congrArg some (by kernel_rfl))
  f219 := Tryz.func166.trans (congrArg some (by kernel_rfl))
  f221 := Tryz.func132.trans (congrArg some (by kernel_rfl))
  f224 := Tryz.func217.trans (congrArg some (by kernel_rfl))
  f225 := Tryz.func216.trans (congrArg some (by kernel_rfl))
  f260 := Tryz.func165.trans (congrArg some (by kernel_rfl))
  f266 := Tryz.func134.trans (congrArg some (by kernel_rfl))
  f267 := Tryz.func218.trans (congrArg some (by kernel_rfl))
  f268 := Tryz.func205.trans (congrArg some (by kernel_rfl))
  f314 := Tryz.func286.trans (congrArg some (by kernel_rfl))
  t0 := Tryz.underlying0
  a0 := Tryz.isAgg0
  z0 := Tryz.sizeOf0
  v0 := Tryz.zeroValue0
  t3 := Tryz.underlying3
  a3 := Tryz.isAgg3
  z3 := Tryz.sizeOf3
  v3 := Tryz.zeroValue3
  t4 := Tryz.underlying4
  a4 := Tryz.isAgg4
  z4 := Tryz.sizeOf4
  v4 := Tryz.zeroValue4
  t5 := Tryz.underlying5
  a5 := Tryz.isAgg5
  z5 := Tryz.sizeOf5
  v5 := Tryz.zeroValue5
  t9 := Tryz.underlying9
  a9 := Tryz.isAgg9
  z9 := Tryz.sizeOf9
  v9 := Tryz.zeroValue9
  t21 := Tryz.underlying21
  a21 := Tryz.isAgg21
  z21 := Tryz.sizeOf21
  v21 := Tryz.zeroValue21
  t31 := Tryz.underlying22
  a31 := Tryz.isAgg22
  z31 := Tryz.sizeOf22
  v31 := Tryz.zeroValue22
  t46 := Tryz.underlying126
  a46 := Tryz.isAgg126
  z46 := Tryz.sizeOf126
  v46 := Tryz.zeroValue126
  t51 := Tryz.underlying122
  a51 := Tryz.isAgg122
  z51 := Tryz.sizeOf122
  v51 := Tryz.zeroValue122
  t105 := Tryz.underlying131
  a105 := Tryz.isAgg131
  z105 := Tryz.sizeOf131
  v105 := Tryz.zeroValue131
  t119 := Tryz.underlying227
  a119 := Tryz.isAgg227
  z119 := Tryz.sizeOf227
  t138 := Tryz.underlying229
  a138 := Tryz.isAgg229
  z138 := Tryz.sizeOf229
  v138 := Tryz.zeroValue229
  t139 := Tryz.underlying230
  a139 := Tryz.isAgg230
  z139 := Tryz.sizeOf230
  v139 := Tryz.zeroValue230
  t146 := Tryz.underlying187
  a146 := Tryz.isAgg187
  z146 := Tryz.sizeOf187
  v146 := Tryz.zeroValue187
  g1 := by kernel_rfl
  g3 := by kernel_rfl
  g4 := by kernel_rfl }
def Tryz.lays156_ren : Go.Shelf.Ren := ⟨fun | 156 => 27 | 165 => 53 | 166 => 30 | 169 => 33 | 240 => 57 | 241 => 103 | 276 => 107 | 277 => 164 | n => n, fun | 31 => 22 | 9 => 9 | 3 => 3 | 4 => 4 | 0 => 0 | 20 => 20 | 72 => 68 | 76 => 75 | 70 => 65 | 37 => 66 | 75 => 74 | 127 => 103 | 164 => 136 | 5 => 5 | 80 => 79 | n => n, fun | n => n⟩
theorem Tryz.lays156 : Go.Proofs.Lays.n156 Tryz.prog Tryz.lays156_ren := {
  mixed := by kernel_rfl
  f156 := Tryz.func27.trans (congrArg some (by kernel_rfl))
  f165 := Tryz.func53.trans (congrArg some (by kernel_rfl))
  f166 := Tryz.func30.trans (congrArg some (by kernel_rfl))
  f169 := Tryz.func33.trans (congrArg some (by kernel_rfl))
  f240 := Tryz.func57.trans (congrArg some (by kernel_rfl))
  f241 := Tryz.func103.trans (congrArg some (by kernel_rfl))
  f276 := Tryz.func107.trans (congrArg some (by kernel_rfl))
  f277 := Tryz.func164.trans (congrArg some (by kernel_rfl))
  t0 := Tryz.underlying0
  a0 := Tryz.isAgg0
  z0 := Tryz.sizeOf0
  v0 := Tryz.zeroValue0
  t3 := Tryz.underlying3
  a3 := Tryz.isAgg3
  z3 := Tryz.sizeOf3
  v3 := Tryz.zeroValue3
  t4 := Tryz.underlying4
  a4 := Tryz.isAgg4
  z4 := Tryz.sizeOf4
  v4 := Tryz.zeroValue4
  t9 := Tryz.underlying9
  a9 := Tryz.isAgg9
  z9 := Tryz.sizeOf9
  v9 := Tryz.zeroValue9
  t20 := Tryz.underlying20
  a20 := Tryz.isAgg20
  z20 := Tryz.sizeOf20
  v20 := Tryz.zeroValue20
  t31 := Tryz.underlying22
  a31 := Tryz.isAgg22
  z31 := Tryz.sizeOf22
  v31 := Tryz.zeroValue22
  t37 := Tryz.underlying66
  a37 := Tryz.isAgg66
  z37 := Tryz.sizeOf66
  v37 := Tryz.zeroValue66
  t70 := Tryz.underlying65
  a70 := Tryz.isAgg65
  z70 := Tryz.sizeOf65
  v70 := Tryz.zeroValue65
  t72 := Tryz.underlying68
  a72 := Tryz.isAgg68
  z72 := Tryz.sizeOf68
  v72 := Tryz.zeroValue68
  t75 := Tryz.underlying74
  a75 := Tryz.isAgg74
  z75 := Tryz.sizeOf74
  v75 := Tryz.zeroValue74
  t76 := Tryz.underlying75
  a76 := Tryz.isAgg75
  z76 := Tryz.sizeOf75
  v76 := Tryz.zeroValue75
  t127 := Tryz.underlying103
  a127 := Tryz.isAgg103
  z127 := Tryz.sizeOf103
  v127 := Tryz.zeroValue103
  t164 := Tryz.underlying136
  a164 := Tryz.isAgg136
  z164 := Tryz.sizeOf136
  v164 := Tryz.zeroValue136 }
theorem Tryz.Builder_Extra_156 : Builder.Extra Tryz.prog Tryz.lays156_ren := {
  sizeBuilder := by kernel_rfl
  liesBuilder := by kernel_rfl
  t5 := Tryz.underlying5
  a5 := Tryz.isAgg5
  z5 := Tryz.sizeOf5
  v5 := Tryz.zeroValue5
  infoByte := by kernel_rfl
  cellsByte := by kernel_rfl
  sizeByte := by kernel_rfl
  neB5 := by decide }
def Tryz.lays161_ren : Go.Shelf.Ren := ⟨fun | 161 => 138 | 231 => 78 | 227 => 80 | 233 => 81 | 235 => 83 | 228 => 141 | 197 => 105 | 151 => 142 | 260 => 165 | 152 => 211 | 137 => 35 | 119 => 280 | 224 => 217 | 225 => 216 | 217 => 70 | 266 => 134 | n => n, fun | 9 => 9 | 4 => 4 | 3 => 3 | 5 => 5 | 117 => 115 | 116 => 114 | 0 => 0 | 124 => 118 | 105 => 131 | 21 => 21 | 119 => 227 | 46 => 126 | 139 => 230 | 138 => 229 | n => n, fun | 3 => 2 | 4 => 3 | n => n⟩
theorem Tryz.lays161 : Go.Proofs.Lays.n161 Tryz.prog Tryz.lays161_ren := {
  mixed := by kernel_rfl
  f119 := Tryz.func280.trans (congrArg some (by kernel_rfl))
  f137 := Tryz.func35.trans (congrArg some (by kernel_rfl))
  f151 := Tryz.func142.trans (congrArg some (by kernel_rfl))
  f152 := Tryz.func211.trans (congrArg some (by kernel_rfl))
  f161 := Tryz.func138.trans (congrArg some (by kernel_rfl))
  f197 := Tryz.func105.trans (congrArg some (by kernel_rfl))
  f217 := Tryz.func70.trans (congrArg some (by kernel_rfl))
  f224 := Tryz.func217.trans (congrArg some (by kernel_rfl))
  f225 := Tryz.func216.trans (congrArg some (by kernel_rfl))
  f227 := Tryz.func80.trans (congrArg some (by kernel_rfl))
  f228 := Tryz.func141.trans (congrArg some (by kernel_rfl))
  f231 := Tryz.func78.trans (congrArg some (by kernel_rfl))
  f233 := Tryz.func81.trans (congrArg some (by kernel_rfl))
  f235 := Tryz.func83.trans (congrArg some (by kernel_rfl))
  f260 := Tryz.func165.trans (congrArg some (by kernel_rfl))
  f266 := Tryz.func134.trans (congrArg some (by kernel_rfl))
  t0 := Tryz.underlying0
  a0 := Tryz.isAgg0
  z0 := Tryz.sizeOf0
  v0 := Tryz.zeroValue0
  t3 := Tryz.underlying3
  a3 := Tryz.isAgg3
  z3 := Tryz.sizeOf3
  v3 := Tryz.zeroValue3
  t4 := Tryz.underlying4
  a4 := Tryz.isAgg4
  z4 := Tryz.sizeOf4
  v4 := Tryz.zeroValue4
  t5 := Tryz.underlying5
  a5 := Tryz.isAgg5
  z5 := Tryz.sizeOf5
  v5 := Tryz.zeroValue5
  t9 := Tryz.underlying9
  a9 := Tryz.isAgg9
  z9 := Tryz.sizeOf9
  v9 := Tryz.zeroValue9
  t21 := Tryz.underlying21
  a21 := Tryz.isAgg21
  z21 := Tryz.sizeOf21
  v21 := Tryz.zeroValue21
  t46 := Tryz.underlying126
  a46 := Tryz.isAgg126
  z46 := Tryz.sizeOf126
  v46 := Tryz.zeroValue126
  t105 := Tryz.underlying131
  a105 := Tryz.isAgg131
  z105 := Tryz.sizeOf131
  v105 := Tryz.zeroValue131
  t116 := Tryz.underlying114
  a116 := Tryz.isAgg114
  z116 := Tryz.sizeOf114
  t117 := Tryz.underlying115
  a117 := Tryz.isAgg115
  z117 := Tryz.sizeOf115
  v117 := Tryz.zeroValue115
  t119 := Tryz.underlying227
  a119 := Tryz.isAgg227
  z119 := Tryz.sizeOf227
  t124 := Tryz.underlying118
  a124 := Tryz.isAgg118
  z124 := Tryz.sizeOf118
  v124 := Tryz.zeroValue118
  t138 := Tryz.underlying229
  a138 := Tryz.isAgg229
  z138 := Tryz.sizeOf229
  v138 := Tryz.zeroValue229
  t139 := Tryz.underlying230
  a139 := Tryz.isAgg230
  z139 := Tryz.sizeOf230
  v139 := Tryz.zeroValue230
  g3 := by kernel_rfl
  g4 := by kernel_rfl }
def Tryz.laysC172_ren : Go.Shelf.Ren := ⟨fun | 172 => 139 | 244 => 209 | 245 => 210 | 247 => 275 | 279 => 276 | 280 => 277 | 281 => 278 | 282 => 279 | 287 => 335 | 316 => 336 | 171 => 58 | 205 => 337 | 321 => 359 | 322 => 360 | 243 => 108 | 246 => 167 | 283 => 219 | 284 => 220 | 285 => 221 | 286 => 222 | 129 => 288 | 317 => 287 | 318 => 289 | 319 => 290 | 320 => 291 | 337 => 339 | 338 => 340 | n => n, fun | 9 => 9 | 3 => 3 | 75 => 74 | 76 => 75 | 4 => 4 | 5 => 5 | 167 => 265 | 37 => 66 | 0 => 0 | 85 => 266 | 2 => 2 | 168 => 268 | 53 => 95 | 175 => 301 | 46 => 126 | 210 => 304 | 127 => 103 | 145 => 323 | 143 => 321 | 21 => 21 | 171 => 231 | 173 => 234 | 212 => 276 | 51 => 122 | 20 => 20 | 213 => 277 | 232 => 324 | 233 => 325 | 80 => 79 | n => n, fun | 15 => 5 | 16 => 6 | 17 => 4 | 18 => 7 | 19 => 8 | n => n⟩
theorem Tryz.laysC172 : Go.Proofs.LaysC.n172 Tryz.prog Tryz.laysC172_ren := {
  mixed := by kernel_rfl
  f129 := Tryz.func288.trans (congrArg some (by kernel_rfl))
  f171 := Tryz.func58.trans (congrArg some (by kernel_rfl))
  f172 := Tryz.func139.trans (congrArg some (by kernel_rfl))
  f205 := Tryz.func337.trans (congrArg some (by kernel_rfl))
  f243 := Tryz.func108.trans (congrArg some (by kernel_rfl))
  f244 := Tryz.func209.trans (congrArg some (by kernel_rfl))
  f245 := Tryz.func210.trans (congrArg some (by kernel_rfl))
  f246 := Tryz.func167.trans (congrArg some (by kernel_rfl))
  f247 := Tryz.func275.trans (congrArg some (by kernel_rfl))
  f279 := Tryz.func276.trans (congrArg some (by kernel_rfl))
  f280 := Tryz.func277.trans (congrArg some (by kernel_rfl))
  f281 := Tryz.func278.trans (congrArg some (by kernel_rfl))
  f282 := Tryz.func279.trans (congrArg some (by kernel_rfl))
  f283 := Tryz.func219.trans (congrArg some (by kernel_rfl))
  f284 := Tryz.func220.trans (congrArg some (by kernel_rfl))
  f285 := Tryz.func221.trans (congrArg some (by kernel_rfl))
  f286 := Tryz.func222.trans (congrArg some (by kernel_rfl))
  f287 := Tryz.func335.trans (congrArg some (by kernel_rfl))
  f316 := Tryz.func336.trans (congrArg some (by kernel_rfl))
  f317 := Tryz.func287.trans (congrArg some (by kernel_rfl))
  f318 := Tryz.func289.trans (congrArg some (by kernel_rfl))
  f319 := Tryz.func290.trans (congrArg some (by kernel_rfl))
  f320 := Tryz.func291.trans (congrArg some (by kernel_rfl))
  f321 := Tryz.func359.trans (congrArg some (by kernel_rfl))
  f322 := Tryz.func360.trans (congrArg some (by kernel_rfl))
  f337 := Tryz.func339.trans (congrArg some (by kernel_rfl))
  f338 := Tryz.func340.trans (congrArg some (by kernel_rfl))
  t0 := Tryz.underlying0
  a0 := Tryz.isAgg0
  z0 := Tryz.sizeOf0
  v0 := Tryz.zeroValue0
  t2 := Tryz.underlying2
  a2 := Tryz.isAgg2
  z2 := Tryz.sizeOf2
  v2 := Tryz.zeroValue2
  t3 := Tryz.underlying3
  a3 := Tryz.isAgg3
  z3 := Tryz.sizeOf3
  v3 := Tryz.zeroValue3
  t4 := Tryz.underlying4
  a4 := Tryz.isAgg4
  z4 := Tryz.sizeOf4
  v4 := Tryz.zeroValue4
  t5 := Tryz.underlying5
  a5 := Tryz.isAgg5
  z5 := Tryz.sizeOf5
  v5 := Tryz.zeroValue5
  t9 := Tryz.underlying9
  a9 := Tryz.isAgg9
  z9 := Tryz.sizeOf9
  v9 := Tryz.zeroValue9
  t20 := Tryz.underlying20
  a20 := Tryz.isAgg20
  z20 := Tryz.sizeOf20
  v20 := Tryz.zeroValue20
  t21 := Tryz.underlying21
  a21 := Tryz.isAgg21
  z21 := Tryz.sizeOf21
  v21 := Tryz.zeroValue21
  t37 := Tryz.underlying66
  a37 := Tryz.isAgg66
  z37 := Tryz.sizeOf66
  v37 := Tryz.zeroValue66
  t46 := Tryz.underlying126
  a46 := Tryz.isAgg126
  z46 := Tryz.sizeOf126
  v46 := Tryz.zeroValue126
  t51 := Tryz.underlying122
  a51 := Tryz.isAgg122
  z51 := Tryz.sizeOf122
  v51 := Tryz.zeroValue122
  t53 := Tryz.underlying95
  a53 := Tryz.isAgg95
  z53 := Tryz.sizeOf95
  v53 := Tryz.zeroValue95
  t75 := Tryz.underlying74
  a75 := Tryz.isAgg74
  z75 := Tryz.sizeOf74
  v75 := Tryz.zeroValue74
  t76 := Tryz.underlying75
  a76 := Tryz.isAgg75
  z76 := Tryz.sizeOf75
  v76 := Tryz.zeroValue75
  t85 := Tryz.underlying266
  a85 := Tryz.isAgg266
  z85 := Tryz.sizeOf266
  v85 := Tryz.zeroValue266
  t127 := Tryz.underlying103
  a127 := Tryz.isAgg103
  z127 := Tryz.sizeOf103
  v127 := Tryz.zeroValue103
  t143 := Tryz.underlying321
  a143 := Tryz.isAgg321
  z143 := Tryz.sizeOf321
  v143 := Tryz.zeroValue321
  t145 := Tryz.underlying323
  a145 := Tryz.isAgg323
  z145 := Tryz.sizeOf323
  v145 := Tryz.zeroValue323
  t167 := Tryz.underlying265
  a167 := Tryz.isAgg265
  z167 := Tryz.sizeOf265
  v167 := Tryz.zeroValue265
  t168 := Tryz.underlying268
  a168 := Tryz.isAgg268
  z168 := Tryz.sizeOf268
  v168 := Tryz.zeroValue268
  t171 := Tryz.underlying231
  a171 := Tryz.isAgg231
  z171 := Tryz.sizeOf231
  v171 := Tryz.zeroValue231
  t173 := Tryz.underlying234
  a173 := Tryz.isAgg234
  z173 := Tryz.sizeOf234
  v173 := Tryz.zeroValue234
  t175 := Tryz.underlying301
  a175 := Tryz.isAgg301
  z175 := Tryz.sizeOf301
  v175 := Tryz.zeroValue301
  t210 := Tryz.underlying304
  a210 := Tryz.isAgg304
  z210 := Tryz.sizeOf304
  v210 := Tryz.zeroValue304
  t212 := Tryz.underlying276
  a212 := Tryz.isAgg276
  z212 := Tryz.sizeOf276
  v212 := Tryz.zeroValue276
  t213 := Tryz.underlying277
  a213 := Tryz.isAgg277
  z213 := Tryz.sizeOf277
  t232 := Tryz.underlying324
  a232 := Tryz.isAgg324
  z232 := Tryz.sizeOf324
  v232 := Tryz.zeroValue324
  t233 := Tryz.underlying325
  a233 := Tryz.isAgg325
  z233 := Tryz.sizeOf325
  v233 := Tryz.zeroValue325
  g15 := by kernel_rfl
  g16 := by kernel_rfl
  g17 := by kernel_rfl
  g18 := by kernel_rfl
  g19 := by kernel_rfl
  t80 := Tryz.underlying79
  a80 := Tryz.isAgg79
  z80 := Tryz.sizeOf79
  v80 := Tryz.zeroValue79
  i0 := by kernel_rfl
  i2 := by kernel_rfl
  i3 := by kernel_rfl
  i4 := by kernel_rfl
  i5 := by kernel_rfl
  i9 := by kernel_rfl
  i20 := by kernel_rfl
  i21 := by kernel_rfl
  i37 := by kernel_rfl
  i46 := by kernel_rfl
  i51 := by kernel_rfl
  i53 := by kernel_rfl
  i75 := by kernel_rfl
  i76 := by kernel_rfl
  i80 := by kernel_rfl
  i85 := by kernel_rfl
  i127 := by kernel_rfl
  i143 := by kernel_rfl
  i145 := by kernel_rfl
  i167 := by kernel_rfl
  i168 := by kernel_rfl
  i171 := by kernel_rfl
  i173 := by kernel_rfl
  i175 := by kernel_rfl
  i210 := by kernel_rfl
  i212 := by kernel_rfl
  i232 := by kernel_rfl
  i233 := by kernel_rfl
  m15 := by kernel_rfl
  m16 := by kernel_rfl
  m17 := by kernel_rfl
  m18 := by kernel_rfl
  m19 := by kernel_rfl
  c0 := by kernel_rfl
  c2 := by kernel_rfl
  c3 := by kernel_rfl
  c4 := by kernel_rfl
  c5 := by kernel_rfl
  c9 := by kernel_rfl
  c20 := by kernel_rfl
  c21 := by kernel_rfl
  c37 := by kernel_rfl
  c46 := by kernel_rfl
  c51 := by kernel_rfl
  c53 := by kernel_rfl
  c75 := by kernel_rfl
  c76 := by kernel_rfl
  c80 := by kernel_rfl
  c85 := by kernel_rfl
  c127 := by kernel_rfl
  c143 := by kernel_rfl
  c145 := by kernel_rfl
  c167 := by kernel_rfl
  c168 := by kernel_rfl
  c171 := by kernel_rfl
  c173 := by kernel_rfl
  c175 := by kernel_rfl
  c210 := by kernel_rfl
  c212 := by kernel_rfl
  c213 := by kernel_rfl
  c232 := by kernel_rfl
  c233 := by kernel_rfl }
def Tryz.lays229_ren : Go.Shelf.Ren := ⟨fun | 229 => 55 | n => n, fun | 9 => 9 | 40 => 99 | 31 => 22 | 152 => 133 | 3 => 3 | 0 => 0 | 4 => 4 | 21 => 21 | 154 => 135 | n => n, fun | n => n⟩
theorem Tryz.lays229 : Go.Proofs.Lays.n229 Tryz.prog Tryz.lays229_ren := {
  mixed := by kernel_rfl
  f229 := Tryz.func55.trans (congrArg some (by kernel_rfl))
  t0 := Tryz.underlying0
  a0 := Tryz.isAgg0
  z0 := Tryz.sizeOf0
  v0 := Tryz.zeroValue0
  t3 := Tryz.underlying3
  a3 := Tryz.isAgg3
  z3 := Tryz.sizeOf3
  v3 := Tryz.zeroValue3
  t4 := Tryz.underlying4
  a4 := Tryz.isAgg4
  z4 := Tryz.sizeOf4
  v4 := Tryz.zeroValue4
  t9 := Tryz.underlying9
  a9 := Tryz.isAgg9
  z9 := Tryz.sizeOf9
  v9 := Tryz.zeroValue9
  t21 := Tryz.underlying21
  a21 := Tryz.isAgg21
  z21 := Tryz.sizeOf21
  v21 := Tryz.zeroValue21
  t31 := Tryz.underlying22
  a31 := Tryz.isAgg22
  z31 := Tryz.sizeOf22
  v31 := Tryz.zeroValue22
  t40 := Tryz.underlying99
  a40 := Tryz.isAgg99
  z40 := Tryz.sizeOf99
  v40 := Tryz.zeroValue99
  t152 := Tryz.underlying133
  a152 := Tryz.isAgg133
  z152 := Tryz.sizeOf133
  v152 := Tryz.zeroValue133
  t154 := Tryz.underlying135
  a154 := Tryz.isAgg135
  z154 := Tryz.sizeOf135
  v154 := Tryz.zeroValue135 }
def Tryz.lays137_ren : Go.Shelf.Ren := ⟨fun | 137 => 35 | 217 => 70 | 266 => 134 | n => n, fun | 9 => 9 | 5 => 5 | 3 => 3 | n => n, fun | n => n⟩
theorem Tryz.lays137 : Go.Proofs.Lays.n137 Tryz.prog Tryz.lays137_ren := {
  mixed := by kernel_rfl
  f137 := Tryz.func35.trans (congrArg some (by kernel_rfl))
  f217 := Tryz.func70.trans (congrArg some (by kernel_rfl))
  f266 := Tryz.func134.trans (congrArg some (by kernel_rfl))
  t3 := Tryz.underlying3
  a3 := Tryz.isAgg3
  z3 := Tryz.sizeOf3
  v3 := Tryz.zeroValue3
  t5 := Tryz.underlying5
  a5 := Tryz.isAgg5
  z5 := Tryz.sizeOf5
  v5 := Tryz.zeroValue5
  t9 := Tryz.underlying9
  a9 := Tryz.isAgg9
  z9 := Tryz.sizeOf9
  v9 := Tryz.zeroValue9 }
def Tryz.lays106_ren : Go.Shelf.Ren := ⟨fun | 106 => 46 | 213 => 97 | 265 => 158 | n => n, fun | 9 => 9 | 3 => 3 | n => n, fun | n => n⟩
theorem Tryz.lays106 : Go.Proofs.Lays.n106 Tryz.prog Tryz.lays106_ren := {
  mixed := by kernel_rfl
  f106 := Tryz.func46.trans (congrArg some (by kernel_rfl))
  f213 := Tryz.func97.trans (congrArg some (by kernel_rfl))
  f265 := Tryz.func158.trans (congrArg some (by kernel_rfl))
  t3 := Tryz.underlying3
  a3 := Tryz.isAgg3
  z3 := Tryz.sizeOf3
  v3 := Tryz.zeroValue3
  t9 := Tryz.underlying9
  a9 := Tryz.isAgg9
  z9 := Tryz.sizeOf9
  v9 := Tryz.zeroValue9 }
def Tryz.lays169_ren : Go.Shelf.Ren := ⟨fun | 169 => 33 | n => n, fun | 70 => 65 | 9 => 9 | 0 => 0 | 72 => 68 | 37 => 66 | 127 => 103 | 3 => 3 | 5 => 5 | n => n, fun | n => n⟩
def Tryz.lays145_ren : Go.Shelf.Ren := ⟨fun | 145 => 69 | 220 => 133 | 219 => 166 | 217 => 70 | 225 => 216 | 224 => 217 | 267 => 218 | 266 => 134 | 314 => 286 | n => n, fun | 9 => 9 | 4 => 4 | 59 => 105 | 3 => 3 | 5 => 5 | 46 => 126 | 146 => 187 | 51 => 122 | n => n, fun | 1 => 0 | n => n⟩
theorem Tryz.lays145 : Go.Proofs.Lays.n145 Tryz.prog Tryz.lays145_ren := {
  mixed := by kernel_rfl
  f145 := Tryz.func69.trans (congrArg some (by kernel_rfl))
  f217 := Tryz.func70.trans (congrArg some (by kernel_rfl))
  f219 := Tryz.func166.trans (congrArg some (by kernel_rfl))
  f220 := Tryz.func133.trans (congrArg some (by kernel_rfl))
  f224 := Tryz.func217.trans (congrArg some (by kernel_rfl))
  f225 := Tryz.func216.trans (congrArg some (by kernel_rfl))
  f266 := Tryz.func134.trans (congrArg some (by kernel_rfl))
  f267 := Tryz.func218.trans (congrArg some (by kernel_rfl))
  f314 := Tryz.func286.trans (congrArg some (by kernel_rfl))
  t3 := Tryz.underlying3
  a3 := Tryz.isAgg3
  z3 := Tryz.sizeOf3
  v3 := Tryz.zeroValue3
  t4 := Tryz.underlying4
  a4 := Tryz.isAgg4
  z4 := Tryz.sizeOf4
  v4 := Tryz.zeroValue4
  t5 := Tryz.underlying5
  a5 := Tryz.isAgg5
  z5 := Tryz.sizeOf5
  v5 := Tryz.zeroValue5
  t9 := Tryz.underlying9
  a9 := Tryz.isAgg9
  z9 := Tryz.sizeOf9
  v9 := Tryz.zeroValue9
  t46 := Tryz.underlying126
  a46 := Tryz.isAgg126
  z46 := Tryz.sizeOf126
  v46 := Tryz.zeroValue126
  t51 := Tryz.underlying122
  a51 := Tryz.isAgg122
  z51 := Tryz.sizeOf122
  v51 := Tryz.zeroValue122
  t59 := Tryz.underlying105
  a59 := Tryz.isAgg105
  z59 := Tryz.sizeOf105
  v59 := Tryz.zeroValue105
  t146 := Tryz.underlying187
  a146 := Tryz.isAgg187
  z146 := Tryz.sizeOf187
  v146 := Tryz.zeroValue187
  g1 := by kernel_rfl }
end Go.Proofs

namespace Go.Proofs
open Go.Shelf
def Tryz.lays166_ren : Go.Shelf.Ren := ⟨fun | 166 => 30 | 240 => 57 | 276 => 107 | n => n, fun | 0 => 0 | 3 => 3 | 4 => 4 | 5 => 5 | 9 => 9 | 20 => 20 | 37 => 66 | 70 => 65 | 72 => 68 | 75 => 74 | 80 => 79 | 164 => 136 | n => n, fun | n => n⟩
theorem Tryz.lays166 : Go.Proofs.Lays.n166 Tryz.prog Tryz.lays166_ren := {
  mixed := by kernel_rfl
  f166 := Tryz.func30.trans (congrArg some (by kernel_rfl))
  f240 := Tryz.func57.trans (congrArg some (by kernel_rfl))
  f276 := Tryz.func107.trans (congrArg some (by kernel_rfl))
  t0 := Tryz.underlying0
  a0 := Tryz.isAgg0
  z0 := Tryz.sizeOf0
  v0 := Tryz.zeroValue0
  t3 := Tryz.underlying3
  a3 := Tryz.isAgg3
  z3 := Tryz.sizeOf3
  v3 := Tryz.zeroValue3
  t4 := Tryz.underlying4
  a4 := Tryz.isAgg4
  z4 := Tryz.sizeOf4
  v4 := Tryz.zeroValue4
  t9 := Tryz.underlying9
  a9 := Tryz.isAgg9
  z9 := Tryz.sizeOf9
  v9 := Tryz.zeroValue9
  t20 := Tryz.underlying20
  a20 := Tryz.isAgg20
  z20 := Tryz.sizeOf20
  v20 := Tryz.zeroValue20
  t37 := Tryz.underlying66
  a37 := Tryz.isAgg66
  z37 := Tryz.sizeOf66
  v37 := Tryz.zeroValue66
  t70 := Tryz.underlying65
  a70 := Tryz.isAgg65
  z70 := Tryz.sizeOf65
  v70 := Tryz.zeroValue65
  t72 := Tryz.underlying68
  a72 := Tryz.isAgg68
  z72 := Tryz.sizeOf68
  v72 := Tryz.zeroValue68
  t75 := Tryz.underlying74
  a75 := Tryz.isAgg74
  z75 := Tryz.sizeOf74
  v75 := Tryz.zeroValue74
  t164 := Tryz.underlying136
  a164 := Tryz.isAgg136
  z164 := Tryz.sizeOf136
  v164 := Tryz.zeroValue136 }
theorem Tryz.Builder_Extra_166 : Builder.Extra Tryz.prog Tryz.lays166_ren := {
  sizeBuilder := by kernel_rfl
  liesBuilder := by kernel_rfl
  t5 := Tryz.underlying5
  a5 := Tryz.isAgg5
  z5 := Tryz.sizeOf5
  v5 := Tryz.zeroValue5
  infoByte := by kernel_rfl
  cellsByte := by kernel_rfl
  sizeByte := by kernel_rfl
  neB5 := by decide }
end Go.Proofs

namespace Go.Proofs
open Go.Shelf
def Tryz.lays105_ren : Go.Shelf.Ren := ⟨fun | 105 => 341 | 212 => 361 | 99 => 362 | 165 => 53 | 166 => 30 | 170 => 363 | 169 => 33 | 263 => 370 | 264 => 371 | 206 => 274 | 240 => 57 | 241 => 103 | 276 => 107 | 277 => 164 | n => n, fun | 9 => 9 | 3 => 3 | 4 => 4 | 20 => 20 | 0 => 0 | 46 => 126 | 109 => 326 | 5 => 5 | 72 => 68 | 76 => 75 | 51 => 122 | 146 => 187 | 53 => 95 | 148 => 331 | 70 => 65 | 37 => 66 | 75 => 74 | 127 => 103 | 164 => 136 | 80 => 79 | n => n, fun | n => n⟩
def Tryz.laysE35_ren : Go.Shelf.Ren := ⟨fun | 35 => 101 | n => n, fun | 22 => 66 | 23 => 5 | 3 => 3 | 4 => 4 | 0 => 0 | n => n, fun | n => n⟩
theorem Tryz.laysE35 : Go.Proofs.SlLaysE.n35 Tryz.prog Tryz.laysE35_ren := {
  mixed := by kernel_rfl
  f35 := ⟨Tryz.f101.name, by decide, Tryz.func101.trans (congrArg some (by kernel_rfl))⟩
  t0 := Tryz.underlying0
  a0 := Tryz.isAgg0
  z0 := Tryz.sizeOf0
  v0 := Tryz.zeroValue0
  t3 := Tryz.underlying3
  a3 := Tryz.isAgg3
  z3 := Tryz.sizeOf3
  v3 := Tryz.zeroValue3
  t4 := Tryz.underlying4
  a4 := Tryz.isAgg4
  z4 := Tryz.sizeOf4
  v4 := Tryz.zeroValue4
  t22 := Tryz.underlying66
  a22 := Tryz.isAgg66
  z22 := Tryz.sizeOf66
  v22 := Tryz.zeroValue66
  a23 := Tryz.isAgg5
  z23 := Tryz.sizeOf5 }
def Tryz.lays160_ren : Go.Shelf.Ren := ⟨fun | 160 => 37 | 232 => 79 | 231 => 78 | 227 => 80 | 234 => 82 | 233 => 81 | 236 => 84 | 235 => 83 | 228 => 141 | 271 => 143 | 151 => 142 | 197 => 105 | 120 => 212 | 152 => 211 | 260 => 165 | 137 => 35 | 119 => 280 | 224 => 217 | 225 => 216 | 217 => 70 | 266 => 134 | n => n, fun | 9 => 9 | 4 => 4 | 3 => 3 | 5 => 5 | 117 => 115 | 116 => 114 | 0 => 0 | 124 => 118 | 21 => 21 | 105 => 131 | 46 => 126 | 119 => 227 | 139 => 230 | 138 => 229 | n => n, fun | 3 => 2 | 4 => 3 | n => n⟩
theorem Tryz.lays160 : Go.Proofs.Lays.n160 Tryz.prog Tryz.lays160_ren := {
  mixed := by kernel_rfl
  f119 := Tryz.func280.trans (congrArg some (by kernel_rfl))
  f120 := Tryz.func212.trans (congrArg some (by kernel_rfl))
  f137 := Tryz.func35.trans (congrArg some (by kernel_rfl))
  f151 := Tryz.func142.trans (congrArg some (by kernel_rfl))
  f152 := Tryz.func211.trans (congrArg some (by kernel_rfl))
  f160 := Tryz.func37.trans (congrArg some (by kernel_rfl))
  f197 := Tryz.func105.trans (congrArg some (by kernel_rfl))
  f217 := Tryz.func70.trans (congrArg some (by kernel_rfl))
  f224 := Tryz.func217.trans (congrArg some (by kernel_rfl))
  f225 := Tryz.func216.trans (congrArg some (by kernel_rfl))
  f227 := Tryz.func80.trans (congrArg some (by kernel_rfl))
  f228 := Tryz.func141.trans (congrArg some (by kernel_rfl))
  f231 := Tryz.func78.trans (congrArg some (by kernel_rfl))
  f232 := Tryz.func79.trans (congrArg some (by kernel_rfl))
  f233 := Tryz.func81.trans (congrArg some (by kernel_rfl))
  f234 := Tryz.func82.trans (congrArg some (by kernel_rfl))
  f235 := Tryz.func83.trans (congrArg some (by kernel_rfl))
  f236 := Tryz.func84.trans (congrArg some (by kernel_rfl))
  f260 := Tryz.func165.trans (congrArg some (by kernel_rfl))
  f266 := Tryz.func134.trans (congrArg some (by kernel_rfl))
  f271 := Tryz.func143.trans (congrArg some (by kernel_rfl))
  t0 := Tryz.underlying0
  a0 := Tryz.isAgg0
  z0 := Tryz.sizeOf0
  v0 := Tryz.zeroValue0
  t3 := Tryz.underlying3
  a3 := Tryz.isAgg3
  z3 := Tryz.sizeOf3
  v3 := Tryz.zeroValue3
  t4 := Tryz.underlying4
  a4 := Tryz.isAgg4
  z4 := Tryz.sizeOf4
  v4 := Tryz.zeroValue4
  t5 := Tryz.underlying5
  a5 := Tryz.isAgg5
  z5 := Tryz.sizeOf5
  v5 := Tryz.zeroValue5
  t9 := Tryz.underlying9
  a9 := Tryz.isAgg9
  z9 := Tryz.sizeOf9
  v9 := Tryz.zeroValue9
  t21 := Tryz.underlying21
  a21 := Tryz.isAgg21
  z21 := Tryz.sizeOf21
  v21 := Tryz.zeroValue21
  t46 := Tryz.underlying126
  a46 := Tryz.isAgg126
  z46 := Tryz.sizeOf126
  v46 := Tryz.zeroValue126
  t105 := Tryz.underlying131
  a105 := Tryz.isAgg131
  z105 := Tryz.sizeOf131
  v105 := Tryz.zeroValue131
  t116 := Tryz.underlying114
  a116 := Tryz.isAgg114
  z116 := Tryz.sizeOf114
  t117 := Tryz.underlying115
  a117 := Tryz.isAgg115
  z117 := Tryz.sizeOf115
  v117 := Tryz.zeroValue115
  t119 := Tryz.underlying227
  a119 := Tryz.isAgg227
  z119 := Tryz.sizeOf227
  t124 := Tryz.underlying118
  a124 := Tryz.isAgg118
  z124 := Tryz.sizeOf118
  v124 := Tryz.zeroValue118
  t138 := Tryz.underlying229
  a138 := Tryz.isAgg229
  z138 := Tryz.sizeOf229
  v138 := Tryz.zeroValue229
  t139 := Tryz.underlying230
  a139 := Tryz.isAgg230
  z139 := Tryz.sizeOf230
  v139 := Tryz.zeroValue230
  g3 := by kernel_rfl
  g4 := by kernel_rfl }
def Tryz.lays219_ren : Go.Shelf.Ren := ⟨fun | 219 => 166 | 217 => 70 | 225 => 216 | 224 => 217 | 267 => 218 | 266 => 134 | 314 => 286 | n => n, fun | 9 => 9 | 3 => 3 | 4 => 4 | 5 => 5 | 46 => 126 | 146 => 187 | 51 => 122 | n => n, fun | 1 => 0 | n => n⟩
theorem Tryz.lays219 : Go.Proofs.Lays.n219 Tryz.prog Tryz.lays219_ren := {
  mixed := by kernel_rfl
  f217 := Tryz.func70.trans (congrArg some (by kernel_rfl))
  f219 := Tryz.func166.trans (congrArg some (by kernel_rfl))
  f224 := Tryz.func217.trans (congrArg some (by kernel_rfl))
  f225 := Tryz.func216.trans (congrArg some (by kernel_rfl))
  f266 := Tryz.func134.trans (congrArg some (by kernel_rfl))
  f267 := Tryz.func218.trans (congrArg some (by kernel_rfl))
  f314 := Tryz.func286.trans (congrArg some (by kernel_rfl))
  t3 := Tryz.underlying3
  a3 := Tryz.isAgg3
  z3 := Tryz.sizeOf3
  v3 := Tryz.zeroValue3
  t4 := Tryz.underlying4
  a4 := Tryz.isAgg4
  z4 := Tryz.sizeOf4
  v4 := Tryz.zeroValue4
  t5 := Tryz.underlying5
  a5 := Tryz.isAgg5
  z5 := Tryz.sizeOf5
  v5 := Tryz.zeroValue5
  t9 := Tryz.underlying9
  a9 := Tryz.isAgg9
  z9 := Tryz.sizeOf9
  v9 := Tryz.zeroValue9
  t46 := Tryz.underlying126
  a46 := Tryz.isAgg126
  z46 := Tryz.sizeOf126
  v46 := Tryz.zeroValue126
  t51 := Tryz.underlying122
  a51 := Tryz.isAgg122
  z51 := Tryz.sizeOf122
  v51 := Tryz.zeroValue122
  t146 := Tryz.underlying187
  a146 := Tryz.isAgg187
  z146 := Tryz.sizeOf187
  v146 := Tryz.zeroValue187
  g1 := by kernel_rfl }
def Tryz.lays103_ren : Go.Shelf.Ren := ⟨fun | 103 => 135 | 210 => 207 | 206 => 274 | n => n, fun | 9 => 9 | 4 => 4 | 24 => 175 | 3 => 3 | n => n, fun | n => n⟩
theorem Tryz.lays103 : Go.Proofs.Lays.n103 Tryz.prog Tryz.lays103_ren := {
  mixed := by kernel_rfl
  f103 := Tryz.func135.trans (congrArg some (by kernel_rfl))
  f206 := Tryz.func274.trans (congrArg some (by kernel_rfl))
  f210 := Tryz.func207.trans (congrArg some (by kernel_rfl))
  t3 := Tryz.underlying3
  a3 := Tryz.isAgg3
  z3 := Tryz.sizeOf3
  v3 := Tryz.zeroValue3
  t4 := Tryz.underlying4
  a4 := Tryz.isAgg4
  z4 := Tryz.sizeOf4
  v4 := Tryz.zeroValue4
  t9 := Tryz.underlying9
  a9 := Tryz.isAgg9
  z9 := Tryz.sizeOf9
  v9 := Tryz.zeroValue9
  t24 := Tryz.underlying175
  a24 := Tryz.isAgg175
  z24 := Tryz.sizeOf175
  v24 := Tryz.zeroValue175 }
end Go.Proofs

namespace Go.Proofs.YtchokmhfgikglaaGreatDoor
set_option maxRecDepth 100000
open Go.RowKit Go.Shelf Go.Lib

/-- A number as a byte. -/
def encB (n : Nat) : Value := .int .u8 (n : Int)

theorem OwnB.cell {w : World} {base : Nat} {e : TypeId} {g c cap : Nat} {cs : List Nat} (h : OwnB w base e (.slice (some ⟨g, 0, none⟩) c cap) cs) (_ : 0 < cs.length) :
    c = cs.length ∧ base ≤ g ∧ g < w.heap.size ∧ cs.length ≤ cap ∧ ∀ j (hj : j < cs.length), w.cell? ⟨g, j, none⟩ = some (.int .u8 (cs[j] : Nat)) ∧ w.frozen? ⟨g, j, none⟩ = false := by
  obtain ⟨hl, h | ⟨g', cap', cur, hv, hg, hc, hn, hm, hz, ht⟩⟩ := h
  · cases h.1
  · cases hv
    refine ⟨rfl, hg, (Array.getElem?_eq_some_iff.1 hc).1, hn, fun j hj => ⟨?_, ?_⟩⟩
    · have h1 : (List.take (cs.length * 1) cur.toList)[j]? = (bv cs)[j]? := by rw [ht]
      rw [List.getElem?_take, if_pos (by omega)] at h1
      have h2 : (bv cs)[j]? = some (.int .u8 (cs[j] : Nat)) := by unfold bv; rw [List.getElem?_map, List.getElem?_eq_getElem hj]; rfl
      simp [World.cell?, hc]
      rw [h2] at h1
      simpa using h1
    · simp [World.frozen?, hc]

/-- The row's other form: an address and cells. -/
theorem OwnB.form {w : World} {base : Nat} {e : TypeId} {v : Value} {cs : List Nat} (h : OwnB w base e v cs) (hp : 0 < cs.length) : ∃ g cap, v = .slice (some ⟨g, 0, none⟩) cs.length cap := by
  obtain ⟨hl, h | ⟨g', cap', cur, hv, rest⟩⟩ := h
  · omega
  · exact ⟨g', cap', hv⟩

/-- The row shortened. -/
theorem OwnB.take {w : World} {base : Nat} {e : TypeId} {g c cap : Nat} {cs : List Nat} (h : OwnB w base e (.slice (some ⟨g, 0, none⟩) c cap) cs) (n : Nat) (hn : n ≤ cs.length) : OwnB w base e (.slice (some ⟨g, 0, none⟩) n cap) (cs.take n) := by
  obtain ⟨hl, h | ⟨g', cap', cur, hv, hg, hc, hn', hm, hz, ht⟩⟩ := h
  · cases h.1
  · cases hv
    have hl2 : (cs.take n).length = n := by rw [List.length_take]; omega
    refine ⟨by unfold bv; simp, Or.inr ⟨g, cap, cur, by rw [hl2], hg, hc, by rw [hl2]; omega, hm, hz, ?_⟩⟩
    rw [hl2]
    have h1 : List.take (n * 1) (List.take (cs.length * 1) cur.toList) = List.take (n * 1) (bv cs) := by rw [ht]
    rw [List.take_take, show min (n * 1) (cs.length * 1) = n * 1 by omega] at h1
    rw [h1]
    unfold bv
    rw [Nat.mul_one, List.map_take]

theorem below_put (base : Nat) (w : World) (n g : Nat) (f : Array Value → Array Value) (h : base ≤ g) : Below base w (Go.Sort.mapBlock (Go.Sort.ahead w n) g f) := by
  refine ⟨rfl, rfl, rfl, ?_, fun k hk => ?_⟩
  · simp [Go.Sort.mapBlock, Go.Sort.ahead]
  · show (w.heap.modify g _)[k]? = _
    rw [Array.getElem?_modify, if_neg (by omega)]

theorem rev_any (cs : List Nat) (v : Value) (w : World) (base : Nat) (e : TypeId) (h : OwnB w base e v cs) (hp : 0 < cs.length) (hl : cs.length ≤ 1000000) :
    Calls Tryz.prog 101 #[v] w fun r w' => r = .returned (.tuple #[]) ∧ OwnB w' base e v cs.reverse ∧ Below base w w' := by
  obtain ⟨g, cap, rfl⟩ := h.form hp
  obtain ⟨_, hg, hgl, hcap, hc⟩ := h.cell hp
  obtain ⟨hl0, h | ⟨g', cap', cur, hv, hg', hc', hn', hm, hz, ht⟩⟩ := h
  · cases h.1
  cases hv
  have H : Go.Sort.Holds encB w g 0 cs.toArray := fun j hj => by
    have hj' : j < cs.length := by simpa using hj
    obtain ⟨h1, h2⟩ := hc j hj'
    rw [Nat.zero_add]
    refine ⟨?_, h2⟩
    rw [h1, getElem!_pos _ j hj]
    rfl
  have hcon := AnyE.slices_Reverse Tryz.laysE35 encB (fun _ => rfl) g 0 cap cs w H (by omega)
  refine Calls.mono hcon ?_
  rintro r w' ⟨rfl, n, rfl⟩
  refine ⟨rfl, ?_, below_put _ _ _ _ _ hg⟩
  refine ⟨by unfold bv; simp, Or.inr ⟨g, cap, Go.Sort.putCells encB 0 cs.reverse.toArray cur, by rw [List.length_reverse], hg, ?_, by rw [List.length_reverse]; exact hn', hm, ?_, ?_⟩⟩
  · show (w.heap.modify g _)[g]? = _
    rw [Array.getElem?_modify, if_pos rfl, hc']
    rfl
  · simp [Go.Sort.putCells, hz]
  · have hcl : cs.length ≤ cur.size := by omega
    apply List.ext_getElem?
    intro j
    rw [Nat.mul_one, List.getElem?_take, List.length_reverse]
    by_cases hj : j < cs.length
    · rw [if_pos hj]
      simp only [Go.Sort.putCells, Array.getElem?_toList, Array.getElem?_mapIdx]
      have hjc : j < cur.size := by omega
      rw [Array.getElem?_eq_getElem hjc]
      simp only [Option.map_some]
      rw [if_pos ⟨by omega, by simp; omega⟩]
      unfold bv encB
      rw [List.getElem?_map, List.getElem?_eq_getElem (by simpa using hj)]
      simp only [Nat.sub_zero, Option.map_some]
      rw [getElem!_pos _ j (by simpa using hj)]
      simp
    · rw [if_neg hj, List.getElem?_eq_none]
      unfold bv
      simp
      omega

/-- Bytes as a string. -/
def strN (cs : List Nat) : ByteArray := ⟨(cs.map UInt8.ofNat).toArray⟩

theorem strN_size (cs : List Nat) : (strN cs).size = cs.length := by show (cs.map UInt8.ofNat).toArray.size = _; simp

theorem OwnB.str {P : Program} {w : World} {base : Nat} {e : TypeId} {v : Value} {cs : List Nat} (h : OwnB w base e v cs) (hp : 0 < cs.length) (hb : ∀ x ∈ cs, x < 256) (src dst t : TypeId) (hs : P.underlying src = some (.slice t)) (he : P.underlying t = some (.int .u8)) (hd : P.underlying dst = some .string) :
    (convert src dst v).run P w = .ok (.string (strN cs)) w := by
  obtain ⟨g, cap, rfl⟩ := h.form hp
  obtain ⟨_, hg, hgl, hcap, hc⟩ := h.cell hp
  have hl : (cs.map UInt8.ofNat).length = cs.length := List.length_map ..
  have := run_convert_bytes_back (P := P) w src dst t ⟨g, 0, none⟩ cap (cs.map UInt8.ofNat) hs he hd (fun j hj => by
    have hj' : j < cs.length := by rw [hl] at hj; exact hj
    have hplain : (⟨g, 0, none⟩ : Addr).add j = ⟨g, j, none⟩ := by unfold Addr.add; split <;> simp_all
    rw [hplain, (hc j hj').1, List.getElem_map]
    have := hb _ (List.getElem_mem hj')
    congr 2
    simp [UInt8.toNat_ofNat']
    omega)
  rw [hl] at this
  exact this
end Go.Proofs.YtchokmhfgikglaaGreatDoor

namespace Go.Proofs.YtchokmhfgikglaaGreatDoor
set_option maxRecDepth 100000
open Go.RowKit

/-- The number that a slice's limbs make. -/
def rdM (w : World) (v : Value) : Nat :=
  match v with
  | .slice (some p) n _ => val ((List.range n).map fun j => match w.cell? ⟨p.block, p.off + j, none⟩ with
    | some (.int _ z) => z.toNat
    | _ => 0)
  | _ => 0

theorem rdM_of {w : World} {L B : Nat} {v : Value} {x : List Nat} (h : Nt w L B v x) : rdM w v = val x := by
  obtain ⟨A, c, rfl, hc, hm, hA, hx⟩ := h
  by_cases h0 : 0 < x.length
  · obtain ⟨b, off, rfl, _, _, hcell⟩ := hx h0
    unfold rdM
    show val _ = val x
    congr 1
    apply List.ext_getElem
    · simp
    · intro i h1 h2
      rw [List.getElem_map, List.getElem_range, hcell i h2]
      simp
  · obtain rfl : x = [] := List.eq_nil_of_length_eq_zero (by omega)
    unfold rdM
    cases A <;> rfl

theorem dec_bound {k n i : Nat} (h : n < 4294967296 ^ k) (hi : 10 ^ i ≤ n) : i < 10 * k := by
  have h1 : 4294967296 ^ k ≤ (10 ^ 10) ^ k := Nat.pow_le_pow_left (by omega) k
  rw [← Nat.pow_mul] at h1
  exact (Nat.pow_lt_pow_iff_right (by omega : 1 < 10)).1 (Nat.lt_of_le_of_lt hi (Nat.lt_of_lt_of_le h h1))

theorem digit_at (d : Nat) (h : d < 10) (hs : d < (ByteArray.mk #[48, 49, 50, 51, 52, 53, 54, 55, 56, 57]).size) : (((ByteArray.mk #[48, 49, 50, 51, 52, 53, 54, 55, 56, 57])[d]'hs).toNat : Int) = ((48 + d : Nat) : Int) := by
  have hc : d = 0 ∨ d = 1 ∨ d = 2 ∨ d = 3 ∨ d = 4 ∨ d = 5 ∨ d = 6 ∨ d = 7 ∨ d = 8 ∨ d = 9 := by omega
  rcases hc with rfl | rfl | rfl | rfl | rfl | rfl | rfl | rfl | rfl | rfl <;> rfl

/-- How long a row is. -/
def lenV : Value → Nat
  | .slice _ n _ => n
  | _ => 0

/-- A number's digits as bytes, the highest first. -/
def digs (n : Nat) : List Nat := ((dec n).map (48 + ·)).reverse

/-- What the loop that cuts noughts looks at. -/
theorem last_of (n z : Nat) (h : n ≠ 0) : ((dec n ++ List.replicate z 0).map (48 + ·)).length = (dec n).length + z ∧ 0 < (dec n).length ∧
    ∀ hl : ((dec n ++ List.replicate z 0).map (48 + ·)).length - 1 < ((dec n ++ List.replicate z 0).map (48 + ·)).length, (z ≠ 0 → ((dec n ++ List.replicate z 0).map (48 + ·))[((dec n ++ List.replicate z 0).map (48 + ·)).length - 1] = 48) ∧ (z = 0 → ((dec n ++ List.replicate z 0).map (48 + ·))[((dec n ++ List.replicate z 0).map (48 + ·)).length - 1] ≠ 48) := by
  have h1 : 0 < (dec n).length := by rw [dec_pos h]; simp
  refine ⟨by simp, h1, fun hl => ⟨fun hz => ?_, fun hz => ?_⟩⟩
  · rw [List.getElem_map, List.getElem_append_right (by simp; omega), List.getElem_replicate]
  · subst hz
    simp only [List.replicate_zero, List.append_nil]
    rw [List.getElem_map]
    intro hc
    have hne : dec n ≠ [] := List.ne_nil_of_length_pos h1
    refine dec_last n (dec n).dropLast ((dec n).getLast hne) (List.dropLast_concat_getLast hne).symm ?_
    rw [List.getLast_eq_getElem]
    simp only [List.length_map] at hc
    omega

theorem cut_in {w : World} {base : Nat} {e : TypeId} {v : Value} {n z : Nat} (hb : OwnB w base e v ((dec n ++ List.replicate z 0).map (48 + ·))) (h : n ≠ 0) :
    ∃ g cap L y, v = .slice (some ⟨g, 0, none⟩) L cap ∧ L = (dec n).length + z ∧ 0 < (dec n).length ∧ L ≤ cap ∧ w.cell? ⟨g, L - 1, none⟩ = some (.int .u8 ((y : Nat) : Int)) ∧
      (z ≠ 0 → y = 48 ∧ OwnB w base e (.slice (some ⟨g, 0, none⟩) (L - 1) cap) ((dec n ++ List.replicate (z - 1) 0).map (48 + ·))) ∧ (z = 0 → y ≠ 48) := by
  obtain ⟨hl, hd1, hlast⟩ := last_of n z h
  have hp : 0 < ((dec n ++ List.replicate z 0).map (48 + ·)).length := by omega
  obtain ⟨g, cap, rfl⟩ := hb.form hp
  obtain ⟨_, hg, hgl, hcap, hc⟩ := hb.cell hp
  have hlt : ((dec n ++ List.replicate z 0).map (48 + ·)).length - 1 < ((dec n ++ List.replicate z 0).map (48 + ·)).length := by omega
  obtain ⟨ha, hbb⟩ := hlast hlt
  refine ⟨g, cap, _, _, rfl, hl, hd1, hcap, (hc _ hlt).1, fun hz => ⟨ha hz, ?_⟩, hbb⟩
  have ht := hb.take (((dec n ++ List.replicate z 0).map (48 + ·)).length - 1) (by omega)
  have he : ((dec n ++ List.replicate z 0).map (48 + ·)).take (((dec n ++ List.replicate z 0).map (48 + ·)).length - 1) = (dec n ++ List.replicate (z - 1) 0).map (48 + ·) := by
    rw [hl, ← List.map_take, List.take_append, List.take_of_length_le (by omega), List.take_replicate]
    congr 3
    omega
  rw [he] at ht
  exact ht

set_option maxHeartbeats 3200000 in
theorem print_pos (v : Value) (x : List Nat) (w : World) (hd : Dig x) (h : Nt w 0 w.heap.size v x) (hl : x.length ≤ 100) (h0 : val x ≠ 0) :
    Calls Tryz.prog 50 #[v] w fun e w' => e = .returned (.string (strN (digs (val x)))) ∧ Below w.heap.size w w' := by
  have hne : ¬ (lim (val x)).length = 0 := fun h => h0 (lim_eq_nil.1 (List.eq_nil_of_length_eq_zero h))
  have z1 : ((((lim (val x)).length : Nat) : Int) == 0) = false := beq_eq_false_iff_ne.2 (by omega)
  go_enter Tryz.func50, Tryz.ntmps50
  go_wp2_with fail
  refine (Trim_any _ x _ hd h (by omega)).mono ?_
  rintro e w1 ⟨v1, rfl, h1, hb⟩
  have h1' := h1
  obtain ⟨A, c, rfl, hc, hm, _, _⟩ := h1'
  clear h
  obtain ⟨n, hn⟩ : ∃ n, val x = n := ⟨_, rfl⟩
  have lx := Nat.le_trans (limBd hd) hl
  rw [hn] at h1 hne z1 hc lx ⊢
  have e0 : n / 10 ^ (9 * 0) = n := by rw [Nat.mul_zero, Nat.pow_zero, Nat.div_one]
  have E0 := Lib.hid e0
  have LX := Lib.hid lx
  have NB : Hid (n < 4294967296 ^ x.length) := by show _ < _; rw [← hn]; exact val_lt hd
  have H1 := Lib.hid (h1.low (Nat.zero_le _))
  clear e0 lx
  obtain ⟨i0, hi, hz0, hz1, hz2⟩ := info_parts Tryz.info8
  go_wp2_with fail
  go_loopw [0, 3] (fun a b wr => ∃ j : Nat, Nt wr 0 wr.heap.size a (lim (n / 10 ^ (9 * j))) ∧ OwnB wr w.heap.size 5 b ((pad (9 * j) n).map (48 + ·)) ∧ Hid ((lim (n / 10 ^ (9 * j))).length ≤ 100) ∧ Hid (9 * j ≤ 2000) ∧ Below w.heap.size w wr)
    (fun a _ wr => rdM wr a)
  case atStart => exact ⟨0, by rw [E0.out]; exact H1.out, OwnB.nil _ _ _, by rw [E0.out]; exact LX.out, by show 9 * 0 ≤ 2000; omega, hb⟩
  case round =>
    obtain ⟨j, ha, hb, HL, HJ, hB⟩ := hrel
    by_cases hm0 : n / 10 ^ (9 * j) = 0
    · rw [hm0, lim_zero] at ha
      obtain ⟨A', c', rfl, m'⟩ := nt_len ha
      clear ha
      have HLT : n < 10 ^ (9 * j) := by
        rcases Nat.div_eq_zero_iff.1 hm0 with h | h
        · have : 0 < 10 ^ (9 * j) := Nat.pow_pos (by omega)
          omega
        · exact h
      obtain ⟨z0, hpd, hpz⟩ := pad_dec (9 * j) n HLT
      have hz0 : Hid (z0 ≤ 2000) := by have := HJ.out; show _ ≤ _; omega
      rw [hpd] at hb
      have HN0 : Hid (n ≠ 0) := by show _ ≠ _; rw [← hn]; exact h0
      have hdl : Hid ((dec n).length ≤ 2000) := by have := HJ.out; show _ ≤ _; omega
      clear hpd hpz HLT hm0 HL HJ NB E0 H1 LX
      go_wp2_with fail
      go_loopw [3] (fun b wr => ∃ z : Nat, OwnB wr w.heap.size 5 b ((dec n ++ List.replicate z 0).map (48 + ·)) ∧ Hid (z ≤ 2000) ∧ Below w.heap.size w wr)
        (fun b _ => lenV b)
      case atStart => exact ⟨z0, hb, hz0, hB⟩
      case round =>
        obtain ⟨z, hb, HZ, hB⟩ := hrel
        obtain ⟨g, cap, L, y, rfl, hL, hd1, hcap, hcell, hnz, hzz⟩ := cut_in hb HN0.out
        have hL1 : 1 ≤ L ∧ L ≤ 4000 := by have := HZ.out; have := hdl.out; omega
        have hL2 : z ≠ 0 → 2 ≤ L := by omega
        have hL3 : Hid (z = 0 → L = (dec n).length) := fun h => by omega
        clear hL hd1
        by_cases hz : z = 0
        · have hy := hzz hz
          have HO : Hid (OwnB wr w.heap.size 5 (.slice (some ⟨g, 0, none⟩) L cap) ((dec n).map (48 + ·))) := by
            subst hz
            rw [List.replicate_zero, List.append_nil] at hb
            exact hb
          clear hzz hnz hL2 hb hz
          have HCV : Hid (∀ (w' : World) (v : Value), OwnB w' w.heap.size 5 v (digs n) → (convert 66 9 v).run Tryz.prog w' = .ok (.string (strN (digs n))) w') := fun w' v h => by
            refine h.str ?_ ?_ 66 9 5 rfl rfl rfl
            · unfold digs
              rw [List.length_reverse, List.length_map, dec_pos HN0.out]
              simp
            · unfold digs
              intro y hy
              obtain ⟨u, hu, rfl⟩ := List.mem_map.1 (List.mem_reverse.1 hy)
              have := dec_lt n u hu
              omega
          have HRV : Hid (∀ w', Below w.heap.size w' w' → True) := fun _ _ => trivial
          have hnd : Hid (0 < ((dec n).map (48 + ·)).length ∧ ((dec n).map (48 + ·)).length ≤ 1000000) := by
            have h1 := hdl.out
            refine ⟨?_, ?_⟩ <;> rw [List.length_map]
            · rw [dec_pos HN0.out]; simp
            · omega
          by_cases h1 : L = 1
          · subst h1
            have hcon := rev_any _ _ _ _ _ HO.out hnd.out.1 hnd.out.2
            go_wp2_with fail
            refine hcon.mono ?_
            rintro e w2 ⟨rfl, h2, hb2⟩
            have hcv := HCV.out w2 _ h2
            have hbf := hB.trans hb2
            clear HO HCV hb2 hB h2 hcell
            go_wp2_with fail
            go_ret
            exact ⟨by rw [hn]; rfl, hbf⟩
          · have h1I : (1 : Int) < (L : Int) := by omega
            have hyI : ((y : Int) == 48) = false := beq_eq_false_iff_ne.2 (by omega)
            have hcon := rev_any _ _ _ _ _ HO.out hnd.out.1 hnd.out.2
            go_wp2_with fail
            refine hcon.mono ?_
            rintro e w2 ⟨rfl, h2, hb2⟩
            have hcv := HCV.out w2 _ h2
            have hbf := hB.trans hb2
            clear HO HCV hb2 hB h2 hcell
            go_wp2_with fail
            go_ret
            exact ⟨by rw [hn]; rfl, hbf⟩
        · obtain ⟨rfl, hb2⟩ := hnz hz
          have h1I : (1 : Int) < (L : Int) := by have := hL2 hz; omega
          have HB2 := Lib.hid hb2
          have HZ1 : Hid (z - 1 ≤ 2000) := Nat.le_trans (Nat.sub_le _ _) HZ.out
          have LN : ((L : Int) - 1).toNat = L - 1 := by omega
          clear hzz hnz hL2 hL3 hz hb2
          go_wp2_with fail
          refine ⟨⟨z - 1, HB2.out, HZ1, hB⟩, ?_⟩
          show L - 1 < L
          omega
    · have hnl : (lim (n / 10 ^ (9 * j))).length ≠ 0 := fun h => hm0 (lim_eq_nil.1 (List.eq_nil_of_length_eq_zero h))
      have hl2 := HL.out
      have hd2 := dig_lim (n / 10 ^ (9 * j))
      have ha2 := ha
      obtain ⟨A', c', rfl, m'⟩ := nt_len ha
      have V := Lib.hid (val_lim (n / 10 ^ (9 * j)))
      have HJ9 : Hid (9 * (j + 1) ≤ 2000) := by
        have h1 : 10 ^ (9 * j) ≤ n := Nat.le_of_not_lt fun hc => hm0 (Nat.div_eq_of_lt hc)
        have h2 := dec_bound NB.out h1
        show _ ≤ _
        omega
      have HM : Hid (n / 10 ^ (9 * j) / 1000000000 = n / 10 ^ (9 * (j + 1))) := by
        show _ = _
        have e : 10 ^ (9 * (j + 1)) = 10 ^ (9 * j) * 1000000000 := by rw [show 9 * (j + 1) = 9 * j + 9 from rfl, Nat.pow_add]
        rw [Nat.div_div_eq_div_mul, e]
      have RM := Lib.hid (rdM_of ha)
      have HGR : Hid (∀ k, k < 9 → n / 10 ^ (9 * j) % 1000000000 / 10 ^ k % 10 = n / 10 ^ (9 * j + k) % 10) := fun k hk => by
        rcases pad_group n j k with h | h
        · exact h
        · omega
      generalize n / 10 ^ (9 * j) = m at *
      have hpos : (0 : Int) < ((lim m).length : Int) := by omega
      go_wp2_with fail
      refine (small_any _ (lim m) 1000000000 _ hd2 (ha2.low (Nat.zero_le _)) (by omega) (by omega) (by omega)).mono ?_
      rw [V.out]
      rintro e w2 ⟨v2, rfl, h2, hb2⟩
      have hfar : Hid (∀ g, u3.ownBlock = some g → g < wr.heap.size ∨ w2.heap.size ≤ g) := fun g hg => Or.inl (hb.own_lt hg)
      obtain ⟨s0, hs0⟩ : ∃ s0, wr.heap.size = s0 := ⟨_, rfl⟩
      rw [hs0] at h2 hfar
      have hbo := hb.after hb2
      have hB2 := hB.trans (hb2.mono hB.size)
      have hrl : m % 1000000000 < 1000000000 := Nat.mod_lt _ (by omega)
      generalize m % 1000000000 = r at *
      clear hb hB ha2 ha
      have hq := h2
      go_wp2_with fail
      go_loopw [3, 5, 19] (fun b c i wr => ∃ k : Nat, k ≤ 9 ∧ i = .int .i64 (k : Nat) ∧ c = .int .u32 ((r / 10 ^ k : Nat) : Int) ∧ OwnB wr w.heap.size 5 b ((pad (9 * j + k) n).map (48 + ·)) ∧ Nt wr s0 w2.heap.size v2 (lim (m / 1000000000)) ∧ Hid (∀ g, b.ownBlock = some g → g < s0 ∨ w2.heap.size ≤ g) ∧ Hid (w2.heap.size ≤ wr.heap.size) ∧ Below w.heap.size w wr)
        (fun _ _ i _ => 9 - (intOf i).toNat)
      case atStart => exact ⟨0, by omega, rfl, by rw [Nat.pow_zero, Nat.div_one], hbo, hq, hfar, Nat.le_refl _, hB2⟩
      case round =>
        obtain ⟨k, hk, rfl, rfl, hb, hv2, HFAR, HSZ, hbw⟩ := hrel
        clear hbo
        by_cases hlt : k < 9
        · have hlI : (k : Int) < 9 := by omega
          have hrk : r / 10 ^ k < 1000000000 := Nat.lt_of_le_of_lt (Nat.div_le_self _ _) hrl
          have hdig := HGR.out k hlt
          generalize hqr : r / 10 ^ k = q at *
          obtain ⟨d, hd9⟩ : ∃ d, q % 10 = d := ⟨_, rfl⟩
          obtain ⟨q2, hq2⟩ : ∃ d, q / 10 = d := ⟨_, rfl⟩
          have e1 : (q : Int) % 10 = (d : Int) := by omega
          have e2 : (q : Int) / 10 = (q2 : Int) := by omega
          have hd10 : d < 10 := by omega
          have HPM : Hid ((pad (9 * j + k) n).map (48 + ·) ++ [48 + d] = (pad (9 * j + (k + 1)) n).map (48 + ·)) := by
            show _ = _
            rw [← Nat.add_assoc, pad_more, List.map_append, ← hdig, hd9]
            rfl
          have HQ : Hid (r / 10 ^ (k + 1) = q2) := by
            show _ = _
            rw [Nat.pow_succ, ← Nat.div_div_eq_div_mul, hqr, hq2]
          clear hdig hqr
          have hlen : ((pad (9 * j + k) n).map (48 + ·)).length ≤ 1000000 := by
            rw [List.length_map, pad_length]
            have := HJ.out
            omega
          have hbs : w.heap.size ≤ wr.heap.size := hbw.size
          go_wp2_with (at_builtin; refine wpList_append_byte3 rfl _ _ 66 rfl w.heap.size 5 i0 Tryz.underlying66 hi hz0 hz1 hz2 _ ((pad (9 * j + k) n).map (48 + ·)) rfl hb _ (48 + d) (congrArg (Value.int IntKind.u8) (digit_at d hd10 _)) rfl hlen hbs ?_)
          intro g cap w5 ho5 hb5 hk5 hg5 hl5
          have hv5 : Nt w5 s0 w2.heap.size v2 (lim (m / 1000000000)) := hv2.stay (Nat.le_refl _) (Nat.le_refl _) fun p h1 h2 => World.cell?_of_block (hk5 p.block (fun hc => by have := HFAR.out _ hc; omega) (Nat.lt_of_lt_of_le h2 HSZ.out))
          have hf5 : Hid (∀ g', (Value.slice (some ⟨g, 0, none⟩) (((pad (9 * j + k) n).map (48 + ·)).length + 1) cap).ownBlock = some g' → g' < s0 ∨ w2.heap.size ≤ g') := fun g' hg' => by
            have e : g = g' := Option.some.inj hg'
            rcases hg5 with h | h
            · exact e ▸ HFAR.out g h
            · have := HSZ.out
              omega
          have hb05 := hbw.trans hb5
          have hsz5 : Hid (w2.heap.size ≤ w5.heap.size) := Nat.le_trans HSZ.out hb5.size
          rw [HPM.out] at ho5
          clear hk5 hb5 hb hv2 hbw hg5
          go_wp2_with fail
          refine ⟨⟨k + 1, by omega, by go_num, by rw [HQ.out], ho5, hv5, hf5, hsz5, hb05⟩, ?_⟩
          simp [intOf]
          omega
        · obtain rfl : k = 9 := by omega
          have RV := Lib.hid (rdM_of hv2)
          have hvl := val_lt (dig_lim m)
          rw [V.out] at hvl
          have hl9 : Hid ((lim (m / 1000000000)).length ≤ 100) := Nat.le_trans (lim_length_le (Nat.lt_of_le_of_lt (Nat.div_le_self _ _) hvl)) hl2
          have hm9 : Hid (m / 1000000000 < m) := Nat.div_lt_self (Nat.pos_of_ne_zero hm0) (by omega)
          have hv9 := (hv2.low (Nat.zero_le _)).up HSZ.out
          clear hvl hv2 HFAR HSZ
          go_wp2_with fail
          refine ⟨⟨j + 1, by rw [← HM.out]; exact hv9, hb, by rw [← HM.out]; exact hl9, ?_, hbw⟩, ?_⟩
          · exact HJ9.out
          · rw [RV.out, RM.out, val_lim, V.out]
            exact hm9.out

/-- What a number is in digits. -/
def prn (n : Nat) : List Nat := if n = 0 then [48] else digs n

set_option maxHeartbeats 1600000 in
theorem print_any (v : Value) (x : List Nat) (w : World) (hd : Dig x) (h : Nt w 0 w.heap.size v x) (hl : x.length ≤ 100) :
    Calls Tryz.prog 50 #[v] w fun e w' => e = .returned (.string (strN (prn (val x)))) ∧ Below w.heap.size w w' := by
  by_cases h0 : val x = 0
  · rw [h0]
    go_enter Tryz.func50, Tryz.ntmps50
    go_wp2_with fail
    refine (Trim_any _ x _ hd h (by omega)).mono ?_
    rintro e w1 ⟨v1, rfl, h1, hb⟩
    rw [h0, lim_zero] at h1
    obtain ⟨A', c', rfl, m'⟩ := nt_len h1
    clear h h1
    go_wp2_with fail
    go_ret
    exact ⟨rfl, hb⟩
  · have := print_pos v x w hd h hl h0
    unfold prn
    rw [if_neg h0]
    exact this
end Go.Proofs.YtchokmhfgikglaaGreatDoor
