/- Lemmas and contracts for the row. -/
import Derived.Shelf.Strings.Split
import Derived.Shelf.Strings.Search3
import Derived.Shelf.Strconv.AtoiAll
import Derived.Shelf.Strconv.Itoa4
import Derived.Shelf.Strconv.AppendInt10
import Derived.Shelf.Bytes.SlCut
import Derived.Ground.NamesProg
import Derived.Ground.SlbtProg
import Derived.Test.YtbpbndlgfiammaaGreatDoorProg
import Derived.Test.YtbpbndlgfiammaaGreatDoorPkRowProofResolvedG
import Derived.Test.YtbpbndlgfiammaaGreatDoorPkRowProofResolvedJ
import Derived.Lib.BufferKept
import Derived.Lib.AppendIntMem
import Derived.Test.YtbpbndlgfiammaaGreatDoorPkRowProofResolvedF
import Derived.Test.YtbpbndlgfiammaaGreatDoorPkRowProofResolvedI
import Derived.Test.YtbpbndlgfiammaaGreatDoorPkRowProofResolvedH
import Derived.Test.YtbpbndlgfiammaaGreatDoorPkRowProofResolvedC
set_option linter.unusedVariables false
set_option linter.unusedSimpArgs false
set_option linter.unnecessarySimpa false
namespace Go.Proofs
open Go.Shelf
def Tryz.shSplit_ren : Go.Shelf.Ren := ⟨fun | 146 => 87 | 221 => 117 | 268 => 137 | 138 => 138 | 143 => 88 | 195 => 164 | 197 => 165 | 218 => 166 | 219 => 118 | 260 => 188 | 217 => 139 | 225 => 140 | 224 => 115 | 267 => 141 | 266 => 167 | 314 => 168 | n => n, fun | 9 => 9 | 31 => 105 | 3 => 3 | 4 => 4 | 0 => 0 | 105 => 169 | 21 => 21 | 5 => 5 | 46 => 133 | 119 => 202 | 139 => 205 | 138 => 204 | 146 => 144 | 51 => 143 | n => n, fun | 1 => 0 | 3 => 6 | 4 => 7 | n => n⟩
theorem Tryz.shSplit : Go.Proofs.Lays.n146 Tryz.prog Tryz.shSplit_ren := {
  mixed := by kernel_rfl
  f138 := Tryz.func138.trans (congrArg some (by kernel_rfl))
  f143 := Tryz.func88.trans (congrArg some (by kernel_rfl))
  f146 := Tryz.func87.trans (congrArg some (by kernel_rfl))
  f195 := Tryz.func164.trans (congrArg some (by kernel_rfl))
  f197 := Tryz.func165.trans (congrArg some (by kernel_rfl))
  f217 := Tryz.func139.trans (congrArg some (by kernel_rfl))
  f218 := Tryz.func166.trans (congrArg some (by kernel_rfl))
  f219 := Tryz.func118.trans (congrArg some (by kernel_rfl))
  f221 := Tryz.func117.trans (congrArg some (by kernel_rfl))
  f224 := Tryz.func115.trans (congrArg some (by kernel_rfl))
  f225 := Tryz.func140.trans (congrArg some (by kernel_rfl))
  f260 := Tryz.func188.trans (congrArg some (by kernel_rfl))
  f266 := Tryz.func167.trans (congrArg some (by kernel_rfl))
  f267 := Tryz.func141.trans (congrArg some (by kernel_rfl))
  f268 := Tryz.func137.trans (congrArg some (by kernel_rfl))
  f314 := Tryz.func168.trans (congrArg some (by kernel_rfl))
  t0 := Tryz.underlying0
  a0 := Tryz.isAgg0
  z0 := Tryz.sizeOf0
  v0 := Tryz.zeroValue0
  t3 := Tryz.underlying3
  a3 := Tryz.isAgg3
  z3 := Tryz.sizeOf3
  v3 := Tryz.zeroValue3
  t4 := Tryz.underlying4
  a4 := Tryz.isAgg4
  z4 := Tryz.sizeOf4
  v4 := Tryz.zeroValue4
  t5 := Tryz.underlying5
  a5 := Tryz.isAgg5
  z5 := Tryz.sizeOf5
  v5 := Tryz.zeroValue5
  t9 := Tryz.underlying9
  a9 := Tryz.isAgg9
  z9 := Tryz.sizeOf9
  v9 := Tryz.zeroValue9
  t21 := Tryz.underlying21
  a21 := Tryz.isAgg21
  z21 := Tryz.sizeOf21
  v21 := Tryz.zeroValue21
  t31 := Tryz.underlying105
  a31 := Tryz.isAgg105
  z31 := Tryz.sizeOf105
  v31 := Tryz.zeroValue105
  t46 := Tryz.underlying133
  a46 := Tryz.isAgg133
  z46 := Tryz.sizeOf133
  v46 := Tryz.zeroValue133
  t51 := Tryz.underlying143
  a51 := Tryz.isAgg143
  z51 := Tryz.sizeOf143
  v51 := Tryz.zeroValue143
  t105 := Tryz.underlying169
  a105 := Tryz.isAgg169
  z105 := Tryz.sizeOf169
  v105 := Tryz.zeroValue169
  t119 := Tryz.underlying202
  a119 := Tryz.isAgg202
  z119 := Tryz.sizeOf202
  t138 := Tryz.underlying204
  a138 := Tryz.isAgg204
  z138 := Tryz.sizeOf204
  v138 := Tryz.zeroValue204
  t139 := Tryz.underlying205
  a139 := Tryz.isAgg205
  z139 := Tryz.sizeOf205
  v139 := Tryz.zeroValue205
  t146 := Tryz.underlying144
  a146 := Tryz.isAgg144
  z146 := Tryz.sizeOf144
  v146 := Tryz.zeroValue144
  g1 := by kernel_rfl
  g3 := by kernel_rfl
  g4 := by kernel_rfl }
def Tryz.shIndex_ren : Go.Shelf.Ren := ⟨fun | 143 => 88 | 219 => 118 | 217 => 139 | 225 => 140 | 224 => 115 | 267 => 141 | 266 => 167 | 314 => 168 | n => n, fun | 9 => 9 | 3 => 3 | 4 => 4 | 5 => 5 | 46 => 133 | 146 => 144 | 51 => 143 | n => n, fun | 1 => 0 | n => n⟩
theorem Tryz.shIndex : Go.Proofs.Lays.n143 Tryz.prog Tryz.shIndex_ren := {
  mixed := by kernel_rfl
  f143 := Tryz.func88.trans (congrArg some (by kernel_rfl))
  f217 := Tryz.func139.trans (congrArg some (by kernel_rfl))
  f219 := Tryz.func118.trans (congrArg some (by kernel_rfl))
  f224 := Tryz.func115.trans (congrArg some (by kernel_rfl))
  f225 := Tryz.func140.trans (congrArg some (by kernel_rfl))
  f266 := Tryz.func167.trans (congrArg some (by kernel_rfl))
  f267 := Tryz.func141.trans (congrArg some (by kernel_rfl))
  f314 := Tryz.func168.trans (congrArg some (by kernel_rfl))
  t3 := Tryz.underlying3
  a3 := Tryz.isAgg3
  z3 := Tryz.sizeOf3
  v3 := Tryz.zeroValue3
  t4 := Tryz.underlying4
  a4 := Tryz.isAgg4
  z4 := Tryz.sizeOf4
  v4 := Tryz.zeroValue4
  t5 := Tryz.underlying5
  a5 := Tryz.isAgg5
  z5 := Tryz.sizeOf5
  v5 := Tryz.zeroValue5
  t9 := Tryz.underlying9
  a9 := Tryz.isAgg9
  z9 := Tryz.sizeOf9
  v9 := Tryz.zeroValue9
  t46 := Tryz.underlying133
  a46 := Tryz.isAgg133
  z46 := Tryz.sizeOf133
  v46 := Tryz.zeroValue133
  t51 := Tryz.underlying143
  a51 := Tryz.isAgg143
  z51 := Tryz.sizeOf143
  v51 := Tryz.zeroValue143
  t146 := Tryz.underlying144
  a146 := Tryz.isAgg144
  z146 := Tryz.sizeOf144
  v146 := Tryz.zeroValue144
  g1 := by kernel_rfl }
def Tryz.shAtoi_ren : Go.Shelf.Ren := ⟨fun | 172 => 89 | 244 => 119 | 245 => 120 | 247 => 142 | 279 => 143 | 280 => 144 | 281 => 145 | 282 => 146 | 287 => 169 | 316 => 170 | 171 => 90 | 205 => 171 | 321 => 189 | 322 => 190 | 243 => 121 | 246 => 147 | 283 => 131 | 284 => 132 | 285 => 133 | 286 => 134 | 129 => 157 | 317 => 160 | 318 => 161 | 319 => 162 | 320 => 163 | 337 => 186 | 338 => 187 | n => n, fun | 9 => 9 | 3 => 3 | 75 => 109 | 76 => 110 | 4 => 4 | 5 => 5 | 167 => 148 | 37 => 34 | 0 => 0 | 85 => 149 | 2 => 2 | 168 => 151 | 53 => 128 | 175 => 172 | 46 => 133 | 210 => 176 | 127 => 191 | 145 => 194 | 143 => 192 | 21 => 21 | 171 => 138 | 173 => 141 | 212 => 166 | 51 => 143 | 20 => 20 | 213 => 167 | 232 => 200 | 233 => 201 | 80 => 207 | n => n, fun | 15 => 2 | 16 => 3 | 17 => 1 | 18 => 4 | 19 => 5 | n => n⟩
theorem Tryz.shAtoi : Go.Proofs.LaysC.n172 Tryz.prog Tryz.shAtoi_ren := {
  mixed := by kernel_rfl
  f129 := Tryz.func157.trans (congrArg some (by kernel_rfl))
  f171 := Tryz.func90.trans (congrArg some (by kernel_rfl))
  f172 := Tryz.func89.trans (congrArg some (by kernel_rfl))
  f205 := Tryz.func171.trans (congrArg some (by kernel_rfl))
  f243 := Tryz.func121.trans (congrArg some (by kernel_rfl))
  f244 := Tryz.func119.trans (congrArg some (by kernel_rfl))
  f245 := Tryz.func120.trans (congrArg some (by kernel_rfl))
  f246 := Tryz.func147.trans (congrArg some (by kernel_rfl))
  f247 := Tryz.func142.trans (congrArg some (by kernel_rfl))
  f279 := Tryz.func143.trans (congrArg some (by kernel_rfl))
  f280 := Tryz.func144.trans (congrArg some (by kernel_rfl))
  f281 := Tryz.func145.trans (congrArg some (by kernel_rfl))
  f282 := Tryz.func146.trans (congrArg some (by kernel_rfl))
  f283 := Tryz.func131.trans (congrArg some (by kernel_rfl))
  f284 := Tryz.func132.trans (congrArg some (by kernel_rfl))
  f285 := Tryz.func133.trans (congrArg some (by kernel_rfl))
  f286 := Tryz.func134.trans (congrArg some (by kernel_rfl))
  f287 := Tryz.func169.trans (congrArg some (by kernel_rfl))
  f316 := Tryz.func170.trans (congrArg some (by kernel_rfl))
  f317 := Tryz.func160.trans (congrArg some (by kernel_rfl))
  f318 := Tryz.func161.trans (congrArg some (by kernel_rfl))
  f319 := Tryz.func162.trans (congrArg some (by kernel_rfl))
  f320 := Tryz.func163.trans (congrArg some (by kernel_rfl))
  f321 := Tryz.func189.trans (congrArg some (by kernel_rfl))
  f322 := Tryz.func190.trans (congrArg some (by kernel_rfl))
  f337 := Tryz.func186.trans (congrArg some (by kernel_rfl))
  f338 := Tryz.func187.trans (congrArg some (by kernel_rfl))
  t0 := Tryz.underlying0
  a0 := Tryz.isAgg0
  z0 := Tryz.sizeOf0
  v0 := Tryz.zeroValue0
  t2 := Tryz.underlying2
  a2 := Tryz.isAgg2
  z2 := Tryz.sizeOf2
  v2 := Tryz.zeroValue2
  t3 := Tryz.underlying3
  a3 := Tryz.isAgg3
  z3 := Tryz.sizeOf3
  v3 := Tryz.zeroValue3
  t4 := Tryz.underlying4
  a4 := Tryz.isAgg4
  z4 := Tryz.sizeOf4
  v4 := Tryz.zeroValue4
  t5 := Tryz.underlying5
  a5 := Tryz.isAgg5
  z5 := Tryz.sizeOf5
  v5 := Tryz.zeroValue5
  t9 := Tryz.underlying9
  a9 := Tryz.isAgg9
  z9 := Tryz.sizeOf9
  v9 := Tryz.zeroValue9
  t20 := Tryz.underlying20
  a20 := Tryz.isAgg20
  z20 := Tryz.sizeOf20
  v20 := Tryz.zeroValue20
  t21 := Tryz.underlying21
  a21 := Tryz.isAgg21
  z21 := Tryz.sizeOf21
  v21 := Tryz.zeroValue21
  t37 := Tryz.underlying34
  a37 := Tryz.isAgg34
  z37 := Tryz.sizeOf34
  v37 := Tryz.zeroValue34
  t46 := Tryz.underlying133
  a46 := Tryz.isAgg133
  z46 := Tryz.sizeOf133
  v46 := Tryz.zeroValue133
  t51 := Tryz.underlying143
  a51 := Tryz.isAgg143
  z51 := Tryz.sizeOf143
  v51 := Tryz.zeroValue143
  t53 := Tryz.underlying128
  a53 := Tryz.isAgg128
  z53 := Tryz.sizeOf128
  v53 := Tryz.zeroValue128
  t75 := Tryz.underlying109
  a75 := Tryz.isAgg109
  z75 := Tryz.sizeOf109
  v75 := Tryz.zeroValue109
  t76 := Tryz.underlying110
  a76 := Tryz.isAgg110
  z76 := Tryz.sizeOf110
  v76 := Tryz.zeroValue110
  t85 := Tryz.underlying149
  a85 := Tryz.isAgg149
  z85 := Tryz.sizeOf149
  v85 := Tryz.zeroValue149
  t127 := Tryz.underlying191
  a127 := Tryz.isAgg191
  z127 := Tryz.sizeOf191
  v127 := Tryz.zeroValue191
  t143 := Tryz.underlying192
  a143 := Tryz.isAgg192
  z143 := Tryz.sizeOf192
  v143 := Tryz.zeroValue192
  t145 := Tryz.underlying194
  a145 := Tryz.isAgg194
  z145 := Tryz.sizeOf194
  v145 := Tryz.zeroValue194
  t167 := Tryz.underlying148
  a167 := Tryz.isAgg148
  z167 := Tryz.sizeOf148
  v167 := Tryz.zeroValue148
  t168 := Tryz.underlying151
  a168 := Tryz.isAgg151
  z168 := Tryz.sizeOf151
  v168 := Tryz.zeroValue151
  t171 := Tryz.underlying138
  a171 := Tryz.isAgg138
  z171 := Tryz.sizeOf138
  v171 := Tryz.zeroValue138
  t173 := Tryz.underlying141
  a173 := Tryz.isAgg141
  z173 := Tryz.sizeOf141
  v173 := Tryz.zeroValue141
  t175 := Tryz.underlying172
  a175 := Tryz.isAgg172
  z175 := Tryz.sizeOf172
  v175 := Tryz.zeroValue172
  t210 := Tryz.underlying176
  a210 := Tryz.isAgg176
  z210 := Tryz.sizeOf176
  v210 := Tryz.zeroValue176
  t212 := Tryz.underlying166
  a212 := Tryz.isAgg166
  z212 := Tryz.sizeOf166
  v212 := Tryz.zeroValue166
  t213 := Tryz.underlying167
  a213 := Tryz.isAgg167
  z213 := Tryz.sizeOf167
  t232 := Tryz.underlying200
  a232 := Tryz.isAgg200
  z232 := Tryz.sizeOf200
  v232 := Tryz.zeroValue200
  t233 := Tryz.underlying201
  a233 := Tryz.isAgg201
  z233 := Tryz.sizeOf201
  v233 := Tryz.zeroValue201
  g15 := by kernel_rfl
  g16 := by kernel_rfl
  g17 := by kernel_rfl
  g18 := by kernel_rfl
  g19 := by kernel_rfl
  t80 := Tryz.underlying207
  a80 := Tryz.isAgg207
  z80 := Tryz.sizeOf207
  v80 := Tryz.zeroValue207
  i0 := by kernel_rfl
  i2 := by kernel_rfl
  i3 := by kernel_rfl
  i4 := by kernel_rfl
  i5 := by kernel_rfl
  i9 := by kernel_rfl
  i20 := by kernel_rfl
  i21 := by kernel_rfl
  i37 := by kernel_rfl
  i46 := by kernel_rfl
  i51 := by kernel_rfl
  i53 := by kernel_rfl
  i75 := by kernel_rfl
  i76 := by kernel_rfl
  i80 := by kernel_rfl
  i85 := by kernel_rfl
  i127 := by kernel_rfl
  i143 := by kernel_rfl
  i145 := by kernel_rfl
  i167 := by kernel_rfl
  i168 := by kernel_rfl
  i171 := by kernel_rfl
  i173 := by kernel_rfl
  i175 := by kernel_rfl
  i210 := by kernel_rfl
  i212 := by kernel_rfl
  i232 := by kernel_rfl
  i233 := by kernel_rfl
  m15 := by kernel_rfl
  m16 := by kernel_rfl
  m17 := by kernel_rfl
  m18 := by kernel_rfl
  m19 := by kernel_rfl
  c0 := by kernel_rfl
  c2 := by kernel_rfl
  c3 := by kernel_rfl
  c4 := by kernel_rfl
  c5 := by kernel_rfl
  c9 := by kernel_rfl
  c20 := by kernel_rfl
  c21 := by kernel_rfl
  c37 := by kernel_rfl
  c46 := by kernel_rfl
  c51 := by kernel_rfl
  c53 := by kernel_rfl
  c75 := by kernel_rfl
  c76 := by kernel_rfl
  c80 := by kernel_rfl
  c85 := by kernel_rfl
  c127 := by kernel_rfl
  c143 := by kernel_rfl
  c145 := by kernel_rfl
  c167 := by kernel_rfl
  c168 := by kernel_rfl
  c171 := by kernel_rfl
  c173 := by kernel_rfl
  c175 := by kernel_rfl
  c210 := by kernel_rfl
  c212 := by kernel_rfl
  c213 := by kernel_rfl
  c232 := by kernel_rfl
  c233 := by kernel_rfl }
def Tryz.shItoa_ren : Go.Shelf.Ren := ⟨fun | 171 => 90 | 243 => 121 | 246 => 147 | 283 => 131 | 284 => 132 | 285 => 133 | 286 => 134 | 129 => 157 | 317 => 160 | 318 => 161 | 319 => 162 | 320 => 163 | 337 => 186 | 338 => 187 | n => n, fun | 3 => 3 | 9 => 9 | 2 => 2 | 4 => 4 | 171 => 138 | 0 => 0 | 53 => 128 | 37 => 34 | 5 => 5 | 173 => 141 | 212 => 166 | 51 => 143 | 20 => 20 | 213 => 167 | 46 => 133 | 232 => 200 | 233 => 201 | n => n, fun | 17 => 1 | 18 => 4 | 19 => 5 | n => n⟩
theorem Tryz.shItoa : Go.Proofs.LaysM.n171 Tryz.prog Tryz.shItoa_ren := {
  mixed := by kernel_rfl
  f129 := Tryz.func157.trans (congrArg some (by kernel_rfl))
  f171 := Tryz.func90.trans (congrArg some (by kernel_rfl))
  f243 := Tryz.func121.trans (congrArg some (by kernel_rfl))
  f246 := Tryz.func147.trans (congrArg some (by kernel_rfl))
  f283 := Tryz.func131.trans (congrArg some (by kernel_rfl))
  f284 := Tryz.func132.trans (congrArg some (by kernel_rfl))
  f285 := Tryz.func133.trans (congrArg some (by kernel_rfl))
  f286 := Tryz.func134.trans (congrArg some (by kernel_rfl))
  f317 := Tryz.func160.trans (congrArg some (by kernel_rfl))
  f318 := Tryz.func161.trans (congrArg some (by kernel_rfl))
  f319 := Tryz.func162.trans (congrArg some (by kernel_rfl))
  f320 := Tryz.func163.trans (congrArg some (by kernel_rfl))
  f337 := Tryz.func186.trans (congrArg some (by kernel_rfl))
  f338 := Tryz.func187.trans (congrArg some (by kernel_rfl))
  t0 := Tryz.underlying0
  a0 := Tryz.isAgg0
  z0 := Tryz.sizeOf0
  v0 := Tryz.zeroValue0
  t2 := Tryz.underlying2
  a2 := Tryz.isAgg2
  z2 := Tryz.sizeOf2
  v2 := Tryz.zeroValue2
  t3 := Tryz.underlying3
  a3 := Tryz.isAgg3
  z3 := Tryz.sizeOf3
  v3 := Tryz.zeroValue3
  t4 := Tryz.underlying4
  a4 := Tryz.isAgg4
  z4 := Tryz.sizeOf4
  v4 := Tryz.zeroValue4
  t5 := Tryz.underlying5
  a5 := Tryz.isAgg5
  z5 := Tryz.sizeOf5
  v5 := Tryz.zeroValue5
  t9 := Tryz.underlying9
  a9 := Tryz.isAgg9
  z9 := Tryz.sizeOf9
  v9 := Tryz.zeroValue9
  t20 := Tryz.underlying20
  a20 := Tryz.isAgg20
  z20 := Tryz.sizeOf20
  v20 := Tryz.zeroValue20
  t37 := Tryz.underlying34
  a37 := Tryz.isAgg34
  z37 := Tryz.sizeOf34
  v37 := Tryz.zeroValue34
  t46 := Tryz.underlying133
  a46 := Tryz.isAgg133
  z46 := Tryz.sizeOf133
  v46 := Tryz.zeroValue133
  t51 := Tryz.underlying143
  a51 := Tryz.isAgg143
  z51 := Tryz.sizeOf143
  v51 := Tryz.zeroValue143
  t53 := Tryz.underlying128
  a53 := Tryz.isAgg128
  z53 := Tryz.sizeOf128
  v53 := Tryz.zeroValue128
  t171 := Tryz.underlying138
  a171 := Tryz.isAgg138
  z171 := Tryz.sizeOf138
  v171 := Tryz.zeroValue138
  t173 := Tryz.underlying141
  a173 := Tryz.isAgg141
  z173 := Tryz.sizeOf141
  v173 := Tryz.zeroValue141
  t212 := Tryz.underlying166
  a212 := Tryz.isAgg166
  z212 := Tryz.sizeOf166
  v212 := Tryz.zeroValue166
  t213 := Tryz.underlying167
  a213 := Tryz.isAgg167
  z213 := Tryz.sizeOf167
  t232 := Tryz.underlying200
  a232 := Tryz.isAgg200
  z232 := Tryz.sizeOf200
  v232 := Tryz.zeroValue200
  t233 := Tryz.underlying201
  a233 := Tryz.isAgg201
  z233 := Tryz.sizeOf201
  v233 := Tryz.zeroValue201
  g17 := by kernel_rfl
  g18 := by kernel_rfl
  g19 := by kernel_rfl
  i0 := by kernel_rfl
  i2 := by kernel_rfl
  i3 := by kernel_rfl
  i4 := by kernel_rfl
  i5 := by kernel_rfl
  i9 := by kernel_rfl
  i20 := by kernel_rfl
  i37 := by kernel_rfl
  i46 := by kernel_rfl
  i51 := by kernel_rfl
  i53 := by kernel_rfl
  i171 := by kernel_rfl
  i173 := by kernel_rfl
  i212 := by kernel_rfl
  i232 := by kernel_rfl
  i233 := by kernel_rfl
  m17 := by kernel_rfl
  m18 := by kernel_rfl
  m19 := by kernel_rfl }
def Tryz.shAppU_ren : Go.Shelf.Ren := ⟨fun | 288 => 111 | 283 => 131 | 284 => 132 | 285 => 133 | 286 => 134 | 129 => 157 | 317 => 160 | 318 => 161 | 319 => 162 | 320 => 163 | 337 => 186 | 338 => 187 | n => n, fun | 37 => 34 | 53 => 128 | 3 => 3 | 4 => 4 | 9 => 9 | 171 => 138 | 0 => 0 | 173 => 141 | 212 => 166 | 51 => 143 | 5 => 5 | 20 => 20 | 213 => 167 | 46 => 133 | 232 => 200 | 233 => 201 | n => n, fun | 17 => 1 | 18 => 4 | 19 => 5 | n => n⟩
theorem Tryz.shAppU : Go.Proofs.LaysM.n288 Tryz.prog Tryz.shAppU_ren := {
  mixed := by kernel_rfl
  f129 := Tryz.func157.trans (congrArg some (by kernel_rfl))
  f283 := Tryz.func131.trans (congrArg some (by kernel_rfl))
  f284 := Tryz.func132.trans (congrArg some (by kernel_rfl))
  f285 := Tryz.func133.trans (congrArg some (by kernel_rfl))
  f286 := Tryz.func134.trans (congrArg some (by kernel_rfl))
  f288 := Tryz.func111.trans (congrArg some (by kernel_rfl))
  f317 := Tryz.func160.trans (congrArg some (by kernel_rfl))
  f318 := Tryz.func161.trans (congrArg some (by kernel_rfl))
  f319 := Tryz.func162.trans (congrArg some (by kernel_rfl))
  f320 := Tryz.func163.trans (congrArg some (by kernel_rfl))
  f337 := Tryz.func186.trans (congrArg some (by kernel_rfl))
  f338 := Tryz.func187.trans (congrArg some (by kernel_rfl))
  t0 := Tryz.underlying0
  a0 := Tryz.isAgg0
  z0 := Tryz.sizeOf0
  v0 := Tryz.zeroValue0
  t3 := Tryz.underlying3
  a3 := Tryz.isAgg3
  z3 := Tryz.sizeOf3
  v3 := Tryz.zeroValue3
  t4 := Tryz.underlying4
  a4 := Tryz.isAgg4
  z4 := Tryz.sizeOf4
  v4 := Tryz.zeroValue4
  t5 := Tryz.underlying5
  a5 := Tryz.isAgg5
  z5 := Tryz.sizeOf5
  v5 := Tryz.zeroValue5
  t9 := Tryz.underlying9
  a9 := Tryz.isAgg9
  z9 := Tryz.sizeOf9
  v9 := Tryz.zeroValue9
  t20 := Tryz.underlying20
  a20 := Tryz.isAgg20
  z20 := Tryz.sizeOf20
  v20 := Tryz.zeroValue20
  t37 := Tryz.underlying34
  a37 := Tryz.isAgg34
  z37 := Tryz.sizeOf34
  v37 := Tryz.zeroValue34
  t46 := Tryz.underlying133
  a46 := Tryz.isAgg133
  z46 := Tryz.sizeOf133
  v46 := Tryz.zeroValue133
  t51 := Tryz.underlying143
  a51 := Tryz.isAgg143
  z51 := Tryz.sizeOf143
  v51 := Tryz.zeroValue143
  t53 := Tryz.underlying128
  a53 := Tryz.isAgg128
  z53 := Tryz.sizeOf128
  v53 := Tryz.zeroValue128
  t171 := Tryz.underlying138
  a171 := Tryz.isAgg138
  z171 := Tryz.sizeOf138
  v171 := Tryz.zeroValue138
  t173 := Tryz.underlying141
  a173 := Tryz.isAgg141
  z173 := Tryz.sizeOf141
  v173 := Tryz.zeroValue141
  t212 := Tryz.underlying166
  a212 := Tryz.isAgg166
  z212 := Tryz.sizeOf166
  v212 := Tryz.zeroValue166
  t213 := Tryz.underlying167
  a213 := Tryz.isAgg167
  z213 := Tryz.sizeOf167
  t232 := Tryz.underlying200
  a232 := Tryz.isAgg200
  z232 := Tryz.sizeOf200
  v232 := Tryz.zeroValue200
  t233 := Tryz.underlying201
  a233 := Tryz.isAgg201
  z233 := Tryz.sizeOf201
  v233 := Tryz.zeroValue201
  g17 := by kernel_rfl
  g18 := by kernel_rfl
  g19 := by kernel_rfl
  i0 := by kernel_rfl
  i3 := by kernel_rfl
  i4 := by kernel_rfl
  i5 := by kernel_rfl
  i9 := by kernel_rfl
  i20 := by kernel_rfl
  i37 := by kernel_rfl
  i46 := by kernel_rfl
  i51 := by kernel_rfl
  i53 := by kernel_rfl
  i171 := by kernel_rfl
  i173 := by kernel_rfl
  i212 := by kernel_rfl
  i232 := by kernel_rfl
  i233 := by kernel_rfl
  m17 := by kernel_rfl
  m18 := by kernel_rfl
  m19 := by kernel_rfl }
def Tryz.shCut_ren : Go.Shelf.Ren := ⟨fun | 4 => 57 | 5 => 86 | 6 => 112 | 7 => 113 | 8 => 114 | 9 => 115 | 10 => 116 | 11 => 135 | 12 => 136 | n => n, fun | 22 => 34 | 4 => 4 | 3 => 3 | 0 => 0 | 5 => 5 | 29 => 133 | 9 => 9 | 31 => 144 | 30 => 143 | n => n, fun | 0 => 0 | n => n⟩
theorem Tryz.shCut : Go.Proofs.SlLaysT.n4 Tryz.prog Tryz.shCut_ren := {
  mixed := by kernel_rfl
  f4 := Tryz.func57.trans (congrArg some (by kernel_rfl))
  f5 := Tryz.func86.trans (congrArg some (by kernel_rfl))
  f6 := Tryz.func112.trans (congrArg some (by kernel_rfl))
  f7 := Tryz.func113.trans (congrArg some (by kernel_rfl))
  f8 := Tryz.func114.trans (congrArg some (by kernel_rfl))
  f9 := Tryz.func115.trans (congrArg some (by kernel_rfl))
  f10 := Tryz.func116.trans (congrArg some (by kernel_rfl))
  f11 := Tryz.func135.trans (congrArg some (by kernel_rfl))
  f12 := Tryz.func136.trans (congrArg some (by kernel_rfl))
  t0 := Tryz.underlying0
  a0 := Tryz.isAgg0
  z0 := Tryz.sizeOf0
  v0 := Tryz.zeroValue0
  t3 := Tryz.underlying3
  a3 := Tryz.isAgg3
  z3 := Tryz.sizeOf3
  v3 := Tryz.zeroValue3
  t4 := Tryz.underlying4
  a4 := Tryz.isAgg4
  z4 := Tryz.sizeOf4
  v4 := Tryz.zeroValue4
  t5 := Tryz.underlying5
  a5 := Tryz.isAgg5
  z5 := Tryz.sizeOf5
  v5 := Tryz.zeroValue5
  t9 := Tryz.underlying9
  a9 := Tryz.isAgg9
  z9 := Tryz.sizeOf9
  v9 := Tryz.zeroValue9
  t22 := Tryz.underlying34
  a22 := Tryz.isAgg34
  z22 := Tryz.sizeOf34
  v22 := Tryz.zeroValue34
  t29 := Tryz.underlying133
  a29 := Tryz.isAgg133
  z29 := Tryz.sizeOf133
  v29 := Tryz.zeroValue133
  t30 := Tryz.underlying143
  a30 := Tryz.isAgg143
  z30 := Tryz.sizeOf143
  v30 := Tryz.zeroValue143
  t31 := Tryz.underlying144
  a31 := Tryz.isAgg144
  z31 := Tryz.sizeOf144
  v31 := Tryz.zeroValue144
  g0 := by kernel_rfl }
end Go.Proofs
namespace Go.Proofs.YtbpbndlgfiammaaGreatDoor.En
open Go Go.RowKit Go.Shelf
theorem pow10_tab {W : World} {G : Nat → Prop} (hgl : GlOk (g0 W G)) : Lib.TabIs Tryz.prog W "internal/strconv.uint64pow10" .u64 Lib.pow10Tab := by
  obtain ⟨t, m, h⟩ := ((hgl 1 (g_pow10.map (Value.int .u64)) rfl).2.1 rfl).2
  unfold Lib.TabIs World.var?
  rw [show Tryz.prog.globalNamed "internal/strconv.uint64pow10" = some 1 by kernel_rfl]
  show (match W.heap[1]? with | some (.cells cs _ _) => some cs | _ => none) = _
  rw [show W.heap[1]? = _ from h]
  rfl
theorem maxLen_cell {W : World} {G : Nat → Prop} (hgl : GlOk (g0 W G)) : ∃ n, W.cell? ⟨0, 0, none⟩ = some (.int .i64 n) := (hgl 0 [] rfl).2.2.1 rfl
theorem syntax_cell {W : World} {G : Nat → Prop} (hgl : GlOk (g0 W G)) : ∃ te pe, W.cell? ⟨2, 0, none⟩ = some (.iface te pe) := (hgl 2 [] rfl).2.2.2 rfl
theorem range_cell {W : World} {G : Nat → Prop} (hgl : GlOk (g0 W G)) : ∃ te pe, W.cell? ⟨3, 0, none⟩ = some (.iface te pe) := (hgl 3 [] rfl).2.2.2 rfl
def sItoa1 : CtF1
  | [.im (.val (.int .i64 n))] => some (Fit n, .im (.val (.string (strOfNums (Cn.itoaI n)))))
  | _ => none
theorem sItoa1_sound : Sound1G Tryz.prog 90 sItoa1 := by
  refine ⟨run_enters Tryz.func90 (by kernel_rfl) rfl, fun W G args vs p r hG hgl hσ hp hd => ?_⟩
  unfold sItoa1 at hσ
  split at hσ
  · rename_i n
    injection hσ with hσ
    injection hσ with h1 h2
    subst h1 h2
    obtain ⟨v, rfl, hv⟩ := denL1 hd
    rw [den_val hv]
    refine (Any.strconv_Itoa Tryz.shItoa n hp.1 hp.2 W (pow10_tab hgl)).mono fun e w' he => ?_
    obtain ⟨rfl, k, os, rfl⟩ := he
    refine ⟨_, rfl, Lib.below_grow _ W (Nat.le_refl _) k os, ?_⟩
    rw [← Cn.itoa_str]
    exact den_val_mk _
  · cases hσ
def sItoa : CtF := sItoa1.up
theorem sItoa_sound : Sound Tryz.prog 90 sItoa := sItoa1_sound.up
def sIndexS1 : CtF1
  | [.im (.val (.string s)), .im (.val (.string t))] => some (s.size ≤ 4294967280, .int (Lib.index s.data.toList t.data.toList))
  | _ => none
theorem sIndexS1_sound : Sound1G Tryz.prog 88 sIndexS1 := by
  refine ⟨run_enters Tryz.func88 (by kernel_rfl) rfl, fun W G args vs p r hG hgl hσ hp hd => ?_⟩
  unfold sIndexS1 at hσ
  split at hσ
  · rename_i s t
    injection hσ with hσ
    injection hσ with h1 h2
    subst h1 h2
    obtain ⟨v, u, rfl, hv, hu⟩ := denL2 hd
    rw [den_val hv, den_val hu]
    obtain ⟨m, hm⟩ := maxLen_cell hgl
    refine (Any.strings_Index Tryz.shIndex s t m W (by omega) hm).mono fun e w' he => ?_
    obtain ⟨rfl, rfl⟩ := he
    exact ⟨_, rfl, Below.refl _ _, den_val_mk _⟩
  · cases hσ
def sIndexS : CtF := sIndexS1.up
theorem sIndexS_sound : Sound Tryz.prog 88 sIndexS := sIndexS1_sound.up
def sAtoi1 : CtF1
  | [.im (.val (.string s))] => some (s.size ≤ 281474976710656, .tup [.int (Cn.atoiV s.data.toList).1, .err (Cn.atoiV s.data.toList).2])
  | _ => none
theorem den_err {g : Gh} {n : Int} {b : Bool} {v : Value} (h : if b = true then ∃ te pe, v = .iface te pe else v = .nilIface) : Den g (.tup [.int n, .err b]) (.tuple #[.int .i64 n, v]) := by
  simp only [Den, DenL]
  exact ⟨[.int .i64 n, v], rfl, _, _, rfl, .val _, _, _, rfl, h, rfl⟩
theorem sAtoi1_sound : Sound1G Tryz.prog 89 sAtoi1 := by
  refine ⟨run_enters Tryz.func89 (by kernel_rfl) rfl, fun W G args vs p r hG hgl hσ hp hd => ?_⟩
  unfold sAtoi1 at hσ
  split at hσ
  · rename_i s
    injection hσ with hσ
    injection hσ with h1 h2
    subst h1 h2
    obtain ⟨v, rfl, hv⟩ := denL1 hd
    rw [den_val hv]
    unfold Cn.atoiV
    cases ha : Lib.atoiAll s.data.toList with
    | ok n =>
      refine (Any.strconv_Atoi_ok Tryz.shAtoi s (by omega) n ha W).mono fun e w' he => ?_
      obtain ⟨rfl, hw⟩ := he
      refine ⟨_, rfl, ?_, den_err (by simp)⟩
      rcases hw with rfl | ⟨t, rfl⟩
      · exact Below.refl _ _
      · exact bytesWorld_bel W _ t
    | «syntax» =>
      obtain ⟨te, pe, hc⟩ := syntax_cell hgl
      refine (Any.strconv_Atoi_syntax Tryz.shAtoi s hp ha _ W hc (.inr ⟨te, pe, rfl⟩)).mono fun e w' he => ?_
      obtain ⟨N, rfl, _, _, hb⟩ := he
      exact ⟨_, rfl, hb, den_err (by simp)⟩
    | range =>
      obtain ⟨te, pe, hc⟩ := range_cell hgl
      refine (Any.strconv_Atoi_range Tryz.shAtoi s hp ha _ W hc (.inr ⟨te, pe, rfl⟩)).mono fun e w' he => ?_
      obtain ⟨N, rfl, _, _, hb⟩ := he
      exact ⟨_, rfl, hb, den_err (by simp)⟩
  · cases hσ
def sAtoi : CtF := sAtoi1.up
theorem sAtoi_sound : Sound Tryz.prog 89 sAtoi := sAtoi1_sound.up
def sSplit : CtF := fun args os => match args, os with
  | [.im (.val (.string s)), .im (.val (.string t))], [] => some (s.size ≤ 1000000 ∧ t = ⟨#[32]⟩, .row 0, [some (.row 9 (.strs ((Cn.splitI 32 (bytesI s)).map strOfNums)))])
  | _, _ => none
theorem sSplit_sound : Sound Tryz.prog 87 sSplit := by
  refine sound_newR (e := 9) (run_enters Tryz.func87 (by kernel_rfl) rfl) fun args os p r outs h => ?_
  unfold sSplit at h
  split at h
  · rename_i s t
    injection h with h
    injection h with h1 h
    injection h with h2 h3
    subst h1 h2 h3
    have hwl : (LD.strs ((Cn.splitI 32 (bytesI s)).map strOfNums)).len = (Cn.splitI 32 (bytesI s)).length := List.length_map ..
    have hcl := (Cn.splitI_len 32 (bytesI s)).1
    rw [bytesI_len] at hcl
    refine ⟨_, rfl, rfl, rfl, rfl, fun hp => ⟨by rw [hwl]; unfold maxLen; omega, fun W G vs hG hgl hd => ?_⟩⟩
    obtain ⟨hp1, hp2⟩ := hp
    subst hp2
    obtain ⟨v, u, rfl, hv, hu⟩ := denL2 hd
    rw [den_val hv, den_val hu]
    obtain ⟨m, hm⟩ := maxLen_cell hgl
    have hsp := Cn.split_is s.size s (Nat.le_refl _)
    have hcn := Lib.splitB_all ⟨#[32]⟩ (by decide) 0 _ s rfl
    rw [hsp, List.length_map] at hcn
    refine (Any.strings_Split Tryz.shSplit (by kernel_rfl) s ⟨#[32]⟩ m W (by omega) hm (by decide)).mono fun e w' he => ?_
    obtain ⟨rfl, rfl⟩ := he
    rw [hsp, ← hcn]
    refine ⟨_, ((Cn.splitI 32 (bytesI s)).map strOfNums).map Value.string, rfl, .inr ⟨W.heap.size, 0, _, _, by rw [List.length_map, List.length_map], .mk0 (heap_alloc_new _ _), ?_, ?_, ?_, fun j hj => ?_⟩, ?_, fun i hi => ?_, ((Below.refl _ W).alloc (Nat.le_refl _) _), fun g hg => ?_⟩
    · simp only [List.length_map]; exact Nat.le_refl _
    · unfold maxLen; omega
    · simp
    · simp at hj
      simp [hj]
    · rw [hwl]; simp
    · rw [hwl] at hi
      show Rep W G (.val (.string (((Cn.splitI 32 (bytesI s)).map strOfNums).getD i ByteArray.empty))) _
      have e : (((Cn.splitI 32 (bytesI s)).map strOfNums).map Value.string).getD i undef = .string (((Cn.splitI 32 (bytesI s)).map strOfNums).getD i ByteArray.empty) := by
        rw [List.getD_eq_getElem?_getD, List.getD_eq_getElem?_getD, List.getElem?_map, List.getElem?_map, List.getElem?_eq_getElem hi]; rfl
      rw [e]
      exact .val _
    · simp [Value.ownBlock] at hg; omega
  · cases h
end Go.Proofs.YtbpbndlgfiammaaGreatDoor.En
namespace Go.Proofs.YtbpbndlgfiammaaGreatDoor.En
open Go Go.RowKit Go.Shelf
def takeF (σ : CtF1) : CtF := fun args os => bif pureL (lend (objsH os) args) then (match σ (lend (objsH os) args) with | some (p, r) => (bif pureL [r] then some (p, r, os.map fun _ => none) else none) | none => none) else none
theorem outs_none {os : List AObj} {x : Nat} {o : AObj} : outsH (os.map fun _ => none) x ≠ some o := by
  intro h
  unfold outsH at h
  rw [List.getElem?_map] at h
  cases hx : os[x]? <;> rw [hx] at h <;> simp at h
theorem Sound1G.take {P : Program} {f : Nat} {σ : CtF1} (h : Sound1G P f σ) : Sound P f (takeF σ) := by
  refine ⟨h.1, fun g args os vs p r outs hσ hp hm hU hd => ?_⟩
  unfold takeF at hσ
  cases hb : pureL (lend (objsH os) args) with
  | false => rw [hb] at hσ; cases hσ
  | true =>
    rw [hb] at hσ
    simp only [cond_true] at hσ
    split at hσ
    · rename_i p' r' hs
      cases hr : pureL [r'] with
      | false => rw [hr] at hσ; cases hσ
      | true =>
        rw [hr] at hσ
        simp only [cond_true, Option.some.injEq, Prod.mk.injEq] at hσ
        obtain ⟨rfl, rfl, rfl⟩ := hσ
        let G2 : Nat → Prop := fun b => g.G b ∨ ∃ r o, objsH os r = some o ∧ blkOf (g.β r) = some b
        have hG2 : ∀ b, G2 b → b < g.W.heap.size := fun b hb => by
          rcases hb with hb | ⟨r, o, ho, hb⟩
          · exact (hm.gb b hb).1
          · exact (hm.ok r o ho).2.lt hb
        have hin2 : DenL ⟨g.W, G2, fun _ => undef, fun _ => False⟩ (lend (objsH os) args) vs := DenL.pure (g := lentG (objsH os) g) (g' := ⟨g.W, G2, fun _ => undef, fun _ => False⟩) rfl rfl _ _ hb (lend_den (fun _ _ h => h) hm args vs hd)
        refine Calls.mono (h.2 g.W G2 _ vs _ _ hG2 (fun k xs hk => ⟨.inl (hm.anc.2 k xs hk).1, (hm.anc.2 k xs hk).2⟩) hs hp hin2) fun e W' he => ?_
        obtain ⟨u, rfl, hbel, hdr⟩ := he
        let g' : Gh := ⟨W', fun b => G2 b ∨ (g.W.heap.size ≤ b ∧ b < W'.heap.size), g.β, g.U⟩
        have hle : g.le g' := ⟨fun b hg => hbel.block b (hm.gb b hg).1, fun _ hg => .inl (.inl hg), fun r hr => ⟨hr, rfl⟩⟩
        refine ⟨u, g', rfl, rfl, hle, ⟨fun r o hr => absurd hr outs_none, fun r r' o o' b hr => absurd hr outs_none, fun r o b hr => absurd hr outs_none, fun b hg => ?_, ⟨hbel.os, hbel.tape, hbel.output, hbel.size, fun k hk _ => hbel.block k hk⟩, hm.anc.1, hm.anc.2.up hle⟩, ?_⟩
        · rcases hg with hg | hg
          · refine ⟨Nat.lt_of_lt_of_le (hG2 b hg) hbel.size, ?_⟩
            rcases hg with hg | ⟨r, o, ho, hb⟩
            · exact .inl hg
            · exact .inr (hm.own r o b ho hb).2
          · exact ⟨hg.2, .inr (.inl hg.1)⟩
        · have := DenL.pure (g := ⟨W', fun b => G2 b ∨ (g.W.heap.size ≤ b ∧ b < W'.heap.size), fun _ => undef, fun _ => False⟩) (g' := g') rfl rfl [r'] [u] hr (by simp only [DenL]; exact ⟨u, [], rfl, hdr, rfl⟩)
          simp only [DenL] at this
          obtain ⟨_, _, e, q, _⟩ := this
          cases e
          exact q
    · cases hσ
def sCut1 : CtF1
  | [.im (.ls (.bytes b)), .im (.ls (.bytes s))] => some (0 < b.length ∧ b.length ≤ 1000000 ∧ Cn.isBytes b ∧ s = [10], .tup [.bytes (Cn.cutN b).1, .bytes (Cn.cutN b).2.1, .bool (Cn.cutN b).2.2])
  | _ => none
theorem bytes_at {W : World} {G : Nat → Prop} {xs : List Int} {v : Value} (h : Rep W G (.ls (.bytes xs)) v) (h0 : 0 < xs.length) :
    ∃ b off c, v = .slice (some ⟨b, off, none⟩) xs.length c ∧ xs.length ≤ c ∧ xs.length ≤ maxLen ∧ G b ∧ ∀ i, i < xs.length → W.cell? ⟨b, off + i, none⟩ = some (.int .u8 (xs.getD i 0)) := by
  rcases h.cases_ls with ⟨h1, _⟩ | ⟨b, off, c, u, rfl, h1, h2, h3, h4, h5⟩
  · have : xs.length = 0 := h1
    omega
  · refine ⟨b, off, c, rfl, h1, h2, h3, fun i hi => ?_⟩
    have h6 := h4 i 0 hi Nat.one_pos
    have h7 : Rep W G (.val (.int .u8 (xs.getD i 0))) (u i 0) := h5 i 0 hi Nat.one_pos
    have h8 : u i 0 = .int .u8 (xs.getD i 0) := den_val (g := g0 W G) (by simp only [Den]; exact h7)
    rw [h8] at h6
    have e : off + i * (LD.bytes xs).st + 0 = off + i := by show off + i * 1 + 0 = _; omega
    rw [e] at h6
    exact h6
theorem rep_bytes {W : World} {G : Nat → Prop} {xs : List Int} {b off c : Nat} (hc : xs.length ≤ c) (hm : xs.length ≤ maxLen) (hG : G b) (h : ∀ i, i < xs.length → W.cell? ⟨b, off + i, none⟩ = some (.int .u8 (xs.getD i 0))) : Rep W G (.ls (.bytes xs)) (.slice (some ⟨b, off, none⟩) xs.length c) :=
  .ls (.bytes xs) b off c (fun i _ => .int .u8 (xs.getD i 0)) hc hm hG (fun i j hi hj => by
    have hj0 : j = 0 := by have : (LD.bytes xs).st = 1 := rfl; omega
    subst hj0
    have e : off + i * (LD.bytes xs).st + 0 = off + i := by show off + i * 1 + 0 = _; omega
    rw [e]; exact h i hi) (fun i j hi hj => .val _)
theorem sCut1_sound : Sound1G Tryz.prog 57 sCut1 := by
  refine ⟨run_enters Tryz.func57 (by kernel_rfl) rfl, fun W G args vs p r hG hgl hσ hp hd => ?_⟩
  unfold sCut1 at hσ
  split at hσ
  · rename_i xs sp
    injection hσ with hσ
    injection hσ with h1 h2
    subst h1 h2
    obtain ⟨hp1, hp2, hp3, rfl⟩ := hp
    obtain ⟨v, u, rfl, hv, hu⟩ := denL2 hd
    simp only [Den] at hv hu
    obtain ⟨b, off, c, rfl, hc1, hc2, hc3, hc4⟩ := bytes_at hv hp1
    obtain ⟨b2, off2, c2, rfl, hd1, hd2, hd3, hd4⟩ := bytes_at hu (by decide)
    obtain ⟨m, hm⟩ := maxLen_cell hgl
    have hcut := Any.bytes_Cut_all Tryz.shCut (some ⟨b, off, none⟩) (some ⟨b2, off2, none⟩) xs.length c 1 c2 xs [10] m W rfl rfl hp3 (fun y hy => by rw [List.mem_singleton] at hy; omega)
      (Lib.BytesIn.of_cells fun i hi => by rw [add_mk]; exact hc4 i hi) (Lib.BytesIn.of_cells fun i hi => by rw [add_mk]; exact hd4 i hi) (fun h => by cases h) hc1 (by omega) (by omega) hm
    refine Calls.mono hcut fun e w' he => ?_
    obtain ⟨rfl, q, rfl⟩ := he
    have hbel : Below W.heap.size W (W.drewN q) := ⟨rfl, rfl, rfl, Nat.le_refl _, fun _ _ => rfl⟩
    have hb10 : Lib.bytesOf [10] = [10] := rfl
    rw [hb10]
    have fin : ∀ {v1 v2 : Value} {f : Bool} {x1 x2 : List Int}, Rep W G (.ls (.bytes x1)) v1 → Rep W G (.ls (.bytes x2)) v2 → Cn.cutN xs = (x1, x2, f) → ∀ G', (∀ b, G b → G' b) →
        Den ⟨W.drewN q, G', fun _ => undef, fun _ => False⟩ (.tup [.bytes (Cn.cutN xs).1, .bytes (Cn.cutN xs).2.1, .bool (Cn.cutN xs).2.2]) (.tuple #[v1, v2, .bool f]) := by
      intro v1 v2 f x1 x2 r1 r2 e G' hG'
      rw [e]
      simp only [Den, DenL]
      exact ⟨[v1, v2, .bool f], rfl, _, _, rfl, Rep.mono (W := W) (W' := W.drewN q) (fun _ _ => rfl) hG' r1, _, _, rfl, Rep.mono (W := W) (W' := W.drewN q) (fun _ _ => rfl) hG' r2, _, _, rfl, .val _, rfl⟩
    rcases Cn.cut_index hp3 with ⟨h1, h2⟩ | ⟨a, r, h1, h2, h3⟩
    · rw [h1]
      refine ⟨_, rfl, hbel, fin (rep_bytes hc1 hc2 hc3 hc4) (.nil (.bytes []) none 0 rfl) (Cn.cut_miss h2) _ (fun _ h => .inl h)⟩
    · rw [h3]
      have hl : xs.length = a.length + 1 + r.length := by rw [h1]; simp; omega
      have hV : Lib.cutV (some ⟨b, off, none⟩) xs.length c 1 (a.length : Int) = .tuple #[.slice (some ⟨b, off, none⟩) a.length c, Lib.fromV (some ⟨b, off, none⟩) xs.length c (a.length + 1), .bool true] := by
        unfold Lib.cutV; rw [if_pos (by omega)]; rfl
      rw [hV]
      refine ⟨_, rfl, hbel, fin ?_ ?_ (by rw [h1]; exact Cn.cut_hit h2) _ (fun _ h => .inl h)⟩
      · refine rep_bytes (by omega) (by omega) hc3 fun i hi => ?_
        rw [hc4 i (by omega), h1]
        simp [List.getD, List.getElem?_append_left hi]
      · unfold Lib.fromV
        have e1 : xs.length - (a.length + 1) = r.length := by omega
        rw [e1]
        by_cases h0 : r.length = 0
        · rw [h0]
          exact .nil (.bytes r) _ _ h0
        · rw [if_neg (by omega)]
          have e2 : Option.map (fun x : Addr => x.add (a.length + 1)) (some ⟨b, off, none⟩) = some ⟨b, off + (a.length + 1), none⟩ := by rw [Option.map_some, add_mk]
          rw [e2]
          refine rep_bytes (by omega) (by omega) hc3 fun i hi => ?_
          rw [show off + (a.length + 1) + i = off + (a.length + 1 + i) by omega, hc4 _ (by omega), h1]
          simp [List.getD, List.getElem?_append_right (show a.length ≤ a.length + 1 + i by omega), show a.length + 1 + i - a.length = i + 1 by omega]
  · cases hσ
def sCut : CtF := takeF sCut1
theorem sCut_sound : Sound Tryz.prog 57 sCut := sCut1_sound.take
end Go.Proofs.YtbpbndlgfiammaaGreatDoor.En
namespace Go.Proofs.YtbpbndlgfiammaaGreatDoor.En
open Go Go.RowKit Go.Shelf Go.Sort
theorem info_u8 : (Tryz.prog.info? 5).map (fun i => (i.zero, i.size, i.bytes)) = some (some (.int .u8 0), 1, 1) := by kernel_rfl
theorem ty_u8 : TyOk Tryz.prog 5 ⟨1, false, [.int .u8 0], [], none, 1, false, 2, 0⟩ := ⟨by kernel_rfl, by kernel_rfl, by kernel_rfl⟩
theorem wpList_appendS {P : Program} {w : World} {ops : Array Oper} {rest : List Oper} {o : Oper} {a : Act} {Q : Exit → Act → World → Prop} (hgd : o.guard = none) (s x : Operand) (t tx : TypeId)
    (ho : o.op = .call { callee := .builtin .append, args := #[s, x], argTypes := #[t, tx] })
    (e : TypeId) (ed : TD) (ht : P.underlying t = some (.slice e)) (htx : P.underlying tx = some .string) (hed : TyOk P e ed) (h1 : ed.size = 1) (hz1 : ed.zero.length = 1) (hb1 : ed.bytes = 1)
    (v : Value) (xs : List Value) (n : Nat) (hlen : xs.length = n) (hs : a.eval s = v) (hown : Own w e v xs) (z : ByteArray) (hx : a.eval x = .string z) (hbytes : n + z.size ≤ 140737488355328)
    (h : ∀ A' cap w', Own w' e (.slice A' (n + z.size) cap) (xs ++ Lib.strCells z) → w.grownBy w' v.ownBlock → (∀ g, (Value.slice A' (n + z.size) cap).ownBlock = some g → v.ownBlock = some g ∨ g = w.heap.size) →
      wpList P ops Q rest (a.put o.dst (.slice A' (n + z.size) cap)) w') : wpList P ops Q (o :: rest) a w := by
  refine wpList_plain hgd fun _ hK => ?_
  obtain ⟨v', W', hr, h2, h3, h4⟩ := run_appendS (P := P) w (ty := o.type) ht htx hed h1 hz1 (by omega) hown z (by rw [hlen, hb1]; omega)
  obtain ⟨A', cap, hf, _⟩ := h2.form
  have hl : (xs ++ Lib.strCells z).length = n + z.size := by rw [List.length_append, hlen, Lib.strCells_length]
  rw [hl] at hf
  subst hf
  unfold Oper.wp execOp
  simp only [ho, resolve, invoke, builtin, Sem.run_bind, Sem.run_pure, Result.andThen_ok, List.map_toArray, List.map_cons, List.map_nil, hs, hx, hr]
  exact hK _ _ (h A' cap W' h2 h3 h4)
set_option maxRecDepth 100000 in
set_option maxHeartbeats 800000 in
theorem appU_small {v : Value} {us : List Value} {n : Nat} {w : World} (u : Nat) (hu : u < 100) (hn : us.length = n) (hown : Own w 5 v us) (hlim : n + 20 ≤ 140737488355328) :
    Calls Tryz.prog 111 #[v, .int .u64 u, .int .i64 10] w fun e w' => ∃ A cap, e = .returned (.slice A (n + Lib.nDigits u) cap) ∧ Own w' 5 (.slice A (n + Lib.nDigits u) cap) (us ++ Lib.byteCells (Lib.decDigits u)) ∧ w.grownBy w' v.ownBlock ∧ ∀ b, (Value.slice A (n + Lib.nDigits u) cap).ownBlock = some b → v.ownBlock = some b ∨ w.heap.size ≤ b := by
  have hsm := Any.internal_strconv_small { Tryz.shAppU with } u hu w
  have hsz : (⟨(Lib.decDigits u).toArray⟩ : ByteArray).size = Lib.nDigits u := by rw [← Lib.decDigits_length]; simp [ByteArray.size]
  have hnd : Lib.nDigits u ≤ 20 := by
    by_cases h10 : u < 10
    · rw [Lib.nDigits_small h10]; omega
    · rw [Lib.nDigits_big h10, Lib.nDigits_small (show u / 10 < 10 by omega)]; omega
  have hcl : Lib.strCells ⟨(Lib.decDigits u).toArray⟩ = Lib.byteCells (Lib.decDigits u) := by simp [Lib.strCells, Lib.byteCells]
  have HS := Lib.hid hsm
  have HO := Lib.hid hown
  have HN := Lib.hid hn
  have iu : (u : Int) < 100 := by omega
  clear hsm hown hn
  go_enter Tryz.func111, Tryz.ntmps111
  go_wp2_with (first
    | (go_at_call 131; refine HS.out.mono ?_; rintro e w' ⟨rfl, rfl⟩)
    | (at_builtin; refine wpList_appendS rfl _ _ 34 9 rfl 5 _ Tryz.underlying34 Tryz.underlying9 ty_u8 rfl rfl rfl _ us n HN.out rfl HO.out ⟨(Lib.decDigits u).toArray⟩ rfl (by rw [hsz]; omega) ?_))
  first | rw [hsz, hcl] | skip
  intro A' cap w1 h1 h2 h3
  have H1 := Lib.hid h1
  have H2 := Lib.hid h2
  have H3 := Lib.hid h3
  clear h1 h2 h3
  go_wp2
  go_ret
  exact ⟨A', cap, rfl, H1.out, H2.out, fun b hb => (H3.out b hb).imp id fun e => by omega⟩
set_option maxRecDepth 100000 in
set_option maxHeartbeats 1600000 in
theorem appU_big {v : Value} {us : List Value} {n : Nat} {w : World} (u : Nat) (hu : 100 ≤ u) (hu64 : u < 18446744073709551616) (hn : us.length = n) (hown : Own w 5 v us) (hlim : n + 20 ≤ 140737488355328)
    (htab : Lib.TabIs Tryz.prog w "internal/strconv.uint64pow10" .u64 Lib.pow10Tab) :
    Calls Tryz.prog 111 #[v, .int .u64 u, .int .i64 10] w fun e w' => ∃ A cap, e = .returned (.slice A (n + Lib.nDigits u) cap) ∧ Own w' 5 (.slice A (n + Lib.nDigits u) cap) (us ++ Lib.byteCells (Lib.decDigits u)) ∧ w.grownBy w' v.ownBlock ∧ ∀ b, (Value.slice A (n + Lib.nDigits u) cap).ownBlock = some b → v.ownBlock = some b ∨ w.heap.size ≤ b := by
  obtain ⟨i0, hi, hz0, hz1, hz2⟩ := info_ofL info_u8
  have hu1 : 1 ≤ u := by omega
  have hnd20 : Lib.nDigits u ≤ 20 := by have := Lib.numDigits_eq u hu1 hu64; split at this <;> omega
  have hal : Tryz.prog.arrayLen 138 = 24 := by kernel_rfl
  have hsl : ∀ W, (Instr.sliceAt 138 (.pointer (some ⟨w.heap.size, 0, none⟩)) none (some (.int .i64 (Lib.nDigits u : Int))) none).run Tryz.prog W = .ok (.slice (some ⟨w.heap.size, 0, none⟩) (Lib.nDigits u) 24) W := fun W => by
    rw [run_sliceAt_array_h W 138 ⟨w.heap.size, 0, none⟩ (by kernel_rfl) .i64 (Lib.nDigits u : Int) (by omega) (by rw [hal]; omega)]
    go_simp
  have hH0 := Lib.holds_zero0 w 138 (Lib.nDigits u) (by omega)
  have hfmt := Any.internal_strconv_formatBase10 { Tryz.shAppU with } w.heap.size 0 24 u (Array.replicate (Lib.nDigits u) 0) (w.alloc (.cells Lib.zeros24 138)) hH0 (by rw [Array.size_replicate]; exact Lib.lt_pow_nDigits u) hu64 (by rw [Array.size_replicate]; omega)
  rw [Array.size_replicate] at hfmt
  have hnum := Any.internal_strconv_numDigits { Tryz.shAppU with } u hu1 hu64 _ (Lib.tabIs_alloc htab (.cells Lib.zeros24 138))
  have HH0 := Lib.hid hH0
  have HF := Lib.hid hfmt
  have HM := Lib.hid hnum
  have HO := Lib.hid hown
  have HN := Lib.hid hn
  have iu : (100 : Int) ≤ (u : Int) := by omega
  clear hH0 hal hfmt hnum hown hn htab
  go_enter Tryz.func111, Tryz.ntmps111
  go_wp2_with (go_at_call 132; refine HM.out.mono ?_; rintro e w' ⟨rfl, rfl⟩)
  go_at_call 133
  refine HF.out.mono ?_
  rintro e w' ⟨rfl, k, v', dk, rfl, hF⟩
  have hcells : ∀ j u', (Lib.byteCells (Lib.decDigits u))[j]? = some u' → ((putRow (fun (b : UInt8) => Value.int .u8 (b.toNat : Int)) (w.alloc (.cells Lib.zeros24 138)) w.heap.size 0 dk).drewN k).cell? ((⟨w.heap.size, 0, none⟩ : Addr).add j) = some u' := by
    intro j u' hj
    have hjl : j < (Lib.decDigits u).length := by
      have h5 := (List.getElem?_eq_some_iff.1 hj).1
      rwa [Lib.byteCells_length] at h5
    have e5 : (Lib.byteCells (Lib.decDigits u))[j]? = some (Value.int .u8 ((Lib.decDigits u)[j].toNat : Int)) := by simp [Lib.byteCells, hjl]
    rw [e5] at hj
    cases hj
    rw [Lib.row_is_numeral hF j hjl, Lib.add_plain, World.cell?_drewN]
    exact cell?_putRow (fun (b : UInt8) => Value.int .u8 (b.toNat : Int)) _ w.heap.size 0 _ dk HH0.out (by rw [hF.size, Array.size_replicate]) j (by rw [hF.size]; rw [Lib.decDigits_length] at hjl; exact hjl)
  obtain ⟨os, eo⟩ := Lib.fin_at w (.cells Lib.zeros24 138) dk k 0
  have hbel : Below w.heap.size w ((putRow (fun (b : UInt8) => Value.int .u8 (b.toNat : Int)) (w.alloc (.cells Lib.zeros24 138)) w.heap.size 0 dk).drewN k) := by rw [eo]; exact Lib.below_grow w.heap.size w (Nat.le_refl _) k os
  generalize (putRow (fun (b : UInt8) => Value.int .u8 (b.toNat : Int)) (w.alloc (.cells Lib.zeros24 138)) w.heap.size 0 dk).drewN k = W2 at hcells hbel ⊢
  have hown2 : Own W2 5 v us := HO.out.keep fun g hg => hbel.block g (HO.out.lt hg)
  have HO2 := Lib.hid hown2
  have HC := Lib.hid hcells
  have HB := Lib.hid hbel
  have HL := Lib.hid (show (Lib.byteCells (Lib.decDigits u)).length = Lib.nDigits u by rw [Lib.byteCells_length, Lib.decDigits_length])
  clear eo hown2 hcells hbel hF
  go_wp2_with (at_builtin; refine wpList_appendR _ rfl _ _ 34 rfl 5 i0 (.int .u8 0) 1 Tryz.underlying34 hi hz0 hz1 hz2 rfl _ us n HN.out rfl HO2.out (some ⟨w.heap.size, 0, none⟩) 24 (Lib.byteCells (Lib.decDigits u)) (Lib.nDigits u) HL.out rfl (.inr ⟨_, rfl, HC.out⟩) ?c2 (by unfold maxLen; omega) (by omega) ?_)
  case c2 => intro u' hu'; simp only [Lib.byteCells, List.mem_map] at hu'; obtain ⟨b, _, rfl⟩ := hu'; rfl
  intro A' cap w1 h1 h2 h3
  have H1 := Lib.hid h1
  have H2 := Lib.hid h2
  have H3 := Lib.hid h3
  clear h1 h2 h3
  go_wp2
  go_ret
  have hg2 : w.grownBy w1 v.ownBlock := ⟨H2.out.os.trans HB.out.os, H2.out.tape.trans HB.out.tape, H2.out.output.trans HB.out.output, Nat.le_trans HB.out.size H2.out.size, fun b hb hne => (H2.out.block b (Nat.lt_of_lt_of_le hb HB.out.size) hne).trans (HB.out.block b hb)⟩
  exact ⟨A', cap, rfl, H1.out, hg2, fun b hb => (H3.out b hb).imp id fun e => by have := HB.out.size; omega⟩
theorem appU {v : Value} {us : List Value} {n : Nat} {w : World} (u : Nat) (hu64 : u < 18446744073709551616) (hn : us.length = n) (hown : Own w 5 v us) (hlim : n + 20 ≤ 140737488355328)
    (htab : Lib.TabIs Tryz.prog w "internal/strconv.uint64pow10" .u64 Lib.pow10Tab) :
    Calls Tryz.prog 111 #[v, .int .u64 u, .int .i64 10] w fun e w' => ∃ A cap, e = .returned (.slice A (n + Lib.nDigits u) cap) ∧ Own w' 5 (.slice A (n + Lib.nDigits u) cap) (us ++ Lib.byteCells (Lib.decDigits u)) ∧ w.grownBy w' v.ownBlock ∧ ∀ b, (Value.slice A (n + Lib.nDigits u) cap).ownBlock = some b → v.ownBlock = some b ∨ w.heap.size ≤ b := by
  by_cases h : u < 100
  · exact appU_small u h hn hown hlim
  · exact appU_big u (by omega) hu64 hn hown hlim htab
theorem Own.allocO {w : World} {e : TypeId} {v : Value} {xs : List Value} (h : Own w e v xs) (o : Obj) : Own (w.alloc o) e v xs := h.keep fun g hg => Below.heap_alloc w o g (h.lt hg)
set_option maxRecDepth 100000 in
set_option maxHeartbeats 800000 in
theorem appI {v : Value} {us : List Value} {n : Nat} {w : World} (i : Int) (h0 : -9223372036854775808 ≤ i) (h1 : i ≤ 9223372036854775807) (hn : us.length = n) (hown : Own w 5 v us) (hlim : n + 21 ≤ 140737488355328)
    (htab : ∀ w', Below w.heap.size w w' ∨ (∃ r, w.grownBy w' r ∧ r = v.ownBlock) → Lib.TabIs Tryz.prog w' "internal/strconv.uint64pow10" .u64 Lib.pow10Tab) :
    Calls Tryz.prog 84 #[v, .int .i64 i, .int .i64 10] w fun e w' => ∃ A cap, e = .returned (.slice A (n + (Lib.itoa i).length) cap) ∧ Own w' 5 (.slice A (n + (Lib.itoa i).length) cap) (us ++ Lib.byteCells (Lib.itoa i)) ∧ w.grownBy w' v.ownBlock ∧ ∀ b, (Value.slice A (n + (Lib.itoa i).length) cap).ownBlock = some b → v.ownBlock = some b ∨ w.heap.size ≤ b := by
  obtain ⟨i0, hi, hz0, hz1, hz2⟩ := info_ofL info_u8
  have HT := Lib.hid htab
  clear htab
  by_cases hneg : i < 0
  · obtain ⟨u, rfl⟩ : ∃ u : Nat, i = -(u : Int) := ⟨i.natAbs, by omega⟩
    have hu1 : 1 ≤ u := by omega
    have hu64 : u < 18446744073709551616 := by omega
    have hwr : IntKind.u64.wrap (-IntKind.u64.wrap (-(u : Int))) = (u : Int) := by rw [IntKind.wrap_u64, IntKind.wrap_u64]; omega
    rw [Lib.itoa_neg u hu1]
    have HO := Lib.hid (Own.allocO hown (.cells #[.int .u8 45] 5))
    have HV := Lib.hid (fun g (hg : v.ownBlock = some g) => hown.lt hg)
    have HN := Lib.hid hn
    have hlen1 : (us ++ [Value.int .u8 45]).length = n + 1 := by simp [hn]
    have HL1 := Lib.hid hlen1
    have HND := Lib.hid (Lib.decDigits_length u)
    clear hown hn hlen1
    go_enter Tryz.func84, Tryz.ntmps84
    go_wp2_with (at_builtin; refine wpList_appendR _ rfl _ _ 34 rfl 5 i0 (.int .u8 0) 1 Tryz.underlying34 hi hz0 hz1 hz2 rfl _ us n HN.out rfl HO.out (some ⟨w.heap.size, 0, none⟩) 1 [Value.int .u8 45] 1 rfl rfl (.inr ⟨_, rfl, by intro j u' hj; match j, hj with | 0, hj => simp at hj; subst hj; simp [Addr.add]⟩) (by intro u' hu'; simp at hu'; subst hu'; rfl) (by unfold maxLen; omega) (by omega) ?_)
    intro A1 cap1 w1 k1 k2 k3
    have K1 := Lib.hid k1
    have K2 := Lib.hid k2
    have K3 := Lib.hid k3
    have K4 := Lib.hid (show w.grownBy w1 v.ownBlock from ⟨k2.os, k2.tape, k2.output, Nat.le_trans (by simp) k2.size, fun b hb hne => (k2.block b (by simp; omega) hne).trans (Below.heap_alloc w _ b hb)⟩)
    have K5 := Lib.hid (HT.out w1 (.inr ⟨_, K4.out, rfl⟩))
    clear k1 k2 k3
    go_wp2_with fail
    go_at_call 111
    refine (appU u hu64 HL1.out K1.out (by omega) K5.out).mono ?_
    rintro e w2 ⟨A2, cap2, rfl, q1, q2, q3⟩
    have Q1 := Lib.hid q1
    have Q2 := Lib.hid q2
    have Q3 := Lib.hid q3
    clear q1 q2 q3
    go_wp2_with fail
    go_ret
    have hw : ∀ b, (Value.slice A1 (n + 1) cap1).ownBlock = some b → v.ownBlock = some b ∨ w.heap.size ≤ b := fun b hb => (K3.out b hb).imp id fun e => by first | omega | (simp at e; omega)
    have e1 : n + ((Lib.decDigits u).length + 1) = n + 1 + Lib.nDigits u := by rw [HND.out]; omega
    have e2 : us ++ Lib.byteCells (45 :: Lib.decDigits u) = us ++ [Value.int .u8 45] ++ Lib.byteCells (Lib.decDigits u) := by simp [Lib.byteCells]
    rw [e1, e2]
    refine ⟨A2, cap2, rfl, Q1.out, ⟨Q2.out.os.trans K4.out.os, Q2.out.tape.trans K4.out.tape, Q2.out.output.trans K4.out.output, Nat.le_trans K4.out.size Q2.out.size, fun b hb hne => (Q2.out.block b (Nat.lt_of_lt_of_le hb K4.out.size) (fun e => ?_)).trans (K4.out.block b hb hne)⟩, fun b hb => ?_⟩
    · rcases hw b e.symm with h | h
      · exact hne h.symm
      · omega
    · rcases Q3.out b hb with h | h
      · exact hw b h
      · exact .inr (Nat.le_trans K4.out.size h)
  · obtain ⟨u, rfl⟩ : ∃ u : Nat, i = u := ⟨i.toNat, by omega⟩
    have hu64 : u < 18446744073709551616 := by omega
    rw [Lib.itoa_nonneg]
    have HO := Lib.hid hown
    have HN := Lib.hid hn
    have HND := Lib.hid (Lib.decDigits_length u)
    have K5 := Lib.hid (HT.out w (.inl (Below.refl _ _)))
    clear hown hn
    go_enter Tryz.func84, Tryz.ntmps84
    go_wp2_with fail
    go_at_call 111
    refine (appU u hu64 HN.out HO.out (by omega) K5.out).mono ?_
    rintro e w2 ⟨A2, cap2, rfl, q1, q2, q3⟩
    have Q1 := Lib.hid q1
    have Q2 := Lib.hid q2
    have Q3 := Lib.hid q3
    clear q1 q2 q3
    go_wp2_with fail
    first | go_ret | go_ret2
    rw [HND.out]
    exact ⟨A2, cap2, rfl, Q1.out, Q2.out, Q3.out⟩
def sAppI : CtF := fun args os => match args, os with
  | [.row 0, .im (.val (.int .i64 i)), .im (.val (.int .i64 b))], [.row 5 (.bytes xs)] => some (Fit i ∧ b = 10 ∧ xs.length + 21 ≤ 1000000000000, .row 1, [none, some (.row 5 (.bytes (xs ++ Cn.itoaI i)))])
  | _, _ => none
theorem sAppI_sound : Sound Tryz.prog 84 sAppI := by
  refine sound_rowR (e := 5) (run_enters Tryz.func84 (by kernel_rfl) rfl) fun args os p r outs h => ?_
  unfold sAppI at h
  split at h
  · rename_i i bs xs
    injection h with h
    injection h with h1 h
    injection h with h2 h3
    subst h1 h2 h3
    refine ⟨_, .bytes xs, .bytes (xs ++ Cn.itoaI i), rfl, rfl, rfl, rfl, rfl, rfl, rfl, fun hp => ⟨?_, fun W G v vs us hG hn hgl ho hul hrep hmx hd => ?_⟩⟩
    · obtain ⟨⟨hp1, hp2⟩, hp3, hp4⟩ := hp
      have := Cn.itoa_len hp1 hp2
      show (xs ++ Cn.itoaI i).length ≤ maxLen
      rw [List.length_append]; unfold maxLen; omega
    · obtain ⟨⟨hp1, hp2⟩, rfl, hp4⟩ := hp
      obtain ⟨u1, u2, rfl, d1, d2⟩ := denL2 hd
      rw [den_val d1, den_val d2]
      have hul' : us.length = xs.length := hul
      have hlen : (Lib.itoa i).length = (Cn.itoaI i).length := by unfold Cn.itoaI; rw [List.length_map]
      have htab : ∀ w', Below W.heap.size W w' ∨ (∃ r, W.grownBy w' r ∧ r = v.ownBlock) → Lib.TabIs Tryz.prog w' "internal/strconv.uint64pow10" .u64 Lib.pow10Tab := fun w' h => by
        have hgk := (hgl 1 (g_pow10.map (Value.int .u64)) rfl).1
        refine pow10_tab (G := fun b => G b ∧ w'.heap[b]? = W.heap[b]?) fun k ys hk => ?_
        obtain ⟨q1, q2⟩ := hgl k ys hk
        have hkk : w'.heap[k]? = W.heap[k]? := by
          rcases h with h | ⟨r, h, rfl⟩
          · exact h.block k (hG k q1)
          · exact h.block k (hG k q1) fun e => hn k e.symm q1
        exact ⟨⟨q1, hkk⟩, q2.keep hkk⟩
      refine Calls.mono (appI (n := xs.length) i hp1 hp2 hul' ho (by omega) htab) fun e w' he => ?_
      obtain ⟨A, cap, rfl, k1, k2, k3⟩ := he
      refine ⟨_, _, rfl, k1, ?_, fun k hk => ?_, k2, k3⟩
      · show (us ++ Lib.byteCells (Lib.itoa i)).length = (xs ++ Cn.itoaI i).length
        rw [List.length_append, List.length_append, Lib.byteCells_length, hul', hlen]
      · have hk' : k < xs.length + (Cn.itoaI i).length := by
          have : k < (xs ++ Cn.itoaI i).length := hk
          rwa [List.length_append] at this
        show Rep W G (.val (.int .u8 ((xs ++ Cn.itoaI i).getD k 0))) _
        rw [Cn.bytesC_itoa]
        unfold Cn.bytesC
        by_cases hlt : k < xs.length
        · have e1 : (xs ++ Cn.itoaI i).getD k 0 = xs.getD k 0 := by simp [List.getD, List.getElem?_append_left hlt]
          have e2 : (us ++ (Cn.itoaI i).map (Value.int .u8)).getD k undef = us.getD k undef := by simp [List.getD, List.getElem?_append_left (show k < us.length by omega)]
          rw [e1, e2]
          exact hrep k hlt
        · obtain ⟨q, rfl⟩ : ∃ q, k = xs.length + q := ⟨k - xs.length, by omega⟩
          have hq : q < (Cn.itoaI i).length := by omega
          have e1 : (xs ++ Cn.itoaI i).getD (xs.length + q) 0 = (Cn.itoaI i).getD q 0 := by simp [List.getD, List.getElem?_append_right (show xs.length ≤ xs.length + q by omega)]
          have e2 : (us ++ (Cn.itoaI i).map (Value.int .u8)).getD (xs.length + q) undef = .int .u8 ((Cn.itoaI i).getD q 0) := by
            rw [← hul']
            simp [List.getD, List.getElem?_append_right (show us.length ≤ us.length + q by omega), List.getElem?_eq_getElem hq]
          rw [e1, e2]
          exact .val _
  · cases h
end Go.Proofs.YtbpbndlgfiammaaGreatDoor.En
namespace Go.Proofs.YtbpbndlgfiammaaGreatDoor.En
open Go Go.RowKit
def tyTxt : List (Nat × TD) := [(2, ⟨1, false, [.int .i64 0], [], none, 8, false, 1, 1⟩),
  (3, ⟨1, false, [.int .i64 0], [], none, 8, false, 1, 1⟩),
  (5, ⟨1, false, [.int .u8 0], [], none, 1, false, 2, 8⟩),
  (9, ⟨1, false, [.string ⟨#[]⟩], [], none, 16, false, 9, 9⟩),
  (23, ⟨1, false, [.slice none 0 0], [], some 3, 24, false, 0, 3⟩),
  (29, ⟨1, false, [.slice none 0 0], [], some 43, 24, false, 0, 0⟩),
  (31, ⟨1, false, [.int .i64 0], [], none, 8, false, 1, 1⟩),
  (34, ⟨1, false, [.slice none 0 0], [], some 5, 24, false, 0, 0⟩),
  (43, ⟨2, true, [.int .i64 0, .slice none 0 0], [(0, 3), (1, 23)], none, 32, false, 0, 7⟩),
  (105, ⟨1, false, [.slice none 0 0], [], some 9, 24, false, 0, 0⟩),
  (109, ⟨1, false, [.nilIface], [], none, 16, false, 11, 0⟩)]
theorem tyTxt_ok : AllTy Tryz.prog tyTxt := ⟨⟨by kernel_rfl, by kernel_rfl, by kernel_rfl⟩, ⟨by kernel_rfl, by kernel_rfl, by kernel_rfl⟩, ⟨by kernel_rfl, by kernel_rfl, by kernel_rfl⟩, ⟨by kernel_rfl, by kernel_rfl, by kernel_rfl⟩, ⟨by kernel_rfl, by kernel_rfl, by kernel_rfl⟩, ⟨by kernel_rfl, by kernel_rfl, by kernel_rfl⟩, ⟨by kernel_rfl, by kernel_rfl, by kernel_rfl⟩, ⟨by kernel_rfl, by kernel_rfl, by kernel_rfl⟩, ⟨by kernel_rfl, by kernel_rfl, by kernel_rfl⟩, ⟨by kernel_rfl, by kernel_rfl, by kernel_rfl⟩, ⟨by kernel_rfl, by kernel_rfl, by kernel_rfl⟩, trivial⟩
def cx_sAppInt : Cx := ⟨tyTxt, [(84, sAppI)], true⟩
theorem cx_sAppInt_ok : CxOk Tryz.prog cx_sAppInt := cx_ok tyTxt_ok ⟨sAppI_sound, trivial⟩
def sAppInt_σ : CtF
  | [.row 0, .im (.val (.int .i64 i)), .im (.val (.int .i64 b))], [.row 5 (.bytes xs)] => some (Fit i ∧ b = 10 ∧ xs.length + 21 ≤ 1000000000000, .row 1, [none, some (.row 5 (.bytes (xs ++ Cn.itoaI i)))])
  | _, _ => none
theorem sAppInt_sound : Sound Tryz.prog 55 sAppInt_σ := by
 refine Sw (cx := cx_sAppInt) Tryz.f55 Tryz.func55 ?_
 intro wW wO wβ G0 args os p r outs hσ hp
 have hcx := cx_sAppInt_ok
 unfold sAppInt_σ at hσ
 split at hσ
 ·
  rename_i i b xs
  cases hσ
  refine ⟨by kernel_rfl, ?_⟩
  refine Sz hcx [] [] [] [] (Sq hcx [(1003, .to 210)] [6] [0, 1, 2] [0] [(Fit i ∧ b = 10 ∧ xs.length + 21 ≤ 1000000000000)] ?_ (Zr (Fn [(210, .to 1)] [6] (Ru hcx [false, true]))))
  ·
   refine ap ?_ az
   first | exact hp | done
 ·
  cases hσ
def cx_pPut : Cx := ⟨tyTxt, [(55, sAppInt_σ), (43, pFormed_σ)], true⟩
theorem cx_pPut_ok : CxOk Tryz.prog cx_pPut := cx_ok tyTxt_ok ⟨sAppInt_sound, pFormed_sound, trivial⟩
def pPut_σ : CtF
  | [.im (.ls (.lines p))], [] => some (Cn.szP p ≤ 1000000000, .tup [.bytes (Cn.putV p), .int (Cn.frmV p)], [])
  | _, _ => none
theorem pPut_sound : Sound Tryz.prog 19 pPut_σ := by
 refine Sw (cx := cx_pPut) Tryz.f19 Tryz.func19 ?_
 intro wW wO wβ G0 args os p r outs hσ hp
 have hcx := cx_pPut_ok
 unfold pPut_σ at hσ
 split at hσ
 ·
  rename_i p
  cases hσ
  refine ⟨by kernel_rfl, ?_⟩
  have hm1 := hp
  have hpl := Cn.len_szP p
  have hml := fun x (hx : x ∈ p) => Cn.mem_szP hx
  have hfr := Cn.put_frm hm1
  refine Sz hcx [] [] [] [] (Zs (Sq hcx [] [4] [] [] [(p.length ≤ maxLen ∧ ∀ x ∈ p, x.2.length ≤ maxLen)] ?_ (Sz hcx [] [13] [] [] (Zx (a := (Cn.frmV p)) (b := 0) (fun h0 => ?_) fun h0 => ?_))))
  ·
   refine ap ?_ az
   first | omega | exact id | exact vcNot | exact vcG | exact vcH | (intro _; omega) | exact (fun _ h => h) | (intro h; simp at h; omega) | (simp only [List.length_cons, List.length_nil, List.length_append, List.length_map, List.length_set, List.length_replicate]; omega) | (intro h; simp [h]; done) | (constructor <;> omega) | exact hfr | exact Cn.let_in (hq2 _ (hxm (by omega))) | (have h8 := hlit (by omega); exact ⟨⟨by omega, by omega⟩, rfl, by simp only [List.length_append, List.length_cons, List.length_nil]; omega⟩) | (have h9 : (⟨#[32, 48, 10]⟩ : ByteArray).size = 3 := rfl; rw [h9]; simp only [List.length_append, List.length_cons, List.length_nil]; omega) | done
  ·
   have hne : ¬ Cn.frmV p = 0 := by simpa using h0
   exact Sz hcx [] [2, 3] [13, 4, 0] [] (Zr (Fr (Fp 2 (.bytes []) (Rv hcx (congrArg AV.tup (consE (congrArg AV.bytes (show [] = (Cn.putV p) from (by first | exact Cn.putV_yes he (by omega) | exact Cn.putV_no hne | exact he.symm | rfl | done))) rfl)) [] rfl))))
  ·
   have he : Cn.frmV p = 0 := by simpa using h0
   obtain ⟨hq1, hq2, hq3⟩ := Cn.frm_lits he
   have hbd := fun i => Cn.put_le hq3 i
   refine Zk (Ft (Sz hcx [] [5] [13, 4] [] (Zs (Sz hcx [] [15, 16, 17] [0] [] (Zb (Zw 5 700 5 (.bytes []) (Lp (X := Nat) (fun x0 => x0 ≤ p.length) (fun x0 => ([(5, .row 700), (15, .lines p), (16, .int (p.length : Int)), (17, .int (x0 : Int))], [(700, .row 5 (.bytes (Cn.putP (p.take x0))))])) (fun x0 => p.length - x0) (0) ?_ (Ex 17 (congrArg AV.int (show 0 = (0 : Int) from (by first | rfl | omega | (simp; done)))) Eb) Hb fun i hI => ?_)))))))
   ·
    show 0 ≤ p.length
    omega
   ·
    replace hI : i ≤ p.length := hI
    have hbi := fun (hi : i < p.length) (k : Nat) => Cn.put_in24 hq3 hi k
    have hbj := hbd i
    have hxm := fun (hi : i < p.length) => Cn.getD_memL (d := (0, [])) hi
    refine Sz hcx [] [18] [] [] (Zs (Zj (p := ((i : Int) < (p.length : Int))) (fun h1 => ?_) fun h1 => ?_))
    ·
     refine Zk (Ft (Zs (Zb (Sq hcx [(1002, .to 607)] [7] [18] [] [((0 : Int) ≤ (i : Int) ∧ (i : Int) < (p.length : Int))] ?_ (Sq hcx [(1005, .to 700)] [5] [] [700] [((0 : Int) ≤ (p.getD i (0, [])).1 ∧ (p.getD i (0, [])).1 < ((⟨#[32, 111, 108, 100]⟩ : ByteArray).size : Int)), (((Cn.putP (p.take i)).length + [((bytesI (⟨#[32, 111, 108, 100]⟩ : ByteArray)).getD (((p.getD i (0, [])).1).toNat) 0)].length) * 1 ≤ 140737488355328)] ?_ (Zs (Sz hcx [] [28, 29, 30] [7] [607] (Zb (Zn [(700, .to 701)] [5, 15, 16, 17, 28, 29, 30] (Lp (X := Nat) (fun x0 => x0 ≤ (p.getD i (0, [])).2.length) (fun x0 => ([(5, .row 701), (15, .lines p), (16, .int (p.length : Int)), (17, .int (i : Int)), (28, .ints ((p.getD i (0, [])).2)), (29, .int (((p.getD i (0, [])).2).length : Int)), (30, .int (x0 : Int))], [(701, .row 5 (.bytes ((Cn.putP (p.take i) ++ [Cn.letW (p.getD i (0, [])).1]) ++ Cn.litsW ((p.getD i (0, [])).2.take x0))))])) (fun x0 => (p.getD i (0, [])).2.length - x0) (0) ?_ (Ex 30 (congrArg AV.int (show 0 = (0 : Int) from (by first | rfl | omega | (simp; done)))) Eb) (Hx 701 (congrArg (fun x => AObj.row 5 (.bytes x)) (show ((Cn.putP (p.take i)) ++ [((bytesI (⟨#[32, 111, 108, 100]⟩ : ByteArray)).getD (((p.getD i (0, [])).1).toNat) 0)]) = ((Cn.putP (p.take i) ++ [Cn.letW (p.getD i (0, [])).1]) ++ Cn.litsW ((p.getD i (0, [])).2.take 0)) from (by (exact (List.append_nil _).symm)))) Hb) fun k hI => ?_))))))))))
     ·
      refine ap ?_ az
      first | omega | exact id | exact vcNot | exact vcG | exact vcH | (intro _; omega) | exact (fun _ h => h) | (intro h; simp at h; omega) | (simp only [List.length_cons, List.length_nil, List.length_append, List.length_map, List.length_set, List.length_replicate]; omega) | (intro h; simp [h]; done) | (constructor <;> omega) | exact hfr | exact Cn.let_in (hq2 _ (hxm (by omega))) | (have h8 := hlit (by omega); exact ⟨⟨by omega, by omega⟩, rfl, by simp only [List.length_append, List.length_cons, List.length_nil]; omega⟩) | (have h9 : (⟨#[32, 48, 10]⟩ : ByteArray).size = 3 := rfl; rw [h9]; simp only [List.length_append, List.length_cons, List.length_nil]; omega) | done
     ·
      refine ap ?_ (ap ?_ az) <;>
       first | omega | exact id | exact vcNot | exact vcG | exact vcH | (intro _; omega) | exact (fun _ h => h) | (intro h; simp at h; omega) | (simp only [List.length_cons, List.length_nil, List.length_append, List.length_map, List.length_set, List.length_replicate]; omega) | (intro h; simp [h]; done) | (constructor <;> omega) | exact hfr | exact Cn.let_in (hq2 _ (hxm (by omega))) | (have h8 := hlit (by omega); exact ⟨⟨by omega, by omega⟩, rfl, by simp only [List.length_append, List.length_cons, List.length_nil]; omega⟩) | (have h9 : (⟨#[32, 48, 10]⟩ : ByteArray).size = 3 := rfl; rw [h9]; simp only [List.length_append, List.length_cons, List.length_nil]; omega) | done
     ·
      show 0 ≤ (p.getD i (0, [])).2.length
      omega
     ·
      try dsimp only at hI
      have hk2 := hbi (by omega) k
      have hxl := hml _ (hxm (by omega))
      have hlit := fun (hk : k < (p.getD i (0, [])).2.length) => hq3 _ (hxm (by omega)) _ (Cn.getD_memI hk)
      refine Sz hcx [] [31] [] [] (Zs (Zj (p := ((k : Int) < (((p.getD i (0, [])).2).length : Int))) (fun h2 => ?_) fun h2 => ?_))
      ·
       refine Zk (Ft (Zs (Zb (Sq hcx [] [9] [31] [] [((0 : Int) ≤ (k : Int) ∧ (k : Int) < (((p.getD i (0, [])).2).length : Int))] ?_ (Tq hcx [(1004, .to 701)] [5] [9] [701] [((((Cn.putP (p.take i) ++ [Cn.letW (p.getD i (0, [])).1]) ++ Cn.litsW ((p.getD i (0, [])).2.take k)).length + [32].length) * 1 ≤ 140737488355328), (Fit (((p.getD i (0, [])).2).getD k 0) ∧ (10 : Int) = 10 ∧ (((Cn.putP (p.take i) ++ [Cn.letW (p.getD i (0, [])).1]) ++ Cn.litsW ((p.getD i (0, [])).2.take k)) ++ [32]).length + 21 ≤ 1000000000000)] ?_ (Fb (Ft (Tq hcx [] [30] [] [] [Fit ((k : Int) + 1)] ?_ (Lr (k + 1) ?_ ?_ (Ex 30 (congrArg AV.int (show ((k : Int) + 1) = ((k + 1) : Int) from (by first | rfl | omega | (simp; done)))) Eb) (Hx 701 (congrArg (fun x => AObj.row 5 (.bytes x)) (show ((((Cn.putP (p.take i) ++ [Cn.letW (p.getD i (0, [])).1]) ++ Cn.litsW ((p.getD i (0, [])).2.take k)) ++ [32]) ++ Cn.itoaI (((p.getD i (0, [])).2).getD k 0)) = ((Cn.putP (p.take i) ++ [Cn.letW (p.getD i (0, [])).1]) ++ Cn.litsW ((p.getD i (0, [])).2.take (k + 1))) from (by exact Cn.litsW_next (by omega) _))) Hb))))))))))
       ·
        refine ap ?_ az
        first | omega | exact id | exact vcNot | exact vcG | exact vcH | (intro _; omega) | exact (fun _ h => h) | (intro h; simp at h; omega) | (simp only [List.length_cons, List.length_nil, List.length_append, List.length_map, List.length_set, List.length_replicate]; omega) | (intro h; simp [h]; done) | (constructor <;> omega) | exact hfr | exact Cn.let_in (hq2 _ (hxm (by omega))) | (have h8 := hlit (by omega); exact ⟨⟨by omega, by omega⟩, rfl, by simp only [List.length_append, List.length_cons, List.length_nil]; omega⟩) | (have h9 : (⟨#[32, 48, 10]⟩ : ByteArray).size = 3 := rfl; rw [h9]; simp only [List.length_append, List.length_cons, List.length_nil]; omega) | done
       ·
        refine ap ?_ (ap ?_ az) <;>
         first | omega | exact id | exact vcNot | exact vcG | exact vcH | (intro _; omega) | exact (fun _ h => h) | (intro h; simp at h; omega) | (simp only [List.length_cons, List.length_nil, List.length_append, List.length_map, List.length_set, List.length_replicate]; omega) | (intro h; simp [h]; done) | (constructor <;> omega) | exact hfr | exact Cn.let_in (hq2 _ (hxm (by omega))) | (have h8 := hlit (by omega); exact ⟨⟨by omega, by omega⟩, rfl, by simp only [List.length_append, List.length_cons, List.length_nil]; omega⟩) | (have h9 : (⟨#[32, 48, 10]⟩ : ByteArray).size = 3 := rfl; rw [h9]; simp only [List.length_append, List.length_cons, List.length_nil]; omega) | done
       ·
        refine ap ?_ az
        first | omega | exact id | exact vcNot | exact vcG | exact vcH | (intro _; omega) | exact (fun _ h => h) | (intro h; simp at h; omega) | (simp only [List.length_cons, List.length_nil, List.length_append, List.length_map, List.length_set, List.length_replicate]; omega) | (intro h; simp [h]; done) | (constructor <;> omega) | exact hfr | exact Cn.let_in (hq2 _ (hxm (by omega))) | (have h8 := hlit (by omega); exact ⟨⟨by omega, by omega⟩, rfl, by simp only [List.length_append, List.length_cons, List.length_nil]; omega⟩) | (have h9 : (⟨#[32, 48, 10]⟩ : ByteArray).size = 3 := rfl; rw [h9]; simp only [List.length_append, List.length_cons, List.length_nil]; omega) | done
       ·
        show (k + 1) ≤ (p.getD i (0, [])).2.length
        omega
       ·
        try dsimp only
        omega
      ·
       refine Ze (Fe (Fe (Fs (Ft (Tq hcx [(1001, .to 701)] [5] [31, 28, 29, 30] [701] [((((Cn.putP (p.take i) ++ [Cn.letW (p.getD i (0, [])).1]) ++ Cn.litsW ((p.getD i (0, [])).2.take k)).length + (⟨#[32, 48, 10]⟩ : ByteArray).size) * 1 ≤ 140737488355328)] ?_ (Fb (Ft (Tq hcx [] [17] [] [] [Fit ((i : Int) + 1)] ?_ (Fn [(701, .to 700)] [5, 15, 16, 17] (Lr (i + 1) ?_ ?_ (Ex 17 (congrArg AV.int (show ((i : Int) + 1) = ((i + 1) : Int) from (by first | rfl | omega | (simp; done)))) Eb) (Hx 700 (congrArg (fun x => AObj.row 5 (.bytes x)) (show (((Cn.putP (p.take i) ++ [Cn.letW (p.getD i (0, [])).1]) ++ Cn.litsW ((p.getD i (0, [])).2.take k)) ++ (bytesI (⟨#[32, 48, 10]⟩ : ByteArray))) = (Cn.putP (p.take (i + 1))) from (by exact Cn.putP_step (by omega) (by omega)))) Hb)))))))))))
       ·
        refine ap ?_ az
        first | omega | exact id | exact vcNot | exact vcG | exact vcH | (intro _; omega) | exact (fun _ h => h) | (intro h; simp at h; omega) | (simp only [List.length_cons, List.length_nil, List.length_append, List.length_map, List.length_set, List.length_replicate]; omega) | (intro h; simp [h]; done) | (constructor <;> omega) | exact hfr | exact Cn.let_in (hq2 _ (hxm (by omega))) | (have h8 := hlit (by omega); exact ⟨⟨by omega, by omega⟩, rfl, by simp only [List.length_append, List.length_cons, List.length_nil]; omega⟩) | (have h9 : (⟨#[32, 48, 10]⟩ : ByteArray).size = 3 := rfl; rw [h9]; simp only [List.length_append, List.length_cons, List.length_nil]; omega) | done
       ·
        refine ap ?_ az
        first | omega | exact id | exact vcNot | exact vcG | exact vcH | (intro _; omega) | exact (fun _ h => h) | (intro h; simp at h; omega) | (simp only [List.length_cons, List.length_nil, List.length_append, List.length_map, List.length_set, List.length_replicate]; omega) | (intro h; simp [h]; done) | (constructor <;> omega) | exact hfr | exact Cn.let_in (hq2 _ (hxm (by omega))) | (have h8 := hlit (by omega); exact ⟨⟨by omega, by omega⟩, rfl, by simp only [List.length_append, List.length_cons, List.length_nil]; omega⟩) | (have h9 : (⟨#[32, 48, 10]⟩ : ByteArray).size = 3 := rfl; rw [h9]; simp only [List.length_append, List.length_cons, List.length_nil]; omega) | done
       ·
        show (i + 1) ≤ p.length
        omega
       ·
        show p.length - (i + 1) < p.length - i
        omega
    ·
     exact Ze (Fe (Fe (Fs (Ft (Sz hcx [(700, .frz)] [2, 3] [18, 5, 15, 16, 17] [] (Zr (Rv hcx (congrArg AV.tup (consE (congrArg AV.bytes (show (Cn.putP (p.take i)) = (Cn.putV p) from (by first | exact Cn.putV_yes he (by omega) | exact Cn.putV_no hne | exact he.symm | rfl | done))) (consE (congrArg AV.int (show 0 = (Cn.frmV p) from (by first | exact Cn.putV_yes he (by omega) | exact Cn.putV_no hne | exact he.symm | rfl | done))) rfl))) [] rfl)))))))
 ·
  cases hσ
def cx_pLine : Cx := ⟨tyTxt, [(87, sSplit), (88, sIndexS), (89, sAtoi), (90, sItoa), (36, pLit_σ)], true⟩
theorem cx_pLine_ok : CxOk Tryz.prog cx_pLine := cx_ok tyTxt_ok ⟨sSplit_sound, sIndexS_sound, sAtoi_sound, sItoa_sound, pLit_sound, trivial⟩
def pLine_σ : CtF
  | [.im (.val (.string s))], [] => some (s.size ≤ 1000000, .tup [.agg [.int (Cn.lnK (bytesI s)), .ints (Cn.lnL (bytesI s))], .bool (Cn.lnOk (bytesI s))], [])
  | _, _ => none
theorem pLine_sound : Sound Tryz.prog 58 pLine_σ := by
 refine Sw (cx := cx_pLine) Tryz.f58 Tryz.func58 ?_
 intro wW wO wβ G0 args os p r outs hσ hp
 have hcx := cx_pLine_ok
 unfold pLine_σ at hσ
 split at hσ
 ·
  rename_i s
  cases hσ
  refine ⟨by kernel_rfl, ?_⟩
  have hm1 := hp
  have hK := Cn.lnK_is s
  obtain ⟨hl1, hl2, hl3⟩ := Cn.ws_facts s
  have hml := Cn.mid_lenS s
  refine Sz hcx [(1000, .to 602)] [2] [] [] (Sq hcx [(1001, .to 211)] [4] [0] [] [(s.size ≤ 1000000 ∧ (⟨#[32]⟩ : ByteArray) = ⟨#[32]⟩)] ?_ (Zs (Zn [(602, .to 602), (211, .frz)] [4, 2] (Tq hcx [] [5] [] [] [Fit (((Cn.wsS s).length : Int) - 1)] ?_ (Ft (Sq hcx [(602, .to 602)] [] [] [] [((0 : Int) ≤ 0 ∧ 0 < ((Cn.wsS s).length : Int)), ((⟨#[32, 111, 108, 100]⟩ : ByteArray).size ≤ 4294967280)] ?_ (Zs (Sq hcx [] [40] [] [] [((0 : Int) ≤ 0 ∧ 0 < ((Cn.wsS s).length : Int)), ((!((((Cn.wsS s).getD 0 ByteArray.empty).size : Int) != 1)) = true → ((!((((Cn.wsS s).getD 0 ByteArray.empty).size : Int) != 1)) = true)), ((!((((Cn.wsS s).getD 0 ByteArray.empty).size : Int) != 1)) = true → ((!((((Cn.wsS s).getD 0 ByteArray.empty).size : Int) != 1)) = true)), (((((Cn.wsS s).getD 0 ByteArray.empty).size : Int) != 1) = false → (!((((Cn.wsS s).getD 0 ByteArray.empty).size : Int) != 1)) = true), ((!(((((Cn.wsS s).getD 0 ByteArray.empty).size : Int) != 1) || (decide ((Lib.index (⟨#[32, 111, 108, 100]⟩ : ByteArray).data.toList ((Cn.wsS s).getD 0 ByteArray.empty).data.toList) < 1)))) = true → ((!(((((Cn.wsS s).getD 0 ByteArray.empty).size : Int) != 1) || (decide ((Lib.index (⟨#[32, 111, 108, 100]⟩ : ByteArray).data.toList ((Cn.wsS s).getD 0 ByteArray.empty).data.toList) < 1)))) = true)), ((((((Cn.wsS s).getD 0 ByteArray.empty).size : Int) != 1) || (decide ((Lib.index (⟨#[32, 111, 108, 100]⟩ : ByteArray).data.toList ((Cn.wsS s).getD 0 ByteArray.empty).data.toList) < 1))) = false → (!(((((Cn.wsS s).getD 0 ByteArray.empty).size : Int) != 1) || (decide ((Lib.index (⟨#[32, 111, 108, 100]⟩ : ByteArray).data.toList ((Cn.wsS s).getD 0 ByteArray.empty).data.toList) < 1)))) = true), ((!((((((Cn.wsS s).getD 0 ByteArray.empty).size : Int) != 1) || (decide ((Lib.index (⟨#[32, 111, 108, 100]⟩ : ByteArray).data.toList ((Cn.wsS s).getD 0 ByteArray.empty).data.toList) < 1))) || (decide ((((Cn.wsS s).length : Int) - 1) < 1)))) = true → ((!((((((Cn.wsS s).getD 0 ByteArray.empty).size : Int) != 1) || (decide ((Lib.index (⟨#[32, 111, 108, 100]⟩ : ByteArray).data.toList ((Cn.wsS s).getD 0 ByteArray.empty).data.toList) < 1))) || (decide ((((Cn.wsS s).length : Int) - 1) < 1)))) = true)), ((!((((((Cn.wsS s).getD 0 ByteArray.empty).size : Int) != 1) || (decide ((Lib.index (⟨#[32, 111, 108, 100]⟩ : ByteArray).data.toList ((Cn.wsS s).getD 0 ByteArray.empty).data.toList) < 1))) || (decide ((((Cn.wsS s).length : Int) - 1) < 1)))) = true → ((!((((((Cn.wsS s).getD 0 ByteArray.empty).size : Int) != 1) || (decide ((Lib.index (⟨#[32, 111, 108, 100]⟩ : ByteArray).data.toList ((Cn.wsS s).getD 0 ByteArray.empty).data.toList) < 1))) || (decide ((((Cn.wsS s).length : Int) - 1) < 1)))) = true)), ((!((((((Cn.wsS s).getD 0 ByteArray.empty).size : Int) != 1) || (decide ((Lib.index (⟨#[32, 111, 108, 100]⟩ : ByteArray).data.toList ((Cn.wsS s).getD 0 ByteArray.empty).data.toList) < 1))) || (decide ((((Cn.wsS s).length : Int) - 1) < 1)))) = true → ((0 : Int) ≤ (((Cn.wsS s).length : Int) - 1) ∧ (((Cn.wsS s).length : Int) - 1) < ((Cn.wsS s).length : Int))), ((!((((((Cn.wsS s).getD 0 ByteArray.empty).size : Int) != 1) || (decide ((Lib.index (⟨#[32, 111, 108, 100]⟩ : ByteArray).data.toList ((Cn.wsS s).getD 0 ByteArray.empty).data.toList) < 1))) || (decide ((((Cn.wsS s).length : Int) - 1) < 1)))) = true → ((!((((((Cn.wsS s).getD 0 ByteArray.empty).size : Int) != 1) || (decide ((Lib.index (⟨#[32, 111, 108, 100]⟩ : ByteArray).data.toList ((Cn.wsS s).getD 0 ByteArray.empty).data.toList) < 1))) || (decide ((((Cn.wsS s).length : Int) - 1) < 1)))) = true)), ((!((((((Cn.wsS s).getD 0 ByteArray.empty).size : Int) != 1) || (decide ((Lib.index (⟨#[32, 111, 108, 100]⟩ : ByteArray).data.toList ((Cn.wsS s).getD 0 ByteArray.empty).data.toList) < 1))) || (decide ((((Cn.wsS s).length : Int) - 1) < 1)))) = true → ((!((((((Cn.wsS s).getD 0 ByteArray.empty).size : Int) != 1) || (decide ((Lib.index (⟨#[32, 111, 108, 100]⟩ : ByteArray).data.toList ((Cn.wsS s).getD 0 ByteArray.empty).data.toList) < 1))) || (decide ((((Cn.wsS s).length : Int) - 1) < 1)))) = true)), (((((((Cn.wsS s).getD 0 ByteArray.empty).size : Int) != 1) || (decide ((Lib.index (⟨#[32, 111, 108, 100]⟩ : ByteArray).data.toList ((Cn.wsS s).getD 0 ByteArray.empty).data.toList) < 1))) || (decide ((((Cn.wsS s).length : Int) - 1) < 1))) = false → (!((((((Cn.wsS s).getD 0 ByteArray.empty).size : Int) != 1) || (decide ((Lib.index (⟨#[32, 111, 108, 100]⟩ : ByteArray).data.toList ((Cn.wsS s).getD 0 ByteArray.empty).data.toList) < 1))) || (decide ((((Cn.wsS s).length : Int) - 1) < 1)))) = true)] ?_ (Zi (b := ((((((Cn.wsS s).getD 0 ByteArray.empty).size : Int) != 1) || (decide ((Lib.index (⟨#[32, 111, 108, 100]⟩ : ByteArray).data.toList ((Cn.wsS s).getD 0 ByteArray.empty).data.toList) < 1))) || (decide ((((Cn.wsS s).length : Int) - 1) < 1))) || (!(((Cn.wsS s).getD ((((Cn.wsS s).length : Int) - 1).toNat) ByteArray.empty).toList == (⟨#[48]⟩ : ByteArray).toList))) (fun h0 => ?_) fun h0 => ?_)))))))))
  ·
   refine ap ?_ az
   first | omega | exact id | exact vcNot | exact vcG | exact vcH | (intro _; omega) | exact (fun _ h => h) | (intro h; simp at h; omega) | (simp only [List.length_cons, List.length_nil, List.length_append, List.length_map, List.length_set, List.length_replicate]; omega) | (intro h; simp [h]; done) | exact ⟨hm1, rfl⟩ | (constructor <;> omega) | exact (show (4 : Nat) ≤ _ by omega) | (intro h; exact Cn.ws_in h) | (have h8 := hl3 _ (Cn.getD_memS (d := ByteArray.empty) (by omega)); omega) | (have h8 := hwz (by omega); omega) | exact True.intro | (intro _; exact True.intro) | (intro h; exact Cn.fit_may h) | (rw [htk]; simp only [List.length_cons, List.length_nil]; omega) | exact ⟨by omega, by omega, by omega⟩ | done
  ·
   refine ap ?_ az
   first | omega | exact id | exact vcNot | exact vcG | exact vcH | (intro _; omega) | exact (fun _ h => h) | (intro h; simp at h; omega) | (simp only [List.length_cons, List.length_nil, List.length_append, List.length_map, List.length_set, List.length_replicate]; omega) | (intro h; simp [h]; done) | exact ⟨hm1, rfl⟩ | (constructor <;> omega) | exact (show (4 : Nat) ≤ _ by omega) | (intro h; exact Cn.ws_in h) | (have h8 := hl3 _ (Cn.getD_memS (d := ByteArray.empty) (by omega)); omega) | (have h8 := hwz (by omega); omega) | exact True.intro | (intro _; exact True.intro) | (intro h; exact Cn.fit_may h) | (rw [htk]; simp only [List.length_cons, List.length_nil]; omega) | exact ⟨by omega, by omega, by omega⟩ | done
  ·
   refine ap ?_ (ap ?_ az) <;>
    first | omega | exact id | exact vcNot | exact vcG | exact vcH | (intro _; omega) | exact (fun _ h => h) | (intro h; simp at h; omega) | (simp only [List.length_cons, List.length_nil, List.length_append, List.length_map, List.length_set, List.length_replicate]; omega) | (intro h; simp [h]; done) | exact ⟨hm1, rfl⟩ | (constructor <;> omega) | exact (show (4 : Nat) ≤ _ by omega) | (intro h; exact Cn.ws_in h) | (have h8 := hl3 _ (Cn.getD_memS (d := ByteArray.empty) (by omega)); omega) | (have h8 := hwz (by omega); omega) | exact True.intro | (intro _; exact True.intro) | (intro h; exact Cn.fit_may h) | (rw [htk]; simp only [List.length_cons, List.length_nil]; omega) | exact ⟨by omega, by omega, by omega⟩ | done
  ·
   refine ap ?_ (ap ?_ (ap ?_ (ap (by exact vcNot) (ap ?_ (ap (by exact vcNot) (ap ?_ (ap ?_ (ap ?_ (ap ?_ (ap ?_ (ap (by exact vcNot) az))))))))))) <;>
    first | omega | exact id | exact vcNot | exact vcG | exact vcH | (intro _; omega) | exact (fun _ h => h) | (intro h; simp at h; omega) | (simp only [List.length_cons, List.length_nil, List.length_append, List.length_map, List.length_set, List.length_replicate]; omega) | (intro h; simp [h]; done) | exact ⟨hm1, rfl⟩ | (constructor <;> omega) | exact (show (4 : Nat) ≤ _ by omega) | (intro h; exact Cn.ws_in h) | (have h8 := hl3 _ (Cn.getD_memS (d := ByteArray.empty) (by omega)); omega) | (have h8 := hwz (by omega); omega) | exact True.intro | (intro _; exact True.intro) | (intro h; exact Cn.fit_may h) | (rw [htk]; simp only [List.length_cons, List.length_nil]; omega) | exact ⟨by omega, by omega, by omega⟩ | done
  ·
   have hH := Cn.headS_no (Cn.head_is s) h0
   exact Sz hcx [(602, .to 602)] [3] [40, 5, 4] [] (Zr (Fr (Fv 602 1 700 0 (.ints []) (Fn [(602, .to 990), (700, .frz)] [2, 3] (Rv hcx (congrArg AV.tup (consE (congrArg AV.agg (consE (congrArg AV.int (show (Lib.index (⟨#[32, 111, 108, 100]⟩ : ByteArray).data.toList ((Cn.wsS s).getD 0 ByteArray.empty).data.toList) = (Cn.lnK (bytesI s)) from (by first | exact hK | exact Cn.ln_head hH | exact Cn.lnOk_head hH | exact Cn.ln_stop hH (by omega) hok hq | exact Cn.lnOk_stop (by omega) hok hq | exact Cn.ln_all hH (by omega) hok | exact Cn.lnOk_all hH (by omega) hok | done))) (consE (congrArg AV.ints (show [] = (Cn.lnL (bytesI s)) from (by first | exact hK | exact Cn.ln_head hH | exact Cn.lnOk_head hH | exact Cn.ln_stop hH (by omega) hok hq | exact Cn.lnOk_stop (by omega) hok hq | exact Cn.ln_all hH (by omega) hok | exact Cn.lnOk_all hH (by omega) hok | done))) rfl))) (consE (congrArg AV.bool (show false = (Cn.lnOk (bytesI s)) from (by first | exact hK | exact Cn.ln_head hH | exact Cn.lnOk_head hH | exact Cn.ln_stop hH (by omega) hok hq | exact Cn.lnOk_stop (by omega) hok hq | exact Cn.ln_all hH (by omega) hok | exact Cn.lnOk_all hH (by omega) hok | done))) rfl))) [] rfl)))))
  ·
   have hH := Cn.headS_yes (Cn.head_is s) h0
   have hH2 := Cn.headS_two hH
   refine Zk (Ft (Zs (Zs (Zv 602 1 701 3 (.ints []) (Tq hcx [] [44, 45, 46] [40, 5, 4] [] [((0 : Int) ≤ 1 ∧ 1 ≤ (((Cn.wsS s).length : Int) - 1) ∧ (((Cn.wsS s).length : Int) - 1) ≤ ((Cn.wsS s).length : Int))] ?_ (Ft (Zb (Zn [(602, .to 602), (701, .to 701)] [2, 44, 45, 46] (Lp (X := Nat) (fun x0 => x0 ≤ (Cn.mdS s).length ∧ ∀ j, j < x0 → Cn.litW ((Cn.midW (Cn.splitI 32 (bytesI s))).getD j []) = true) (fun x0 => ([(2, .loc 602 0), (44, .strs (Cn.mdS s)), (45, .int ((Cn.mdS s).length : Int)), (46, .int (x0 : Int))], [(602, .box [.int (Lib.index (⟨#[32, 111, 108, 100]⟩ : ByteArray).data.toList ((Cn.wsS s).getD 0 ByteArray.empty).data.toList), .row 701]), (701, .row 3 (.ints (((Cn.midW (Cn.splitI 32 (bytesI s))).take x0).map Cn.numN)))])) (fun x0 => (Cn.mdS s).length - x0) (0) ?_ (Ex 46 (congrArg AV.int (show 0 = (0 : Int) from (by first | rfl | omega | (simp; done)))) Eb) Hb fun i hI => ?_)))))))))
   ·
    refine ap ?_ az
    first | omega | exact id | exact vcNot | exact vcG | exact vcH | (intro _; omega) | exact (fun _ h => h) | (intro h; simp at h; omega) | (simp only [List.length_cons, List.length_nil, List.length_append, List.length_map, List.length_set, List.length_replicate]; omega) | (intro h; simp [h]; done) | exact ⟨hm1, rfl⟩ | (constructor <;> omega) | exact (show (4 : Nat) ≤ _ by omega) | (intro h; exact Cn.ws_in h) | (have h8 := hl3 _ (Cn.getD_memS (d := ByteArray.empty) (by omega)); omega) | (have h8 := hwz (by omega); omega) | exact True.intro | (intro _; exact True.intro) | (intro h; exact Cn.fit_may h) | (rw [htk]; simp only [List.length_cons, List.length_nil]; omega) | exact ⟨by omega, by omega, by omega⟩ | done
   ·
    exact ⟨Nat.zero_le _, fun j hj => by omega⟩
   ·
    try dsimp only at hI
    obtain ⟨hk, hok⟩ := hI
    have hwz := Cn.mid_size (s := s) (i := i)
    have htk := Cn.md_take (s := s) (i := i) (by omega)
    refine Sz hcx [] [47] [] [] (Zs (Zj (p := ((i : Int) < ((Cn.mdS s).length : Int))) (fun h1 => ?_) fun h1 => ?_))
    ·
     refine Zk (Ft (Zs (Zb (Sq hcx [] [7] [47] [] [((0 : Int) ≤ (i : Int) ∧ (i : Int) < ((Cn.mdS s).length : Int))] ?_ (Sq hcx [] [8, 9] [] [] [(((Cn.mdS s).getD i ByteArray.empty).size ≤ 281474976710656)] ?_ (Zs (Sq hcx [] [67] [9, 7] [] [((!((Cn.atoiV ((Cn.mdS s).getD i ByteArray.empty).data.toList).2)) = true → ((!((Cn.atoiV ((Cn.mdS s).getD i ByteArray.empty).data.toList).2)) = true)), ((!((Cn.atoiV ((Cn.mdS s).getD i ByteArray.empty).data.toList).2)) = true → (True)), ((!((Cn.atoiV ((Cn.mdS s).getD i ByteArray.empty).data.toList).2)) = true → ((!((Cn.atoiV ((Cn.mdS s).getD i ByteArray.empty).data.toList).2)) = true)), ((Cn.atoiV ((Cn.mdS s).getD i ByteArray.empty).data.toList).2 = false → (!((Cn.atoiV ((Cn.mdS s).getD i ByteArray.empty).data.toList).2)) = true), ((!(((Cn.atoiV ((Cn.mdS s).getD i ByteArray.empty).data.toList).2) || (!(Cn.mayP ((Cn.atoiV ((Cn.mdS s).getD i ByteArray.empty).data.toList).1) 65536)))) = true → ((!(((Cn.atoiV ((Cn.mdS s).getD i ByteArray.empty).data.toList).2) || (!(Cn.mayP ((Cn.atoiV ((Cn.mdS s).getD i ByteArray.empty).data.toList).1) 65536)))) = true)), ((!(((Cn.atoiV ((Cn.mdS s).getD i ByteArray.empty).data.toList).2) || (!(Cn.mayP ((Cn.atoiV ((Cn.mdS s).getD i ByteArray.empty).data.toList).1) 65536)))) = true → (Fit ((Cn.atoiV ((Cn.mdS s).getD i ByteArray.empty).data.toList).1))), ((!(((Cn.atoiV ((Cn.mdS s).getD i ByteArray.empty).data.toList).2) || (!(Cn.mayP ((Cn.atoiV ((Cn.mdS s).getD i ByteArray.empty).data.toList).1) 65536)))) = true → ((!(((Cn.atoiV ((Cn.mdS s).getD i ByteArray.empty).data.toList).2) || (!(Cn.mayP ((Cn.atoiV ((Cn.mdS s).getD i ByteArray.empty).data.toList).1) 65536)))) = true)), ((!(((Cn.atoiV ((Cn.mdS s).getD i ByteArray.empty).data.toList).2) || (!(Cn.mayP ((Cn.atoiV ((Cn.mdS s).getD i ByteArray.empty).data.toList).1) 65536)))) = true → ((!(((Cn.atoiV ((Cn.mdS s).getD i ByteArray.empty).data.toList).2) || (!(Cn.mayP ((Cn.atoiV ((Cn.mdS s).getD i ByteArray.empty).data.toList).1) 65536)))) = true)), ((((Cn.atoiV ((Cn.mdS s).getD i ByteArray.empty).data.toList).2) || (!(Cn.mayP ((Cn.atoiV ((Cn.mdS s).getD i ByteArray.empty).data.toList).1) 65536))) = false → (!(((Cn.atoiV ((Cn.mdS s).getD i ByteArray.empty).data.toList).2) || (!(Cn.mayP ((Cn.atoiV ((Cn.mdS s).getD i ByteArray.empty).data.toList).1) 65536)))) = true)] ?_ (Zi (b := (((Cn.atoiV ((Cn.mdS s).getD i ByteArray.empty).data.toList).2) || (!(Cn.mayP ((Cn.atoiV ((Cn.mdS s).getD i ByteArray.empty).data.toList).1) 65536))) || (!((strOfNums (Cn.itoaI ((Cn.atoiV ((Cn.mdS s).getD i ByteArray.empty).data.toList).1))).toList == ((Cn.mdS s).getD i ByteArray.empty).toList))) (fun h2 => ?_) fun h2 => ?_))))))))
     ·
      refine ap ?_ az
      first | omega | exact id | exact vcNot | exact vcG | exact vcH | (intro _; omega) | exact (fun _ h => h) | (intro h; simp at h; omega) | (simp only [List.length_cons, List.length_nil, List.length_append, List.length_map, List.length_set, List.length_replicate]; omega) | (intro h; simp [h]; done) | exact ⟨hm1, rfl⟩ | (constructor <;> omega) | exact (show (4 : Nat) ≤ _ by omega) | (intro h; exact Cn.ws_in h) | (have h8 := hl3 _ (Cn.getD_memS (d := ByteArray.empty) (by omega)); omega) | (have h8 := hwz (by omega); omega) | exact True.intro | (intro _; exact True.intro) | (intro h; exact Cn.fit_may h) | (rw [htk]; simp only [List.length_cons, List.length_nil]; omega) | exact ⟨by omega, by omega, by omega⟩ | done
     ·
      refine ap ?_ az
      first | omega | exact id | exact vcNot | exact vcG | exact vcH | (intro _; omega) | exact (fun _ h => h) | (intro h; simp at h; omega) | (simp only [List.length_cons, List.length_nil, List.length_append, List.length_map, List.length_set, List.length_replicate]; omega) | (intro h; simp [h]; done) | exact ⟨hm1, rfl⟩ | (constructor <;> omega) | exact (show (4 : Nat) ≤ _ by omega) | (intro h; exact Cn.ws_in h) | (have h8 := hl3 _ (Cn.getD_memS (d := ByteArray.empty) (by omega)); omega) | (have h8 := hwz (by omega); omega) | exact True.intro | (intro _; exact True.intro) | (intro h; exact Cn.fit_may h) | (rw [htk]; simp only [List.length_cons, List.length_nil]; omega) | exact ⟨by omega, by omega, by omega⟩ | done
     ·
      refine ap ?_ (ap ?_ (ap ?_ (ap (by exact vcNot) (ap ?_ (ap ?_ (ap ?_ (ap ?_ (ap (by exact vcNot) az)))))))) <;>
       first | omega | exact id | exact vcNot | exact vcG | exact vcH | (intro _; omega) | exact (fun _ h => h) | (intro h; simp at h; omega) | (simp only [List.length_cons, List.length_nil, List.length_append, List.length_map, List.length_set, List.length_replicate]; omega) | (intro h; simp [h]; done) | exact ⟨hm1, rfl⟩ | (constructor <;> omega) | exact (show (4 : Nat) ≤ _ by omega) | (intro h; exact Cn.ws_in h) | (have h8 := hl3 _ (Cn.getD_memS (d := ByteArray.empty) (by omega)); omega) | (have h8 := hwz (by omega); omega) | exact True.intro | (intro _; exact True.intro) | (intro h; exact Cn.fit_may h) | (rw [htk]; simp only [List.length_cons, List.length_nil]; omega) | exact ⟨by omega, by omega, by omega⟩ | done
     ·
      have hq := Cn.lit_no h2
      exact Zs (Zn [(602, .to 602), (701, .frz)] [67, 8, 2, 44, 45, 46] (Tz hcx [(602, .to 602)] [3] [67, 8, 44, 45, 46] [] (Ft (Zr (Fr (Fk (Fr (Fr (Fk (Fr (Rv hcx (congrArg AV.tup (consE (congrArg AV.agg (consE (congrArg AV.int (show (Lib.index (⟨#[32, 111, 108, 100]⟩ : ByteArray).data.toList ((Cn.wsS s).getD 0 ByteArray.empty).data.toList) = (Cn.lnK (bytesI s)) from (by first | exact hK | exact Cn.ln_head hH | exact Cn.lnOk_head hH | exact Cn.ln_stop hH (by omega) hok hq | exact Cn.lnOk_stop (by omega) hok hq | exact Cn.ln_all hH (by omega) hok | exact Cn.lnOk_all hH (by omega) hok | done))) (consE (congrArg AV.ints (show (((Cn.midW (Cn.splitI 32 (bytesI s))).take i).map Cn.numN) = (Cn.lnL (bytesI s)) from (by first | exact hK | exact Cn.ln_head hH | exact Cn.lnOk_head hH | exact Cn.ln_stop hH (by omega) hok hq | exact Cn.lnOk_stop (by omega) hok hq | exact Cn.ln_all hH (by omega) hok | exact Cn.lnOk_all hH (by omega) hok | done))) rfl))) (consE (congrArg AV.bool (show false = (Cn.lnOk (bytesI s)) from (by first | exact hK | exact Cn.ln_head hH | exact Cn.lnOk_head hH | exact Cn.ln_stop hH (by omega) hok hq | exact Cn.lnOk_stop (by omega) hok hq | exact Cn.ln_all hH (by omega) hok | exact Cn.lnOk_all hH (by omega) hok | done))) rfl))) [] rfl)))))))))))
     ·
      obtain ⟨hq, hqv⟩ := Cn.lit_yes h2
      refine Zk (Ft (Tq hcx [(602, .to 602), (1004, .to 701)] [] [67, 8] [701] [(((((Cn.midW (Cn.splitI 32 (bytesI s))).take i).map Cn.numN).length + [(Cn.atoiV ((Cn.mdS s).getD i ByteArray.empty).data.toList).1].length) * 8 ≤ 140737488355328)] ?_ (Fb (Ft (Tq hcx [] [46] [] [] [Fit ((i : Int) + 1)] ?_ (Lr (i + 1) ?_ ?_ (Ex 46 (congrArg AV.int (show ((i : Int) + 1) = ((i + 1) : Int) from (by first | rfl | omega | (simp; done)))) Eb) (Hx 701 (congrArg (fun x => AObj.row 3 (.ints x)) (show ((((Cn.midW (Cn.splitI 32 (bytesI s))).take i).map Cn.numN) ++ [(Cn.atoiV ((Cn.mdS s).getD i ByteArray.empty).data.toList).1]) = (((Cn.midW (Cn.splitI 32 (bytesI s))).take (i + 1)).map Cn.numN) from (by exact Cn.mid_next (by omega) hqv))) Hb)))))))
      ·
       refine ap ?_ az
       first | omega | exact id | exact vcNot | exact vcG | exact vcH | (intro _; omega) | exact (fun _ h => h) | (intro h; simp at h; omega) | (simp only [List.length_cons, List.length_nil, List.length_append, List.length_map, List.length_set, List.length_replicate]; omega) | (intro h; simp [h]; done) | exact ⟨hm1, rfl⟩ | (constructor <;> omega) | exact (show (4 : Nat) ≤ _ by omega) | (intro h; exact Cn.ws_in h) | (have h8 := hl3 _ (Cn.getD_memS (d := ByteArray.empty) (by omega)); omega) | (have h8 := hwz (by omega); omega) | exact True.intro | (intro _; exact True.intro) | (intro h; exact Cn.fit_may h) | (rw [htk]; simp only [List.length_cons, List.length_nil]; omega) | exact ⟨by omega, by omega, by omega⟩ | done
      ·
       refine ap ?_ az
       first | omega | exact id | exact vcNot | exact vcG | exact vcH | (intro _; omega) | exact (fun _ h => h) | (intro h; simp at h; omega) | (simp only [List.length_cons, List.length_nil, List.length_append, List.length_map, List.length_set, List.length_replicate]; omega) | (intro h; simp [h]; done) | exact ⟨hm1, rfl⟩ | (constructor <;> omega) | exact (show (4 : Nat) ≤ _ by omega) | (intro h; exact Cn.ws_in h) | (have h8 := hl3 _ (Cn.getD_memS (d := ByteArray.empty) (by omega)); omega) | (have h8 := hwz (by omega); omega) | exact True.intro | (intro _; exact True.intro) | (intro h; exact Cn.fit_may h) | (rw [htk]; simp only [List.length_cons, List.length_nil]; omega) | exact ⟨by omega, by omega, by omega⟩ | done
      ·
       exact ⟨by omega, fun j hj => by rcases (by omega : j < i ∨ j = i) with h | rfl; exact hok j h; exact hq⟩
      ·
       try dsimp only
       omega
    ·
     exact Ze (Fe (Fe (Fs (Ft (Zs (Zn [(602, .to 602), (701, .frz)] [47, 2, 44, 45, 46] (Tz hcx [(602, .to 602)] [3] [47, 44, 45, 46] [] (Ft (Zr (Rv hcx (congrArg AV.tup (consE (congrArg AV.agg (consE (congrArg AV.int (show (Lib.index (⟨#[32, 111, 108, 100]⟩ : ByteArray).data.toList ((Cn.wsS s).getD 0 ByteArray.empty).data.toList) = (Cn.lnK (bytesI s)) from (by first | exact hK | exact Cn.ln_head hH | exact Cn.lnOk_head hH | exact Cn.ln_stop hH (by omega) hok hq | exact Cn.lnOk_stop (by omega) hok hq | exact Cn.ln_all hH (by omega) hok | exact Cn.lnOk_all hH (by omega) hok | done))) (consE (congrArg AV.ints (show (((Cn.midW (Cn.splitI 32 (bytesI s))).take i).map Cn.numN) = (Cn.lnL (bytesI s)) from (by first | exact hK | exact Cn.ln_head hH | exact Cn.lnOk_head hH | exact Cn.ln_stop hH (by omega) hok hq | exact Cn.lnOk_stop (by omega) hok hq | exact Cn.ln_all hH (by omega) hok | exact Cn.lnOk_all hH (by omega) hok | done))) rfl))) (consE (congrArg AV.bool (show true = (Cn.lnOk (bytesI s)) from (by first | exact hK | exact Cn.ln_head hH | exact Cn.lnOk_head hH | exact Cn.ln_stop hH (by omega) hok hq | exact Cn.lnOk_stop (by omega) hok hq | exact Cn.ln_all hH (by omega) hok | exact Cn.lnOk_all hH (by omega) hok | done))) rfl))) [] rfl))))))))))
 ·
  cases hσ
def cx_pGet : Cx := ⟨tyTxt, [(58, pLine_σ), (57, sCut)], true⟩
theorem cx_pGet_ok : CxOk Tryz.prog cx_pGet := cx_ok tyTxt_ok ⟨pLine_sound, sCut_sound, trivial⟩
def pGet_σ : CtF
  | [.im (.ls (.bytes b))], [] => some (b.length ≤ 1000000 ∧ Cn.isBytes b, .tup [.lines ((Cn.getV24 b).1), .int ((Cn.getV24 b).2)], [])
  | _, _ => none
theorem pGet_sound : Sound Tryz.prog 21 pGet_σ := by
 refine Sw (cx := cx_pGet) Tryz.f21 Tryz.func21 ?_
 intro wW wO wβ G0 args os p r outs hσ hp
 have hcx := cx_pGet_ok
 unfold pGet_σ at hσ
 split at hσ
 ·
  rename_i b
  cases hσ
  refine ⟨by kernel_rfl, ?_⟩
  obtain ⟨hm1, hm2⟩ := hp
  refine Sz hcx [] [] [] [] (Zs (Sz hcx [] [12] [] [] (Zj (p := ((b.length : Int) > 4194304)) (fun h0 => ?_) fun h0 => ?_)))
  ·
   omega
  ·
   refine Zk (Ft (Sz hcx [] [4] [12] [] (Zs (Zb (Zw 4 700 43 (.lines []) (Lp (X := List Int × List (Int × List Int)) (fun x0 => x0.1.length + x0.2.length ≤ b.length ∧ Cn.isBytes x0.1 ∧ Cn.getI b x0.2 x0.1) (fun x0 => ([(0, .bytes x0.1), (4, .row 700)], [(700, .row 43 (.lines x0.2))])) (fun x0 => x0.1.length) (b, ([] : List (Int × List Int))) ?_ Eb Hb fun ⟨r, o⟩ hI => ?_))))))
   ·
    try dsimp only
    exact ⟨Nat.le_refl _, hm2, Cn.getI_0 b⟩
   ·
    try dsimp only at hI
    obtain ⟨hl, hb, hG⟩ := hI
    refine Zs (Sz hcx [] [15] [] [] (Zj (p := ((r.length : Int) > 0)) (fun h1 => ?_) fun h1 => ?_))
    ·
     have h15 := h1
     obtain ⟨hc1, hc2, hc3⟩ := Cn.cut_le r
     have hcb := Cn.cut_bytes hb
     have hsz := Cn.str_size (Cn.cutN r).1
     have hbi : (bytesI (strOfNums (Cn.cutN r).1)) = (Cn.cutN r).1 := Cn.bytesI_str hcb.1
     refine Zk (Ft (Zb (Sq hcx [] [5, 6, 7] [15, 0] [] [(0 < r.length ∧ r.length ≤ 1000000 ∧ Cn.isBytes r ∧ [10] = [(10 : Int)])] ?_ (Sq hcx [(1006, .to 608)] [8, 9] [5] [] [((strOfNums ((Cn.cutN r).1)).size ≤ 1000000)] ?_ (Zs (Sq hcx [] [34] [9, 7] [] [((!(!((Cn.cutN r).2.2))) = true → ((!(!((Cn.cutN r).2.2))) = true)), ((!((Cn.cutN r).2.2)) = false → (!(!((Cn.cutN r).2.2))) = true)] ?_ (Zi (b := (!((Cn.cutN r).2.2)) || (!(Cn.lnOk (bytesI (strOfNums ((Cn.cutN r).1)))))) (fun h2 => ?_) fun h2 => ?_)))))))
     ·
      refine ap ?_ az
      first | omega | exact id | exact vcNot | exact vcG | exact vcH | (intro _; omega) | exact (fun _ h => h) | (intro h; simp at h; omega) | (simp only [List.length_cons, List.length_nil, List.length_append, List.length_map, List.length_set, List.length_replicate]; omega) | (intro h; simp [h]; done) | (constructor <;> omega) | exact ⟨by omega, by omega, hb, rfl⟩ | (rw [hsz]; omega) | (simp only [List.length_cons, List.length_nil]; omega) | done
     ·
      refine ap ?_ az
      first | omega | exact id | exact vcNot | exact vcG | exact vcH | (intro _; omega) | exact (fun _ h => h) | (intro h; simp at h; omega) | (simp only [List.length_cons, List.length_nil, List.length_append, List.length_map, List.length_set, List.length_replicate]; omega) | (intro h; simp [h]; done) | (constructor <;> omega) | exact ⟨by omega, by omega, hb, rfl⟩ | (rw [hsz]; omega) | (simp only [List.length_cons, List.length_nil]; omega) | done
     ·
      refine ap ?_ (ap (by exact vcNot) az)
      first | omega | exact id | exact vcNot | exact vcG | exact vcH | (intro _; omega) | exact (fun _ h => h) | (intro h; simp at h; omega) | (simp only [List.length_cons, List.length_nil, List.length_append, List.length_map, List.length_set, List.length_replicate]; omega) | (intro h; simp [h]; done) | (constructor <;> omega) | exact ⟨by omega, by omega, hb, rfl⟩ | (rw [hsz]; omega) | (simp only [List.length_cons, List.length_nil]; omega) | done
     ·
      have h34 := Cn.cg_no h2
      rw [hbi] at h34
      have hg := Cn.getI_no hG (by omega) h34
      exact Sz hcx [] [2, 3] [34, 8, 6, 4] [608, 700] (Zr (Fr (Fk (Fr (Fk (Fr (Fp 2 (.lines []) (Rv hcx (congrArg AV.tup (consE (congrArg AV.lines (show [] = (Cn.getV24 b).1 from (by first | (rw [hg]; done) | (rw [hge]; done) | done))) (consE (congrArg AV.int (show 11 = (Cn.getV24 b).2 from (by first | (rw [hg]; done) | (rw [hge]; done) | done))) rfl))) [] rfl))))))))
     ·
      have h34 := Cn.cg_yes h2
      rw [hbi] at h34
      have hlt := (Cn.cut_lt (Cn.cg_1 h34)).1
      refine Zk (Ft (Tq hcx [(1003, .to 700)] [0, 4] [34, 8, 6] [608, 700] [((o.length + [((Cn.lnK (bytesI (strOfNums ((Cn.cutN r).1)))), (Cn.lnL (bytesI (strOfNums ((Cn.cutN r).1)))))].length) * 32 ≤ 140737488355328)] ?_ (Fb (Lr ((Cn.cutN r).2.1, (o ++ [(Cn.lnK (bytesI (strOfNums (Cn.cutN r).1)), Cn.lnL (bytesI (strOfNums (Cn.cutN r).1)))])) ?_ ?_ Eb Hb))))
      ·
       refine ap ?_ az
       first | omega | exact id | exact vcNot | exact vcG | exact vcH | (intro _; omega) | exact (fun _ h => h) | (intro h; simp at h; omega) | (simp only [List.length_cons, List.length_nil, List.length_append, List.length_map, List.length_set, List.length_replicate]; omega) | (intro h; simp [h]; done) | (constructor <;> omega) | exact ⟨by omega, by omega, hb, rfl⟩ | (rw [hsz]; omega) | (simp only [List.length_cons, List.length_nil]; omega) | done
      ·
       try dsimp only
       exact ⟨by simp only [List.length_append, List.length_cons, List.length_nil]; omega, hcb.2, by rw [hbi]; exact Cn.getI_next hG (by omega) h34⟩
      ·
       show ((Cn.cutN r).2.1).length < r.length
       omega
    ·
     have h15 := h1
     have hge := Cn.getI_end hG (by omega)
     refine Ze (Fe (Fe (Fs (Ft (Zs (Sz hcx [] [42] [15, 0] [] (Zj (p := ((o.length : Int) > 65536)) (fun h3 => ?_) fun h3 => ?_)))))))
     ·
      rw [if_pos (by omega)] at hge
      exact Sz hcx [] [2, 3] [42, 4] [700] (Zr (Fr (Fp 2 (.lines []) (Rv hcx (congrArg AV.tup (consE (congrArg AV.lines (show [] = (Cn.getV24 b).1 from (by first | (rw [hg]; done) | (rw [hge]; done) | done))) (consE (congrArg AV.int (show 2 = (Cn.getV24 b).2 from (by first | (rw [hg]; done) | (rw [hge]; done) | done))) rfl))) [] rfl))))
     ·
      rw [if_neg (by omega)] at hge
      exact Zk (Ft (Zs (Zn [(700, .frz)] [42, 4] (Tz hcx [] [2, 3] [42, 4] [] (Ft (Zr (Rv hcx (congrArg AV.tup (consE (congrArg AV.lines (show o = (Cn.getV24 b).1 from (by first | (rw [hg]; done) | (rw [hge]; done) | done))) (consE (congrArg AV.int (show 0 = (Cn.getV24 b).2 from (by first | (rw [hg]; done) | (rw [hge]; done) | done))) rfl))) [] rfl)))))))
 ·
  cases hσ
end Go.Proofs.YtbpbndlgfiammaaGreatDoor.En
namespace Go.Proofs.YtbpbndlgfiammaaGreatDoor.En
open Go Go.RowKit
def tyLv24 : List (Nat × TD) := [(3, ⟨1, false, [.int .i64 0], [], none, 8, false, 1, 1⟩),
  (4, ⟨1, false, [.bool false], [], none, 1, true, 0, 2⟩),
  (5, ⟨1, false, [.int .u8 0], [], none, 1, false, 2, 8⟩),
  (9, ⟨1, false, [.string ⟨#[]⟩], [], none, 16, false, 9, 9⟩),
  (22, ⟨1, false, [.slice none 0 0], [], some 23, 24, false, 0, 50⟩),
  (23, ⟨1, false, [.slice none 0 0], [], some 3, 24, false, 0, 3⟩),
  (28, ⟨2, true, [.int .i64 0, .slice none 0 0], [(0, 3), (1, 22)], none, 32, false, 0, 6⟩),
  (29, ⟨1, false, [.slice none 0 0], [], some 43, 24, false, 0, 0⟩),
  (31, ⟨1, false, [.int .i64 0], [], none, 8, false, 1, 1⟩),
  (34, ⟨1, false, [.slice none 0 0], [], some 5, 24, false, 0, 0⟩),
  (43, ⟨2, true, [.int .i64 0, .slice none 0 0], [(0, 3), (1, 23)], none, 32, false, 0, 7⟩),
  (45, ⟨1, false, [.slice none 0 0], [], some 4, 24, false, 0, 0⟩)]
theorem tyLv24_ok : AllTy Tryz.prog tyLv24 := ⟨⟨by kernel_rfl, by kernel_rfl, by kernel_rfl⟩, ⟨by kernel_rfl, by kernel_rfl, by kernel_rfl⟩, ⟨by kernel_rfl, by kernel_rfl, by kernel_rfl⟩, ⟨by kernel_rfl, by kernel_rfl, by kernel_rfl⟩, ⟨by kernel_rfl, by kernel_rfl, by kernel_rfl⟩, ⟨by kernel_rfl, by kernel_rfl, by kernel_rfl⟩, ⟨by kernel_rfl, by kernel_rfl, by kernel_rfl⟩, ⟨by kernel_rfl, by kernel_rfl, by kernel_rfl⟩, ⟨by kernel_rfl, by kernel_rfl, by kernel_rfl⟩, ⟨by kernel_rfl, by kernel_rfl, by kernel_rfl⟩, ⟨by kernel_rfl, by kernel_rfl, by kernel_rfl⟩, ⟨by kernel_rfl, by kernel_rfl, by kernel_rfl⟩, trivial⟩
def cx_lFour : Cx := ⟨tyLv24, [], true⟩
theorem cx_lFour_ok : CxOk Tryz.prog cx_lFour := cx_ok tyLv24_ok trivial
def lFour_σ : CtF
  | [], [] => some (True, .row 0, [some (.row 23 (.intss Cn.four4))])
  | _, _ => none
theorem lFour_sound : Sound Tryz.prog 34 lFour_σ := by
 refine Sw (cx := cx_lFour) Tryz.f34 Tryz.func34 ?_
 intro wW wO wβ G0 args os p r outs hσ hp
 have hcx := cx_lFour_ok
 unfold lFour_σ at hσ
 split at hσ
 ·
  cases hσ
  refine ⟨by kernel_rfl, ?_⟩
  exact Sz hcx [] [] [] [] (Sz hcx [(1004, .to 205)] [0] [] [] (Zr (Fn [(205, .to 0)] [0] (Rv hcx rfl [true] (consO (congrArg some (congrArg (fun x => AObj.row 23 (.intss x)) (show [[1, 2], [(-1), 2], [1, (-2)], [(-1), (-2)]] = Cn.four4 from (by rfl)))) rfl)))))
 ·
  cases hσ
def cx_lGiven : Cx := ⟨tyLv24, [], true⟩
theorem cx_lGiven_ok : CxOk Tryz.prog cx_lGiven := cx_ok tyLv24_ok trivial
def lGiven_σ : CtF
  | [.row 0], [.row 23 (.intss c)] => some (c.length ≤ 1000000, .row 1, [some (.row 23 (.intss c)), some (.row 43 (.lines (c.map fun l => ((1 : Int), l))))])
  | _, _ => none
theorem lGiven_sound : Sound Tryz.prog 35 lGiven_σ := by
 refine Sw (cx := cx_lGiven) Tryz.f35 Tryz.func35 ?_
 intro wW wO wβ G0 args os p r outs hσ hp
 have hcx := cx_lGiven_ok
 unfold lGiven_σ at hσ
 split at hσ
 ·
  rename_i c
  cases hσ
  refine ⟨by kernel_rfl, ?_⟩
  have hm1 := hp
  refine Sz hcx [] [] [] [] (Sz hcx [] [3] [] [] (Zs (Sz hcx [] [6, 7, 8] [0] [] (Zb (Zw 3 700 43 (.lines []) (Zn [(0, .to 0), (700, .to 700)] [3, 6, 7, 8] (Lp (X := Nat) (fun x0 => x0 ≤ c.length) (fun x0 => ([(3, .row 700), (6, .row 0), (7, .int (c.length : Int)), (8, .int (x0 : Int))], [(0, .row 23 (.intss c)), (700, .row 43 (.lines ((c.take x0).map fun l => ((1 : Int), l))))])) (fun x0 => c.length - x0) (0) ?_ (Ex 8 (congrArg AV.int (show 0 = (0 : Int) from (by first | rfl | omega | (simp; done)))) Eb) Hb fun i hI => ?_)))))))
  ·
   show 0 ≤ c.length
   omega
  ·
   replace hI : i ≤ c.length := hI
   refine Sz hcx [] [9] [] [] (Zs (Zj (p := ((i : Int) < (c.length : Int))) (fun h0 => ?_) fun h0 => ?_))
   ·
    refine Zk (Ft (Zs (Zb (Sq hcx [] [5] [9] [] [((0 : Int) ≤ (i : Int) ∧ (i : Int) < (c.length : Int)), (i < c.length)] ?_ (Tq hcx [(1004, .to 700)] [3] [5] [700] [((((c.take i).map fun l => ((1 : Int), l)).length + [(1, (c.getD i []))].length) * 32 ≤ 140737488355328)] ?_ (Fb (Ft (Tq hcx [] [8] [] [] [Fit ((i : Int) + 1)] ?_ (Fn [(0, .to 0), (700, .to 700)] [3, 6, 7, 8] (Lr (i + 1) ?_ ?_ (Ex 8 (congrArg AV.int (show ((i : Int) + 1) = ((i + 1) : Int) from (by first | rfl | omega | (simp; done)))) Eb) (Hx 700 (congrArg (fun x => AObj.row 43 (.lines x)) (show (((c.take i).map fun l => ((1 : Int), l)) ++ [(1, (c.getD i []))]) = ((c.take (i + 1)).map fun l => ((1 : Int), l)) from (by exact Cn.given_next (by omega)))) Hb)))))))))))
    ·
     refine ap ?_ (ap ?_ az) <;>
      first | omega | exact id | exact vcNot | exact vcG | exact vcH | (intro _; omega) | exact (fun _ h => h) | (intro h; simp at h; omega) | (simp only [List.length_cons, List.length_nil, List.length_append, List.length_map, List.length_set, List.length_replicate]; omega) | (intro h; simp [h]; done) | (simp only [List.length_cons, List.length_nil, List.length_map, List.length_take]; omega) | done
    ·
     refine ap ?_ az
     first | omega | exact id | exact vcNot | exact vcG | exact vcH | (intro _; omega) | exact (fun _ h => h) | (intro h; simp at h; omega) | (simp only [List.length_cons, List.length_nil, List.length_append, List.length_map, List.length_set, List.length_replicate]; omega) | (intro h; simp [h]; done) | (simp only [List.length_cons, List.length_nil, List.length_map, List.length_take]; omega) | done
    ·
     refine ap ?_ az
     first | omega | exact id | exact vcNot | exact vcG | exact vcH | (intro _; omega) | exact (fun _ h => h) | (intro h; simp at h; omega) | (simp only [List.length_cons, List.length_nil, List.length_append, List.length_map, List.length_set, List.length_replicate]; omega) | (intro h; simp [h]; done) | (simp only [List.length_cons, List.length_nil, List.length_map, List.length_take]; omega) | done
    ·
     show (i + 1) ≤ c.length
     omega
    ·
     show c.length - (i + 1) < c.length - i
     omega
   ·
    exact Ze (Fe (Fe (Fs (Ft (Sz hcx [] [2] [9, 3, 6, 7, 8] [] (Zr (Fn [(0, .to 0), (700, .to 1)] [2] (Rv hcx rfl [true, true] (consO rfl (consO (congrArg some (congrArg (fun x => AObj.row 43 (.lines x)) (show ((c.take i).map fun l => ((1 : Int), l)) = (c.map fun l => ((1 : Int), l)) from (by (rw [show i = c.length by omega, List.take_length]))))) rfl))))))))))
 ·
  cases hσ
attribute [local irreducible] Cn.flwV Cn.chkC Cn.putV Cn.getV24 Cn.frmV
abbrev lvC1 : Bool := ((Cn.flwV ((Cn.four4.take 2).drop 0) [2]) && (!(Cn.flwV Cn.four4 ([] : List (Int)))))
abbrev lvC2 : Bool := (lvC1 && (Cn.flwV (Cn.four4 ++ [[2]]) ([] : List (Int))))
abbrev lvC3 : Bool := (lvC2 && ((Cn.chkC (2 : Int) Cn.four4 ((Cn.four4.map fun l => ((1 : Int), l)) ++ [(2, [2])]) ([] : List (Int))) == 0))
abbrev lvC4 : Bool := (lvC3 && ((Cn.chkC (2 : Int) Cn.four4 ((((Cn.four4.map fun l => ((1 : Int), l)) ++ [(2, [2])]).take 4).drop 0) ([] : List (Int))) == 250))
abbrev lvC5 : Bool := (lvC4 && ((strOfNums (Cn.putV [(1, [1, (-2)])])).toList == (⟨#[111, 32, 49, 32, 45, 50, 32, 48, 10]⟩ : ByteArray).toList))
abbrev lvC6 : Bool := (lvC5 && ((Cn.frmV [(1, [1, (-2)])]) == 0))
abbrev lvC7 : Bool := (lvC6 && ((((Cn.getV24 (Cn.putV [(1, [1, (-2)])])).1).length : Int) == 1))
def cx_live24 : Cx := ⟨tyLv24, [(14, (coeF [.ld (.intss []), .ld (.ints [])] pFlw_σ)), (17, (coeF [.agg [.id, .ld (.intss [])], .ld (.lines []), .ld (.ints [])] pCheck_σ)), (19, (coeF [.ld (.lines [])] pPut_σ)), (21, (coeF [.ld (.bytes [])] pGet_σ)), (34, lFour_σ), (35, lGiven_σ)], true⟩
theorem cx_live24_ok : CxOk Tryz.prog cx_live24 := cx_ok tyLv24_ok ⟨(pFlw_sound.coe [.ld (.intss []), .ld (.ints [])] rfl), (pCheck_sound.coe [.agg [.id, .ld (.intss [])], .ld (.lines []), .ld (.ints [])] rfl), (pPut_sound.coe [.ld (.lines [])] rfl), (pGet_sound.coe [.ld (.bytes [])] rfl), lFour_sound, lGiven_sound, trivial⟩
def live24_σ : CtF
  | [], [] => some (True, .bool true, [])
  | _, _ => none
theorem live24_sound : Sound Tryz.prog 12 live24_σ := by
 refine Sw (cx := cx_live24) Tryz.f12 Tryz.func12 ?_
 intro wW wO wβ G0 args os p r outs hσ hp
 have hcx := cx_live24_ok
 have hmx : Tryz.prog.follows .mixedOrders = true := by kernel_rfl
 unfold live24_σ at hσ
 split at hσ
 ·
  cases hσ
  refine ⟨by kernel_rfl, ?_⟩
  have h1 := Cn.lv24_1
  have h2 := Cn.lv24_2
  have h3 := Cn.lv24_3
  have h4 := Cn.lv24_4
  have h5 := Cn.lv24_5
  have h6 := Cn.lv24_6
  have h7 := Cn.lv24_7
  have h8 := Cn.lv24_8
  refine Sz hcx [] [] [] [] (Sq hcx [(1000, .to 207), (1002, .to 601)] [1] [] [] [(True)] ?_ (Sq hcx [(1005, .to 214)] [2] [] [] [(True), (Cn.four4.length ≤ 1000000), (((Cn.four4.map fun l => ((1 : Int), l)).length + [(2, [2])].length) * 32 ≤ 140737488355328)] ?_ (Zs (Zn [(601, .to 601), (207, .frz), (214, .frz)] [2, 1] (Tq hcx [] [3, 4] [] [] [(Cn.szP [(1, [1, (-2)])] ≤ 1000000000)] ?_ (Ft (Sq hcx [] [5, 6] [] [] [((Cn.putV [(1, [1, (-2)])]).length ≤ 1000000 ∧ Cn.isBytes (Cn.putV [(1, [1, (-2)])]))] ?_ (Sd hcx hmx [0, 1, 0, 7, 15, 31, 63, 127, 255, 511, 1023, 1023, 3071, 8191, 16383, 32767, 65535, 131071, 131071, 524287, 1048575, 2097151, 4194303, 8388607, 8388607, 25165823, 67108863, 134217727, 268435455, 536870911, 1073741823, 2147483647, 4294967295, 8589934591, 17179869183, 34359738367, 68719476735, 137438953471, 274877906943, 549755813887, 1099511627775, 2199023255551, 4398046511103, 8796093022207, 17592186044415, 35184372088831, 70368744177663, 140737488355327] [] [0] [5, 6, 3, 4, 2, 1] [601] [(True), ((0 : Int) ≤ 2 ∧ 2 ≤ (Cn.four4.length : Int)), (((Cn.four4.take 2).drop 0).length ≤ 1000000000 ∧ (∀ x ∈ ((Cn.four4.take 2).drop 0), x.length ≤ maxLen) ∧ [2].length ≤ maxLen), ((Cn.flwV ((Cn.four4.take 2).drop 0) [2]) = true), (True), ((Cn.flwV ((Cn.four4.take 2).drop 0) [2]) = true → (Cn.four4.length ≤ 1000000000 ∧ (∀ x ∈ Cn.four4, x.length ≤ maxLen) ∧ ([] : List (Int)).length ≤ maxLen)), ((Cn.flwV ((Cn.four4.take 2).drop 0) [2]) = true → ((Cn.flwV ((Cn.four4.take 2).drop 0) [2]) = true)), ((Cn.flwV ((Cn.four4.take 2).drop 0) [2]) = true → (Cn.flwV ((Cn.four4.take 2).drop 0) [2]) = true), (lvC1 = true), (True), (lvC1 = true), (lvC1 = true), (lvC1 = true), ((Cn.four4.length + [[2]].length) * 24 ≤ 140737488355328), (lvC1 = true → ((Cn.four4 ++ [[2]]).length ≤ 1000000000 ∧ (∀ x ∈ (Cn.four4 ++ [[2]]), x.length ≤ maxLen) ∧ ([] : List (Int)).length ≤ maxLen)), (lvC1 = true → lvC1 = true), (lvC2 = true → (lvC2 = true)), (lvC2 = true → (lvC2 = true)), (lvC2 = true → (Cn.four4.length ≤ maxLen ∧ (∀ x ∈ Cn.four4, x.length ≤ 1000000000000) ∧ ((Cn.four4.map fun l => ((1 : Int), l)) ++ [(2, [2])]).length ≤ maxLen ∧ (∀ x ∈ ((Cn.four4.map fun l => ((1 : Int), l)) ++ [(2, [2])]), x.2.length ≤ 1000000000000) ∧ ([] : List (Int)).length ≤ 1000000000000)), (lvC2 = true → (lvC2 = true)), (lvC2 = true → lvC2 = true), (lvC3 = true → (lvC3 = true)), (lvC3 = true → ((0 : Int) ≤ 4 ∧ 4 ≤ (((Cn.four4.map fun l => ((1 : Int), l)) ++ [(2, [2])]).length : Int))), (lvC3 = true → (lvC3 = true)), (lvC3 = true → (lvC3 = true)), (lvC3 = true → (Cn.four4.length ≤ maxLen ∧ (∀ x ∈ Cn.four4, x.length ≤ 1000000000000) ∧ ((((Cn.four4.map fun l => ((1 : Int), l)) ++ [(2, [2])]).take 4).drop 0).length ≤ maxLen ∧ (∀ x ∈ ((((Cn.four4.map fun l => ((1 : Int), l)) ++ [(2, [2])]).take 4).drop 0), x.2.length ≤ 1000000000000) ∧ ([] : List (Int)).length ≤ 1000000000000)), (lvC3 = true → (lvC3 = true)), (lvC3 = true → lvC3 = true), (lvC4 = true → (lvC4 = true)), (lvC4 = true → (lvC4 = true)), (lvC4 = true → lvC4 = true), (lvC5 = true → (lvC5 = true)), (lvC5 = true → lvC5 = true), (lvC6 = true → (lvC6 = true)), (lvC6 = true → (lvC6 = true)), (lvC6 = true → lvC6 = true), (lvC7 = true → (lvC7 = true)), (lvC7 = true → lvC7 = true)] ?_ (Zr (Rv hcx (congrArg AV.bool (show (lvC7 && (((Cn.getV24 (Cn.putV [(1, [1, (-2)])])).2) == 0)) = true from (by (simp only [lvC1, lvC2, lvC3, lvC4, lvC5, lvC6, lvC7, h1, h2, h3, h4, h5, h6, h7, h8, Cn.str24]; decide)))) [] rfl))))))))))
  ·
   refine ap ?_ az
   first | exact True.intro | exact (fun h => h) | exact (fun h => (Bool.and_eq_true_iff.1 h).1) | (rw [h7]; exact ⟨by decide, by unfold Cn.isBytes; decide⟩) | (simp only [h1]; done) | (simp only [lvC1, lvC2, lvC3, lvC4, lvC5, lvC6, lvC7, h1, h2, h3, h4, h5, h6]; decide) | decide | (intro _; exact True.intro) | (intro _; rw [h7]; decide) | (intro _; decide) | done
  ·
   refine ap ?_ (ap ?_ (ap ?_ az)) <;>
    first | exact True.intro | exact (fun h => h) | exact (fun h => (Bool.and_eq_true_iff.1 h).1) | (rw [h7]; exact ⟨by decide, by unfold Cn.isBytes; decide⟩) | (simp only [h1]; done) | (simp only [lvC1, lvC2, lvC3, lvC4, lvC5, lvC6, lvC7, h1, h2, h3, h4, h5, h6]; decide) | decide | (intro _; exact True.intro) | (intro _; rw [h7]; decide) | (intro _; decide) | done
  ·
   refine ap ?_ az
   first | exact True.intro | exact (fun h => h) | exact (fun h => (Bool.and_eq_true_iff.1 h).1) | (rw [h7]; exact ⟨by decide, by unfold Cn.isBytes; decide⟩) | (simp only [h1]; done) | (simp only [lvC1, lvC2, lvC3, lvC4, lvC5, lvC6, lvC7, h1, h2, h3, h4, h5, h6]; decide) | decide | (intro _; exact True.intro) | (intro _; rw [h7]; decide) | (intro _; decide) | done
  ·
   refine ap ?_ az
   first | exact True.intro | exact (fun h => h) | exact (fun h => (Bool.and_eq_true_iff.1 h).1) | (rw [h7]; exact ⟨by decide, by unfold Cn.isBytes; decide⟩) | (simp only [h1]; done) | (simp only [lvC1, lvC2, lvC3, lvC4, lvC5, lvC6, lvC7, h1, h2, h3, h4, h5, h6]; decide) | decide | (intro _; exact True.intro) | (intro _; rw [h7]; decide) | (intro _; decide) | done
  ·
   refine ap ?_ (ap ?_ (ap ?_ (ap ?_ (ap ?_ (ap ?_ (ap ?_ (ap (by exact id) (ap ?_ (ap ?_ (ap ?_ (ap ?_ (ap ?_ (ap ?_ (ap ?_ (ap (by exact id) (ap ?_ (ap ?_ (ap ?_ (ap ?_ (ap (by exact id) (ap ?_ (ap ?_ (ap ?_ (ap ?_ (ap ?_ (ap ?_ (ap (by exact id) (ap ?_ (ap ?_ (ap (by exact id) (ap ?_ (ap (by exact id) (ap ?_ (ap ?_ (ap (by exact id) (ap ?_ (ap (by exact id) az))))))))))))))))))))))))))))))))))))) <;>
    first | exact True.intro | exact (fun h => h) | exact (fun h => (Bool.and_eq_true_iff.1 h).1) | (rw [h7]; exact ⟨by decide, by unfold Cn.isBytes; decide⟩) | (simp only [h1]; done) | (simp only [lvC1, lvC2, lvC3, lvC4, lvC5, lvC6, lvC7, h1, h2, h3, h4, h5, h6]; decide) | decide | (intro _; exact True.intro) | (intro _; rw [h7]; decide) | (intro _; decide) | done
 ·
  cases hσ
end Go.Proofs.YtbpbndlgfiammaaGreatDoor.En
namespace Go.Proofs.YtbpbndlgfiammaaGreatDoor.En
open Go Go.RowKit
def tyL24ProofResolved : List (Nat × TD) := [(3, ⟨1, false, [.int .i64 0], [], none, 8, false, 1, 1⟩),
  (22, ⟨1, false, [.slice none 0 0], [], some 23, 24, false, 0, 0⟩),
  (23, ⟨1, false, [.slice none 0 0], [], some 3, 24, false, 0, 3⟩),
  (28, ⟨2, true, [.int .i64 0, .slice none 0 0], [(0, 3), (1, 22)], none, 32, false, 0, 6⟩),
  (31, ⟨1, false, [.int .i64 0], [], none, 8, false, 1, 1⟩),
  (58, ⟨2, true, [.int .i64 0, .slice none 0 0], [(0, 3), (1, 22)], none, 32, false, 0, 6⟩)]
theorem tyL24ProofResolved_ok : AllTy Tryz.prog tyL24ProofResolved := ⟨⟨by kernel_rfl, by kernel_rfl, by kernel_rfl⟩, ⟨by kernel_rfl, by kernel_rfl, by kernel_rfl⟩, ⟨by kernel_rfl, by kernel_rfl, by kernel_rfl⟩, ⟨by kernel_rfl, by kernel_rfl, by kernel_rfl⟩, ⟨by kernel_rfl, by kernel_rfl, by kernel_rfl⟩, ⟨by kernel_rfl, by kernel_rfl, by kernel_rfl⟩, trivial⟩
def cx_lProofResolved : Cx := ⟨tyL24ProofResolved, [(13, (coeF [.ld (.intss []), .id] rFewC_σ)), (14, (coeF [.ld (.intss []), .ld (.ints [])] pFlw_σ)), (12, live24_σ), (27, (coeF [.agg [.id, .ld (.intss [])]] cCheck_σ)), (32, (coeF [.ld (.ints []), .ld (.ints []), .id] cResolve_σ)), (33, (coeF [.agg [.id, .ld (.intss [])], .id] eOutF_σ))], true⟩
theorem cx_lProofResolved_ok : CxOk Tryz.prog cx_lProofResolved := cx_ok tyL24ProofResolved_ok ⟨(rFewC_sound.coe [.ld (.intss []), .id] rfl), (pFlw_sound.coe [.ld (.intss []), .ld (.ints [])] rfl), live24_sound, (cCheck_sound.coe [.agg [.id, .ld (.intss [])]] rfl), (cResolve_sound.coe [.ld (.ints []), .ld (.ints []), .id] rfl), (eOutF_sound.coe [.agg [.id, .ld (.intss [])], .id] rfl), trivial⟩
def lProofResolved_σ : CtF
  | [.agg [.im (.val (.int .i64 N)), .im (.ls (.intss L))], .im (.val (.int .i64 i)), .im (.val (.int .i64 k)), .im (.val (.int .i64 v))], [] => some ((L.length ≤ maxLen ∧ (∀ x ∈ L, x.length ≤ 17592186043904)) ∧ Fit i ∧ Fit k ∧ Fit v, .bool true, [])
  | _, _ => none
theorem lProofResolved_sound : Sound Tryz.prog 11 lProofResolved_σ := by
 refine Sw (cx := cx_lProofResolved) Tryz.f11 Tryz.func11 ?_
 intro wW wO wβ G0 args os p r outs hσ hp
 have hcx := cx_lProofResolved_ok
 have hmx : Tryz.prog.follows .mixedOrders = true := by kernel_rfl
 unfold lProofResolved_σ at hσ
 split at hσ
 ·
  rename_i N L i k v
  cases hσ
  refine ⟨by kernel_rfl, ?_⟩
  obtain ⟨⟨hL, hLm⟩, hfi, hfk, hfv⟩ := hp
  have hL9 := hL
  unfold maxLen at hL9
  have hLm2 : ∀ l ∈ L, l.length ≤ maxLen := fun l hl => by have := hLm l hl; unfold maxLen; omega
  refine Sz hcx [(1000, .frz)] [4] [0] [] (Zs (Sq hcx [] [17] [] [] [(True)] ?_ (Zi (b := !true) (fun h0 => ?_) fun h0 => ?_)))
  ·
   refine ap ?_ az
   first | omega | exact True.intro | exact id | exact (fun _ h => h) | exact ⟨hL, hLm, by decide, by decide⟩ | exact (fun _ => ⟨hL, hLm, by decide, by decide⟩) | exact (fun _ => ⟨hL, hLm2⟩) | exact ⟨by omega, by omega, hfv⟩ | exact ⟨by omega, hl1⟩ | exact (fun _ => ⟨by show (2 : Nat) ≤ _; decide, fun x hx => by rcases List.mem_cons.1 hx with rfl | hx; (unfold maxLen; omega); rw [List.mem_singleton.1 hx]; unfold maxLen; omega, by unfold maxLen; omega⟩) | exact ⟨by omega, hLm2, by have := hxl _ (Cn.getD_memL (d := []) (k := j) (by omega)); unfold maxLen; omega⟩ | (constructor <;> omega) | (intro _; constructor <;> omega) | done
  ·
   cases h0
  ·
   replace h0 := (notB_f h0)
   refine Zk (Ft (Zs (Sq hcx [] [31] [17] [] [(L.length ≤ maxLen ∧ (∀ x ∈ L, x.length ≤ 17592186043904) ∧ 0 ≤ (20 : Int) ∧ (20 : Int) ≤ 1000), ((!(!(Cn.fewC L (20 : Int)))) = true → ((!(!(Cn.fewC L (20 : Int)))) = true)), ((!(!(Cn.fewC L (20 : Int)))) = true → ((!(!(Cn.fewC L (20 : Int)))) = true)), ((!(Cn.fewC L (20 : Int))) = false → (!(!(Cn.fewC L (20 : Int)))) = true), ((!((!(Cn.fewC L (20 : Int))) || (decide (N > 30)))) = true → ((!((!(Cn.fewC L (20 : Int))) || (decide (N > 30)))) = true)), ((!((!(Cn.fewC L (20 : Int))) || (decide (N > 30)))) = true → (L.length ≤ maxLen ∧ ∀ l ∈ L, l.length ≤ maxLen)), ((!((!(Cn.fewC L (20 : Int))) || (decide (N > 30)))) = true → ((!((!(Cn.fewC L (20 : Int))) || (decide (N > 30)))) = true)), (((!(Cn.fewC L (20 : Int))) || (decide (N > 30))) = false → (!((!(Cn.fewC L (20 : Int))) || (decide (N > 30)))) = true)] ?_ (Zi (b := ((!(Cn.fewC L (20 : Int))) || (decide (N > 30))) || ((Cn.chkV N L) != 0)) (fun h1 => ?_) fun h1 => ?_))))
   ·
    refine ap ?_ (ap ?_ (ap ?_ (ap (by exact vcNot) (ap ?_ (ap ?_ (ap ?_ (ap (by exact vcNot) az))))))) <;>
     first | omega | exact True.intro | exact id | exact (fun _ h => h) | exact ⟨hL, hLm, by decide, by decide⟩ | exact (fun _ => ⟨hL, hLm, by decide, by decide⟩) | exact (fun _ => ⟨hL, hLm2⟩) | exact ⟨by omega, by omega, hfv⟩ | exact ⟨by omega, hl1⟩ | exact (fun _ => ⟨by show (2 : Nat) ≤ _; decide, fun x hx => by rcases List.mem_cons.1 hx with rfl | hx; (unfold maxLen; omega); rw [List.mem_singleton.1 hx]; unfold maxLen; omega, by unfold maxLen; omega⟩) | exact ⟨by omega, hLm2, by have := hxl _ (Cn.getD_memL (d := []) (k := j) (by omega)); unfold maxLen; omega⟩ | (constructor <;> omega) | (intro _; constructor <;> omega) | done
   ·
    skip
    exact Sz hcx [] [8] [31, 4, 1, 2, 3] [] (Zr (Fr (Ru hcx [])))
   ·
    obtain ⟨hf1, hN, hck⟩ := Cn.c_resd h1
    obtain ⟨a1, a2, a3⟩ := Cn.fewC_iff hf1
    have hl1 : ∀ l ∈ L, l.length ≤ 1000 := fun l hl => by have := a3 l hl; omega
    have hgl := Cn.getD_len hl1
    have hxl := Cn.ou_len (N := N) (v := v) hl1
    have hxn := Cn.ou_num (N := N) (c := L) (v := v) (by omega)
    refine Zk (Ft (Zs (Sq hcx [] [51] [31] [] [((decide (i ≥ 0)) = true → ((decide (i ≥ 0)) = true)), ((decide (i ≥ 0)) = true → (decide (i ≥ 0)) = true), (((decide (i ≥ 0)) && (decide (k ≥ 0))) = true → (((decide (i ≥ 0)) && (decide (k ≥ 0))) = true)), (((decide (i ≥ 0)) && (decide (k ≥ 0))) = true → (((decide (i ≥ 0)) && (decide (k ≥ 0))) = true)), (((decide (i ≥ 0)) && (decide (k ≥ 0))) = true → (((decide (i ≥ 0)) && (decide (k ≥ 0))) = true)), (((decide (i ≥ 0)) && (decide (k ≥ 0))) = true → (((decide (i ≥ 0)) && (decide (k ≥ 0))) = true)), (((decide (i ≥ 0)) && (decide (k ≥ 0))) = true → ((decide (i ≥ 0)) && (decide (k ≥ 0))) = true), ((((decide (i ≥ 0)) && (decide (k ≥ 0))) && (decide (i < (L.length : Int)))) = true → ((((decide (i ≥ 0)) && (decide (k ≥ 0))) && (decide (i < (L.length : Int)))) = true)), ((((decide (i ≥ 0)) && (decide (k ≥ 0))) && (decide (i < (L.length : Int)))) = true → ((((decide (i ≥ 0)) && (decide (k ≥ 0))) && (decide (i < (L.length : Int)))) = true)), ((((decide (i ≥ 0)) && (decide (k ≥ 0))) && (decide (i < (L.length : Int)))) = true → ((((decide (i ≥ 0)) && (decide (k ≥ 0))) && (decide (i < (L.length : Int)))) = true)), ((((decide (i ≥ 0)) && (decide (k ≥ 0))) && (decide (i < (L.length : Int)))) = true → ((((decide (i ≥ 0)) && (decide (k ≥ 0))) && (decide (i < (L.length : Int)))) = true)), ((((decide (i ≥ 0)) && (decide (k ≥ 0))) && (decide (i < (L.length : Int)))) = true → (((decide (i ≥ 0)) && (decide (k ≥ 0))) && (decide (i < (L.length : Int)))) = true)] ?_ (Zi (b := (((decide (i ≥ 0)) && (decide (k ≥ 0))) && (decide (i < (L.length : Int)))) && (decide (k < (L.length : Int)))) (fun h2 => ?_) fun h2 => ?_))))
    ·
     refine ap ?_ (ap (by exact id) (ap ?_ (ap ?_ (ap ?_ (ap ?_ (ap (by exact id) (ap ?_ (ap ?_ (ap ?_ (ap ?_ (ap (by exact id) az))))))))))) <;>
      first | omega | exact True.intro | exact id | exact (fun _ h => h) | exact ⟨hL, hLm, by decide, by decide⟩ | exact (fun _ => ⟨hL, hLm, by decide, by decide⟩) | exact (fun _ => ⟨hL, hLm2⟩) | exact ⟨by omega, by omega, hfv⟩ | exact ⟨by omega, hl1⟩ | exact (fun _ => ⟨by show (2 : Nat) ≤ _; decide, fun x hx => by rcases List.mem_cons.1 hx with rfl | hx; (unfold maxLen; omega); rw [List.mem_singleton.1 hx]; unfold maxLen; omega, by unfold maxLen; omega⟩) | exact ⟨by omega, hLm2, by have := hxl _ (Cn.getD_memL (d := []) (k := j) (by omega)); unfold maxLen; omega⟩ | (constructor <;> omega) | (intro _; constructor <;> omega) | done
    ·
     obtain ⟨hi0, hk0, hi1, hk1⟩ := Cn.c_ik h2
     have hgi := hgl i.toNat
     have hgk := hgl k.toNat
     have hrl := Cn.resQ_len (L.getD i.toNat []) (L.getD k.toNat []) v
     refine Sd hcx hmx [0, 1, 0, 7, 15, 0, 32, 0, 224, 480, 0, 2047, 4095, 8191, 8191, 16383, 65535] [(1011, .to 264)] [9, 10] [51] [] [((0 : Int) ≤ i ∧ i < (L.length : Int)), ((0 : Int) ≤ k ∧ k < (L.length : Int)), ((L.getD i.toNat []).length ≤ 100000 ∧ (L.getD k.toNat []).length ≤ 100000 ∧ Fit v)] ?_ (Sd hcx hmx [0, 1, 3, 7, 15, 7, 63, 127, 7, 263, 7, 1799, 3847, 8191, 7, 32767, 65535, 131071] [] [84] [9, 10, 1, 2] [264] [(((Cn.resE (L.getD i.toNat []) (L.getD k.toNat []) v) == 0) = true → (((Cn.resE (L.getD i.toNat []) (L.getD k.toNat []) v) == 0) = true)), (((Cn.resE (L.getD i.toNat []) (L.getD k.toNat []) v) == 0) = true → (((Cn.resE (L.getD i.toNat []) (L.getD k.toNat []) v) == 0) = true)), (((Cn.resE (L.getD i.toNat []) (L.getD k.toNat []) v) == 0) = true → (((Cn.resE (L.getD i.toNat []) (L.getD k.toNat []) v) == 0) = true)), (((Cn.resE (L.getD i.toNat []) (L.getD k.toNat []) v) == 0) = true → ((0 : Int) ≤ i ∧ i < (L.length : Int))), (((Cn.resE (L.getD i.toNat []) (L.getD k.toNat []) v) == 0) = true → (((Cn.resE (L.getD i.toNat []) (L.getD k.toNat []) v) == 0) = true)), (((Cn.resE (L.getD i.toNat []) (L.getD k.toNat []) v) == 0) = true → (((Cn.resE (L.getD i.toNat []) (L.getD k.toNat []) v) == 0) = true)), (((Cn.resE (L.getD i.toNat []) (L.getD k.toNat []) v) == 0) = true → (((Cn.resE (L.getD i.toNat []) (L.getD k.toNat []) v) == 0) = true)), (((Cn.resE (L.getD i.toNat []) (L.getD k.toNat []) v) == 0) = true → (((Cn.resE (L.getD i.toNat []) (L.getD k.toNat []) v) == 0) = true)), (((Cn.resE (L.getD i.toNat []) (L.getD k.toNat []) v) == 0) = true → ((0 : Int) ≤ k ∧ k < (L.length : Int))), (((Cn.resE (L.getD i.toNat []) (L.getD k.toNat []) v) == 0) = true → (((Cn.resE (L.getD i.toNat []) (L.getD k.toNat []) v) == 0) = true)), (((Cn.resE (L.getD i.toNat []) (L.getD k.toNat []) v) == 0) = true → (((Cn.resE (L.getD i.toNat []) (L.getD k.toNat []) v) == 0) = true)), (((Cn.resE (L.getD i.toNat []) (L.getD k.toNat []) v) == 0) = true → (((Cn.resE (L.getD i.toNat []) (L.getD k.toNat []) v) == 0) = true)), (((Cn.resE (L.getD i.toNat []) (L.getD k.toNat []) v) == 0) = true → (((Cn.resE (L.getD i.toNat []) (L.getD k.toNat []) v) == 0) = true)), (((Cn.resE (L.getD i.toNat []) (L.getD k.toNat []) v) == 0) = true → (((Cn.resE (L.getD i.toNat []) (L.getD k.toNat []) v) == 0) = true)), (((Cn.resE (L.getD i.toNat []) (L.getD k.toNat []) v) == 0) = true → ([(L.getD i.toNat []), (L.getD k.toNat [])].length ≤ 1000000000 ∧ (∀ x ∈ [(L.getD i.toNat []), (L.getD k.toNat [])], x.length ≤ maxLen) ∧ (Cn.resL (L.getD i.toNat []) (L.getD k.toNat []) v).length ≤ maxLen)), (((Cn.resE (L.getD i.toNat []) (L.getD k.toNat []) v) == 0) = true → (((Cn.resE (L.getD i.toNat []) (L.getD k.toNat []) v) == 0) = true)), (((Cn.resE (L.getD i.toNat []) (L.getD k.toNat []) v) == 0) = true → ((Cn.resE (L.getD i.toNat []) (L.getD k.toNat []) v) == 0) = true)] ?_ (Zi (b := ((Cn.resE (L.getD i.toNat []) (L.getD k.toNat []) v) == 0) && (!(Cn.flwV [(L.getD i.toNat []), (L.getD k.toNat [])] (Cn.resL (L.getD i.toNat []) (L.getD k.toNat []) v)))) (fun h3 => ?_) fun h3 => ?_))
     ·
      refine ap ?_ (ap ?_ (ap ?_ az)) <;>
       first | omega | exact True.intro | exact id | exact (fun _ h => h) | exact ⟨hL, hLm, by decide, by decide⟩ | exact (fun _ => ⟨hL, hLm, by decide, by decide⟩) | exact (fun _ => ⟨hL, hLm2⟩) | exact ⟨by omega, by omega, hfv⟩ | exact ⟨by omega, hl1⟩ | exact (fun _ => ⟨by show (2 : Nat) ≤ _; decide, fun x hx => by rcases List.mem_cons.1 hx with rfl | hx; (unfold maxLen; omega); rw [List.mem_singleton.1 hx]; unfold maxLen; omega, by unfold maxLen; omega⟩) | exact ⟨by omega, hLm2, by have := hxl _ (Cn.getD_memL (d := []) (k := j) (by omega)); unfold maxLen; omega⟩ | (constructor <;> omega) | (intro _; constructor <;> omega) | done
     ·
      refine ap ?_ (ap ?_ (ap ?_ (ap ?_ (ap ?_ (ap ?_ (ap ?_ (ap ?_ (ap ?_ (ap ?_ (ap ?_ (ap ?_ (ap ?_ (ap ?_ (ap ?_ (ap ?_ (ap (by exact id) az)))))))))))))))) <;>
       first | omega | exact True.intro | exact id | exact (fun _ h => h) | exact ⟨hL, hLm, by decide, by decide⟩ | exact (fun _ => ⟨hL, hLm, by decide, by decide⟩) | exact (fun _ => ⟨hL, hLm2⟩) | exact ⟨by omega, by omega, hfv⟩ | exact ⟨by omega, hl1⟩ | exact (fun _ => ⟨by show (2 : Nat) ≤ _; decide, fun x hx => by rcases List.mem_cons.1 hx with rfl | hx; (unfold maxLen; omega); rw [List.mem_singleton.1 hx]; unfold maxLen; omega, by unfold maxLen; omega⟩) | exact ⟨by omega, hLm2, by have := hxl _ (Cn.getD_memL (d := []) (k := j) (by omega)); unfold maxLen; omega⟩ | (constructor <;> omega) | (intro _; constructor <;> omega) | done
     ·
      (exfalso; exact Cn.dead_r1 h3)
     ·
      skip
      refine Zk (Ft (Sq hcx [(1002, .to 288), (1007, .to 611)] [11, 13] [84, 3] [] [(L.length ≤ 10000 ∧ (∀ l ∈ L, l.length ≤ 1000))] ?_ (Zs (Sz hcx [] [93] [13] [] (Zx (a := (Cn.ouE N L v)) (b := 0) (fun h4 => ?_) fun h4 => ?_)))))
      ·
       refine ap ?_ az
       first | omega | exact True.intro | exact id | exact (fun _ h => h) | exact ⟨hL, hLm, by decide, by decide⟩ | exact (fun _ => ⟨hL, hLm, by decide, by decide⟩) | exact (fun _ => ⟨hL, hLm2⟩) | exact ⟨by omega, by omega, hfv⟩ | exact ⟨by omega, hl1⟩ | exact (fun _ => ⟨by show (2 : Nat) ≤ _; decide, fun x hx => by rcases List.mem_cons.1 hx with rfl | hx; (unfold maxLen; omega); rw [List.mem_singleton.1 hx]; unfold maxLen; omega, by unfold maxLen; omega⟩) | exact ⟨by omega, hLm2, by have := hxl _ (Cn.getD_memL (d := []) (k := j) (by omega)); unfold maxLen; omega⟩ | (constructor <;> omega) | (intro _; constructor <;> omega) | done
      ·
       have h93 := h4
       exact Sz hcx [] [8] [93, 11, 4] [288, 611] (Zr (Fr (Rv hcx (congrArg AV.bool (show (((Cn.ouX N L v).length : Int) == 0) = true from (by first | rfl | (rw [Cn.ou_bad h93]; rfl) | done))) [] rfl)))
      ·
       have h93 := h4
       refine Zk (Ft (Zs (Sz hcx [] [99, 100, 101] [93, 11] [611] (Zb (Lp (X := Nat) (fun x0 => x0 ≤ (Cn.ouX N L v).length) (fun x0 => ([(4, .pto [.int N, .ls (.intss L)]), (99, .row 288), (100, .int ((Cn.ouX N L v).length : Int)), (101, .int (x0 : Int))], [(288, .row 23 (.intss (Cn.ouX N L v)))])) (fun x0 => (Cn.ouX N L v).length - x0) (0) ?_ (Ex 101 (congrArg AV.int (show 0 = (0 : Int) from (by first | rfl | omega | (simp; done)))) Eb) Hb fun j hI => ?_)))))
       ·
        show 0 ≤ (Cn.ouX N L v).length
        omega
       ·
        replace hI : j ≤ (Cn.ouX N L v).length := hI
        refine Sz hcx [] [102] [] [] (Zs (Zj (p := ((j : Int) < ((Cn.ouX N L v).length : Int))) (fun h5 => ?_) fun h5 => ?_))
        ·
         refine Zk (Ft (Zs (Zb (Sq hcx [] [15] [102] [] [((0 : Int) ≤ (j : Int) ∧ (j : Int) < ((Cn.ouX N L v).length : Int)), (j < (Cn.ouX N L v).length)] ?_ (Sq hcx [] [109] [15] [] [(L.length ≤ 1000000000 ∧ (∀ x ∈ L, x.length ≤ maxLen) ∧ ((Cn.ouX N L v).getD j []).length ≤ maxLen)] ?_ (Zi (b := !(Cn.flwV L ((Cn.ouX N L v).getD j []))) (fun h6 => ?_) fun h6 => ?_))))))
         ·
          refine ap ?_ (ap ?_ az) <;>
           first | omega | exact True.intro | exact id | exact (fun _ h => h) | exact ⟨hL, hLm, by decide, by decide⟩ | exact (fun _ => ⟨hL, hLm, by decide, by decide⟩) | exact (fun _ => ⟨hL, hLm2⟩) | exact ⟨by omega, by omega, hfv⟩ | exact ⟨by omega, hl1⟩ | exact (fun _ => ⟨by show (2 : Nat) ≤ _; decide, fun x hx => by rcases List.mem_cons.1 hx with rfl | hx; (unfold maxLen; omega); rw [List.mem_singleton.1 hx]; unfold maxLen; omega, by unfold maxLen; omega⟩) | exact ⟨by omega, hLm2, by have := hxl _ (Cn.getD_memL (d := []) (k := j) (by omega)); unfold maxLen; omega⟩ | (constructor <;> omega) | (intro _; constructor <;> omega) | done
         ·
          refine ap ?_ az
          first | omega | exact True.intro | exact id | exact (fun _ h => h) | exact ⟨hL, hLm, by decide, by decide⟩ | exact (fun _ => ⟨hL, hLm, by decide, by decide⟩) | exact (fun _ => ⟨hL, hLm2⟩) | exact ⟨by omega, by omega, hfv⟩ | exact ⟨by omega, hl1⟩ | exact (fun _ => ⟨by show (2 : Nat) ≤ _; decide, fun x hx => by rcases List.mem_cons.1 hx with rfl | hx; (unfold maxLen; omega); rw [List.mem_singleton.1 hx]; unfold maxLen; omega, by unfold maxLen; omega⟩) | exact ⟨by omega, hLm2, by have := hxl _ (Cn.getD_memL (d := []) (k := j) (by omega)); unfold maxLen; omega⟩ | (constructor <;> omega) | (intro _; constructor <;> omega) | done
         ·
          (exfalso; exact Cn.dead_r2 (by omega) h6)
         ·
          skip
          refine Zk (Fb (Ft (Tq hcx [] [101] [109] [] [Fit ((j : Int) + 1)] ?_ (Lr (j + 1) ?_ ?_ (Ex 101 (congrArg AV.int (show ((j : Int) + 1) = ((j + 1) : Int) from (by first | rfl | omega | (simp; done)))) Eb) Hb))))
          ·
           refine ap ?_ az
           first | omega | exact True.intro | exact id | exact (fun _ h => h) | exact ⟨hL, hLm, by decide, by decide⟩ | exact (fun _ => ⟨hL, hLm, by decide, by decide⟩) | exact (fun _ => ⟨hL, hLm2⟩) | exact ⟨by omega, by omega, hfv⟩ | exact ⟨by omega, hl1⟩ | exact (fun _ => ⟨by show (2 : Nat) ≤ _; decide, fun x hx => by rcases List.mem_cons.1 hx with rfl | hx; (unfold maxLen; omega); rw [List.mem_singleton.1 hx]; unfold maxLen; omega, by unfold maxLen; omega⟩) | exact ⟨by omega, hLm2, by have := hxl _ (Cn.getD_memL (d := []) (k := j) (by omega)); unfold maxLen; omega⟩ | (constructor <;> omega) | (intro _; constructor <;> omega) | done
          ·
           show (j + 1) ≤ (Cn.ouX N L v).length
           omega
          ·
           try dsimp only
           omega
        ·
         exact Ze (Fe (Fe (Fs (Ft (Sz hcx [] [8] [102, 4, 99, 100, 101] [288] (Zr (Ru hcx [])))))))
    ·
     skip
     refine Zk (Ft (Sq hcx [(1002, .to 288), (1007, .to 611)] [11, 13] [51, 1, 2, 3] [] [(L.length ≤ 10000 ∧ (∀ l ∈ L, l.length ≤ 1000))] ?_ (Zs (Sz hcx [] [93] [13] [] (Zx (a := (Cn.ouE N L v)) (b := 0) (fun h7 => ?_) fun h7 => ?_)))))
     ·
      refine ap ?_ az
      first | omega | exact True.intro | exact id | exact (fun _ h => h) | exact ⟨hL, hLm, by decide, by decide⟩ | exact (fun _ => ⟨hL, hLm, by decide, by decide⟩) | exact (fun _ => ⟨hL, hLm2⟩) | exact ⟨by omega, by omega, hfv⟩ | exact ⟨by omega, hl1⟩ | exact (fun _ => ⟨by show (2 : Nat) ≤ _; decide, fun x hx => by rcases List.mem_cons.1 hx with rfl | hx; (unfold maxLen; omega); rw [List.mem_singleton.1 hx]; unfold maxLen; omega, by unfold maxLen; omega⟩) | exact ⟨by omega, hLm2, by have := hxl _ (Cn.getD_memL (d := []) (k := j) (by omega)); unfold maxLen; omega⟩ | (constructor <;> omega) | (intro _; constructor <;> omega) | done
     ·
      have h93 := h7
      exact Sz hcx [] [8] [93, 11, 4] [288, 611] (Zr (Fr (Rv hcx (congrArg AV.bool (show (((Cn.ouX N L v).length : Int) == 0) = true from (by first | rfl | (rw [Cn.ou_bad h93]; rfl) | done))) [] rfl)))
     ·
      have h93 := h7
      refine Zk (Ft (Zs (Sz hcx [] [99, 100, 101] [93, 11] [611] (Zb (Lp (X := Nat) (fun x0 => x0 ≤ (Cn.ouX N L v).length) (fun x0 => ([(4, .pto [.int N, .ls (.intss L)]), (99, .row 288), (100, .int ((Cn.ouX N L v).length : Int)), (101, .int (x0 : Int))], [(288, .row 23 (.intss (Cn.ouX N L v)))])) (fun x0 => (Cn.ouX N L v).length - x0) (0) ?_ (Ex 101 (congrArg AV.int (show 0 = (0 : Int) from (by first | rfl | omega | (simp; done)))) Eb) Hb fun j hI => ?_)))))
      ·
       show 0 ≤ (Cn.ouX N L v).length
       omega
      ·
       replace hI : j ≤ (Cn.ouX N L v).length := hI
       refine Sz hcx [] [102] [] [] (Zs (Zj (p := ((j : Int) < ((Cn.ouX N L v).length : Int))) (fun h8 => ?_) fun h8 => ?_))
       ·
        refine Zk (Ft (Zs (Zb (Sq hcx [] [15] [102] [] [((0 : Int) ≤ (j : Int) ∧ (j : Int) < ((Cn.ouX N L v).length : Int)), (j < (Cn.ouX N L v).length)] ?_ (Sq hcx [] [109] [15] [] [(L.length ≤ 1000000000 ∧ (∀ x ∈ L, x.length ≤ maxLen) ∧ ((Cn.ouX N L v).getD j []).length ≤ maxLen)] ?_ (Zi (b := !(Cn.flwV L ((Cn.ouX N L v).getD j []))) (fun h9 => ?_) fun h9 => ?_))))))
        ·
         refine ap ?_ (ap ?_ az) <;>
          first | omega | exact True.intro | exact id | exact (fun _ h => h) | exact ⟨hL, hLm, by decide, by decide⟩ | exact (fun _ => ⟨hL, hLm, by decide, by decide⟩) | exact (fun _ => ⟨hL, hLm2⟩) | exact ⟨by omega, by omega, hfv⟩ | exact ⟨by omega, hl1⟩ | exact (fun _ => ⟨by show (2 : Nat) ≤ _; decide, fun x hx => by rcases List.mem_cons.1 hx with rfl | hx; (unfold maxLen; omega); rw [List.mem_singleton.1 hx]; unfold maxLen; omega, by unfold maxLen; omega⟩) | exact ⟨by omega, hLm2, by have := hxl _ (Cn.getD_memL (d := []) (k := j) (by omega)); unfold maxLen; omega⟩ | (constructor <;> omega) | (intro _; constructor <;> omega) | done
        ·
         refine ap ?_ az
         first | omega | exact True.intro | exact id | exact (fun _ h => h) | exact ⟨hL, hLm, by decide, by decide⟩ | exact (fun _ => ⟨hL, hLm, by decide, by decide⟩) | exact (fun _ => ⟨hL, hLm2⟩) | exact ⟨by omega, by omega, hfv⟩ | exact ⟨by omega, hl1⟩ | exact (fun _ => ⟨by show (2 : Nat) ≤ _; decide, fun x hx => by rcases List.mem_cons.1 hx with rfl | hx; (unfold maxLen; omega); rw [List.mem_singleton.1 hx]; unfold maxLen; omega, by unfold maxLen; omega⟩) | exact ⟨by omega, hLm2, by have := hxl _ (Cn.getD_memL (d := []) (k := j) (by omega)); unfold maxLen; omega⟩ | (constructor <;> omega) | (intro _; constructor <;> omega) | done
        ·
         (exfalso; exact Cn.dead_r2 (by omega) h9)
        ·
         skip
         refine Zk (Fb (Ft (Tq hcx [] [101] [109] [] [Fit ((j : Int) + 1)] ?_ (Lr (j + 1) ?_ ?_ (Ex 101 (congrArg AV.int (show ((j : Int) + 1) = ((j + 1) : Int) from (by first | rfl | omega | (simp; done)))) Eb) Hb))))
         ·
          refine ap ?_ az
          first | omega | exact True.intro | exact id | exact (fun _ h => h) | exact ⟨hL, hLm, by decide, by decide⟩ | exact (fun _ => ⟨hL, hLm, by decide, by decide⟩) | exact (fun _ => ⟨hL, hLm2⟩) | exact ⟨by omega, by omega, hfv⟩ | exact ⟨by omega, hl1⟩ | exact (fun _ => ⟨by show (2 : Nat) ≤ _; decide, fun x hx => by rcases List.mem_cons.1 hx with rfl | hx; (unfold maxLen; omega); rw [List.mem_singleton.1 hx]; unfold maxLen; omega, by unfold maxLen; omega⟩) | exact ⟨by omega, hLm2, by have := hxl _ (Cn.getD_memL (d := []) (k := j) (by omega)); unfold maxLen; omega⟩ | (constructor <;> omega) | (intro _; constructor <;> omega) | done
         ·
          show (j + 1) ≤ (Cn.ouX N L v).length
          omega
         ·
          try dsimp only
          omega
       ·
        exact Ze (Fe (Fe (Fs (Ft (Sz hcx [] [8] [102, 4, 99, 100, 101] [288] (Zr (Ru hcx [])))))))
 ·
  cases hσ
end Go.Proofs.YtbpbndlgfiammaaGreatDoor.En
