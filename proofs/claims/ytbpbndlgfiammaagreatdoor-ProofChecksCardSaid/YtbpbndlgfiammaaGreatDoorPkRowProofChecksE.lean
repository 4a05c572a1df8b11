/- Lemmas and contracts for the row. -/
import Derived.Shelf.Strings.Split
import Derived.Shelf.Strings.Search3
import Derived.Shelf.Strconv.AtoiAll
import Derived.Shelf.Strconv.Itoa4
import Derived.Shelf.Strconv.AppendInt10
import Derived.Shelf.Bytes.SlCut
import Derived.Ground.NamesProg
import Derived.Ground.SlbtProg
import Derived.Test.YtbpbndlgfiammaaGreatDoorProg
import Derived.Lib.DecodeNEq
import Derived.Test.YtbpbndlgfiammaaGreatDoorPkRowProofChecksD
import Derived.Lib.ItoaLen
import Derived.Lib.UnsafeStr
import Derived.Laws.BytesArg
import Derived.Lib.Bytes
import Derived.Lib.RowBridge
import Derived.Test.YtbpbndlgfiammaaGreatDoorPkRowProofChecksC
import Derived.Lib.AtoiAll
import Derived.Lib.CountLaws
import Derived.Lib.SplitLaws
import Derived.Lib.BufferKept
import Derived.Lib.AppendIntMem
set_option linter.unusedVariables false
set_option linter.unusedSimpArgs false
set_option linter.unnecessarySimpa false
namespace Go.Proofs
open Go.Shelf
def Tryz.shSplit_ren : Go.Shelf.Ren := ⟨fun | 146 => 87 | 221 => 117 | 268 => 137 | 138 => 138 | 143 => 88 | 195 => 164 | 197 => 165 | 218 => 166 | 219 => 118 | 260 => 188 | 217 => 139 | 225 => 140 | 224 => 115 | 267 => 141 | 266 => 167 | 314 => 168 | n => n, fun | 9 => 9 | 31 => 105 | 3 => 3 | 4 => 4 | 0 => 0 | 105 => 169 | 21 => 21 | 5 => 5 | 46 => 133 | 119 => 202 | 139 => 205 | 138 => 204 | 146 => 144 | 51 => 143 | n => n, fun | 1 => 0 | 3 => 6 | 4 => 7 | n => n⟩
theorem Tryz.shSplit : Go.Proofs.Lays.n146 Tryz.prog Tryz.shSplit_ren := {
  mixed := by kernel_rfl
  f138 := Tryz.func138.trans (congrArg some (by kernel_rfl))
  f143 := Tryz.func88.trans (congrArg some (by kernel_rfl))
  f146 := Tryz.func87.trans (congrArg some (by kernel_rfl))
  f195 := Tryz.func164.trans (congrArg some (by kernel_rfl))
  f197 := Tryz.func165.trans (congrArg some (by kernel_rfl))
  f217 := Tryz.func139.trans (congrArg some (by kernel_rfl))
  f218 := Tryz.func166.trans (congrArg some (by kernel_rfl))
  f219 := Tryz.func118.trans (congrArg some (by kernel_rfl))
  f221 := Tryz.func117.trans (congrArg some (by kernel_rfl))
  f224 := Tryz.func115.trans (congrArg some (by kernel_rfl))
  f225 := Tryz.func140.trans (congrArg some (by kernel_rfl))
  f260 := Tryz.func188.trans (congrArg some (by kernel_rfl))
  f266 := Tryz.func167.trans (congrArg some (by kernel_rfl))
  f267 := Tryz.func141.trans (congrArg some (by kernel_rfl))
  f268 := Tryz.func137.trans (congrArg some (by kernel_rfl))
  f314 := Tryz.func168.trans (congrArg some (by kernel_rfl))
  t0 := Tryz.underlying0
  a0 := Tryz.isAgg0
  z0 := Tryz.sizeOf0
  v0 := Tryz.zeroValue0
  t3 := Tryz.underlying3
  a3 := Tryz.isAgg3
  z3 := Tryz.sizeOf3
  v3 := Tryz.zeroValue3
  t4 := Tryz.underlying4
  a4 := Tryz.isAgg4
  z4 := Tryz.sizeOf4
  v4 := Tryz.zeroValue4
  t5 := Tryz.underlying5
  a5 := Tryz.isAgg5
  z5 := Tryz.sizeOf5
  v5 := Tryz.zeroValue5
  t9 := Tryz.underlying9
  a9 := Tryz.isAgg9
  z9 := Tryz.sizeOf9
  v9 := Tryz.zeroValue9
  t21 := Tryz.underlying21
  a21 := Tryz.isAgg21
  z21 := Tryz.sizeOf21
  v21 := Tryz.zeroValue21
  t31 := Tryz.underlying105
  a31 := Tryz.isAgg105
  z31 := Tryz.sizeOf105
  v31 := Tryz.zeroValue105
  t46 := Tryz.underlying133
  a46 := Tryz.isAgg133
  z46 := Tryz.sizeOf133
  v46 := Tryz.zeroValue133
  t51 := Tryz.underlying143
  a51 := Tryz.isAgg143
  z51 := Tryz.sizeOf143
  v51 := Tryz.zeroValue143
  t105 := Tryz.underlying169
  a105 := Tryz.isAgg169
  z105 := Tryz.sizeOf169
  v105 := Tryz.zeroValue169
  t119 := Tryz.underlying202
  a119 := Tryz.isAgg202
  z119 := Tryz.sizeOf202
  t138 := Tryz.underlying204
  a138 := Tryz.isAgg204
  z138 := Tryz.sizeOf204
  v138 := Tryz.zeroValue204
  t139 := Tryz.underlying205
  a139 := Tryz.isAgg205
  z139 := Tryz.sizeOf205
  v139 := Tryz.zeroValue205
  t146 := Tryz.underlying144
  a146 := Tryz.isAgg144
  z146 := Tryz.sizeOf144
  v146 := Tryz.zeroValue144
  g1 := by kernel_rfl
  g3 := by kernel_rfl
  g4 := by kernel_rfl }
def Tryz.shIndex_ren : Go.Shelf.Ren := ⟨fun | 143 => 88 | 219 => 118 | 217 => 139 | 225 => 140 | 224 => 115 | 267 => 141 | 266 => 167 | 314 => 168 | n => n, fun | 9 => 9 | 3 => 3 | 4 => 4 | 5 => 5 | 46 => 133 | 146 => 144 | 51 => 143 | n => n, fun | 1 => 0 | n => n⟩
theorem Tryz.shIndex : Go.Proofs.Lays.n143 Tryz.prog Tryz.shIndex_ren := {
  mixed := by kernel_rfl
  f143 := Tryz.func88.trans (congrArg some (by kernel_rfl))
  f217 := Tryz.func139.trans (congrArg some (by kernel_rfl))
  f219 := Tryz.func118.trans (congrArg some (by kernel_rfl))
  f224 := Tryz.func115.trans (congrArg some (by kernel_rfl))
  f225 := Tryz.func140.trans (congrArg some (by kernel_rfl))
  f266 := Tryz.func167.trans (congrArg some (by kernel_rfl))
  f267 := Tryz.func141.trans (congrArg some (by kernel_rfl))
  f314 := Tryz.func168.trans (congrArg some (by kernel_rfl))
  t3 := Tryz.underlying3
  a3 := Tryz.isAgg3
  z3 := Tryz.sizeOf3
  v3 := Tryz.zeroValue3
  t4 := Tryz.underlying4
  a4 := Tryz.isAgg4
  z4 := Tryz.sizeOf4
  v4 := Tryz.zeroValue4
  t5 := Tryz.underlying5
  a5 := Tryz.isAgg5
  z5 := Tryz.sizeOf5
  v5 := Tryz.zeroValue5
  t9 := Tryz.underlying9
  a9 := Tryz.isAgg9
  z9 := Tryz.sizeOf9
  v9 := Tryz.zeroValue9
  t46 := Tryz.underlying133
  a46 := Tryz.isAgg133
  z46 := Tryz.sizeOf133
  v46 := Tryz.zeroValue133
  t51 := Tryz.underlying143
  a51 := Tryz.isAgg143
  z51 := Tryz.sizeOf143
  v51 := Tryz.zeroValue143
  t146 := Tryz.underlying144
  a146 := Tryz.isAgg144
  z146 := Tryz.sizeOf144
  v146 := Tryz.zeroValue144
  g1 := by kernel_rfl }
def Tryz.shAtoi_ren : Go.Shelf.Ren := ⟨fun | 172 => 89 | 244 => 119 | 245 => 120 | 247 => 142 | 279 => 143 | 280 => 144 | 281 => 145 | 282 => 146 | 287 => 169 | 316 => 170 | 171 => 90 | 205 => 171 | 321 => 189 | 322 => 190 | 243 => 121 | 246 => 147 | 283 => 131 | 284 => 132 | 285 => 133 | 286 => 134 | 129 => 157 | 317 => 160 | 318 => 161 | 319 => 162 | 320 => 163 | 337 => 186 | 338 => 187 | n => n, fun | 9 => 9 | 3 => 3 | 75 => 109 | 76 => 110 | 4 => 4 | 5 => 5 | 167 => 148 | 37 => 34 | 0 => 0 | 85 => 149 | 2 => 2 | 168 => 151 | 53 => 128 | 175 => 172 | 46 => 133 | 210 => 176 | 127 => 191 | 145 => 194 | 143 => 192 | 21 => 21 | 171 => 138 | 173 => 141 | 212 => 166 | 51 => 143 | 20 => 20 | 213 => 167 | 232 => 200 | 233 => 201 | 80 => 207 | n => n, fun | 15 => 2 | 16 => 3 | 17 => 1 | 18 => 4 | 19 => 5 | n => n⟩
theorem Tryz.shAtoi : Go.Proofs.LaysC.n172 Tryz.prog Tryz.shAtoi_ren := {
  mixed := by kernel_rfl
  f129 := Tryz.func157.trans (congrArg some (by kernel_rfl))
  f171 := Tryz.func90.trans (congrArg some (by kernel_rfl))
  f172 := Tryz.func89.trans (congrArg some (by kernel_rfl))
  f205 := Tryz.func171.trans (congrArg some (by kernel_rfl))
  f243 := Tryz.func121.trans (congrArg some (by kernel_rfl))
  f244 := Tryz.func119.trans (congrArg some (by kernel_rfl))
  f245 := Tryz.func120.trans (congrArg some (by kernel_rfl))
  f246 := Tryz.func147.trans (congrArg some (by kernel_rfl))
  f247 := Tryz.func142.trans (congrArg some (by kernel_rfl))
  f279 := Tryz.func143.trans (congrArg some (by kernel_rfl))
  f280 := Tryz.func144.trans (congrArg some (by kernel_rfl))
  f281 := Tryz.func145.trans (congrArg some (by kernel_rfl))
  f282 := Tryz.func146.trans (congrArg some (by kernel_rfl))
  f283 := Tryz.func131.trans (congrArg some (by kernel_rfl))
  f284 := Tryz.func132.trans (congrArg some (by kernel_rfl))
  f285 := Tryz.func133.trans (congrArg some (by kernel_rfl))
  f286 := Tryz.func134.trans (congrArg some (by kernel_rfl))
  f287 := Tryz.func169.trans (congrArg some (by kernel_rfl))
  f316 := Tryz.func170.trans (congrArg some (by kernel_rfl))
  f317 := Tryz.func160.trans (congrArg some (by kernel_rfl))
  f318 := Tryz.func161.trans (congrArg some (by kernel_rfl))
  f319 := Tryz.func162.trans (congrArg some (by kernel_rfl))
  f320 := Tryz.func163.trans (congrArg some (by kernel_rfl))
  f321 := Tryz.func189.trans (congrArg some (by kernel_rfl))
  f322 := Tryz.func190.trans (congrArg some (by kernel_rfl))
  f337 := Tryz.func186.trans (congrArg some (by kernel_rfl))
  f338 := Tryz.func187.trans (congrArg some (by kernel_rfl))
  t0 := Tryz.underlying0
  a0 := Tryz.isAgg0
  z0 := Tryz.sizeOf0
  v0 := Tryz.zeroValue0
  t2 := Tryz.underlying2
  a2 := Tryz.isAgg2
  z2 := Tryz.sizeOf2
  v2 := Tryz.zeroValue2
  t3 := Tryz.underlying3
  a3 := Tryz.isAgg3
  z3 := Tryz.sizeOf3
  v3 := Tryz.zeroValue3
  t4 := Tryz.underlying4
  a4 := Tryz.isAgg4
  z4 := Tryz.sizeOf4
  v4 := Tryz.zeroValue4
  t5 := Tryz.underlying5
  a5 := Tryz.isAgg5
  z5 := Tryz.sizeOf5
  v5 := Tryz.zeroValue5
  t9 := Tryz.underlying9
  a9 := Tryz.isAgg9
  z9 := Tryz.sizeOf9
  v9 := Tryz.zeroValue9
  t20 := Tryz.underlying20
  a20 := Tryz.isAgg20
  z20 := Tryz.sizeOf20
  v20 := Tryz.zeroValue20
  t21 := Tryz.underlying21
  a21 := Tryz.isAgg21
  z21 := Tryz.sizeOf21
  v21 := Tryz.zeroValue21
  t37 := Tryz.underlying34
  a37 := Tryz.isAgg34
  z37 := Tryz.sizeOf34
  v37 := Tryz.zeroValue34
  t46 := Tryz.underlying133
  a46 := Tryz.isAgg133
  z46 := Tryz.sizeOf133
  v46 := Tryz.zeroValue133
  t51 := Tryz.underlying143
  a51 := Tryz.isAgg143
  z51 := Tryz.sizeOf143
  v51 := Tryz.zeroValue143
  t53 := Tryz.underlying128
  a53 := Tryz.isAgg128
  z53 := Tryz.sizeOf128
  v53 := Tryz.zeroValue128
  t75 := Tryz.underlying109
  a75 := Tryz.isAgg109
  z75 := Tryz.sizeOf109
  v75 := Tryz.zeroValue109
  t76 := Tryz.underlying110
  a76 := Tryz.isAgg110
  z76 := Tryz.sizeOf110
  v76 := Tryz.zeroValue110
  t85 := Tryz.underlying149
  a85 := Tryz.isAgg149
  z85 := Tryz.sizeOf149
  v85 := Tryz.zeroValue149
  t127 := Tryz.underlying191
  a127 := Tryz.isAgg191
  z127 := Tryz.sizeOf191
  v127 := Tryz.zeroValue191
  t143 := Tryz.underlying192
  a143 := Tryz.isAgg192
  z143 := Tryz.sizeOf192
  v143 := Tryz.zeroValue192
  t145 := Tryz.underlying194
  a145 := Tryz.isAgg194
  z145 := Tryz.sizeOf194
  v145 := Tryz.zeroValue194
  t167 := Tryz.underlying148
  a167 := Tryz.isAgg148
  z167 := Tryz.sizeOf148
  v167 := Tryz.zeroValue148
  t168 := Tryz.underlying151
  a168 := Tryz.isAgg151
  z168 := Tryz.sizeOf151
  v168 := Tryz.zeroValue151
  t171 := Tryz.underlying138
  a171 := Tryz.isAgg138
  z171 := Tryz.sizeOf138
  v171 := Tryz.zeroValue138
  t173 := Tryz.underlying141
  a173 := Tryz.isAgg141
  z173 := Tryz.sizeOf141
  v173 := Tryz.zeroValue141
  t175 := Tryz.underlying172
  a175 := Tryz.isAgg172
  z175 := Tryz.sizeOf172
  v175 := Tryz.zeroValue172
  t210 := Tryz.underlying176
  a210 := Tryz.isAgg176
  z210 := Tryz.sizeOf176
  v210 := Tryz.zeroValue176
  t212 := Tryz.underlying166
  a212 := Tryz.isAgg166
  z212 := Tryz.sizeOf166
  v212 := Tryz.zeroValue166
  t213 := Tryz.underlying167
  a213 := Tryz.isAgg167
  z213 := Tryz.sizeOf167
  t232 := Tryz.underlying200
  a232 := Tryz.isAgg200
  z232 := Tryz.sizeOf200
  v232 := Tryz.zeroValue200
  t233 := Tryz.underlying201
  a233 := Tryz.isAgg201
  z233 := Tryz.sizeOf201
  v233 := Tryz.zeroValue201
  g15 := by kernel_rfl
  g16 := by kernel_rfl
  g17 := by kernel_rfl
  g18 := by kernel_rfl
  g19 := by kernel_rfl
  t80 := Tryz.underlying207
  a80 := Tryz.isAgg207
  z80 := Tryz.sizeOf207
  v80 := Tryz.zeroValue207
  i0 := by kernel_rfl
  i2 := by kernel_rfl
  i3 := by kernel_rfl
  i4 := by kernel_rfl
  i5 := by kernel_rfl
  i9 := by kernel_rfl
  i20 := by kernel_rfl
  i21 := by kernel_rfl
  i37 := by kernel_rfl
  i46 := by kernel_rfl
  i51 := by kernel_rfl
  i53 := by kernel_rfl
  i75 := by kernel_rfl
  i76 := by kernel_rfl
  i80 := by kernel_rfl
  i85 := by kernel_rfl
  i127 := by kernel_rfl
  i143 := by kernel_rfl
  i145 := by kernel_rfl
  i167 := by kernel_rfl
  i168 := by kernel_rfl
  i171 := by kernel_rfl
  i173 := by kernel_rfl
  i175 := by kernel_rfl
  i210 := by kernel_rfl
  i212 := by kernel_rfl
  i232 := by kernel_rfl
  i233 := by kernel_rfl
  m15 := by kernel_rfl
  m16 := by kernel_rfl
  m17 := by kernel_rfl
  m18 := by kernel_rfl
  m19 := by kernel_rfl
  c0 := by kernel_rfl
  c2 := by kernel_rfl
  c3 := by kernel_rfl
  c4 := by kernel_rfl
  c5 := by kernel_rfl
  c9 := by kernel_rfl
  c20 := by kernel_rfl
  c21 := by kernel_rfl
  c37 := by kernel_rfl
  c46 := by kernel_rfl
  c51 := by kernel_rfl
  c53 := by kernel_rfl
  c75 := by kernel_rfl
  c76 := by kernel_rfl
  c80 := by kernel_rfl
  c85 := by kernel_rfl
  c127 := by kernel_rfl
  c143 := by kernel_rfl
  c145 := by kernel_rfl
  c167 := by kernel_rfl
  c168 := by kernel_rfl
  c171 := by kernel_rfl
  c173 := by kernel_rfl
  c175 := by kernel_rfl
  c210 := by kernel_rfl
  c212 := by kernel_rfl
  c213 := by kernel_rfl
  c232 := by kernel_rfl
  c233 := by kernel_rfl }
def Tryz.shItoa_ren : Go.Shelf.Ren := ⟨fun | 171 => 90 | 243 => 121 | 246 => 147 | 283 => 131 | 284 => 132 | 285 => 133 | 286 => 134 | 129 => 157 | 317 => 160 | 318 => 161 | 319 => 162 | 320 => 163 | 337 => 186 | 338 => 187 | n => n, fun | 3 => 3 | 9 => 9 | 2 => 2 | 4 => 4 | 171 => 138 | 0 => 0 | 53 => 128 | 37 => 34 | 5 => 5 | 173 => 141 | 212 => 166 | 51 => 143 | 20 => 20 | 213 => 167 | 46 => 133 | 232 => 200 | 233 => 201 | n => n, fun | 17 => 1 | 18 => 4 | 19 => 5 | n => n⟩
theorem Tryz.shItoa : Go.Proofs.LaysM.n171 Tryz.prog Tryz.shItoa_ren := {
  mixed := by kernel_rfl
  f129 := Tryz.func157.trans (congrArg some (by kernel_rfl))
  f171 := Tryz.func90.trans (congrArg some (by kernel_rfl))
  f243 := Tryz.func121.trans (congrArg some (by kernel_rfl))
  f246 := Tryz.func147.trans (congrArg some (by kernel_rfl))
  f283 := Tryz.func131.trans (congrArg some (by kernel_rfl))
  f284 := Tryz.func132.trans (congrArg some (by kernel_rfl))
  f285 := Tryz.func133.trans (congrArg some (by kernel_rfl))
  f286 := Tryz.func134.trans (congrArg some (by kernel_rfl))
  f317 := Tryz.func160.trans (congrArg some (by kernel_rfl))
  f318 := Tryz.func161.trans (congrArg some (by kernel_rfl))
  f319 := Tryz.func162.trans (congrArg some (by kernel_rfl))
  f320 := Tryz.func163.trans (congrArg some (by kernel_rfl))
  f337 := Tryz.func186.trans (congrArg some (by kernel_rfl))
  f338 := Tryz.func187.trans (congrArg some (by kernel_rfl))
  t0 := Tryz.underlying0
  a0 := Tryz.isAgg0
  z0 := Tryz.sizeOf0
  v0 := Tryz.zeroValue0
  t2 := Tryz.underlying2
  a2 := Tryz.isAgg2
  z2 := Tryz.sizeOf2
  v2 := Tryz.zeroValue2
  t3 := Tryz.underlying3
  a3 := Tryz.isAgg3
  z3 := Tryz.sizeOf3
  v3 := Tryz.zeroValue3
  t4 := Tryz.underlying4
  a4 := Tryz.isAgg4
  z4 := Tryz.sizeOf4
  v4 := Tryz.zeroValue4
  t5 := Tryz.underlying5
  a5 := Tryz.isAgg5
  z5 := Tryz.sizeOf5
  v5 := Tryz.zeroValue5
  t9 := Tryz.underlying9
  a9 := Tryz.isAgg9
  z9 := Tryz.sizeOf9
  v9 := Tryz.zeroValue9
  t20 := Tryz.underlying20
  a20 := Tryz.isAgg20
  z20 := Tryz.sizeOf20
  v20 := Tryz.zeroValue20
  t37 := Tryz.underlying34
  a37 := Tryz.isAgg34
  z37 := Tryz.sizeOf34
  v37 := Tryz.zeroValue34
  t46 := Tryz.underlying133
  a46 := Tryz.isAgg133
  z46 := Tryz.sizeOf133
  v46 := Tryz.zeroValue133
  t51 := Tryz.underlying143
  a51 := Tryz.isAgg143
  z51 := Tryz.sizeOf143
  v51 := Tryz.zeroValue143
  t53 := Tryz.underlying128
  a53 := Tryz.isAgg128
  z53 := Tryz.sizeOf128
  v53 := Tryz.zeroValue128
  t171 := Tryz.underlying138
  a171 := Tryz.isAgg138
  z171 := Tryz.sizeOf138
  v171 := Tryz.zeroValue138
  t173 := Tryz.underlying141
  a173 := Tryz.isAgg141
  z173 := Tryz.sizeOf141
  v173 := Tryz.zeroValue141
  t212 := Tryz.underlying166
  a212 := Tryz.isAgg166
  z212 := Tryz.sizeOf166
  v212 := Tryz.zeroValue166
  t213 := Tryz.underlying167
  a213 := Tryz.isAgg167
  z213 := Tryz.sizeOf167
  t232 := Tryz.underlying200
  a232 := Tryz.isAgg200
  z232 := Tryz.sizeOf200
  v232 := Tryz.zeroValue200
  t233 := Tryz.underlying201
  a233 := Tryz.isAgg201
  z233 := Tryz.sizeOf201
  v233 := Tryz.zeroValue201
  g17 := by kernel_rfl
  g18 := by kernel_rfl
  g19 := by kernel_rfl
  i0 := by kernel_rfl
  i2 := by kernel_rfl
  i3 := by kernel_rfl
  i4 := by kernel_rfl
  i5 := by kernel_rfl
  i9 := by kernel_rfl
  i20 := by kernel_rfl
  i37 := by kernel_rfl
  i46 := by kernel_rfl
  i51 := by kernel_rfl
  i53 := by kernel_rfl
  i171 := by kernel_rfl
  i173 := by kernel_rfl
  i212 := by kernel_rfl
  i232 := by kernel_rfl
  i233 := by kernel_rfl
  m17 := by kernel_rfl
  m18 := by kernel_rfl
  m19 := by kernel_rfl }
def Tryz.shAppU_ren : Go.Shelf.Ren := ⟨fun | 288 => 111 | 283 => 131 | 284 => 132 | 285 => 133 | 286 => 134 | 129 => 157 | 317 => 160 | 318 => 161 | 319 => 162 | 320 => 163 | 337 => 186 | 338 => 187 | n => n, fun | 37 => 34 | 53 => 128 | 3 => 3 | 4 => 4 | 9 => 9 | 171 => 138 | 0 => 0 | 173 => 141 | 212 => 166 | 51 => 143 | 5 => 5 | 20 => 20 | 213 => 167 | 46 => 133 | 232 => 200 | 233 => 201 | n => n, fun | 17 => 1 | 18 => 4 | 19 => 5 | n => n⟩
theorem Tryz.shAppU : Go.Proofs.LaysM.n288 Tryz.prog Tryz.shAppU_ren := {
  mixed := by kernel_rfl
  f129 := Tryz.func157.trans (congrArg some (by kernel_rfl))
  f283 := Tryz.func131.trans (congrArg some (by kernel_rfl))
  f284 := Tryz.func132.trans (congrArg some (by kernel_rfl))
  f285 := Tryz.func133.trans (congrArg some (by kernel_rfl))
  f286 := Tryz.func134.trans (congrArg some (by kernel_rfl))
  f288 := Tryz.func111.trans (congrArg some (by kernel_rfl))
  f317 := Tryz.func160.trans (congrArg some (by kernel_rfl))
  f318 := Tryz.func161.trans (congrArg some (by kernel_rfl))
  f319 := Tryz.func162.trans (congrArg some (by kernel_rfl))
  f320 := Tryz.func163.trans (congrArg some (by kernel_rfl))
  f337 := Tryz.func186.trans (congrArg some (by kernel_rfl))
  f338 := Tryz.func187.trans (congrArg some (by kernel_rfl))
  t0 := Tryz.underlying0
  a0 := Tryz.isAgg0
  z0 := Tryz.sizeOf0
  v0 := Tryz.zeroValue0
  t3 := Tryz.underlying3
  a3 := Tryz.isAgg3
  z3 := Tryz.sizeOf3
  v3 := Tryz.zeroValue3
  t4 := Tryz.underlying4
  a4 := Tryz.isAgg4
  z4 := Tryz.sizeOf4
  v4 := Tryz.zeroValue4
  t5 := Tryz.underlying5
  a5 := Tryz.isAgg5
  z5 := Tryz.sizeOf5
  v5 := Tryz.zeroValue5
  t9 := Tryz.underlying9
  a9 := Tryz.isAgg9
  z9 := Tryz.sizeOf9
  v9 := Tryz.zeroValue9
  t20 := Tryz.underlying20
  a20 := Tryz.isAgg20
  z20 := Tryz.sizeOf20
  v20 := Tryz.zeroValue20
  t37 := Tryz.underlying34
  a37 := Tryz.isAgg34
  z37 := Tryz.sizeOf34
  v37 := Tryz.zeroValue34
  t46 := Tryz.underlying133
  a46 := Tryz.isAgg133
  z46 := Tryz.sizeOf133
  v46 := Tryz.zeroValue133
  t51 := Tryz.underlying143
  a51 := Tryz.isAgg143
  z51 := Tryz.sizeOf143
  v51 := Tryz.zeroValue143
  t53 := Tryz.underlying128
  a53 := Tryz.isAgg128
  z53 := Tryz.sizeOf128
  v53 := Tryz.zeroValue128
  t171 := Tryz.underlying138
  a171 := Tryz.isAgg138
  z171 := Tryz.sizeOf138
  v171 := Tryz.zeroValue138
  t173 := Tryz.underlying141
  a173 := Tryz.isAgg141
  z173 := Tryz.sizeOf141
  v173 := Tryz.zeroValue141
  t212 := Tryz.underlying166
  a212 := Tryz.isAgg166
  z212 := Tryz.sizeOf166
  v212 := Tryz.zeroValue166
  t213 := Tryz.underlying167
  a213 := Tryz.isAgg167
  z213 := Tryz.sizeOf167
  t232 := Tryz.underlying200
  a232 := Tryz.isAgg200
  z232 := Tryz.sizeOf200
  v232 := Tryz.zeroValue200
  t233 := Tryz.underlying201
  a233 := Tryz.isAgg201
  z233 := Tryz.sizeOf201
  v233 := Tryz.zeroValue201
  g17 := by kernel_rfl
  g18 := by kernel_rfl
  g19 := by kernel_rfl
  i0 := by kernel_rfl
  i3 := by kernel_rfl
  i4 := by kernel_rfl
  i5 := by kernel_rfl
  i9 := by kernel_rfl
  i20 := by kernel_rfl
  i37 := by kernel_rfl
  i46 := by kernel_rfl
  i51 := by kernel_rfl
  i53 := by kernel_rfl
  i171 := by kernel_rfl
  i173 := by kernel_rfl
  i212 := by kernel_rfl
  i232 := by kernel_rfl
  i233 := by kernel_rfl
  m17 := by kernel_rfl
  m18 := by kernel_rfl
  m19 := by kernel_rfl }
def Tryz.shCut_ren : Go.Shelf.Ren := ⟨fun | 4 => 57 | 5 => 86 | 6 => 112 | 7 => 113 | 8 => 114 | 9 => 115 | 10 => 116 | 11 => 135 | 12 => 136 | n => n, fun | 22 => 34 | 4 => 4 | 3 => 3 | 0 => 0 | 5 => 5 | 29 => 133 | 9 => 9 | 31 => 144 | 30 => 143 | n => n, fun | 0 => 0 | n => n⟩
theorem Tryz.shCut : Go.Proofs.SlLaysT.n4 Tryz.prog Tryz.shCut_ren := {
  mixed := by kernel_rfl
  f4 := Tryz.func57.trans (congrArg some (by kernel_rfl))
  f5 := Tryz.func86.trans (congrArg some (by kernel_rfl))
  f6 := Tryz.func112.trans (congrArg some (by kernel_rfl))
  f7 := Tryz.func113.trans (congrArg some (by kernel_rfl))
  f8 := Tryz.func114.trans (congrArg some (by kernel_rfl))
  f9 := Tryz.func115.trans (congrArg some (by kernel_rfl))
  f10 := Tryz.func116.trans (congrArg some (by kernel_rfl))
  f11 := Tryz.func135.trans (congrArg some (by kernel_rfl))
  f12 := Tryz.func136.trans (congrArg some (by kernel_rfl))
  t0 := Tryz.underlying0
  a0 := Tryz.isAgg0
  z0 := Tryz.sizeOf0
  v0 := Tryz.zeroValue0
  t3 := Tryz.underlying3
  a3 := Tryz.isAgg3
  z3 := Tryz.sizeOf3
  v3 := Tryz.zeroValue3
  t4 := Tryz.underlying4
  a4 := Tryz.isAgg4
  z4 := Tryz.sizeOf4
  v4 := Tryz.zeroValue4
  t5 := Tryz.underlying5
  a5 := Tryz.isAgg5
  z5 := Tryz.sizeOf5
  v5 := Tryz.zeroValue5
  t9 := Tryz.underlying9
  a9 := Tryz.isAgg9
  z9 := Tryz.sizeOf9
  v9 := Tryz.zeroValue9
  t22 := Tryz.underlying34
  a22 := Tryz.isAgg34
  z22 := Tryz.sizeOf34
  v22 := Tryz.zeroValue34
  t29 := Tryz.underlying133
  a29 := Tryz.isAgg133
  z29 := Tryz.sizeOf133
  v29 := Tryz.zeroValue133
  t30 := Tryz.underlying143
  a30 := Tryz.isAgg143
  z30 := Tryz.sizeOf143
  v30 := Tryz.zeroValue143
  t31 := Tryz.underlying144
  a31 := Tryz.isAgg144
  z31 := Tryz.sizeOf144
  v31 := Tryz.zeroValue144
  g0 := by kernel_rfl }
end Go.Proofs
namespace Go.Proofs.YtbpbndlgfiammaaGreatDoor.Cn
def isBytes (xs : List Int) : Prop := ∀ x ∈ xs, 0 ≤ x ∧ x < 256
end Go.Proofs.YtbpbndlgfiammaaGreatDoor.Cn
namespace Go.Proofs.YtbpbndlgfiammaaGreatDoor.Cn
def itoaI (n : Int) : List Int := (Go.Lib.itoa n).map fun b => (b.toNat : Int)
def bytesC (xs : List Int) : List Value := xs.map (Value.int .u8)
theorem bytesC_itoa (n : Int) : Go.Lib.byteCells (Go.Lib.itoa n) = bytesC (itoaI n) := by simp [Go.Lib.byteCells, bytesC, itoaI, Function.comp_def]
theorem itoa_len {n : Int} (h0 : -9223372036854775808 ≤ n) (h1 : n ≤ 9223372036854775807) : (itoaI n).length ≤ 21 := by
  rw [itoaI, List.length_map]; exact Go.Lib.itoa_length_le n h0 h1
end Go.Proofs.YtbpbndlgfiammaaGreatDoor.Cn
namespace Go.Proofs.YtbpbndlgfiammaaGreatDoor.Cn
def dval (l : List Int) : Int := l.foldl (fun n c => 10 * n + (c - 48)) 0
def isDg (c : Int) : Bool := !(decide (c < 48) || decide (c > 57))
def numM (w : List Int) : Bool := decide ((w.length : Int) > 0) && ((w.getD 0 0) == 45)
def numD (w : List Int) : List Int := bif numM w then (w.take w.length).drop 1 else w
def numBad (w : List Int) : Bool := ((((numD w).length : Int) == 0) || (decide (((numD w).length : Int) > 10))) || ((((numD w).getD 0 0) == 48) && ((numM w) || (decide (((numD w).length : Int) > 1))))
theorem bad_of {w v : List Int} (h : numD w = v) : numBad w = (((((v.length : Int) == 0) || (decide ((v.length : Int) > 10))) || (((v.getD 0 0) == 48) && ((numM w) || (decide ((v.length : Int) > 1)))))) := by unfold numBad; rw [h]
theorem numD_t {w : List Int} (h : numM w = true) : numD w = (w.take w.length).drop 1 := by unfold numD; rw [h]; rfl
theorem numD_f {w : List Int} (h : numM w = false) : numD w = w := by unfold numD; rw [h]; rfl
def numOk (w : List Int) : Bool := !numBad w && (numD w).all isDg
def numN (w : List Int) : Int := bif numOk w then (bif numM w then -(dval (numD w)) else dval (numD w)) else 0
theorem dval_snoc (l : List Int) (c : Int) : dval (l ++ [c]) = 10 * dval l + (c - 48) := by simp [dval]
theorem str_inj {w v : List Int} (hw : isBytes w) (hv : isBytes v) : ((strOfNums w).toList == (strOfNums v).toList) = (w == v) := by
  have hmap : ∀ {w v : List Int}, isBytes w → isBytes v → (w.map fun n => UInt8.ofNat n.toNat) = (v.map fun n => UInt8.ofNat n.toNat) → w = v := by
    intro w
    induction w with
    | nil => intro v _ _ h; cases v <;> simp_all
    | cons x w ih =>
      intro v hw hv h
      cases v with
      | nil => simp at h
      | cons y v =>
        simp only [List.map_cons, List.cons.injEq] at h
        have h1 := hw x (by simp)
        have h2 := hv y (by simp)
        have h3 := congrArg UInt8.toNat h.1
        rw [UInt8.toNat_ofNat', UInt8.toNat_ofNat'] at h3
        rw [show x = y by omega, ih (fun z hz => hw z (by simp [hz])) (fun z hz => hv z (by simp [hz])) h.2]
  have hl : ∀ u : List Int, (strOfNums u).toList = u.map fun n => UInt8.ofNat n.toNat := fun u => by rw [Go.Lib.strOfNums_toList]; rfl
  rw [hl, hl, Bool.eq_iff_iff, beq_iff_eq, beq_iff_eq]
  exact ⟨hmap hw hv, fun h => by rw [h]⟩
end Go.Proofs.YtbpbndlgfiammaaGreatDoor.Cn
namespace Go.Proofs.YtbpbndlgfiammaaGreatDoor.Cn
open Go
end Go.Proofs.YtbpbndlgfiammaaGreatDoor.Cn
namespace Go.Proofs.YtbpbndlgfiammaaGreatDoor.Cn
open Go
theorem is_eq (l n : Int) : ((l != 0) && decide (l ≥ 0 - n) && decide (l ≤ n)) = mayP l n := by unfold mayP; rw [Int.zero_sub]
end Go.Proofs.YtbpbndlgfiammaaGreatDoor.Cn
namespace Go.Proofs.YtbpbndlgfiammaaGreatDoor.Cn
end Go.Proofs.YtbpbndlgfiammaaGreatDoor.Cn
namespace Go.Proofs.YtbpbndlgfiammaaGreatDoor.Cn
end Go.Proofs.YtbpbndlgfiammaaGreatDoor.Cn
namespace Go.Proofs.YtbpbndlgfiammaaGreatDoor.Cn
variable {a b l t : List Int} {w : List Bool} {v x : Int}
end Go.Proofs.YtbpbndlgfiammaaGreatDoor.Cn
namespace Go.Proofs.YtbpbndlgfiammaaGreatDoor.Cn
open Go
def dgs (u : Nat) : List Int := (Go.Lib.decDigits u).map fun b => (b.toNat : Int)
theorem dgs_lo {u : Nat} (h : u < 10) : dgs u = [48 + (u : Int)] := by
  unfold dgs
  rw [Go.Lib.decDigits_one h]
  have : (UInt8.ofNat (48 + u)).toNat = 48 + u := by rw [UInt8.toNat_ofNat']; omega
  simp only [List.map_cons, List.map_nil, this]
  simp
theorem dgs_hi {u : Nat} (h : ¬ u < 10) : dgs u = dgs (u / 10) ++ [48 + ((u % 10 : Nat) : Int)] := by
  unfold dgs
  rw [Go.Lib.decDigits, dif_neg h, List.map_append]
  have : (UInt8.ofNat (48 + u % 10)).toNat = 48 + u % 10 := by rw [UInt8.toNat_ofNat']; omega
  simp only [List.map_cons, List.map_nil, this]
  simp
theorem dgs_all : ∀ (u : Nat), (∀ x ∈ dgs u, 48 ≤ x ∧ x ≤ 57) ∧ dval (dgs u) = (u : Int) ∧ 1 ≤ (dgs u).length ∧ ((dgs u).getD 0 0 = 48 → u = 0) := fun u => by
  induction u using Nat.strongRecOn with
  | _ u ih =>
    by_cases h : u < 10
    · rw [dgs_lo h]
      exact ⟨fun x hx => by rw [List.mem_singleton] at hx; omega, by show 10 * 0 + (48 + (u : Int) - 48) = u; omega, by simp, fun h => by simp at h; omega⟩
    · obtain ⟨h1, h2, h3, h4⟩ := ih (u / 10) (by omega)
      rw [dgs_hi h]
      refine ⟨fun x hx => ?_, ?_, by simp, fun h9 => ?_⟩
      · rcases List.mem_append.1 hx with h9 | h9
        · exact h1 x h9
        · rw [List.mem_singleton] at h9; omega
      · rw [dval_snoc, h2]; omega
      · rw [List.getD_eq_getElem?_getD, List.getElem?_append_left (by omega), ← List.getD_eq_getElem?_getD] at h9
        have := h4 h9
        omega
theorem dgs_len : ∀ (k u : Nat), u < 10 ^ (k + 1) → (dgs u).length ≤ k + 1
  | 0, u, h => by rw [dgs_lo (by simpa using h)]; simp
  | k + 1, u, h => by
    by_cases h9 : u < 10
    · rw [dgs_lo h9]; simp
    · rw [dgs_hi h9, List.length_append]
      have := dgs_len k (u / 10) (by rw [Nat.pow_succ] at h; omega)
      simp; omega
theorem itoa_pos {n : Int} (h : 0 ≤ n) : itoaI n = dgs n.toNat := by unfold itoaI dgs Go.Lib.itoa; rw [if_neg (by omega)]
theorem itoa_neg {n : Int} (h : n < 0) : itoaI n = 45 :: dgs n.natAbs := by unfold itoaI dgs Go.Lib.itoa; rw [if_pos h]; rfl
theorem itoa_mem {n : Int} : ∀ x ∈ itoaI n, x = 45 ∨ (48 ≤ x ∧ x ≤ 57) := fun x hx => by
  by_cases h : n < 0
  · rw [itoa_neg h, List.mem_cons] at hx
    rcases hx with rfl | hx
    · exact .inl rfl
    · exact .inr ((dgs_all _).1 x hx)
  · rw [itoa_pos (by omega)] at hx
    exact .inr ((dgs_all _).1 x hx)
theorem dig_all {u : Nat} : (dgs u).all isDg = true := List.all_eq_true.2 fun x hx => by
  have := (dgs_all u).1 x hx
  unfold isDg
  rw [decide_eq_false (show ¬ x < 48 by omega), decide_eq_false (show ¬ x > 57 by omega)]; rfl
theorem num_itoa {n : Int} (h1 : -65536 ≤ n) (h2 : n ≤ 65536) : numOk (itoaI n) = true ∧ numN (itoaI n) = n := by
  have key : ∀ u : Nat, u ≤ 65536 → (dgs u).length ≤ 5 := fun u hu => dgs_len 4 u (by omega)
  by_cases h : n < 0
  · have hM : numM (itoaI n) = true := by unfold numM; rw [itoa_neg h]; simp
    have hD : numD (itoaI n) = dgs n.natAbs := by rw [numD_t hM, List.take_length, itoa_neg h]; rfl
    obtain ⟨a1, a2, a3, a4⟩ := dgs_all n.natAbs
    have a5 := key n.natAbs (by omega)
    have hB : numBad (itoaI n) = false := by
      rw [bad_of hD, hM, show (((dgs n.natAbs).length : Int) == 0) = false by rw [beq_eq_false_iff_ne]; omega, decide_eq_false (show ¬ ((dgs n.natAbs).length : Int) > 10 by omega), show (((dgs n.natAbs).getD 0 0) == 48) = false by rw [beq_eq_false_iff_ne]; intro e; have := a4 e; omega]
      rfl
    have hO : numOk (itoaI n) = true := by unfold numOk; rw [hB, hD, dig_all]; rfl
    exact ⟨hO, by unfold numN; rw [hO, hM, hD, a2]; show -((n.natAbs : Nat) : Int) = n; omega⟩
  · have e := itoa_pos (n := n) (by omega)
    obtain ⟨a1, a2, a3, a4⟩ := dgs_all n.toNat
    have a5 := key n.toNat (by omega)
    have hM : numM (itoaI n) = false := by
      unfold numM
      rw [e]
      have : (dgs n.toNat).getD 0 0 ∈ dgs n.toNat := getD_memL (by omega)
      have := a1 _ this
      rw [show ((dgs n.toNat).getD 0 0 == 45) = false by rw [beq_eq_false_iff_ne]; omega, Bool.and_false]
    have hD : numD (itoaI n) = dgs n.toNat := by rw [numD_f hM, e]
    have hB : numBad (itoaI n) = false := by
      rw [bad_of hD, hM, show (((dgs n.toNat).length : Int) == 0) = false by rw [beq_eq_false_iff_ne]; omega, decide_eq_false (show ¬ ((dgs n.toNat).length : Int) > 10 by omega)]
      by_cases h0 : (dgs n.toNat).getD 0 0 = 48
      · have := a4 h0
        rw [this, dgs_lo (by omega)]; decide
      · rw [show (((dgs n.toNat).getD 0 0) == 48) = false by rw [beq_eq_false_iff_ne]; exact h0]; rfl
    have hO : numOk (itoaI n) = true := by unfold numOk; rw [hB, hD, dig_all]; rfl
    exact ⟨hO, by unfold numN; rw [hO, hM, hD, a2]; show ((n.toNat : Nat) : Int) = n; omega⟩
end Go.Proofs.YtbpbndlgfiammaaGreatDoor.Cn
namespace Go.Proofs.YtbpbndlgfiammaaGreatDoor.Cn
open Go
end Go.Proofs.YtbpbndlgfiammaaGreatDoor.Cn
namespace Go.Proofs.YtbpbndlgfiammaaGreatDoor.Cn
open Go
end Go.Proofs.YtbpbndlgfiammaaGreatDoor.Cn
namespace Go.Proofs.YtbpbndlgfiammaaGreatDoor.Cn
open Go Go.RowKit En
theorem str_size (a : List Int) : (strOfNums a).size = a.length := by
  show (strOfNums a).data.size = _
  simp [strOfNums]
theorem bytesI_str {a : List Int} (h : isBytes a) : bytesI (strOfNums a) = a := by
  unfold bytesI
  rw [strOfNums_data, List.map_map]
  conv => rhs; rw [← List.map_id a]
  refine List.map_congr_left fun x hx => ?_
  have := h x hx
  show (((UInt8.ofNat x.toNat).toNat : Nat) : Int) = x
  rw [UInt8.toNat_ofNat']
  omega
theorem itoa_bytes (n : Int) : isBytes (itoaI n) := fun x hx => by rcases itoa_mem x hx with h | h <;> omega
section
variable {b : List Int} {i : Nat}
end
end Go.Proofs.YtbpbndlgfiammaaGreatDoor.Cn
namespace Go.Proofs.YtbpbndlgfiammaaGreatDoor.Cn
open Go Go.RowKit En
theorem getD_memS {l : List ByteArray} {i : Nat} {d : ByteArray} (h : i < l.length) : l.getD i d ∈ l := by rw [List.getD_eq_getElem?_getD, List.getElem?_eq_getElem h]; exact List.getElem_mem _
end Go.Proofs.YtbpbndlgfiammaaGreatDoor.Cn
namespace Go.Proofs.YtbpbndlgfiammaaGreatDoor.Cn
open Go Go.RowKit En
variable {W : List (List Int)}
section
variable {Z : List Int} {i : Nat}
end
end Go.Proofs.YtbpbndlgfiammaaGreatDoor.Cn
namespace Go.Proofs.YtbpbndlgfiammaaGreatDoor.Cn
open Go Go.RowKit En
def splitI (c : Int) : List Int → List (List Int)
  | [] => [[]]
  | x :: l => if x = c then [] :: splitI c l else match splitI c l with | w :: ws => (x :: w) :: ws | [] => [[x]]
theorem splitI_ne (c : Int) : ∀ xs : List Int, ∃ w ws, splitI c xs = w :: ws
  | [] => ⟨[], [], rfl⟩
  | x :: l => by
    obtain ⟨w, ws, e⟩ := splitI_ne c l
    unfold splitI
    split
    · exact ⟨[], _, rfl⟩
    · rw [e]; exact ⟨x :: w, ws, rfl⟩
theorem splitI_miss {c : Int} : ∀ {xs : List Int}, c ∉ xs → splitI c xs = [xs]
  | [], _ => rfl
  | x :: l, h => by
    have h1 : ¬ x = c := fun e => h (by rw [e]; exact List.mem_cons_self)
    unfold splitI
    rw [if_neg h1, splitI_miss (fun e => h (List.mem_cons_of_mem _ e))]
theorem splitI_hit {c : Int} {r : List Int} : ∀ {a : List Int}, c ∉ a → splitI c (a ++ c :: r) = a :: splitI c r
  | [], _ => by simp [splitI]
  | x :: a, h => by
    have h1 : ¬ x = c := fun e => h (by rw [e]; exact List.mem_cons_self)
    rw [List.cons_append]
    conv => lhs; unfold splitI
    rw [if_neg h1, splitI_hit (fun e => h (List.mem_cons_of_mem _ e))]
theorem splitI_mem {c : Int} : ∀ {xs w : List Int}, w ∈ splitI c xs → ∀ x ∈ w, x ∈ xs
  | [], w, h, x, hx => by simp [splitI] at h; subst h; cases hx
  | y :: l, w, h, x, hx => by
    unfold splitI at h
    obtain ⟨v, vs, e⟩ := splitI_ne c l
    split at h
    · rcases List.mem_cons.1 h with h | h
      · subst h; cases hx
      · exact List.mem_cons_of_mem _ (splitI_mem h x hx)
    · rw [e] at h
      rcases List.mem_cons.1 h with h | h
      · subst h
        rcases List.mem_cons.1 hx with h | h
        · rw [h]; exact List.mem_cons_self
        · exact List.mem_cons_of_mem _ (splitI_mem (c := c) (xs := l) (w := v) (by rw [e]; exact List.mem_cons_self) x h)
      · exact List.mem_cons_of_mem _ (splitI_mem (c := c) (xs := l) (w := w) (by rw [e]; exact List.mem_cons_of_mem _ h) x hx)
theorem splitI_len (c : Int) : ∀ xs : List Int, (splitI c xs).length ≤ xs.length + 1 ∧ ∀ w ∈ splitI c xs, w.length ≤ xs.length
  | [] => by simp [splitI]
  | x :: l => by
    obtain ⟨h1, h2⟩ := splitI_len c l
    obtain ⟨v, vs, e⟩ := splitI_ne c l
    unfold splitI
    split
    · refine ⟨by simp; omega, fun w hw => ?_⟩
      rcases List.mem_cons.1 hw with h | h
      · subst h; simp
      · have := h2 w h; simp; omega
    · rw [e] at h1 h2 ⊢
      simp only [List.length_cons] at h1 ⊢
      refine ⟨by omega, fun w hw => ?_⟩
      rcases List.mem_cons.1 hw with h | h
      · have := h2 v List.mem_cons_self; subst h; simp; omega
      · have := h2 w (List.mem_cons_of_mem _ h); omega
theorem index_one (c : UInt8) : ∀ l : List UInt8, (Lib.index l [c] = -1 ∧ c ∉ l) ∨ ∃ a r, l = a ++ c :: r ∧ c ∉ a ∧ Lib.index l [c] = a.length
  | [] => .inl ⟨rfl, by simp⟩
  | b :: l => by
    unfold Lib.index
    by_cases h : c = b
    · subst h
      exact .inr ⟨[], l, rfl, by simp, by simp [List.isPrefixOf]⟩
    · have hp : [c].isPrefixOf (b :: l) = false := by simp [List.isPrefixOf, h]
      rw [hp]
      simp only [Bool.false_eq_true, if_false]
      rcases index_one c l with ⟨h1, h2⟩ | ⟨a, r, h1, h2, h3⟩
      · exact .inl ⟨by rw [h1]; rfl, by simp [h, h2]⟩
      · refine .inr ⟨b :: a, r, by rw [h1]; rfl, by simp [h, h2], ?_⟩
        rw [h3]
        have : ((a.length : Int) == -1) = false := by rw [beq_eq_false_iff_ne]; omega
        rw [this]; simp
theorem ba_ext {a b : ByteArray} (h : a.data.toList = b.data.toList) : a = b := by
  cases a; cases b; simp at h; simp; exact h
theorem bytesI_inj {a b : ByteArray} (h : bytesI a = bytesI b) : a = b := by
  refine ba_ext ?_
  unfold bytesI at h
  exact (List.map_inj_right (fun x y e => UInt8.toNat_inj.1 (by omega))).1 h
theorem bytes_is (z : ByteArray) : isBytes (bytesI z) := fun x hx => by
  unfold bytesI at hx
  obtain ⟨b, _, rfl⟩ := List.mem_map.1 hx
  have := b.toNat_lt
  omega
theorem str_bytesI (z : ByteArray) : strOfNums (bytesI z) = z := bytesI_inj (bytesI_str (bytes_is z))
theorem bytesI_take (z : ByteArray) (i : Nat) : bytesI (z.extract 0 i) = (bytesI z).take i := by
  unfold bytesI
  rw [← List.map_take]
  congr 1
  simp
theorem bytesI_dropN (z : ByteArray) (i : Nat) : bytesI (z.extract i z.size) = (bytesI z).drop i := by
  unfold bytesI
  rw [← List.map_drop]
  congr 1
  rw [ByteArray.data_extract, Array.toList_extract]
  show (z.data.toList.extract i z.data.size) = _
  rw [List.extract_eq_take_drop, List.take_of_length_le (by rw [List.length_drop, Array.length_toList]; exact Nat.le_refl _)]
theorem split_is : ∀ (k : Nat) (s : ByteArray), s.size ≤ k → Lib.splitB ⟨#[32]⟩ 0 (Lib.countB s ⟨#[32]⟩) s = (splitI 32 (bytesI s)).map strOfNums := by
  intro k
  induction k with
  | zero =>
    intro s hs
    have h0 : s.data.toList = [] := List.eq_nil_of_length_eq_zero (by rw [Array.length_toList]; exact Nat.le_zero.1 hs)
    have hm : Lib.indexB s ⟨#[32]⟩ = -1 := by show Lib.index s.data.toList _ = _; rw [h0]; rfl
    rw [Lib.countB_miss _ _ hm, Lib.splitB_zero]
    have hb : bytesI s = [] := by unfold bytesI; rw [h0]; rfl
    rw [hb]
    show [s] = [strOfNums []]
    rw [← hb, str_bytesI]
  | succ k ih =>
    intro s hs
    rcases index_one 32 s.data.toList with ⟨h1, h2⟩ | ⟨a, r, h1, h2, h3⟩
    · have hm : Lib.indexB s ⟨#[32]⟩ = -1 := h1
      rw [Lib.countB_miss _ _ hm, Lib.splitB_zero, splitI_miss, List.map_singleton, str_bytesI]
      intro hc
      unfold bytesI at hc
      obtain ⟨b, hb, e⟩ := List.mem_map.1 hc
      exact h2 (by have : b = 32 := UInt8.toNat_inj.1 (by show b.toNat = 32; omega); rw [← this]; exact hb)
    · have hm : Lib.indexB s ⟨#[32]⟩ = (a.length : Nat) := h3
      rw [Lib.countB_hit s _ a.length (by decide) hm, Nat.add_comm 1, Lib.splitB_hit _ _ _ _ _ hm]
      have hsz : s.size = a.length + 1 + r.length := by
        have := congrArg List.length h1
        rw [Array.length_toList] at this
        have h5 : s.data.size = s.size := rfl
        simp at this; omega
      have hlt : (s.extract (a.length + 1) s.size).size ≤ k := by rw [ByteArray.size_extract]; omega
      have e1 : (⟨#[32]⟩ : ByteArray).size = 1 := rfl
      rw [e1, ih _ hlt, bytesI_dropN]
      have hbs : bytesI s = (a.map fun b => (b.toNat : Int)) ++ 32 :: (r.map fun b => (b.toNat : Int)) := by unfold bytesI; rw [h1]; simp
      have hla : (a.map fun b => (b.toNat : Int)).length = a.length := List.length_map ..
      have hna : (32 : Int) ∉ a.map fun b => (b.toNat : Int) := fun hc => by
        obtain ⟨b, hb, e⟩ := List.mem_map.1 hc
        exact h2 (by have : b = 32 := UInt8.toNat_inj.1 (by show b.toNat = 32; omega); rw [← this]; exact hb)
      have hd : (bytesI s).drop (a.length + 1) = r.map fun b => (b.toNat : Int) := by
        rw [hbs, ← hla, List.drop_append, List.drop_eq_nil_of_le (by omega)]
        simp
      have ht : (bytesI s).take a.length = a.map fun b => (b.toNat : Int) := by rw [hbs, ← hla, List.take_left']; rfl
      rw [hd, hbs, splitI_hit hna, List.map_cons]
      congr 1
      rw [← str_bytesI (s.extract 0 (a.length + 0)), bytesI_take, Nat.add_zero, ht]
def litW (w : List Int) : Bool := mayP (numN w) 65536 && itoaI (numN w) == w
theorem litW_of {w : List Int} {x : Int} (hx : mayP x 65536 = true) (h : itoaI x = w) : litW w = true ∧ numN w = x := by
  have hb := mayP_iff.1 hx
  have hn : numN w = x := by rw [← h]; exact (num_itoa hb.2.1 hb.2.2).2
  refine ⟨?_, hn⟩
  unfold litW
  rw [hn, hx, h]; simp
theorem parse_app : ∀ (l m : List UInt8) (acc a : Nat), Lib.parseUint10 acc l = .ok a → Lib.parseUint10 acc (l ++ m) = Lib.parseUint10 a m
  | [], m, acc, a, h => by simp only [Lib.parseUint10] at h; cases h; rfl
  | c :: l, m, acc, a, h => by
    rw [List.cons_append]
    simp only [Lib.parseUint10] at h ⊢
    by_cases h1 : 48 ≤ c.toNat ∧ c.toNat ≤ 57
    · rw [if_pos h1] at h ⊢
      by_cases h2 : 1844674407370955162 ≤ acc
      · rw [if_pos h2] at h; cases h
      · rw [if_neg h2] at h ⊢
        by_cases h3 : 18446744073709551616 ≤ acc * 10 + (c.toNat - 48)
        · rw [if_pos h3] at h; cases h
        · rw [if_neg h3] at h ⊢
          exact parse_app l m _ a h
    · rw [if_neg h1] at h; cases h
theorem parse_dig {a d : Nat} (hd : d < 10) (ha : a * 10 + d < 18446744073709551610) : Lib.parseUint10 a [UInt8.ofNat (48 + d)] = .ok (a * 10 + d) := by
  have hc : (UInt8.ofNat (48 + d)).toNat = 48 + d := by rw [UInt8.toNat_ofNat']; omega
  unfold Lib.parseUint10
  rw [if_pos (by rw [hc]; omega), if_neg (by omega), if_neg (by rw [hc]; omega), hc, show 48 + d - 48 = d by omega]
  rfl
theorem parse_dec (u : Nat) : u < 18446744073709551610 → Lib.parseUint10 0 (Lib.decDigits u) = .ok u := by
  induction u using Nat.strongRecOn with
  | _ u ih =>
    intro hu
    by_cases h : u < 10
    · rw [Lib.decDigits_one h, parse_dig h (by omega), Nat.zero_mul, Nat.zero_add]
    · rw [Lib.decDigits, dif_neg h, parse_app _ _ _ _ (ih (u / 10) (by omega) (by omega)), parse_dig (by omega) (by omega)]
      rw [show u / 10 * 10 + u % 10 = u by omega]
theorem dec_ne (u : Nat) : Lib.decDigits u ≠ [] := fun e => by
  have := (dgs_all u).2.2.1
  unfold dgs at this
  rw [e] at this; simp at this
theorem dec_first (u : Nat) {c : UInt8} {r : List UInt8} (h : Lib.decDigits u = c :: r) : 48 ≤ c.toNat ∧ c.toNat ≤ 57 := by
  have := (dgs_all u).1 (c.toNat : Int) (by unfold dgs; rw [h]; simp)
  omega
theorem atoi_itoa {n : Int} (h1 : -65536 ≤ n) (h2 : n ≤ 65536) : Lib.atoiAll (Lib.itoa n) = .ok n := by
  by_cases hn : n < 0
  · obtain ⟨u, rfl⟩ : ∃ u : Nat, n = -(u : Int) := ⟨n.natAbs, by omega⟩
    rw [Lib.itoa_neg u (by omega)]
    unfold Lib.atoiAll
    have e : (45 : UInt8).toNat = 45 := rfl
    simp only [e, or_true, if_true, Lib.parseMag, dec_ne, if_false, parse_dec u (by omega), not_true_eq_false, false_and, true_and]
    rw [if_neg (by omega)]
  · obtain ⟨u, rfl⟩ : ∃ u : Nat, n = u := ⟨n.toNat, by omega⟩
    rw [Lib.itoa_nonneg]
    have hne := dec_ne u
    have hp := parse_dec u (by omega)
    have hf := @dec_first u
    cases hd : Lib.decDigits u with
    | nil => exact absurd hd hne
    | cons c r =>
      have hc := hf hd
      rw [hd] at hp
      unfold Lib.atoiAll
      have e1 : ¬ c.toNat = 43 := by omega
      have e2 : ¬ c.toNat = 45 := by omega
      simp only [e1, e2, or_self, if_false, Lib.parseMag, List.cons_ne_nil, hp, not_false_eq_true, true_and, false_and]
      rw [if_neg (by omega)]
theorem itoa_str (n : Int) : (strOfNums (itoaI n)) = ⟨(Lib.itoa n).toArray⟩ := by
  refine bytesI_inj ?_
  rw [bytesI_str (itoa_bytes n)]
  unfold bytesI itoaI
  simp
def atoiV (l : List UInt8) : Int × Bool := match Lib.atoiAll l with
  | .ok v => (v, false)
  | .syntax => (0, true)
  | .range => (Lib.atoiSat l, true)
def badLit (z : ByteArray) : Bool := ((atoiV z.data.toList).2 || !(mayP (atoiV z.data.toList).1 65536)) || !((strOfNums (itoaI (atoiV z.data.toList).1)).toList == z.toList)
theorem bad_lit (w : List Int) (hw : isBytes w) : badLit (strOfNums w) = !litW w ∧ (litW w = true → (atoiV (strOfNums w).data.toList).1 = numN w) := by
  by_cases hl : litW w = true
  · have h1 : mayP (numN w) 65536 = true ∧ itoaI (numN w) = w := by
      unfold litW at hl; simpa using hl
    have hb := mayP_iff.1 h1.1
    have e : (strOfNums w).data.toList = Lib.itoa (numN w) := by rw [← h1.2, itoa_str, h1.2]
    have ha : atoiV (strOfNums w).data.toList = (numN w, false) := by unfold atoiV; rw [e, atoi_itoa hb.2.1 hb.2.2]
    refine ⟨?_, fun _ => by rw [ha]⟩
    unfold badLit
    rw [ha, h1.1, h1.2, hl]
    simp
  · refine ⟨?_, fun h => absurd h hl⟩
    have hl' : litW w = false := by simpa using hl
    rw [hl']
    cases hb : badLit (strOfNums w) with
    | true => rfl
    | false =>
      exfalso
      unfold badLit at hb
      simp only [Bool.or_eq_false_iff, Bool.not_eq_false'] at hb
      obtain ⟨⟨h1, h2⟩, h3⟩ := hb
      rw [str_inj (itoa_bytes _) hw, beq_iff_eq] at h3
      exact hl (litW_of h2 h3).1
def cutN (xs : List Int) : List Int × List Int × Bool := if xs.contains 10 = true then (xs.takeWhile (fun x => x != 10), (xs.dropWhile (fun x => x != 10)).drop 1, true) else (xs, [], false)
theorem cut_hit {a r : List Int} (h : (10 : Int) ∉ a) : cutN (a ++ 10 :: r) = (a, r, true) := by
  have h1 : ∀ x ∈ a, (x != 10) = true := fun x hx => bne_iff_ne.2 fun e => h (e ▸ hx)
  unfold cutN
  rw [if_pos (by simp), List.takeWhile_append_of_pos h1, List.dropWhile_append_of_pos h1]
  simp
theorem cut_miss {xs : List Int} (h : (10 : Int) ∉ xs) : cutN xs = (xs, [], false) := by
  unfold cutN; rw [if_neg (by simpa using h)]
theorem bytesOf_map {xs : List Int} (h : isBytes xs) : (Lib.bytesOf xs).map (fun b => (b.toNat : Int)) = xs := by
  unfold Lib.bytesOf
  rw [List.map_map]
  conv => rhs; rw [← List.map_id xs]
  refine List.map_congr_left fun x hx => ?_
  have := h x hx
  simp only [Function.comp_apply, id]
  rw [UInt8.toNat_ofNat']; omega
theorem cut_index {xs : List Int} (h : isBytes xs) : (Lib.index (Lib.bytesOf xs) [10] = -1 ∧ (10 : Int) ∉ xs) ∨ ∃ a r, xs = a ++ 10 :: r ∧ (10 : Int) ∉ a ∧ Lib.index (Lib.bytesOf xs) [10] = a.length := by
  have hm := bytesOf_map h
  have h10 : ∀ l : List UInt8, (10 : Int) ∈ l.map (fun b => (b.toNat : Int)) → (10 : UInt8) ∈ l := fun l hc => by
    obtain ⟨b, hb, e⟩ := List.mem_map.1 hc
    have : b = 10 := UInt8.toNat_inj.1 (by show b.toNat = 10; omega)
    rw [← this]; exact hb
  rcases index_one 10 (Lib.bytesOf xs) with ⟨h1, h2⟩ | ⟨a, r, h1, h2, h3⟩
  · exact .inl ⟨h1, fun hc => h2 (h10 _ (by rw [hm]; exact hc))⟩
  · refine .inr ⟨a.map fun b => (b.toNat : Int), r.map fun b => (b.toNat : Int), ?_, fun hc => h2 (h10 _ hc), by rw [h3, List.length_map]⟩
    rw [← hm, h1]; simp
def kinI (w : List Int) : Int := Lib.index [32, 111, 108, 100] (strOfNums w).data.toList
def wd (ws : List (List Int)) (i : Nat) : List Int := ws.getD i []
def headW (ws : List (List Int)) : Bool := decide ((wd ws 0).length = 1) && (decide (1 ≤ kinI (wd ws 0)) && (decide (2 ≤ ws.length) && wd ws (ws.length - 1) == [48]))
def midW (ws : List (List Int)) : List (List Int) := (ws.take (ws.length - 1)).drop 1
def lnK (xs : List Int) : Int := kinI (wd (splitI 32 xs) 0)
def lnL (xs : List Int) : List Int := if headW (splitI 32 xs) = true then ((midW (splitI 32 xs)).takeWhile litW).map numN else []
def lnOk (xs : List Int) : Bool := headW (splitI 32 xs) && (midW (splitI 32 xs)).all litW
end Go.Proofs.YtbpbndlgfiammaaGreatDoor.Cn
namespace Go.Proofs.YtbpbndlgfiammaaGreatDoor.En
open Go Go.RowKit Go.Shelf
theorem pow10_tab {W : World} {G : Nat → Prop} (hgl : GlOk (g0 W G)) : Lib.TabIs Tryz.prog W "internal/strconv.uint64pow10" .u64 Lib.pow10Tab := by
  obtain ⟨t, m, h⟩ := ((hgl 1 (g_pow10.map (Value.int .u64)) rfl).2.1 rfl).2
  unfold Lib.TabIs World.var?
  rw [show Tryz.prog.globalNamed "internal/strconv.uint64pow10" = some 1 by kernel_rfl]
  show (match W.heap[1]? with | some (.cells cs _ _) => some cs | _ => none) = _
  rw [show W.heap[1]? = _ from h]
  rfl
theorem maxLen_cell {W : World} {G : Nat → Prop} (hgl : GlOk (g0 W G)) : ∃ n, W.cell? ⟨0, 0, none⟩ = some (.int .i64 n) := (hgl 0 [] rfl).2.2.1 rfl
theorem syntax_cell {W : World} {G : Nat → Prop} (hgl : GlOk (g0 W G)) : ∃ te pe, W.cell? ⟨2, 0, none⟩ = some (.iface te pe) := (hgl 2 [] rfl).2.2.2 rfl
theorem range_cell {W : World} {G : Nat → Prop} (hgl : GlOk (g0 W G)) : ∃ te pe, W.cell? ⟨3, 0, none⟩ = some (.iface te pe) := (hgl 3 [] rfl).2.2.2 rfl
def sItoa1 : CtF1
  | [.im (.val (.int .i64 n))] => some (Fit n, .im (.val (.string (strOfNums (Cn.itoaI n)))))
  | _ => none
theorem sItoa1_sound : Sound1G Tryz.prog 90 sItoa1 := by
  refine ⟨run_enters Tryz.func90 (by kernel_rfl) rfl, fun W G args vs p r hG hgl hσ hp hd => ?_⟩
  unfold sItoa1 at hσ
  split at hσ
  · rename_i n
    injection hσ with hσ
    injection hσ with h1 h2
    subst h1 h2
    obtain ⟨v, rfl, hv⟩ := denL1 hd
    rw [den_val hv]
    refine (Any.strconv_Itoa Tryz.shItoa n hp.1 hp.2 W (pow10_tab hgl)).mono fun e w' he => ?_
    obtain ⟨rfl, k, os, rfl⟩ := he
    refine ⟨_, rfl, Lib.below_grow _ W (Nat.le_refl _) k os, ?_⟩
    rw [← Cn.itoa_str]
    exact den_val_mk _
  · cases hσ
def sItoa : CtF := sItoa1.up
theorem sItoa_sound : Sound Tryz.prog 90 sItoa := sItoa1_sound.up
def sIndexS1 : CtF1
  | [.im (.val (.string s)), .im (.val (.string t))] => some (s.size ≤ 4294967280, .int (Lib.index s.data.toList t.data.toList))
  | _ => none
theorem sIndexS1_sound : Sound1G Tryz.prog 88 sIndexS1 := by
  refine ⟨run_enters Tryz.func88 (by kernel_rfl) rfl, fun W G args vs p r hG hgl hσ hp hd => ?_⟩
  unfold sIndexS1 at hσ
  split at hσ
  · rename_i s t
    injection hσ with hσ
    injection hσ with h1 h2
    subst h1 h2
    obtain ⟨v, u, rfl, hv, hu⟩ := denL2 hd
    rw [den_val hv, den_val hu]
    obtain ⟨m, hm⟩ := maxLen_cell hgl
    refine (Any.strings_Index Tryz.shIndex s t m W (by omega) hm).mono fun e w' he => ?_
    obtain ⟨rfl, rfl⟩ := he
    exact ⟨_, rfl, Below.refl _ _, den_val_mk _⟩
  · cases hσ
def sIndexS : CtF := sIndexS1.up
theorem sIndexS_sound : Sound Tryz.prog 88 sIndexS := sIndexS1_sound.up
def sAtoi1 : CtF1
  | [.im (.val (.string s))] => some (s.size ≤ 281474976710656, .tup [.int (Cn.atoiV s.data.toList).1, .err (Cn.atoiV s.data.toList).2])
  | _ => none
theorem den_err {g : Gh} {n : Int} {b : Bool} {v : Value} (h : if b = true then ∃ te pe, v = .iface te pe else v = .nilIface) : Den g (.tup [.int n, .err b]) (.tuple #[.int .i64 n, v]) := by
  simp only [Den, DenL]
  exact ⟨[.int .i64 n, v], rfl, _, _, rfl, .val _, _, _, rfl, h, rfl⟩
theorem sAtoi1_sound : Sound1G Tryz.prog 89 sAtoi1 := by
  refine ⟨run_enters Tryz.func89 (by kernel_rfl) rfl, fun W G args vs p r hG hgl hσ hp hd => ?_⟩
  unfold sAtoi1 at hσ
  split at hσ
  · rename_i s
    injection hσ with hσ
    injection hσ with h1 h2
    subst h1 h2
    obtain ⟨v, rfl, hv⟩ := denL1 hd
    rw [den_val hv]
    unfold Cn.atoiV
    cases ha : Lib.atoiAll s.data.toList with
    | ok n =>
      refine (Any.strconv_Atoi_ok Tryz.shAtoi s (by omega) n ha W).mono fun e w' he => ?_
      obtain ⟨rfl, hw⟩ := he
      refine ⟨_, rfl, ?_, den_err (by simp)⟩
      rcases hw with rfl | ⟨t, rfl⟩
      · exact Below.refl _ _
      · exact bytesWorld_bel W _ t
    | «syntax» =>
      obtain ⟨te, pe, hc⟩ := syntax_cell hgl
      refine (Any.strconv_Atoi_syntax Tryz.shAtoi s hp ha _ W hc (.inr ⟨te, pe, rfl⟩)).mono fun e w' he => ?_
      obtain ⟨N, rfl, _, _, hb⟩ := he
      exact ⟨_, rfl, hb, den_err (by simp)⟩
    | range =>
      obtain ⟨te, pe, hc⟩ := range_cell hgl
      refine (Any.strconv_Atoi_range Tryz.shAtoi s hp ha _ W hc (.inr ⟨te, pe, rfl⟩)).mono fun e w' he => ?_
      obtain ⟨N, rfl, _, _, hb⟩ := he
      exact ⟨_, rfl, hb, den_err (by simp)⟩
  · cases hσ
def sAtoi : CtF := sAtoi1.up
theorem sAtoi_sound : Sound Tryz.prog 89 sAtoi := sAtoi1_sound.up
def sSplit : CtF := fun args os => match args, os with
  | [.im (.val (.string s)), .im (.val (.string t))], [] => some (s.size ≤ 1000000 ∧ t = ⟨#[32]⟩, .row 0, [some (.row 9 (.strs ((Cn.splitI 32 (bytesI s)).map strOfNums)))])
  | _, _ => none
theorem sSplit_sound : Sound Tryz.prog 87 sSplit := by
  refine sound_newR (e := 9) (run_enters Tryz.func87 (by kernel_rfl) rfl) fun args os p r outs h => ?_
  unfold sSplit at h
  split at h
  · rename_i s t
    injection h with h
    injection h with h1 h
    injection h with h2 h3
    subst h1 h2 h3
    have hwl : (LD.strs ((Cn.splitI 32 (bytesI s)).map strOfNums)).len = (Cn.splitI 32 (bytesI s)).length := List.length_map ..
    have hcl := (Cn.splitI_len 32 (bytesI s)).1
    rw [bytesI_len] at hcl
    refine ⟨_, rfl, rfl, rfl, rfl, fun hp => ⟨by rw [hwl]; unfold maxLen; omega, fun W G vs hG hgl hd => ?_⟩⟩
    obtain ⟨hp1, hp2⟩ := hp
    subst hp2
    obtain ⟨v, u, rfl, hv, hu⟩ := denL2 hd
    rw [den_val hv, den_val hu]
    obtain ⟨m, hm⟩ := maxLen_cell hgl
    have hsp := Cn.split_is s.size s (Nat.le_refl _)
    have hcn := Lib.splitB_all ⟨#[32]⟩ (by decide) 0 _ s rfl
    rw [hsp, List.length_map] at hcn
    refine (Any.strings_Split Tryz.shSplit (by kernel_rfl) s ⟨#[32]⟩ m W (by omega) hm (by decide)).mono fun e w' he => ?_
    obtain ⟨rfl, rfl⟩ := he
    rw [hsp, ← hcn]
    refine ⟨_, ((Cn.splitI 32 (bytesI s)).map strOfNums).map Value.string, rfl, .inr ⟨W.heap.size, 0, _, _, by rw [List.length_map, List.length_map], .mk0 (heap_alloc_new _ _), ?_, ?_, ?_, fun j hj => ?_⟩, ?_, fun i hi => ?_, ((Below.refl _ W).alloc (Nat.le_refl _) _), fun g hg => ?_⟩
    · simp only [List.length_map]; exact Nat.le_refl _
    · unfold maxLen; omega
    · simp
    · simp at hj
      simp [hj]
    · rw [hwl]; simp
    · rw [hwl] at hi
      show Rep W G (.val (.string (((Cn.splitI 32 (bytesI s)).map strOfNums).getD i ByteArray.empty))) _
      have e : (((Cn.splitI 32 (bytesI s)).map strOfNums).map Value.string).getD i undef = .string (((Cn.splitI 32 (bytesI s)).map strOfNums).getD i ByteArray.empty) := by
        rw [List.getD_eq_getElem?_getD, List.getD_eq_getElem?_getD, List.getElem?_map, List.getElem?_map, List.getElem?_eq_getElem hi]; rfl
      rw [e]
      exact .val _
    · simp [Value.ownBlock] at hg; omega
  · cases h
end Go.Proofs.YtbpbndlgfiammaaGreatDoor.En
namespace Go.Proofs.YtbpbndlgfiammaaGreatDoor.En
open Go Go.RowKit Go.Shelf
def takeF (σ : CtF1) : CtF := fun args os => bif pureL (lend (objsH os) args) then (match σ (lend (objsH os) args) with | some (p, r) => (bif pureL [r] then some (p, r, os.map fun _ => none) else none) | none => none) else none
theorem outs_none {os : List AObj} {x : Nat} {o : AObj} : outsH (os.map fun _ => none) x ≠ some o := by
  intro h
  unfold outsH at h
  rw [List.getElem?_map] at h
  cases hx : os[x]? <;> rw [hx] at h <;> simp at h
theorem Sound1G.take {P : Program} {f : Nat} {σ : CtF1} (h : Sound1G P f σ) : Sound P f (takeF σ) := by
  refine ⟨h.1, fun g args os vs p r outs hσ hp hm hU hd => ?_⟩
  unfold takeF at hσ
  cases hb : pureL (lend (objsH os) args) with
  | false => rw [hb] at hσ; cases hσ
  | true =>
    rw [hb] at hσ
    simp only [cond_true] at hσ
    split at hσ
    · rename_i p' r' hs
      cases hr : pureL [r'] with
      | false => rw [hr] at hσ; cases hσ
      | true =>
        rw [hr] at hσ
        simp only [cond_true, Option.some.injEq, Prod.mk.injEq] at hσ
        obtain ⟨rfl, rfl, rfl⟩ := hσ
        let G2 : Nat → Prop := fun b => g.G b ∨ ∃ r o, objsH os r = some o ∧ blkOf (g.β r) = some b
        have hG2 : ∀ b, G2 b → b < g.W.heap.size := fun b hb => by
          rcases hb with hb | ⟨r, o, ho, hb⟩
          · exact (hm.gb b hb).1
          · exact (hm.ok r o ho).2.lt hb
        have hin2 : DenL ⟨g.W, G2, fun _ => undef, fun _ => False⟩ (lend (objsH os) args) vs := DenL.pure (g := lentG (objsH os) g) (g' := ⟨g.W, G2, fun _ => undef, fun _ => False⟩) rfl rfl _ _ hb (lend_den (fun _ _ h => h) hm args vs hd)
        refine Calls.mono (h.2 g.W G2 _ vs _ _ hG2 (fun k xs hk => ⟨.inl (hm.anc.2 k xs hk).1, (hm.anc.2 k xs hk).2⟩) hs hp hin2) fun e W' he => ?_
        obtain ⟨u, rfl, hbel, hdr⟩ := he
        let g' : Gh := ⟨W', fun b => G2 b ∨ (g.W.heap.size ≤ b ∧ b < W'.heap.size), g.β, g.U⟩
        have hle : g.le g' := ⟨fun b hg => hbel.block b (hm.gb b hg).1, fun _ hg => .inl (.inl hg), fun r hr => ⟨hr, rfl⟩⟩
        refine ⟨u, g', rfl, rfl, hle, ⟨fun r o hr => absurd hr outs_none, fun r r' o o' b hr => absurd hr outs_none, fun r o b hr => absurd hr outs_none, fun b hg => ?_, ⟨hbel.os, hbel.tape, hbel.output, hbel.size, fun k hk _ => hbel.block k hk⟩, hm.anc.1, hm.anc.2.up hle⟩, ?_⟩
        · rcases hg with hg | hg
          · refine ⟨Nat.lt_of_lt_of_le (hG2 b hg) hbel.size, ?_⟩
            rcases hg with hg | ⟨r, o, ho, hb⟩
            · exact .inl hg
            · exact .inr (hm.own r o b ho hb).2
          · exact ⟨hg.2, .inr (.inl hg.1)⟩
        · have := DenL.pure (g := ⟨W', fun b => G2 b ∨ (g.W.heap.size ≤ b ∧ b < W'.heap.size), fun _ => undef, fun _ => False⟩) (g' := g') rfl rfl [r'] [u] hr (by simp only [DenL]; exact ⟨u, [], rfl, hdr, rfl⟩)
          simp only [DenL] at this
          obtain ⟨_, _, e, q, _⟩ := this
          cases e
          exact q
    · cases hσ
def sCut1 : CtF1
  | [.im (.ls (.bytes b)), .im (.ls (.bytes s))] => some (0 < b.length ∧ b.length ≤ 1000000 ∧ Cn.isBytes b ∧ s = [10], .tup [.bytes (Cn.cutN b).1, .bytes (Cn.cutN b).2.1, .bool (Cn.cutN b).2.2])
  | _ => none
theorem bytes_at {W : World} {G : Nat → Prop} {xs : List Int} {v : Value} (h : Rep W G (.ls (.bytes xs)) v) (h0 : 0 < xs.length) :
    ∃ b off c, v = .slice (some ⟨b, off, none⟩) xs.length c ∧ xs.length ≤ c ∧ xs.length ≤ maxLen ∧ G b ∧ ∀ i, i < xs.length → W.cell? ⟨b, off + i, none⟩ = some (.int .u8 (xs.getD i 0)) := by
  rcases h.cases_ls with ⟨h1, _⟩ | ⟨b, off, c, u, rfl, h1, h2, h3, h4, h5⟩
  · have : xs.length = 0 := h1
    omega
  · refine ⟨b, off, c, rfl, h1, h2, h3, fun i hi => ?_⟩
    have h6 := h4 i 0 hi Nat.one_pos
    have h7 : Rep W G (.val (.int .u8 (xs.getD i 0))) (u i 0) := h5 i 0 hi Nat.one_pos
    have h8 : u i 0 = .int .u8 (xs.getD i 0) := den_val (g := g0 W G) (by simp only [Den]; exact h7)
    rw [h8] at h6
    have e : off + i * (LD.bytes xs).st + 0 = off + i := by show off + i * 1 + 0 = _; omega
    rw [e] at h6
    exact h6
theorem rep_bytes {W : World} {G : Nat → Prop} {xs : List Int} {b off c : Nat} (hc : xs.length ≤ c) (hm : xs.length ≤ maxLen) (hG : G b) (h : ∀ i, i < xs.length → W.cell? ⟨b, off + i, none⟩ = some (.int .u8 (xs.getD i 0))) : Rep W G (.ls (.bytes xs)) (.slice (some ⟨b, off, none⟩) xs.length c) :=
  .ls (.bytes xs) b off c (fun i _ => .int .u8 (xs.getD i 0)) hc hm hG (fun i j hi hj => by
    have hj0 : j = 0 := by have : (LD.bytes xs).st = 1 := rfl; omega
    subst hj0
    have e : off + i * (LD.bytes xs).st + 0 = off + i := by show off + i * 1 + 0 = _; omega
    rw [e]; exact h i hi) (fun i j hi hj => .val _)
theorem sCut1_sound : Sound1G Tryz.prog 57 sCut1 := by
  refine ⟨run_enters Tryz.func57 (by kernel_rfl) rfl, fun W G args vs p r hG hgl hσ hp hd => ?_⟩
  unfold sCut1 at hσ
  split at hσ
  · rename_i xs sp
    injection hσ with hσ
    injection hσ with h1 h2
    subst h1 h2
    obtain ⟨hp1, hp2, hp3, rfl⟩ := hp
    obtain ⟨v, u, rfl, hv, hu⟩ := denL2 hd
    simp only [Den] at hv hu
    obtain ⟨b, off, c, rfl, hc1, hc2, hc3, hc4⟩ := bytes_at hv hp1
    obtain ⟨b2, off2, c2, rfl, hd1, hd2, hd3, hd4⟩ := bytes_at hu (by decide)
    obtain ⟨m, hm⟩ := maxLen_cell hgl
    have hcut := Any.bytes_Cut_all Tryz.shCut (some ⟨b, off, none⟩) (some ⟨b2, off2, none⟩) xs.length c 1 c2 xs [10] m W rfl rfl hp3 (fun y hy => by rw [List.mem_singleton] at hy; omega)
      (Lib.BytesIn.of_cells fun i hi => by rw [add_mk]; exact hc4 i hi) (Lib.BytesIn.of_cells fun i hi => by rw [add_mk]; exact hd4 i hi) (fun h => by cases h) hc1 (by omega) (by omega) hm
    refine Calls.mono hcut fun e w' he => ?_
    obtain ⟨rfl, q, rfl⟩ := he
    have hbel : Below W.heap.size W (W.drewN q) := ⟨rfl, rfl, rfl, Nat.le_refl _, fun _ _ => rfl⟩
    have hb10 : Lib.bytesOf [10] = [10] := rfl
    rw [hb10]
    have fin : ∀ {v1 v2 : Value} {f : Bool} {x1 x2 : List Int}, Rep W G (.ls (.bytes x1)) v1 → Rep W G (.ls (.bytes x2)) v2 → Cn.cutN xs = (x1, x2, f) → ∀ G', (∀ b, G b → G' b) →
        Den ⟨W.drewN q, G', fun _ => undef, fun _ => False⟩ (.tup [.bytes (Cn.cutN xs).1, .bytes (Cn.cutN xs).2.1, .bool (Cn.cutN xs).2.2]) (.tuple #[v1, v2, .bool f]) := by
      intro v1 v2 f x1 x2 r1 r2 e G' hG'
      rw [e]
      simp only [Den, DenL]
      exact ⟨[v1, v2, .bool f], rfl, _, _, rfl, Rep.mono (W := W) (W' := W.drewN q) (fun _ _ => rfl) hG' r1, _, _, rfl, Rep.mono (W := W) (W' := W.drewN q) (fun _ _ => rfl) hG' r2, _, _, rfl, .val _, rfl⟩
    rcases Cn.cut_index hp3 with ⟨h1, h2⟩ | ⟨a, r, h1, h2, h3⟩
    · rw [h1]
      refine ⟨_, rfl, hbel, fin (rep_bytes hc1 hc2 hc3 hc4) (.nil (.bytes []) none 0 rfl) (Cn.cut_miss h2) _ (fun _ h => .inl h)⟩
    · rw [h3]
      have hl : xs.length = a.length + 1 + r.length := by rw [h1]; simp; omega
      have hV : Lib.cutV (some ⟨b, off, none⟩) xs.length c 1 (a.length : Int) = .tuple #[.slice (some ⟨b, off, none⟩) a.length c, Lib.fromV (some ⟨b, off, none⟩) xs.length c (a.length + 1), .bool true] := by
        unfold Lib.cutV; rw [if_pos (by omega)]; rfl
      rw [hV]
      refine ⟨_, rfl, hbel, fin ?_ ?_ (by rw [h1]; exact Cn.cut_hit h2) _ (fun _ h => .inl h)⟩
      · refine rep_bytes (by omega) (by omega) hc3 fun i hi => ?_
        rw [hc4 i (by omega), h1]
        simp [List.getD, List.getElem?_append_left hi]
      · unfold Lib.fromV
        have e1 : xs.length - (a.length + 1) = r.length := by omega
        rw [e1]
        by_cases h0 : r.length = 0
        · rw [h0]
          exact .nil (.bytes r) _ _ h0
        · rw [if_neg (by omega)]
          have e2 : Option.map (fun x : Addr => x.add (a.length + 1)) (some ⟨b, off, none⟩) = some ⟨b, off + (a.length + 1), none⟩ := by rw [Option.map_some, add_mk]
          rw [e2]
          refine rep_bytes (by omega) (by omega) hc3 fun i hi => ?_
          rw [show off + (a.length + 1) + i = off + (a.length + 1 + i) by omega, hc4 _ (by omega), h1]
          simp [List.getD, List.getElem?_append_right (show a.length ≤ a.length + 1 + i by omega), show a.length + 1 + i - a.length = i + 1 by omega]
  · cases hσ
def sCut : CtF := takeF sCut1
theorem sCut_sound : Sound Tryz.prog 57 sCut := sCut1_sound.take
end Go.Proofs.YtbpbndlgfiammaaGreatDoor.En
namespace Go.Proofs.YtbpbndlgfiammaaGreatDoor.En
open Go Go.RowKit Go.Shelf Go.Sort
theorem info_u8 : (Tryz.prog.info? 5).map (fun i => (i.zero, i.size, i.bytes)) = some (some (.int .u8 0), 1, 1) := by kernel_rfl
theorem ty_u8 : TyOk Tryz.prog 5 ⟨1, false, [.int .u8 0], [], none, 1, false, 2, 0⟩ := ⟨by kernel_rfl, by kernel_rfl, by kernel_rfl⟩
theorem wpList_appendS {P : Program} {w : World} {ops : Array Oper} {rest : List Oper} {o : Oper} {a : Act} {Q : Exit → Act → World → Prop} (hgd : o.guard = none) (s x : Operand) (t tx : TypeId)
    (ho : o.op = .call { callee := .builtin .append, args := #[s, x], argTypes := #[t, tx] })
    (e : TypeId) (ed : TD) (ht : P.underlying t = some (.slice e)) (htx : P.underlying tx = some .string) (hed : TyOk P e ed) (h1 : ed.size = 1) (hz1 : ed.zero.length = 1) (hb1 : ed.bytes = 1)
    (v : Value) (xs : List Value) (n : Nat) (hlen : xs.length = n) (hs : a.eval s = v) (hown : Own w e v xs) (z : ByteArray) (hx : a.eval x = .string z) (hbytes : n + z.size ≤ 140737488355328)
    (h : ∀ A' cap w', Own w' e (.slice A' (n + z.size) cap) (xs ++ Lib.strCells z) → w.grownBy w' v.ownBlock → (∀ g, (Value.slice A' (n + z.size) cap).ownBlock = some g → v.ownBlock = some g ∨ g = w.heap.size) →
      wpList P ops Q rest (a.put o.dst (.slice A' (n + z.size) cap)) w') : wpList P ops Q (o :: rest) a w := by
  refine wpList_plain hgd fun _ hK => ?_
  obtain ⟨v', W', hr, h2, h3, h4⟩ := run_appendS (P := P) w (ty := o.type) ht htx hed h1 hz1 (by omega) hown z (by rw [hlen, hb1]; omega)
  obtain ⟨A', cap, hf, _⟩ := h2.form
  have hl : (xs ++ Lib.strCells z).length = n + z.size := by rw [List.length_append, hlen, Lib.strCells_length]
  rw [hl] at hf
  subst hf
  unfold Oper.wp execOp
  simp only [ho, resolve, invoke, builtin, Sem.run_bind, Sem.run_pure, Result.andThen_ok, List.map_toArray, List.map_cons, List.map_nil, hs, hx, hr]
  exact hK _ _ (h A' cap W' h2 h3 h4)
set_option maxRecDepth 100000 in
set_option maxHeartbeats 800000 in
theorem appU_small {v : Value} {us : List Value} {n : Nat} {w : World} (u : Nat) (hu : u < 100) (hn : us.length = n) (hown : Own w 5 v us) (hlim : n + 20 ≤ 140737488355328) :
    Calls Tryz.prog 111 #[v, .int .u64 u, .int .i64 10] w fun e w' => ∃ A cap, e = .returned (.slice A (n + Lib.nDigits u) cap) ∧ Own w' 5 (.slice A (n + Lib.nDigits u) cap) (us ++ Lib.byteCells (Lib.decDigits u)) ∧ w.grownBy w' v.ownBlock ∧ ∀ b, (Value.slice A (n + Lib.nDigits u) cap).ownBlock = some b → v.ownBlock = some b ∨ w.heap.size ≤ b := by
  have hsm := Any.internal_strconv_small { Tryz.shAppU with } u hu w
  have hsz : (⟨(Lib.decDigits u).toArray⟩ : ByteArray).size = Lib.nDigits u := by rw [← Lib.decDigits_length]; simp [ByteArray.size]
  have hnd : Lib.nDigits u ≤ 20 := by
    by_cases h10 : u < 10
    · rw [Lib.nDigits_small h10]; omega
    · rw [Lib.nDigits_big h10, Lib.nDigits_small (show u / 10 < 10 by omega)]; omega
  have hcl : Lib.strCells ⟨(Lib.decDigits u).toArray⟩ = Lib.byteCells (Lib.decDigits u) := by simp [Lib.strCells, Lib.byteCells]
  have HS := Lib.hid hsm
  have HO := Lib.hid hown
  have HN := Lib.hid hn
  have iu : (u : Int) < 100 := by omega
  clear hsm hown hn
  go_enter Tryz.func111, Tryz.ntmps111
  go_wp2_with (first
    | (go_at_call 131; refine HS.out.mono ?_; rintro e w' ⟨rfl, rfl⟩)
    | (at_builtin; refine wpList_appendS rfl _ _ 34 9 rfl 5 _ Tryz.underlying34 Tryz.underlying9 ty_u8 rfl rfl rfl _ us n HN.out rfl HO.out ⟨(Lib.decDigits u).toArray⟩ rfl (by rw [hsz]; omega) ?_))
  first | rw [hsz, hcl] | skip
  intro A' cap w1 h1 h2 h3
  have H1 := Lib.hid h1
  have H2 := Lib.hid h2
  have H3 := Lib.hid h3
  clear h1 h2 h3
  go_wp2
  go_ret
  exact ⟨A', cap, rfl, H1.out, H2.out, fun b hb => (H3.out b hb).imp id fun e => by omega⟩
set_option maxRecDepth 100000 in
set_option maxHeartbeats 1600000 in
theorem appU_big {v : Value} {us : List Value} {n : Nat} {w : World} (u : Nat) (hu : 100 ≤ u) (hu64 : u < 18446744073709551616) (hn : us.length = n) (hown : Own w 5 v us) (hlim : n + 20 ≤ 140737488355328)
    (htab : Lib.TabIs Tryz.prog w "internal/strconv.uint64pow10" .u64 Lib.pow10Tab) :
    Calls Tryz.prog 111 #[v, .int .u64 u, .int .i64 10] w fun e w' => ∃ A cap, e = .returned (.slice A (n + Lib.nDigits u) cap) ∧ Own w' 5 (.slice A (n + Lib.nDigits u) cap) (us ++ Lib.byteCells (Lib.decDigits u)) ∧ w.grownBy w' v.ownBlock ∧ ∀ b, (Value.slice A (n + Lib.nDigits u) cap).ownBlock = some b → v.ownBlock = some b ∨ w.heap.size ≤ b := by
  obtain ⟨i0, hi, hz0, hz1, hz2⟩ := info_ofL info_u8
  have hu1 : 1 ≤ u := by omega
  have hnd20 : Lib.nDigits u ≤ 20 := by have := Lib.numDigits_eq u hu1 hu64; split at this <;> omega
  have hal : Tryz.prog.arrayLen 138 = 24 := by kernel_rfl
  have hsl : ∀ W, (Instr.sliceAt 138 (.pointer (some ⟨w.heap.size, 0, none⟩)) none (some (.int .i64 (Lib.nDigits u : Int))) none).run Tryz.prog W = .ok (.slice (some ⟨w.heap.size, 0, none⟩) (Lib.nDigits u) 24) W := fun W => by
    rw [run_sliceAt_array_h W 138 ⟨w.heap.size, 0, none⟩ (by kernel_rfl) .i64 (Lib.nDigits u : Int) (by omega) (by rw [hal]; omega)]
    go_simp
  have hH0 := Lib.holds_zero0 w 138 (Lib.nDigits u) (by omega)
  have hfmt := Any.internal_strconv_formatBase10 { Tryz.shAppU with } w.heap.size 0 24 u (Array.replicate (Lib.nDigits u) 0) (w.alloc (.cells Lib.zeros24 138)) hH0 (by rw [Array.size_replicate]; exact Lib.lt_pow_nDigits u) hu64 (by rw [Array.size_replicate]; omega)
  rw [Array.size_replicate] at hfmt
  have hnum := Any.internal_strconv_numDigits { Tryz.shAppU with } u hu1 hu64 _ (Lib.tabIs_alloc htab (.cells Lib.zeros24 138))
  have HH0 := Lib.hid hH0
  have HF := Lib.hid hfmt
  have HM := Lib.hid hnum
  have HO := Lib.hid hown
  have HN := Lib.hid hn
  have iu : (100 : Int) ≤ (u : Int) := by omega
  clear hH0 hal hfmt hnum hown hn htab
  go_enter Tryz.func111, Tryz.ntmps111
  go_wp2_with (go_at_call 132; refine HM.out.mono ?_; rintro e w' ⟨rfl, rfl⟩)
  go_at_call 133
  refine HF.out.mono ?_
  rintro e w' ⟨rfl, k, v', dk, rfl, hF⟩
  have hcells : ∀ j u', (Lib.byteCells (Lib.decDigits u))[j]? = some u' → ((putRow (fun (b : UInt8) => Value.int .u8 (b.toNat : Int)) (w.alloc (.cells Lib.zeros24 138)) w.heap.size 0 dk).drewN k).cell? ((⟨w.heap.size, 0, none⟩ : Addr).add j) = some u' := by
    intro j u' hj
    have hjl : j < (Lib.decDigits u).length := by
      have h5 := (List.getElem?_eq_some_iff.1 hj).1
      rwa [Lib.byteCells_length] at h5
    have e5 : (Lib.byteCells (Lib.decDigits u))[j]? = some (Value.int .u8 ((Lib.decDigits u)[j].toNat : Int)) := by simp [Lib.byteCells, hjl]
    rw [e5] at hj
    cases hj
    rw [Lib.row_is_numeral hF j hjl, Lib.add_plain, World.cell?_drewN]
    exact cell?_putRow (fun (b : UInt8) => Value.int .u8 (b.toNat : Int)) _ w.heap.size 0 _ dk HH0.out (by rw [hF.size, Array.size_replicate]) j (by rw [hF.size]; rw [Lib.decDigits_length] at hjl; exact hjl)
  obtain ⟨os, eo⟩ := Lib.fin_at w (.cells Lib.zeros24 138) dk k 0
  have hbel : Below w.heap.size w ((putRow (fun (b : UInt8) => Value.int .u8 (b.toNat : Int)) (w.alloc (.cells Lib.zeros24 138)) w.heap.size 0 dk).drewN k) := by rw [eo]; exact Lib.below_grow w.heap.size w (Nat.le_refl _) k os
  generalize (putRow (fun (b : UInt8) => Value.int .u8 (b.toNat : Int)) (w.alloc (.cells Lib.zeros24 138)) w.heap.size 0 dk).drewN k = W2 at hcells hbel ⊢
  have hown2 : Own W2 5 v us := HO.out.keep fun g hg => hbel.block g (HO.out.lt hg)
  have HO2 := Lib.hid hown2
  have HC := Lib.hid hcells
  have HB := Lib.hid hbel
  have HL := Lib.hid (show (Lib.byteCells (Lib.decDigits u)).length = Lib.nDigits u by rw [Lib.byteCells_length, Lib.decDigits_length])
  clear eo hown2 hcells hbel hF
  go_wp2_with (at_builtin; refine wpList_appendR _ rfl _ _ 34 rfl 5 i0 (.int .u8 0) 1 Tryz.underlying34 hi hz0 hz1 hz2 rfl _ us n HN.out rfl HO2.out (some ⟨w.heap.size, 0, none⟩) 24 (Lib.byteCells (Lib.decDigits u)) (Lib.nDigits u) HL.out rfl (.inr ⟨_, rfl, HC.out⟩) ?c2 (by unfold maxLen; omega) (by omega) ?_)
  case c2 => intro u' hu'; simp only [Lib.byteCells, List.mem_map] at hu'; obtain ⟨b, _, rfl⟩ := hu'; rfl
  intro A' cap w1 h1 h2 h3
  have H1 := Lib.hid h1
  have H2 := Lib.hid h2
  have H3 := Lib.hid h3
  clear h1 h2 h3
  go_wp2
  go_ret
  have hg2 : w.grownBy w1 v.ownBlock := ⟨H2.out.os.trans HB.out.os, H2.out.tape.trans HB.out.tape, H2.out.output.trans HB.out.output, Nat.le_trans HB.out.size H2.out.size, fun b hb hne => (H2.out.block b (Nat.lt_of_lt_of_le hb HB.out.size) hne).trans (HB.out.block b hb)⟩
  exact ⟨A', cap, rfl, H1.out, hg2, fun b hb => (H3.out b hb).imp id fun e => by have := HB.out.size; omega⟩
theorem appU {v : Value} {us : List Value} {n : Nat} {w : World} (u : Nat) (hu64 : u < 18446744073709551616) (hn : us.length = n) (hown : Own w 5 v us) (hlim : n + 20 ≤ 140737488355328)
    (htab : Lib.TabIs Tryz.prog w "internal/strconv.uint64pow10" .u64 Lib.pow10Tab) :
    Calls Tryz.prog 111 #[v, .int .u64 u, .int .i64 10] w fun e w' => ∃ A cap, e = .returned (.slice A (n + Lib.nDigits u) cap) ∧ Own w' 5 (.slice A (n + Lib.nDigits u) cap) (us ++ Lib.byteCells (Lib.decDigits u)) ∧ w.grownBy w' v.ownBlock ∧ ∀ b, (Value.slice A (n + Lib.nDigits u) cap).ownBlock = some b → v.ownBlock = some b ∨ w.heap.size ≤ b := by
  by_cases h : u < 100
  · exact appU_small u h hn hown hlim
  · exact appU_big u (by omega) hu64 hn hown hlim htab
theorem Own.allocO {w : World} {e : TypeId} {v : Value} {xs : List Value} (h : Own w e v xs) (o : Obj) : Own (w.alloc o) e v xs := h.keep fun g hg => Below.heap_alloc w o g (h.lt hg)
set_option maxRecDepth 100000 in
set_option maxHeartbeats 800000 in
theorem appI {v : Value} {us : List Value} {n : Nat} {w : World} (i : Int) (h0 : -9223372036854775808 ≤ i) (h1 : i ≤ 9223372036854775807) (hn : us.length = n) (hown : Own w 5 v us) (hlim : n + 21 ≤ 140737488355328)
    (htab : ∀ w', Below w.heap.size w w' ∨ (∃ r, w.grownBy w' r ∧ r = v.ownBlock) → Lib.TabIs Tryz.prog w' "internal/strconv.uint64pow10" .u64 Lib.pow10Tab) :
    Calls Tryz.prog 84 #[v, .int .i64 i, .int .i64 10] w fun e w' => ∃ A cap, e = .returned (.slice A (n + (Lib.itoa i).length) cap) ∧ Own w' 5 (.slice A (n + (Lib.itoa i).length) cap) (us ++ Lib.byteCells (Lib.itoa i)) ∧ w.grownBy w' v.ownBlock ∧ ∀ b, (Value.slice A (n + (Lib.itoa i).length) cap).ownBlock = some b → v.ownBlock = some b ∨ w.heap.size ≤ b := by
  obtain ⟨i0, hi, hz0, hz1, hz2⟩ := info_ofL info_u8
  have HT := Lib.hid htab
  clear htab
  by_cases hneg : i < 0
  · obtain ⟨u, rfl⟩ : ∃ u : Nat, i = -(u : Int) := ⟨i.natAbs, by omega⟩
    have hu1 : 1 ≤ u := by omega
    have hu64 : u < 18446744073709551616 := by omega
    have hwr : IntKind.u64.wrap (-IntKind.u64.wrap (-(u : Int))) = (u : Int) := by rw [IntKind.wrap_u64, IntKind.wrap_u64]; omega
    rw [Lib.itoa_neg u hu1]
    have HO := Lib.hid (Own.allocO hown (.cells #[.int .u8 45] 5))
    have HV := Lib.hid (fun g (hg : v.ownBlock = some g) => hown.lt hg)
    have HN := Lib.hid hn
    have hlen1 : (us ++ [Value.int .u8 45]).length = n + 1 := by simp [hn]
    have HL1 := Lib.hid hlen1
    have HND := Lib.hid (Lib.decDigits_length u)
    clear hown hn hlen1
    go_enter Tryz.func84, Tryz.ntmps84
    go_wp2_with (at_builtin; refine wpList_appendR _ rfl _ _ 34 rfl 5 i0 (.int .u8 0) 1 Tryz.underlying34 hi hz0 hz1 hz2 rfl _ us n HN.out rfl HO.out (some ⟨w.heap.size, 0, none⟩) 1 [Value.int .u8 45] 1 rfl rfl (.inr ⟨_, rfl, by intro j u' hj; match j, hj with | 0, hj => simp at hj; subst hj; simp [Addr.add]⟩) (by intro u' hu'; simp at hu'; subst hu'; rfl) (by unfold maxLen; omega) (by omega) ?_)
    intro A1 cap1 w1 k1 k2 k3
    have K1 := Lib.hid k1
    have K2 := Lib.hid k2
    have K3 := Lib.hid k3
    have K4 := Lib.hid (show w.grownBy w1 v.ownBlock from ⟨k2.os, k2.tape, k2.output, Nat.le_trans (by simp) k2.size, fun b hb hne => (k2.block b (by simp; omega) hne).trans (Below.heap_alloc w _ b hb)⟩)
    have K5 := Lib.hid (HT.out w1 (.inr ⟨_, K4.out, rfl⟩))
    clear k1 k2 k3
    go_wp2_with fail
    go_at_call 111
    refine (appU u hu64 HL1.out K1.out (by omega) K5.out).mono ?_
    rintro e w2 ⟨A2, cap2, rfl, q1, q2, q3⟩
    have Q1 := Lib.hid q1
    have Q2 := Lib.hid q2
    have Q3 := Lib.hid q3
    clear q1 q2 q3
    go_wp2_with fail
    go_ret
    have hw : ∀ b, (Value.slice A1 (n + 1) cap1).ownBlock = some b → v.ownBlock = some b ∨ w.heap.size ≤ b := fun b hb => (K3.out b hb).imp id fun e => by first | omega | (simp at e; omega)
    have e1 : n + ((Lib.decDigits u).length + 1) = n + 1 + Lib.nDigits u := by rw [HND.out]; omega
    have e2 : us ++ Lib.byteCells (45 :: Lib.decDigits u) = us ++ [Value.int .u8 45] ++ Lib.byteCells (Lib.decDigits u) := by simp [Lib.byteCells]
    rw [e1, e2]
    refine ⟨A2, cap2, rfl, Q1.out, ⟨Q2.out.os.trans K4.out.os, Q2.out.tape.trans K4.out.tape, Q2.out.output.trans K4.out.output, Nat.le_trans K4.out.size Q2.out.size, fun b hb hne => (Q2.out.block b (Nat.lt_of_lt_of_le hb K4.out.size) (fun e => ?_)).trans (K4.out.block b hb hne)⟩, fun b hb => ?_⟩
    · rcases hw b e.symm with h | h
      · exact hne h.symm
      · omega
    · rcases Q3.out b hb with h | h
      · exact hw b h
      · exact .inr (Nat.le_trans K4.out.size h)
  · obtain ⟨u, rfl⟩ : ∃ u : Nat, i = u := ⟨i.toNat, by omega⟩
    have hu64 : u < 18446744073709551616 := by omega
    rw [Lib.itoa_nonneg]
    have HO := Lib.hid hown
    have HN := Lib.hid hn
    have HND := Lib.hid (Lib.decDigits_length u)
    have K5 := Lib.hid (HT.out w (.inl (Below.refl _ _)))
    clear hown hn
    go_enter Tryz.func84, Tryz.ntmps84
    go_wp2_with fail
    go_at_call 111
    refine (appU u hu64 HN.out HO.out (by omega) K5.out).mono ?_
    rintro e w2 ⟨A2, cap2, rfl, q1, q2, q3⟩
    have Q1 := Lib.hid q1
    have Q2 := Lib.hid q2
    have Q3 := Lib.hid q3
    clear q1 q2 q3
    go_wp2_with fail
    first | go_ret | go_ret2
    rw [HND.out]
    exact ⟨A2, cap2, rfl, Q1.out, Q2.out, Q3.out⟩
def sAppI : CtF := fun args os => match args, os with
  | [.row 0, .im (.val (.int .i64 i)), .im (.val (.int .i64 b))], [.row 5 (.bytes xs)] => some (Fit i ∧ b = 10 ∧ xs.length + 21 ≤ 1000000000000, .row 1, [none, some (.row 5 (.bytes (xs ++ Cn.itoaI i)))])
  | _, _ => none
theorem sAppI_sound : Sound Tryz.prog 84 sAppI := by
  refine sound_rowR (e := 5) (run_enters Tryz.func84 (by kernel_rfl) rfl) fun args os p r outs h => ?_
  unfold sAppI at h
  split at h
  · rename_i i bs xs
    injection h with h
    injection h with h1 h
    injection h with h2 h3
    subst h1 h2 h3
    refine ⟨_, .bytes xs, .bytes (xs ++ Cn.itoaI i), rfl, rfl, rfl, rfl, rfl, rfl, rfl, fun hp => ⟨?_, fun W G v vs us hG hn hgl ho hul hrep hmx hd => ?_⟩⟩
    · obtain ⟨⟨hp1, hp2⟩, hp3, hp4⟩ := hp
      have := Cn.itoa_len hp1 hp2
      show (xs ++ Cn.itoaI i).length ≤ maxLen
      rw [List.length_append]; unfold maxLen; omega
    · obtain ⟨⟨hp1, hp2⟩, rfl, hp4⟩ := hp
      obtain ⟨u1, u2, rfl, d1, d2⟩ := denL2 hd
      rw [den_val d1, den_val d2]
      have hul' : us.length = xs.length := hul
      have hlen : (Lib.itoa i).length = (Cn.itoaI i).length := by unfold Cn.itoaI; rw [List.length_map]
      have htab : ∀ w', Below W.heap.size W w' ∨ (∃ r, W.grownBy w' r ∧ r = v.ownBlock) → Lib.TabIs Tryz.prog w' "internal/strconv.uint64pow10" .u64 Lib.pow10Tab := fun w' h => by
        have hgk := (hgl 1 (g_pow10.map (Value.int .u64)) rfl).1
        refine pow10_tab (G := fun b => G b ∧ w'.heap[b]? = W.heap[b]?) fun k ys hk => ?_
        obtain ⟨q1, q2⟩ := hgl k ys hk
        have hkk : w'.heap[k]? = W.heap[k]? := by
          rcases h with h | ⟨r, h, rfl⟩
          · exact h.block k (hG k q1)
          · exact h.block k (hG k q1) fun e => hn k e.symm q1
        exact ⟨⟨q1, hkk⟩, q2.keep hkk⟩
      refine Calls.mono (appI (n := xs.length) i hp1 hp2 hul' ho (by omega) htab) fun e w' he => ?_
      obtain ⟨A, cap, rfl, k1, k2, k3⟩ := he
      refine ⟨_, _, rfl, k1, ?_, fun k hk => ?_, k2, k3⟩
      · show (us ++ Lib.byteCells (Lib.itoa i)).length = (xs ++ Cn.itoaI i).length
        rw [List.length_append, List.length_append, Lib.byteCells_length, hul', hlen]
      · have hk' : k < xs.length + (Cn.itoaI i).length := by
          have : k < (xs ++ Cn.itoaI i).length := hk
          rwa [List.length_append] at this
        show Rep W G (.val (.int .u8 ((xs ++ Cn.itoaI i).getD k 0))) _
        rw [Cn.bytesC_itoa]
        unfold Cn.bytesC
        by_cases hlt : k < xs.length
        · have e1 : (xs ++ Cn.itoaI i).getD k 0 = xs.getD k 0 := by simp [List.getD, List.getElem?_append_left hlt]
          have e2 : (us ++ (Cn.itoaI i).map (Value.int .u8)).getD k undef = us.getD k undef := by simp [List.getD, List.getElem?_append_left (show k < us.length by omega)]
          rw [e1, e2]
          exact hrep k hlt
        · obtain ⟨q, rfl⟩ : ∃ q, k = xs.length + q := ⟨k - xs.length, by omega⟩
          have hq : q < (Cn.itoaI i).length := by omega
          have e1 : (xs ++ Cn.itoaI i).getD (xs.length + q) 0 = (Cn.itoaI i).getD q 0 := by simp [List.getD, List.getElem?_append_right (show xs.length ≤ xs.length + q by omega)]
          have e2 : (us ++ (Cn.itoaI i).map (Value.int .u8)).getD (xs.length + q) undef = .int .u8 ((Cn.itoaI i).getD q 0) := by
            rw [← hul']
            simp [List.getD, List.getElem?_append_right (show us.length ≤ us.length + q by omega), List.getElem?_eq_getElem hq]
          rw [e1, e2]
          exact .val _
  · cases h
end Go.Proofs.YtbpbndlgfiammaaGreatDoor.En
namespace Go.Proofs.YtbpbndlgfiammaaGreatDoor.Cn
open Go Go.RowKit En
abbrev oldS : ByteArray := ⟨#[32, 111, 108, 100]⟩
def letW (k : Int) : Int := (bytesI oldS).getD k.toNat 0
def litsW (l : List Int) : List Int := l.flatMap fun y => 32 :: itoaI y
def lineB (x : Int × List Int) : List Int := letW x.1 :: (litsW x.2 ++ [32, 48, 10])
def putP (p : List (Int × List Int)) : List Int := p.flatMap lineB
def szP (p : List (Int × List Int)) : Nat := (p.map fun x => 1 + x.2.length).sum
theorem litsW_next {l : List Int} {k : Nat} (hk : k < l.length) (X : List Int) : ((X ++ litsW (l.take k)) ++ [32]) ++ itoaI (l.getD k 0) = X ++ litsW (l.take (k + 1)) := by
  have e : l.take (k + 1) = l.take k ++ [l.getD k 0] := by rw [List.take_add_one]; simp [List.getD, List.getElem?_eq_getElem hk]
  rw [e]; simp [litsW]
theorem putP_next {p : List (Int × List Int)} {i : Nat} (hi : i < p.length) : ((putP (p.take i) ++ [letW (p.getD i (0, [])).1]) ++ litsW (p.getD i (0, [])).2) ++ [32, 48, 10] = putP (p.take (i + 1)) := by
  have e : p.take (i + 1) = p.take i ++ [p.getD i (0, [])] := by rw [List.take_add_one]; simp [List.getD, List.getElem?_eq_getElem hi]
  rw [e]; simp [putP, lineB]
theorem tail_bytes : bytesI (⟨#[32, 48, 10]⟩ : ByteArray) = [32, 48, 10] := by decide
theorem putP_step {p : List (Int × List Int)} {i k : Nat} (hi : i < p.length) (hk : k = (p.getD i (0, [])).2.length) : ((putP (p.take i) ++ [letW (p.getD i (0, [])).1]) ++ litsW ((p.getD i (0, [])).2.take k)) ++ bytesI (⟨#[32, 48, 10]⟩ : ByteArray) = putP (p.take (i + 1)) := by
  rw [tail_bytes, hk, List.take_length, putP_next hi]
theorem litsW_len {l : List Int} (h : ∀ x ∈ l, -65536 ≤ x ∧ x ≤ 65536) : (litsW l).length ≤ 22 * l.length := by
  induction l with
  | nil => simp [litsW]
  | cons x l ih =>
    have h1 := ih fun y hy => h y (List.mem_cons_of_mem _ hy)
    have h2 := h x List.mem_cons_self
    have h3 := itoa_len (n := x) (by omega) (by omega)
    have e : litsW (x :: l) = 32 :: itoaI x ++ litsW l := by simp [litsW]
    rw [e]; simp only [List.length_cons, List.length_append]; omega
theorem putP_len {p : List (Int × List Int)} (h : ∀ x ∈ p, ∀ y ∈ x.2, -65536 ≤ y ∧ y ≤ 65536) : (putP p).length ≤ 22 * szP p := by
  induction p with
  | nil => simp [putP, szP]
  | cons x p ih =>
    have h1 := ih fun y hy => h y (List.mem_cons_of_mem _ hy)
    have h2 := litsW_len (h x List.mem_cons_self)
    have e : putP (x :: p) = lineB x ++ putP p := by simp [putP]
    have e2 : szP (x :: p) = 1 + x.2.length + szP p := by simp [szP]
    rw [e, e2]; simp only [List.length_append, lineB, List.length_cons, List.length_nil]; omega
theorem szP_app (p q : List (Int × List Int)) : szP (p ++ q) = szP p + szP q := by simp [szP]
theorem szP_at {p : List (Int × List Int)} {i : Nat} (hi : i < p.length) : szP (p.take i) + (1 + (p.getD i (0, [])).2.length) ≤ szP p := by
  have e : p = p.take i ++ ([p.getD i (0, [])] ++ p.drop (i + 1)) := by
    conv => lhs; rw [← List.take_append_drop i p, List.drop_eq_getElem_cons hi]
    simp [List.getD, List.getElem?_eq_getElem hi]
  conv => rhs; rw [e]
  rw [szP_app, szP_app]
  have : szP [p.getD i (0, [])] = 1 + (p.getD i (0, [])).2.length := by simp [szP]
  omega
theorem szP_take (p : List (Int × List Int)) (i : Nat) : szP (p.take i) ≤ szP p := by
  conv => rhs; rw [← List.take_append_drop i p, szP_app]
  omega
theorem len_szP (p : List (Int × List Int)) : p.length ≤ szP p := by
  induction p with
  | nil => simp
  | cons x p ih => have e2 : szP (x :: p) = 1 + x.2.length + szP p := by simp [szP]
                   rw [e2]; simp only [List.length_cons]; omega
theorem mem_szP {p : List (Int × List Int)} {x : Int × List Int} (hx : x ∈ p) : x.2.length < szP p := by
  obtain ⟨i, hi, rfl⟩ := List.getElem_of_mem hx
  have := szP_at hi
  rw [show p.getD i (0, []) = p[i] by simp [List.getD, List.getElem?_eq_getElem hi]] at this
  omega
theorem put_le {p : List (Int × List Int)} (h : ∀ x ∈ p, ∀ y ∈ x.2, -65536 ≤ y ∧ y ≤ 65536) (i : Nat) : (putP (p.take i)).length ≤ 22 * szP p := by
  have := putP_len (p := p.take i) fun x hx => h x (List.mem_of_mem_take hx)
  have := szP_take p i
  omega
theorem put_in24 {p : List (Int × List Int)} {i : Nat} (h : ∀ x ∈ p, ∀ y ∈ x.2, -65536 ≤ y ∧ y ≤ 65536) (hi : i < p.length) (k : Nat) :
    (putP (p.take i)).length + (litsW ((p.getD i (0, [])).2.take k)).length ≤ 22 * szP p := by
  have h1 := putP_len (p := p.take i) fun x hx => h x (List.mem_of_mem_take hx)
  have h2 := szP_at hi
  have hm : p.getD i (0, []) ∈ p := by rw [show p.getD i (0, []) = p[i] by simp [List.getD, List.getElem?_eq_getElem hi]]; exact List.getElem_mem _
  have h3 := litsW_len (l := (p.getD i (0, [])).2.take k) fun x hx => h _ hm x (List.mem_of_mem_take hx)
  have h4 : ((p.getD i (0, [])).2.take k).length ≤ (p.getD i (0, [])).2.length := by rw [List.length_take]; omega
  omega
theorem frm_lits {p : List (Int × List Int)} (h : frmV p = 0) : p.length ≤ 65536 ∧ (∀ x ∈ p, 1 ≤ x.1 ∧ x.1 ≤ 3) ∧ ∀ x ∈ p, ∀ y ∈ x.2, -65536 ≤ y ∧ y ≤ 65536 := by
  obtain ⟨h1, h2⟩ := frm_ok.1 h
  have h3 : ∀ x ∈ p, lineOk x = true := List.all_eq_true.1 h2
  refine ⟨h1, fun x hx => ?_, fun x hx y hy => ?_⟩
  · have := h3 x hx
    unfold lineOk at this
    simp only [Bool.and_eq_true, decide_eq_true_eq] at this
    exact this.1
  · have := h3 x hx
    unfold lineOk at this
    simp only [Bool.and_eq_true, List.all_eq_true] at this
    exact (mayP_iff.1 (this.2 y hy)).2
theorem put_frm {p : List (Int × List Int)} (h : szP p ≤ 1000000000) : p.length ≤ maxLen ∧ ∀ x ∈ p, x.2.length ≤ maxLen := by
  have := len_szP p
  exact ⟨by unfold maxLen; omega, fun x hx => by have := mem_szP hx; unfold maxLen; omega⟩
theorem let_in {k : Int} (h : 1 ≤ k ∧ k ≤ 3) : 0 ≤ k ∧ k < ((⟨#[32, 111, 108, 100]⟩ : ByteArray).size : Int) := by
  have : (⟨#[32, 111, 108, 100]⟩ : ByteArray).size = 4 := rfl
  rw [this]; omega
theorem getD_memI {l : List Int} {k : Nat} (h : k < l.length) : l.getD k 0 ∈ l := by
  rw [show l.getD k 0 = l[k] by simp [List.getD, List.getElem?_eq_getElem h]]; exact List.getElem_mem _
def putV (p : List (Int × List Int)) : List Int := if frmV p = 0 then putP p else []
theorem putV_yes {p : List (Int × List Int)} {i : Nat} (h : frmV p = 0) (hi : i = p.length) : putP (p.take i) = putV p := by unfold putV; rw [if_pos h, hi, List.take_length]
theorem putV_no {p : List (Int × List Int)} (h : ¬ frmV p = 0) : [] = putV p := by unfold putV; rw [if_neg h]
def getF : Nat → List Int → Option (List (Int × List Int))
  | _, [] => some []
  | 0, _ :: _ => none
  | n + 1, x :: r => if ((cutN (x :: r)).2.2 && lnOk (cutN (x :: r)).1) = true then (getF n (cutN (x :: r)).2.1).map ((lnK (cutN (x :: r)).1, lnL (cutN (x :: r)).1) :: ·) else none
theorem cut_cases (xs : List Int) : (cutN xs).2.2 = false ∨ ∃ a r, xs = a ++ 10 :: r ∧ (10 : Int) ∉ a ∧ cutN xs = (a, r, true) := by
  by_cases h : (10 : Int) ∈ xs
  · obtain ⟨a, r, h1, h2⟩ : ∃ a r, xs = a ++ 10 :: r ∧ (10 : Int) ∉ a := by
      induction xs with
      | nil => cases h
      | cons x xs ih =>
        by_cases hx : x = 10
        · exact ⟨[], xs, by rw [hx]; rfl, by simp⟩
        · obtain ⟨a, r, h1, h2⟩ := ih (by rcases List.mem_cons.1 h with h | h; exact absurd h.symm hx; exact h)
          exact ⟨x :: a, r, by rw [h1]; rfl, by simp only [List.mem_cons, not_or]; exact ⟨fun e => hx e.symm, h2⟩⟩
    exact .inr ⟨a, r, h1, h2, by rw [h1, cut_hit h2]⟩
  · exact .inl (by rw [cut_miss h])
theorem cut_lt {xs : List Int} (h : (cutN xs).2.2 = true) : (cutN xs).2.1.length < xs.length ∧ (cutN xs).1.length < xs.length ∧ ∀ x, (x ∈ (cutN xs).1 ∨ x ∈ (cutN xs).2.1) → x ∈ xs := by
  rcases cut_cases xs with h1 | ⟨a, r, h1, h2, h3⟩
  · rw [h1] at h; cases h
  · rw [h3, h1]
    refine ⟨by simp only [List.length_append, List.length_cons]; omega, by simp only [List.length_append, List.length_cons]; omega, fun x hx => ?_⟩
    simp only [List.mem_append, List.mem_cons]
    rcases hx with h | h
    · exact .inl h
    · exact .inr (.inr h)
theorem cut_le (xs : List Int) : (cutN xs).1.length ≤ xs.length ∧ (cutN xs).2.1.length ≤ xs.length ∧ ∀ x, (x ∈ (cutN xs).1 ∨ x ∈ (cutN xs).2.1) → x ∈ xs := by
  cases h : (cutN xs).2.2 with
  | true => have := cut_lt h; exact ⟨by omega, by omega, this.2.2⟩
  | false =>
    have : cutN xs = (xs, [], false) := by
      refine cut_miss fun hm => ?_
      unfold cutN at h
      rw [if_pos (by simpa using hm)] at h
      cases h
    rw [this]
    exact ⟨Nat.le_refl _, Nat.zero_le _, fun x hx => by rcases hx with h | h; exact h; cases h⟩
theorem getF_more : ∀ (n : Nat) (r : List Int), r.length ≤ n → getF n r = getF r.length r := by
  have key : ∀ (n m : Nat) (r : List Int), r.length ≤ n → r.length ≤ m → getF n r = getF m r := by
    intro n
    induction n with
    | zero => intro m r h _; have : r = [] := List.eq_nil_of_length_eq_zero (by omega); subst this; simp [getF]
    | succ n ih =>
      intro m r h1 h2
      cases r with
      | nil => simp [getF]
      | cons x r =>
        cases m with
        | zero => simp at h2
        | succ m =>
          unfold getF
          by_cases hc : ((cutN (x :: r)).2.2 && lnOk (cutN (x :: r)).1) = true
          · rw [if_pos hc, if_pos hc]
            simp only [Bool.and_eq_true] at hc
            have hl := (cut_lt hc.1).1
            simp only [List.length_cons] at h1 h2 hl
            rw [ih m _ (by omega) (by omega)]
          · rw [if_neg hc, if_neg hc]
  exact fun n r h => key n _ r h (Nat.le_refl _)
def getL (b : List Int) : Option (List (Int × List Int)) := getF b.length b
theorem getL_nil : getL [] = some [] := rfl
theorem getL_no {r : List Int} (h0 : 0 < r.length) (h : ((cutN r).2.2 && lnOk (cutN r).1) = false) : getL r = none := by
  cases r with
  | nil => simp at h0
  | cons x r => unfold getL; simp only [List.length_cons]; unfold getF; rw [if_neg (by rw [h]; simp)]
theorem getL_yes {r : List Int} (h0 : 0 < r.length) (h : ((cutN r).2.2 && lnOk (cutN r).1) = true) : getL r = (getL (cutN r).2.1).map ((lnK (cutN r).1, lnL (cutN r).1) :: ·) := by
  cases r with
  | nil => simp at h0
  | cons x r =>
    unfold getL; simp only [List.length_cons]; conv => lhs; unfold getF
    rw [if_pos h]
    simp only [Bool.and_eq_true] at h
    have hl := (cut_lt h.1).1
    simp only [List.length_cons] at hl
    rw [getF_more r.length _ (by omega)]
def getV24 (b : List Int) : List (Int × List Int) × Int := match getL b with
  | none => ([], 11)
  | some l => if 65536 < l.length then ([], 2) else (l, 0)
def getI (b : List Int) (out : List (Int × List Int)) (r : List Int) : Prop := getL b = (getL r).map (out ++ ·)
theorem getI_0 (b : List Int) : getI b [] b := by unfold getI; cases getL b <;> rfl
theorem getI_next {b r : List Int} {out : List (Int × List Int)} (hI : getI b out r) (h0 : 0 < r.length) (h : ((cutN r).2.2 && lnOk (cutN r).1) = true) : getI b (out ++ [(lnK (cutN r).1, lnL (cutN r).1)]) (cutN r).2.1 := by
  unfold getI at hI ⊢
  rw [hI, getL_yes h0 h]
  cases getL (cutN r).2.1 <;> simp
theorem getI_no {b r : List Int} {out : List (Int × List Int)} (hI : getI b out r) (h0 : 0 < r.length) (h : ((cutN r).2.2 && lnOk (cutN r).1) = false) : getV24 b = ([], 11) := by
  unfold getI at hI
  rw [getL_no h0 h] at hI
  unfold getV24; rw [hI]; rfl
theorem getI_end {b r : List Int} {out : List (Int × List Int)} (hI : getI b out r) (h0 : r.length = 0) : getV24 b = if 65536 < out.length then ([], 2) else (out, 0) := by
  have : r = [] := List.eq_nil_of_length_eq_zero h0
  subst this
  unfold getI at hI
  rw [getL_nil, Option.map_some, List.append_nil] at hI
  unfold getV24; rw [hI]
abbrev wsS (s : ByteArray) : List ByteArray := (splitI 32 (bytesI s)).map strOfNums
abbrev mdS (s : ByteArray) : List ByteArray := ((wsS s).take (((wsS s).length : Int) - 1).toNat).drop 1
theorem ws_facts (s : ByteArray) : 1 ≤ (wsS s).length ∧ (wsS s).length ≤ s.size + 1 ∧ ∀ x ∈ wsS s, x.size ≤ s.size := by
  obtain ⟨h1, h2⟩ := splitI_len 32 (bytesI s)
  rw [bytesI_len] at h1
  obtain ⟨w, ws, e⟩ := splitI_ne 32 (bytesI s)
  refine ⟨by rw [wsS, e]; simp, by rw [wsS, List.length_map]; exact h1, fun x hx => ?_⟩
  obtain ⟨v, hv, rfl⟩ := List.mem_map.1 hx
  have := h2 v hv
  rw [bytesI_len] at this
  rw [str_size]; exact this
theorem ws_at (s : ByteArray) (i : Nat) : (wsS s).getD i ByteArray.empty = strOfNums (wd (splitI 32 (bytesI s)) i) := by
  unfold wd wsS
  rw [List.getD_eq_getElem?_getD, List.getElem?_map, List.getD_eq_getElem?_getD]
  cases (splitI 32 (bytesI s))[i]? <;> rfl
theorem wd_bytes (s : ByteArray) (i : Nat) : isBytes (wd (splitI 32 (bytesI s)) i) := by
  unfold wd
  rw [List.getD_eq_getElem?_getD]
  cases h : (splitI 32 (bytesI s))[i]? with
  | none => intro x hx; cases hx
  | some w => exact fun x hx => bytes_is s x (splitI_mem (List.mem_of_getElem? h) x hx)
theorem lnK_is (s : ByteArray) : Lib.index (⟨#[32, 111, 108, 100]⟩ : ByteArray).data.toList ((wsS s).getD 0 ByteArray.empty).data.toList = lnK (bytesI s) := by
  unfold lnK kinI; rw [ws_at]
theorem mid_eq (s : ByteArray) : mdS s = (midW (splitI 32 (bytesI s))).map strOfNums := by
  unfold midW
  rw [List.map_drop, List.map_take]
  show ((wsS s).take _).drop 1 = ((wsS s).take _).drop 1
  have h := (ws_facts s).1
  have e : (((wsS s).length : Int) - 1).toNat = (wsS s).length - 1 := by omega
  rw [e, show (wsS s).length = (splitI 32 (bytesI s)).length from List.length_map ..]
theorem mid_len (s : ByteArray) : (mdS s).length = (midW (splitI 32 (bytesI s))).length := by rw [mid_eq, List.length_map]
theorem mid_at (s : ByteArray) (i : Nat) : (mdS s).getD i ByteArray.empty = strOfNums ((midW (splitI 32 (bytesI s))).getD i []) := by
  rw [mid_eq, List.getD_eq_getElem?_getD, List.getElem?_map, List.getD_eq_getElem?_getD]
  cases (midW (splitI 32 (bytesI s)))[i]? <;> rfl
theorem mid_bytes {s : ByteArray} {i : Nat} : isBytes ((midW (splitI 32 (bytesI s))).getD i []) := by
  rw [List.getD_eq_getElem?_getD]
  cases h : (midW (splitI 32 (bytesI s)))[i]? with
  | none => intro x hx; cases hx
  | some w => exact fun x hx => bytes_is s x (splitI_mem (List.mem_of_mem_take (List.mem_of_mem_drop (List.mem_of_getElem? h))) x hx)
theorem mid_size {s : ByteArray} {i : Nat} (hi : i < (mdS s).length) : ((mdS s).getD i ByteArray.empty).size ≤ s.size := by
  refine (ws_facts s).2.2 _ ?_
  have : (mdS s).getD i ByteArray.empty ∈ mdS s := getD_memS hi
  exact List.mem_of_mem_take (List.mem_of_mem_drop this)
theorem mid_lenS (s : ByteArray) : (mdS s).length ≤ s.size := by
  have := (ws_facts s).2.1
  unfold mdS
  rw [List.length_drop, List.length_take]; omega
theorem head_is (s : ByteArray) : (((((((wsS s).getD 0 ByteArray.empty).size : Int) != 1) || (decide ((Lib.index (⟨#[32, 111, 108, 100]⟩ : ByteArray).data.toList ((wsS s).getD 0 ByteArray.empty).data.toList) < 1))) || (decide (((wsS s).length : Int) - 1 < 1))) || (!(((wsS s).getD (((wsS s).length : Int) - 1).toNat ByteArray.empty).toList == (⟨#[48]⟩ : ByteArray).toList))) = !headW (splitI 32 (bytesI s)) := by
  rw [lnK_is, ws_at, ws_at]
  have e48 : (⟨#[48]⟩ : ByteArray) = strOfNums [48] := by decide
  have hb : isBytes [48] := fun x hx => by rw [List.mem_singleton] at hx; omega
  have h := (ws_facts s).1
  have el : (wsS s).length = (splitI 32 (bytesI s)).length := List.length_map ..
  have e1 : (((wsS s).length : Int) - 1).toNat = (splitI 32 (bytesI s)).length - 1 := by omega
  rw [e48, str_inj (wd_bytes s _) hb, e1, str_size, el]
  unfold headW lnK
  have k1 : (((wd (splitI 32 (bytesI s)) 0).length : Int) != 1) = !decide ((wd (splitI 32 (bytesI s)) 0).length = 1) := by
    rw [Bool.eq_iff_iff, bne_iff_ne, Bool.not_eq_true', decide_eq_false_iff_not]; omega
  have k2 : decide (kinI (wd (splitI 32 (bytesI s)) 0) < 1) = !decide (1 ≤ kinI (wd (splitI 32 (bytesI s)) 0)) := by
    rw [Bool.eq_iff_iff, Bool.not_eq_true', decide_eq_false_iff_not, decide_eq_true_eq]; omega
  have k3 : decide (((splitI 32 (bytesI s)).length : Int) - 1 < 1) = !decide (2 ≤ (splitI 32 (bytesI s)).length) := by
    rw [Bool.eq_iff_iff, Bool.not_eq_true', decide_eq_false_iff_not, decide_eq_true_eq]; omega
  rw [k1, k2, k3]
  simp only [Bool.not_and, Bool.or_assoc]
theorem headS_no {s : ByteArray} {b : Bool} (hb : b = !headW (splitI 32 (bytesI s))) (h : b = true) : headW (splitI 32 (bytesI s)) = false := by
  rw [h] at hb; simpa using hb.symm
theorem headS_yes {s : ByteArray} {b : Bool} (hb : b = !headW (splitI 32 (bytesI s))) (h : b = false) : headW (splitI 32 (bytesI s)) = true := by
  rw [h] at hb; simpa using hb.symm
theorem lit_no {s : ByteArray} {i : Nat} (h : badLit ((mdS s).getD i ByteArray.empty) = true) : litW ((midW (splitI 32 (bytesI s))).getD i []) = false := by
  rw [mid_at, (bad_lit _ mid_bytes).1] at h; simpa using h
theorem lit_yes {s : ByteArray} {i : Nat} (h : badLit ((mdS s).getD i ByteArray.empty) = false) : litW ((midW (splitI 32 (bytesI s))).getD i []) = true ∧ (atoiV ((mdS s).getD i ByteArray.empty).data.toList).1 = numN ((midW (splitI 32 (bytesI s))).getD i []) := by
  rw [mid_at] at h ⊢
  have e := bad_lit ((midW (splitI 32 (bytesI s))).getD i []) mid_bytes
  rw [e.1] at h
  have h' : litW ((midW (splitI 32 (bytesI s))).getD i []) = true := by simpa using h
  exact ⟨h', e.2 h'⟩
theorem mid_next {s : ByteArray} {i : Nat} (hi : i < (mdS s).length) (h : (atoiV ((mdS s).getD i ByteArray.empty).data.toList).1 = numN ((midW (splitI 32 (bytesI s))).getD i [])) :
    ((midW (splitI 32 (bytesI s))).take i).map numN ++ [(atoiV ((mdS s).getD i ByteArray.empty).data.toList).1] = ((midW (splitI 32 (bytesI s))).take (i + 1)).map numN := by
  rw [h]
  rw [mid_len] at hi
  rw [List.take_add_one, List.map_append]
  simp [List.getD, List.getElem?_eq_getElem hi]
theorem ln_head {s : ByteArray} (h : headW (splitI 32 (bytesI s)) = false) : [] = lnL (bytesI s) := by unfold lnL; rw [h]; rfl
theorem lnOk_head {s : ByteArray} (h : headW (splitI 32 (bytesI s)) = false) : false = lnOk (bytesI s) := by unfold lnOk; rw [h]; rfl
theorem tw_stop {l : List (List Int)} {i : Nat} (hi : i < l.length) (hok : ∀ j, j < i → litW (l.getD j []) = true) (hq : litW (l.getD i []) = false) : l.takeWhile litW = l.take i ∧ l.all litW = false := by
  have hg : ∀ j, (h : j < l.length) → l.getD j [] = l[j] := fun j h => by simp [List.getD, List.getElem?_eq_getElem h]
  have e : l = l.take i ++ l[i] :: l.drop (i + 1) := by rw [← List.drop_eq_getElem_cons hi, List.take_append_drop]
  have h1 : ∀ x ∈ l.take i, litW x = true := fun x hx => by
    obtain ⟨j, hj, rfl⟩ := List.getElem_of_mem hx
    rw [List.length_take] at hj
    have := hok j (by omega)
    rw [hg j (by omega)] at this
    rw [List.getElem_take]; exact this
  rw [hg i hi] at hq
  refine ⟨?_, ?_⟩
  · conv => lhs; rw [e, List.takeWhile_append_of_pos h1, List.takeWhile_cons]
    rw [hq]; simp
  · rw [List.all_eq_false]
    exact ⟨l[i], List.getElem_mem _, by rw [hq]; simp⟩
theorem tw_all {l : List (List Int)} {i : Nat} (hi : i = l.length) (hok : ∀ j, j < i → litW (l.getD j []) = true) : l.takeWhile litW = l.take i ∧ l.all litW = true := by
  have h1 : ∀ x ∈ l, litW x = true := fun x hx => by
    obtain ⟨j, hj, rfl⟩ := List.getElem_of_mem hx
    have := hok j (by omega)
    rwa [show l.getD j [] = l[j] by simp [List.getD, List.getElem?_eq_getElem hj]] at this
  refine ⟨?_, List.all_eq_true.2 h1⟩
  rw [hi, List.take_length]
  have := List.takeWhile_append_of_pos (l₂ := []) h1
  simpa using this
theorem ln_stop {s : ByteArray} {i : Nat} (hH : headW (splitI 32 (bytesI s)) = true) (hi : i < (mdS s).length) (hok : ∀ j, j < i → litW ((midW (splitI 32 (bytesI s))).getD j []) = true) (hq : litW ((midW (splitI 32 (bytesI s))).getD i []) = false) :
    ((midW (splitI 32 (bytesI s))).take i).map numN = lnL (bytesI s) := by
  unfold lnL; rw [if_pos hH, (tw_stop (by rw [← mid_len]; exact hi) hok hq).1]
theorem lnOk_stop {s : ByteArray} {i : Nat} (hi : i < (mdS s).length) (hok : ∀ j, j < i → litW ((midW (splitI 32 (bytesI s))).getD j []) = true) (hq : litW ((midW (splitI 32 (bytesI s))).getD i []) = false) : false = lnOk (bytesI s) := by
  unfold lnOk; rw [(tw_stop (by rw [← mid_len]; exact hi) hok hq).2, Bool.and_false]
theorem ln_all {s : ByteArray} {i : Nat} (hH : headW (splitI 32 (bytesI s)) = true) (hi : i = (mdS s).length) (hok : ∀ j, j < i → litW ((midW (splitI 32 (bytesI s))).getD j []) = true) :
    ((midW (splitI 32 (bytesI s))).take i).map numN = lnL (bytesI s) := by
  unfold lnL; rw [if_pos hH, (tw_all (by rw [← mid_len]; exact hi) hok).1]
theorem lnOk_all {s : ByteArray} {i : Nat} (hH : headW (splitI 32 (bytesI s)) = true) (hi : i = (mdS s).length) (hok : ∀ j, j < i → litW ((midW (splitI 32 (bytesI s))).getD j []) = true) : true = lnOk (bytesI s) := by
  unfold lnOk; rw [hH, (tw_all (by rw [← mid_len]; exact hi) hok).2]; rfl
theorem ws_in {a b : Bool} {n : Int} (h : (!((a || b) || decide (n - 1 < 1))) = true) : 0 ≤ n - 1 ∧ n - 1 < n := by
  simp only [Bool.not_eq_true', Bool.or_eq_false_iff, decide_eq_false_iff_not] at h
  omega
theorem fit_may {a : Bool} {x : Int} (h : (!(a || !mayP x 65536)) = true) : Fit x := by
  simp only [Bool.not_eq_true', Bool.or_eq_false_iff, Bool.not_eq_false'] at h
  have := mayP_iff.1 h.2
  exact ⟨by omega, by omega⟩
theorem headS_two {s : ByteArray} (h : headW (splitI 32 (bytesI s)) = true) : 2 ≤ (wsS s).length := by
  unfold headW at h
  simp only [Bool.and_eq_true, decide_eq_true_eq] at h
  rw [show (wsS s).length = (splitI 32 (bytesI s)).length from List.length_map ..]
  exact h.2.2.1
theorem md_take {s : ByteArray} {i : Nat} (hi : i ≤ (mdS s).length) : (((midW (splitI 32 (bytesI s))).take i).map numN).length = i := by
  rw [mid_len] at hi
  rw [List.length_map, List.length_take]; omega
theorem cut_bytes {xs : List Int} (h : isBytes xs) : isBytes (cutN xs).1 ∧ isBytes (cutN xs).2.1 := by
  obtain ⟨_, _, h3⟩ := cut_le xs
  exact ⟨fun x hx => h x (h3 x (.inl hx)), fun x hx => h x (h3 x (.inr hx))⟩
theorem cg_no {a b : Bool} (h : (!a || !b) = true) : (a && b) = false := by cases a <;> cases b <;> simp_all
theorem cg_yes {a b : Bool} (h : (!a || !b) = false) : (a && b) = true := by cases a <;> cases b <;> simp_all
theorem cg_1 {a b : Bool} (h : (a && b) = true) : a = true := by cases a <;> simp_all
end Go.Proofs.YtbpbndlgfiammaaGreatDoor.Cn
namespace Go.Proofs.YtbpbndlgfiammaaGreatDoor.En
open Go Go.RowKit
def tyTxt : List (Nat × TD) := [(2, ⟨1, false, [.int .i64 0], [], none, 8, false, 1, 1⟩),
  (3, ⟨1, false, [.int .i64 0], [], none, 8, false, 1, 1⟩),
  (5, ⟨1, false, [.int .u8 0], [], none, 1, false, 2, 8⟩),
  (9, ⟨1, false, [.string ⟨#[]⟩], [], none, 16, false, 9, 9⟩),
  (23, ⟨1, false, [.slice none 0 0], [], some 3, 24, false, 0, 3⟩),
  (29, ⟨1, false, [.slice none 0 0], [], some 43, 24, false, 0, 0⟩),
  (31, ⟨1, false, [.int .i64 0], [], none, 8, false, 1, 1⟩),
  (34, ⟨1, false, [.slice none 0 0], [], some 5, 24, false, 0, 0⟩),
  (43, ⟨2, true, [.int .i64 0, .slice none 0 0], [(0, 3), (1, 23)], none, 32, false, 0, 7⟩),
  (105, ⟨1, false, [.slice none 0 0], [], some 9, 24, false, 0, 0⟩),
  (109, ⟨1, false, [.nilIface], [], none, 16, false, 11, 0⟩)]
theorem tyTxt_ok : AllTy Tryz.prog tyTxt := ⟨⟨by kernel_rfl, by kernel_rfl, by kernel_rfl⟩, ⟨by kernel_rfl, by kernel_rfl, by kernel_rfl⟩, ⟨by kernel_rfl, by kernel_rfl, by kernel_rfl⟩, ⟨by kernel_rfl, by kernel_rfl, by kernel_rfl⟩, ⟨by kernel_rfl, by kernel_rfl, by kernel_rfl⟩, ⟨by kernel_rfl, by kernel_rfl, by kernel_rfl⟩, ⟨by kernel_rfl, by kernel_rfl, by kernel_rfl⟩, ⟨by kernel_rfl, by kernel_rfl, by kernel_rfl⟩, ⟨by kernel_rfl, by kernel_rfl, by kernel_rfl⟩, ⟨by kernel_rfl, by kernel_rfl, by kernel_rfl⟩, ⟨by kernel_rfl, by kernel_rfl, by kernel_rfl⟩, trivial⟩
def cx_sAppInt : Cx := ⟨tyTxt, [(84, sAppI)], true⟩
theorem cx_sAppInt_ok : CxOk Tryz.prog cx_sAppInt := cx_ok tyTxt_ok ⟨sAppI_sound, trivial⟩
def sAppInt_σ : CtF
  | [.row 0, .im (.val (.int .i64 i)), .im (.val (.int .i64 b))], [.row 5 (.bytes xs)] => some (Fit i ∧ b = 10 ∧ xs.length + 21 ≤ 1000000000000, .row 1, [none, some (.row 5 (.bytes (xs ++ Cn.itoaI i)))])
  | _, _ => none
theorem sAppInt_sound : Sound Tryz.prog 55 sAppInt_σ := by
 refine Sw (cx := cx_sAppInt) Tryz.f55 Tryz.func55 ?_
 intro wW wO wβ G0 args os p r outs hσ hp
 have hcx := cx_sAppInt_ok
 unfold sAppInt_σ at hσ
 split at hσ
 ·
  rename_i i b xs
  cases hσ
  refine ⟨by kernel_rfl, ?_⟩
  refine Sz hcx [] [] [] [] (Sq hcx [(1003, .to 210)] [6] [0, 1, 2] [0] [(Fit i ∧ b = 10 ∧ xs.length + 21 ≤ 1000000000000)] ?_ (Zr (Fn [(210, .to 1)] [6] (Ru hcx [false, true]))))
  ·
   refine ap ?_ az
   first | exact hp | done
 ·
  cases hσ
def cx_pPut : Cx := ⟨tyTxt, [(55, sAppInt_σ), (43, pFormed_σ)], true⟩
theorem cx_pPut_ok : CxOk Tryz.prog cx_pPut := cx_ok tyTxt_ok ⟨sAppInt_sound, pFormed_sound, trivial⟩
def pPut_σ : CtF
  | [.im (.ls (.lines p))], [] => some (Cn.szP p ≤ 1000000000, .tup [.bytes (Cn.putV p), .int (Cn.frmV p)], [])
  | _, _ => none
theorem pPut_sound : Sound Tryz.prog 19 pPut_σ := by
 refine Sw (cx := cx_pPut) Tryz.f19 Tryz.func19 ?_
 intro wW wO wβ G0 args os p r outs hσ hp
 have hcx := cx_pPut_ok
 unfold pPut_σ at hσ
 split at hσ
 ·
  rename_i p
  cases hσ
  refine ⟨by kernel_rfl, ?_⟩
  have hm1 := hp
  have hpl := Cn.len_szP p
  have hml := fun x (hx : x ∈ p) => Cn.mem_szP hx
  have hfr := Cn.put_frm hm1
  refine Sz hcx [] [] [] [] (Zs (Sq hcx [] [4] [] [] [(p.length ≤ maxLen ∧ ∀ x ∈ p, x.2.length ≤ maxLen)] ?_ (Sz hcx [] [13] [] [] (Zx (a := (Cn.frmV p)) (b := 0) (fun h0 => ?_) fun h0 => ?_))))
  ·
   refine ap ?_ az
   first | omega | exact id | exact vcNot | exact vcG | exact vcH | (intro _; omega) | exact (fun _ h => h) | (intro h; simp at h; omega) | (simp only [List.length_cons, List.length_nil, List.length_append, List.length_map, List.length_set, List.length_replicate]; omega) | (intro h; simp [h]; done) | (constructor <;> omega) | exact hfr | exact Cn.let_in (hq2 _ (hxm (by omega))) | (have h8 := hlit (by omega); exact ⟨⟨by omega, by omega⟩, rfl, by simp only [List.length_append, List.length_cons, List.length_nil]; omega⟩) | (have h9 : (⟨#[32, 48, 10]⟩ : ByteArray).size = 3 := rfl; rw [h9]; simp only [List.length_append, List.length_cons, List.length_nil]; omega) | done
  ·
   have hne : ¬ Cn.frmV p = 0 := by simpa using h0
   exact Sz hcx [] [2, 3] [13, 4, 0] [] (Zr (Fr (Fp 2 (.bytes []) (Rv hcx (congrArg AV.tup (consE (congrArg AV.bytes (show [] = (Cn.putV p) from (by first | exact Cn.putV_yes he (by omega) | exact Cn.putV_no hne | exact he.symm | rfl | done))) rfl)) [] rfl))))
  ·
   have he : Cn.frmV p = 0 := by simpa using h0
   obtain ⟨hq1, hq2, hq3⟩ := Cn.frm_lits he
   have hbd := fun i => Cn.put_le hq3 i
   refine Zk (Ft (Sz hcx [] [5] [13, 4] [] (Zs (Sz hcx [] [15, 16, 17] [0] [] (Zb (Zw 5 700 5 (.bytes []) (Lp (X := Nat) (fun x0 => x0 ≤ p.length) (fun x0 => ([(5, .row 700), (15, .lines p), (16, .int (p.length : Int)), (17, .int (x0 : Int))], [(700, .row 5 (.bytes (Cn.putP (p.take x0))))])) (fun x0 => p.length - x0) (0) ?_ (Ex 17 (congrArg AV.int (show 0 = (0 : Int) from (by first | rfl | omega | (simp; done)))) Eb) Hb fun i hI => ?_)))))))
   ·
    show 0 ≤ p.length
    omega
   ·
    replace hI : i ≤ p.length := hI
    have hbi := fun (hi : i < p.length) (k : Nat) => Cn.put_in24 hq3 hi k
    have hbj := hbd i
    have hxm := fun (hi : i < p.length) => Cn.getD_memL (d := (0, [])) hi
    refine Sz hcx [] [18] [] [] (Zs (Zj (p := ((i : Int) < (p.length : Int))) (fun h1 => ?_) fun h1 => ?_))
    ·
     refine Zk (Ft (Zs (Zb (Sq hcx [(1002, .to 607)] [7] [18] [] [((0 : Int) ≤ (i : Int) ∧ (i : Int) < (p.length : Int))] ?_ (Sq hcx [(1005, .to 700)] [5] [] [700] [((0 : Int) ≤ (p.getD i (0, [])).1 ∧ (p.getD i (0, [])).1 < ((⟨#[32, 111, 108, 100]⟩ : ByteArray).size : Int)), (((Cn.putP (p.take i)).length + [((bytesI (⟨#[32, 111, 108, 100]⟩ : ByteArray)).getD (((p.getD i (0, [])).1).toNat) 0)].length) * 1 ≤ 140737488355328)] ?_ (Zs (Sz hcx [] [28, 29, 30] [7] [607] (Zb (Zn [(700, .to 701)] [5, 15, 16, 17, 28, 29, 30] (Lp (X := Nat) (fun x0 => x0 ≤ (p.getD i (0, [])).2.length) (fun x0 => ([(5, .row 701), (15, .lines p), (16, .int (p.length : Int)), (17, .int (i : Int)), (28, .ints ((p.getD i (0, [])).2)), (29, .int (((p.getD i (0, [])).2).length : Int)), (30, .int (x0 : Int))], [(701, .row 5 (.bytes ((Cn.putP (p.take i) ++ [Cn.letW (p.getD i (0, [])).1]) ++ Cn.litsW ((p.getD i (0, [])).2.take x0))))])) (fun x0 => (p.getD i (0, [])).2.length - x0) (0) ?_ (Ex 30 (congrArg AV.int (show 0 = (0 : Int) from (by first | rfl | omega | (simp; done)))) Eb) (Hx 701 (congrArg (fun x => AObj.row 5 (.bytes x)) (show ((Cn.putP (p.take i)) ++ [((bytesI (⟨#[32, 111, 108, 100]⟩ : ByteArray)).getD (((p.getD i (0, [])).1).toNat) 0)]) = ((Cn.putP (p.take i) ++ [Cn.letW (p.getD i (0, [])).1]) ++ Cn.litsW ((p.getD i (0, [])).2.take 0)) from (by (exact (List.append_nil _).symm)))) Hb) fun k hI => ?_))))))))))
     ·
      refine ap ?_ az
      first | omega | exact id | exact vcNot | exact vcG | exact vcH | (intro _; omega) | exact (fun _ h => h) | (intro h; simp at h; omega) | (simp only [List.length_cons, List.length_nil, List.length_append, List.length_map, List.length_set, List.length_replicate]; omega) | (intro h; simp [h]; done) | (constructor <;> omega) | exact hfr | exact Cn.let_in (hq2 _ (hxm (by omega))) | (have h8 := hlit (by omega); exact ⟨⟨by omega, by omega⟩, rfl, by simp only [List.length_append, List.length_cons, List.length_nil]; omega⟩) | (have h9 : (⟨#[32, 48, 10]⟩ : ByteArray).size = 3 := rfl; rw [h9]; simp only [List.length_append, List.length_cons, List.length_nil]; omega) | done
     ·
      refine ap ?_ (ap ?_ az) <;>
       first | omega | exact id | exact vcNot | exact vcG | exact vcH | (intro _; omega) | exact (fun _ h => h) | (intro h; simp at h; omega) | (simp only [List.length_cons, List.length_nil, List.length_append, List.length_map, List.length_set, List.length_replicate]; omega) | (intro h; simp [h]; done) | (constructor <;> omega) | exact hfr | exact Cn.let_in (hq2 _ (hxm (by omega))) | (have h8 := hlit (by omega); exact ⟨⟨by omega, by omega⟩, rfl, by simp only [List.length_append, List.length_cons, List.length_nil]; omega⟩) | (have h9 : (⟨#[32, 48, 10]⟩ : ByteArray).size = 3 := rfl; rw [h9]; simp only [List.length_append, List.length_cons, List.length_nil]; omega) | done
     ·
      show 0 ≤ (p.getD i (0, [])).2.length
      omega
     ·
      try dsimp only at hI
      have hk2 := hbi (by omega) k
      have hxl := hml _ (hxm (by omega))
      have hlit := fun (hk : k < (p.getD i (0, [])).2.length) => hq3 _ (hxm (by omega)) _ (Cn.getD_memI hk)
      refine Sz hcx [] [31] [] [] (Zs (Zj (p := ((k : Int) < (((p.getD i (0, [])).2).length : Int))) (fun h2 => ?_) fun h2 => ?_))
      ·
       refine Zk (Ft (Zs (Zb (Sq hcx [] [9] [31] [] [((0 : Int) ≤ (k : Int) ∧ (k : Int) < (((p.getD i (0, [])).2).length : Int))] ?_ (Tq hcx [(1004, .to 701)] [5] [9] [701] [((((Cn.putP (p.take i) ++ [Cn.letW (p.getD i (0, [])).1]) ++ Cn.litsW ((p.getD i (0, [])).2.take k)).length + [32].length) * 1 ≤ 140737488355328), (Fit (((p.getD i (0, [])).2).getD k 0) ∧ (10 : Int) = 10 ∧ (((Cn.putP (p.take i) ++ [Cn.letW (p.getD i (0, [])).1]) ++ Cn.litsW ((p.getD i (0, [])).2.take k)) ++ [32]).length + 21 ≤ 1000000000000)] ?_ (Fb (Ft (Tq hcx [] [30] [] [] [Fit ((k : Int) + 1)] ?_ (Lr (k + 1) ?_ ?_ (Ex 30 (congrArg AV.int (show ((k : Int) + 1) = ((k + 1) : Int) from (by first | rfl | omega | (simp; done)))) Eb) (Hx 701 (congrArg (fun x => AObj.row 5 (.bytes x)) (show ((((Cn.putP (p.take i) ++ [Cn.letW (p.getD i (0, [])).1]) ++ Cn.litsW ((p.getD i (0, [])).2.take k)) ++ [32]) ++ Cn.itoaI (((p.getD i (0, [])).2).getD k 0)) = ((Cn.putP (p.take i) ++ [Cn.letW (p.getD i (0, [])).1]) ++ Cn.litsW ((p.getD i (0, [])).2.take (k + 1))) from (by exact Cn.litsW_next (by omega) _))) Hb))))))))))
       ·
        refine ap ?_ az
        first | omega | exact id | exact vcNot | exact vcG | exact vcH | (intro _; omega) | exact (fun _ h => h) | (intro h; simp at h; omega) | (simp only [List.length_cons, List.length_nil, List.length_append, List.length_map, List.length_set, List.length_replicate]; omega) | (intro h; simp [h]; done) | (constructor <;> omega) | exact hfr | exact Cn.let_in (hq2 _ (hxm (by omega))) | (have h8 := hlit (by omega); exact ⟨⟨by omega, by omega⟩, rfl, by simp only [List.length_append, List.length_cons, List.length_nil]; omega⟩) | (have h9 : (⟨#[32, 48, 10]⟩ : ByteArray).size = 3 := rfl; rw [h9]; simp only [List.length_append, List.length_cons, List.length_nil]; omega) | done
       ·
        refine ap ?_ (ap ?_ az) <;>
         first | omega | exact id | exact vcNot | exact vcG | exact vcH | (intro _; omega) | exact (fun _ h => h) | (intro h; simp at h; omega) | (simp only [List.length_cons, List.length_nil, List.length_append, List.length_map, List.length_set, List.length_replicate]; omega) | (intro h; simp [h]; done) | (constructor <;> omega) | exact hfr | exact Cn.let_in (hq2 _ (hxm (by omega))) | (have h8 := hlit (by omega); exact ⟨⟨by omega, by omega⟩, rfl, by simp only [List.length_append, List.length_cons, List.length_nil]; omega⟩) | (have h9 : (⟨#[32, 48, 10]⟩ : ByteArray).size = 3 := rfl; rw [h9]; simp only [List.length_append, List.length_cons, List.length_nil]; omega) | done
       ·
        refine ap ?_ az
        first | omega | exact id | exact vcNot | exact vcG | exact vcH | (intro _; omega) | exact (fun _ h => h) | (intro h; simp at h; omega) | (simp only [List.length_cons, List.length_nil, List.length_append, List.length_map, List.length_set, List.length_replicate]; omega) | (intro h; simp [h]; done) | (constructor <;> omega) | exact hfr | exact Cn.let_in (hq2 _ (hxm (by omega))) | (have h8 := hlit (by omega); exact ⟨⟨by omega, by omega⟩, rfl, by simp only [List.length_append, List.length_cons, List.length_nil]; omega⟩) | (have h9 : (⟨#[32, 48, 10]⟩ : ByteArray).size = 3 := rfl; rw [h9]; simp only [List.length_append, List.length_cons, List.length_nil]; omega) | done
       ·
        show (k + 1) ≤ (p.getD i (0, [])).2.length
        omega
       ·
        try dsimp only
        omega
      ·
       refine Ze (Fe (Fe (Fs (Ft (Tq hcx [(1001, .to 701)] [5] [31, 28, 29, 30] [701] [((((Cn.putP (p.take i) ++ [Cn.letW (p.getD i (0, [])).1]) ++ Cn.litsW ((p.getD i (0, [])).2.take k)).length + (⟨#[32, 48, 10]⟩ : ByteArray).size) * 1 ≤ 140737488355328)] ?_ (Fb (Ft (Tq hcx [] [17] [] [] [Fit ((i : Int) + 1)] ?_ (Fn [(701, .to 700)] [5, 15, 16, 17] (Lr (i + 1) ?_ ?_ (Ex 17 (congrArg AV.int (show ((i : Int) + 1) = ((i + 1) : Int) from (by first | rfl | omega | (simp; done)))) Eb) (Hx 700 (congrArg (fun x => AObj.row 5 (.bytes x)) (show (((Cn.putP (p.take i) ++ [Cn.letW (p.getD i (0, [])).1]) ++ Cn.litsW ((p.getD i (0, [])).2.take k)) ++ (bytesI (⟨#[32, 48, 10]⟩ : ByteArray))) = (Cn.putP (p.take (i + 1))) from (by exact Cn.putP_step (by omega) (by omega)))) Hb)))))))))))
       ·
        refine ap ?_ az
        first | omega | exact id | exact vcNot | exact vcG | exact vcH | (intro _; omega) | exact (fun _ h => h) | (intro h; simp at h; omega) | (simp only [List.length_cons, List.length_nil, List.length_append, List.length_map, List.length_set, List.length_replicate]; omega) | (intro h; simp [h]; done) | (constructor <;> omega) | exact hfr | exact Cn.let_in (hq2 _ (hxm (by omega))) | (have h8 := hlit (by omega); exact ⟨⟨by omega, by omega⟩, rfl, by simp only [List.length_append, List.length_cons, List.length_nil]; omega⟩) | (have h9 : (⟨#[32, 48, 10]⟩ : ByteArray).size = 3 := rfl; rw [h9]; simp only [List.length_append, List.length_cons, List.length_nil]; omega) | done
       ·
        refine ap ?_ az
        first | omega | exact id | exact vcNot | exact vcG | exact vcH | (intro _; omega) | exact (fun _ h => h) | (intro h; simp at h; omega) | (simp only [List.length_cons, List.length_nil, List.length_append, List.length_map, List.length_set, List.length_replicate]; omega) | (intro h; simp [h]; done) | (constructor <;> omega) | exact hfr | exact Cn.let_in (hq2 _ (hxm (by omega))) | (have h8 := hlit (by omega); exact ⟨⟨by omega, by omega⟩, rfl, by simp only [List.length_append, List.length_cons, List.length_nil]; omega⟩) | (have h9 : (⟨#[32, 48, 10]⟩ : ByteArray).size = 3 := rfl; rw [h9]; simp only [List.length_append, List.length_cons, List.length_nil]; omega) | done
       ·
        show (i + 1) ≤ p.length
        omega
       ·
        show p.length - (i + 1) < p.length - i
        omega
    ·
     exact Ze (Fe (Fe (Fs (Ft (Sz hcx [(700, .frz)] [2, 3] [18, 5, 15, 16, 17] [] (Zr (Rv hcx (congrArg AV.tup (consE (congrArg AV.bytes (show (Cn.putP (p.take i)) = (Cn.putV p) from (by first | exact Cn.putV_yes he (by omega) | exact Cn.putV_no hne | exact he.symm | rfl | done))) (consE (congrArg AV.int (show 0 = (Cn.frmV p) from (by first | exact Cn.putV_yes he (by omega) | exact Cn.putV_no hne | exact he.symm | rfl | done))) rfl))) [] rfl)))))))
 ·
  cases hσ
def cx_pLine : Cx := ⟨tyTxt, [(87, sSplit), (88, sIndexS), (89, sAtoi), (90, sItoa), (36, pLit_σ)], true⟩
theorem cx_pLine_ok : CxOk Tryz.prog cx_pLine := cx_ok tyTxt_ok ⟨sSplit_sound, sIndexS_sound, sAtoi_sound, sItoa_sound, pLit_sound, trivial⟩
def pLine_σ : CtF
  | [.im (.val (.string s))], [] => some (s.size ≤ 1000000, .tup [.agg [.int (Cn.lnK (bytesI s)), .ints (Cn.lnL (bytesI s))], .bool (Cn.lnOk (bytesI s))], [])
  | _, _ => none
theorem pLine_sound : Sound Tryz.prog 58 pLine_σ := by
 refine Sw (cx := cx_pLine) Tryz.f58 Tryz.func58 ?_
 intro wW wO wβ G0 args os p r outs hσ hp
 have hcx := cx_pLine_ok
 unfold pLine_σ at hσ
 split at hσ
 ·
  rename_i s
  cases hσ
  refine ⟨by kernel_rfl, ?_⟩
  have hm1 := hp
  have hK := Cn.lnK_is s
  obtain ⟨hl1, hl2, hl3⟩ := Cn.ws_facts s
  have hml := Cn.mid_lenS s
  refine Sz hcx [(1000, .to 602)] [2] [] [] (Sq hcx [(1001, .to 211)] [4] [0] [] [(s.size ≤ 1000000 ∧ (⟨#[32]⟩ : ByteArray) = ⟨#[32]⟩)] ?_ (Zs (Zn [(602, .to 602), (211, .frz)] [4, 2] (Tq hcx [] [5] [] [] [Fit (((Cn.wsS s).length : Int) - 1)] ?_ (Ft (Sq hcx [(602, .to 602)] [] [] [] [((0 : Int) ≤ 0 ∧ 0 < ((Cn.wsS s).length : Int)), ((⟨#[32, 111, 108, 100]⟩ : ByteArray).size ≤ 4294967280)] ?_ (Zs (Sq hcx [] [40] [] [] [((0 : Int) ≤ 0 ∧ 0 < ((Cn.wsS s).length : Int)), ((!((((Cn.wsS s).getD 0 ByteArray.empty).size : Int) != 1)) = true → ((!((((Cn.wsS s).getD 0 ByteArray.empty).size : Int) != 1)) = true)), ((!((((Cn.wsS s).getD 0 ByteArray.empty).size : Int) != 1)) = true → ((!((((Cn.wsS s).getD 0 ByteArray.empty).size : Int) != 1)) = true)), (((((Cn.wsS s).getD 0 ByteArray.empty).size : Int) != 1) = false → (!((((Cn.wsS s).getD 0 ByteArray.empty).size : Int) != 1)) = true), ((!(((((Cn.wsS s).getD 0 ByteArray.empty).size : Int) != 1) || (decide ((Lib.index (⟨#[32, 111, 108, 100]⟩ : ByteArray).data.toList ((Cn.wsS s).getD 0 ByteArray.empty).data.toList) < 1)))) = true → ((!(((((Cn.wsS s).getD 0 ByteArray.empty).size : Int) != 1) || (decide ((Lib.index (⟨#[32, 111, 108, 100]⟩ : ByteArray).data.toList ((Cn.wsS s).getD 0 ByteArray.empty).data.toList) < 1)))) = true)), ((((((Cn.wsS s).getD 0 ByteArray.empty).size : Int) != 1) || (decide ((Lib.index (⟨#[32, 111, 108, 100]⟩ : ByteArray).data.toList ((Cn.wsS s).getD 0 ByteArray.empty).data.toList) < 1))) = false → (!(((((Cn.wsS s).getD 0 ByteArray.empty).size : Int) != 1) || (decide ((Lib.index (⟨#[32, 111, 108, 100]⟩ : ByteArray).data.toList ((Cn.wsS s).getD 0 ByteArray.empty).data.toList) < 1)))) = true), ((!((((((Cn.wsS s).getD 0 ByteArray.empty).size : Int) != 1) || (decide ((Lib.index (⟨#[32, 111, 108, 100]⟩ : ByteArray).data.toList ((Cn.wsS s).getD 0 ByteArray.empty).data.toList) < 1))) || (decide ((((Cn.wsS s).length : Int) - 1) < 1)))) = true → ((!((((((Cn.wsS s).getD 0 ByteArray.empty).size : Int) != 1) || (decide ((Lib.index (⟨#[32, 111, 108, 100]⟩ : ByteArray).data.toList ((Cn.wsS s).getD 0 ByteArray.empty).data.toList) < 1))) || (decide ((((Cn.wsS s).length : Int) - 1) < 1)))) = true)), ((!((((((Cn.wsS s).getD 0 ByteArray.empty).size : Int) != 1) || (decide ((Lib.index (⟨#[32, 111, 108, 100]⟩ : ByteArray).data.toList ((Cn.wsS s).getD 0 ByteArray.empty).data.toList) < 1))) || (decide ((((Cn.wsS s).length : Int) - 1) < 1)))) = true → ((!((((((Cn.wsS s).getD 0 ByteArray.empty).size : Int) != 1) || (decide ((Lib.index (⟨#[32, 111, 108, 100]⟩ : ByteArray).data.toList ((Cn.wsS s).getD 0 ByteArray.empty).data.toList) < 1))) || (decide ((((Cn.wsS s).length : Int) - 1) < 1)))) = true)), ((!((((((Cn.wsS s).getD 0 ByteArray.empty).size : Int) != 1) || (decide ((Lib.index (⟨#[32, 111, 108, 100]⟩ : ByteArray).data.toList ((Cn.wsS s).getD 0 ByteArray.empty).data.toList) < 1))) || (decide ((((Cn.wsS s).length : Int) - 1) < 1)))) = true → ((0 : Int) ≤ (((Cn.wsS s).length : Int) - 1) ∧ (((Cn.wsS s).length : Int) - 1) < ((Cn.wsS s).length : Int))), ((!((((((Cn.wsS s).getD 0 ByteArray.empty).size : Int) != 1) || (decide ((Lib.index (⟨#[32, 111, 108, 100]⟩ : ByteArray).data.toList ((Cn.wsS s).getD 0 ByteArray.empty).data.toList) < 1))) || (decide ((((Cn.wsS s).length : Int) - 1) < 1)))) = true → ((!((((((Cn.wsS s).getD 0 ByteArray.empty).size : Int) != 1) || (decide ((Lib.index (⟨#[32, 111, 108, 100]⟩ : ByteArray).data.toList ((Cn.wsS s).getD 0 ByteArray.empty).data.toList) < 1))) || (decide ((((Cn.wsS s).length : Int) - 1) < 1)))) = true)), ((!((((((Cn.wsS s).getD 0 ByteArray.empty).size : Int) != 1) || (decide ((Lib.index (⟨#[32, 111, 108, 100]⟩ : ByteArray).data.toList ((Cn.wsS s).getD 0 ByteArray.empty).data.toList) < 1))) || (decide ((((Cn.wsS s).length : Int) - 1) < 1)))) = true → ((!((((((Cn.wsS s).getD 0 ByteArray.empty).size : Int) != 1) || (decide ((Lib.index (⟨#[32, 111, 108, 100]⟩ : ByteArray).data.toList ((Cn.wsS s).getD 0 ByteArray.empty).data.toList) < 1))) || (decide ((((Cn.wsS s).length : Int) - 1) < 1)))) = true)), (((((((Cn.wsS s).getD 0 ByteArray.empty).size : Int) != 1) || (decide ((Lib.index (⟨#[32, 111, 108, 100]⟩ : ByteArray).data.toList ((Cn.wsS s).getD 0 ByteArray.empty).data.toList) < 1))) || (decide ((((Cn.wsS s).length : Int) - 1) < 1))) = false → (!((((((Cn.wsS s).getD 0 ByteArray.empty).size : Int) != 1) || (decide ((Lib.index (⟨#[32, 111, 108, 100]⟩ : ByteArray).data.toList ((Cn.wsS s).getD 0 ByteArray.empty).data.toList) < 1))) || (decide ((((Cn.wsS s).length : Int) - 1) < 1)))) = true)] ?_ (Zi (b := ((((((Cn.wsS s).getD 0 ByteArray.empty).size : Int) != 1) || (decide ((Lib.index (⟨#[32, 111, 108, 100]⟩ : ByteArray).data.toList ((Cn.wsS s).getD 0 ByteArray.empty).data.toList) < 1))) || (decide ((((Cn.wsS s).length : Int) - 1) < 1))) || (!(((Cn.wsS s).getD ((((Cn.wsS s).length : Int) - 1).toNat) ByteArray.empty).toList == (⟨#[48]⟩ : ByteArray).toList))) (fun h0 => ?_) fun h0 => ?_)))))))))
  ·
   refine ap ?_ az
   first | omega | exact id | exact vcNot | exact vcG | exact vcH | (intro _; omega) | exact (fun _ h => h) | (intro h; simp at h; omega) | (simp only [List.length_cons, List.length_nil, List.length_append, List.length_map, List.length_set, List.length_replicate]; omega) | (intro h; simp [h]; done) | exact ⟨hm1, rfl⟩ | (constructor <;> omega) | exact (show (4 : Nat) ≤ _ by omega) | (intro h; exact Cn.ws_in h) | (have h8 := hl3 _ (Cn.getD_memS (d := ByteArray.empty) (by omega)); omega) | (have h8 := hwz (by omega); omega) | exact True.intro | (intro _; exact True.intro) | (intro h; exact Cn.fit_may h) | (rw [htk]; simp only [List.length_cons, List.length_nil]; omega) | exact ⟨by omega, by omega, by omega⟩ | done
  ·
   refine ap ?_ az
   first | omega | exact id | exact vcNot | exact vcG | exact vcH | (intro _; omega) | exact (fun _ h => h) | (intro h; simp at h; omega) | (simp only [List.length_cons, List.length_nil, List.length_append, List.length_map, List.length_set, List.length_replicate]; omega) | (intro h; simp [h]; done) | exact ⟨hm1, rfl⟩ | (constructor <;> omega) | exact (show (4 : Nat) ≤ _ by omega) | (intro h; exact Cn.ws_in h) | (have h8 := hl3 _ (Cn.getD_memS (d := ByteArray.empty) (by omega)); omega) | (have h8 := hwz (by omega); omega) | exact True.intro | (intro _; exact True.intro) | (intro h; exact Cn.fit_may h) | (rw [htk]; simp only [List.length_cons, List.length_nil]; omega) | exact ⟨by omega, by omega, by omega⟩ | done
  ·
   refine ap ?_ (ap ?_ az) <;>
    first | omega | exact id | exact vcNot | exact vcG | exact vcH | (intro _; omega) | exact (fun _ h => h) | (intro h; simp at h; omega) | (simp only [List.length_cons, List.length_nil, List.length_append, List.length_map, List.length_set, List.length_replicate]; omega) | (intro h; simp [h]; done) | exact ⟨hm1, rfl⟩ | (constructor <;> omega) | exact (show (4 : Nat) ≤ _ by omega) | (intro h; exact Cn.ws_in h) | (have h8 := hl3 _ (Cn.getD_memS (d := ByteArray.empty) (by omega)); omega) | (have h8 := hwz (by omega); omega) | exact True.intro | (intro _; exact True.intro) | (intro h; exact Cn.fit_may h) | (rw [htk]; simp only [List.length_cons, List.length_nil]; omega) | exact ⟨by omega, by omega, by omega⟩ | done
  ·
   refine ap ?_ (ap ?_ (ap ?_ (ap (by exact vcNot) (ap ?_ (ap (by exact vcNot) (ap ?_ (ap ?_ (ap ?_ (ap ?_ (ap ?_ (ap (by exact vcNot) az))))))))))) <;>
    first | omega | exact id | exact vcNot | exact vcG | exact vcH | (intro _; omega) | exact (fun _ h => h) | (intro h; simp at h; omega) | (simp only [List.length_cons, List.length_nil, List.length_append, List.length_map, List.length_set, List.length_replicate]; omega) | (intro h; simp [h]; done) | exact ⟨hm1, rfl⟩ | (constructor <;> omega) | exact (show (4 : Nat) ≤ _ by omega) | (intro h; exact Cn.ws_in h) | (have h8 := hl3 _ (Cn.getD_memS (d := ByteArray.empty) (by omega)); omega) | (have h8 := hwz (by omega); omega) | exact True.intro | (intro _; exact True.intro) | (intro h; exact Cn.fit_may h) | (rw [htk]; simp only [List.length_cons, List.length_nil]; omega) | exact ⟨by omega, by omega, by omega⟩ | done
  ·
   have hH := Cn.headS_no (Cn.head_is s) h0
   exact Sz hcx [(602, .to 602)] [3] [40, 5, 4] [] (Zr (Fr (Fv 602 1 700 0 (.ints []) (Fn [(602, .to 990), (700, .frz)] [2, 3] (Rv hcx (congrArg AV.tup (consE (congrArg AV.agg (consE (congrArg AV.int (show (Lib.index (⟨#[32, 111, 108, 100]⟩ : ByteArray).data.toList ((Cn.wsS s).getD 0 ByteArray.empty).data.toList) = (Cn.lnK (bytesI s)) from (by first | exact hK | exact Cn.ln_head hH | exact Cn.lnOk_head hH | exact Cn.ln_stop hH (by omega) hok hq | exact Cn.lnOk_stop (by omega) hok hq | exact Cn.ln_all hH (by omega) hok | exact Cn.lnOk_all hH (by omega) hok | done))) (consE (congrArg AV.ints (show [] = (Cn.lnL (bytesI s)) from (by first | exact hK | exact Cn.ln_head hH | exact Cn.lnOk_head hH | exact Cn.ln_stop hH (by omega) hok hq | exact Cn.lnOk_stop (by omega) hok hq | exact Cn.ln_all hH (by omega) hok | exact Cn.lnOk_all hH (by omega) hok | done))) rfl))) (consE (congrArg AV.bool (show false = (Cn.lnOk (bytesI s)) from (by first | exact hK | exact Cn.ln_head hH | exact Cn.lnOk_head hH | exact Cn.ln_stop hH (by omega) hok hq | exact Cn.lnOk_stop (by omega) hok hq | exact Cn.ln_all hH (by omega) hok | exact Cn.lnOk_all hH (by omega) hok | done))) rfl))) [] rfl)))))
  ·
   have hH := Cn.headS_yes (Cn.head_is s) h0
   have hH2 := Cn.headS_two hH
   refine Zk (Ft (Zs (Zs (Zv 602 1 701 3 (.ints []) (Tq hcx [] [44, 45, 46] [40, 5, 4] [] [((0 : Int) ≤ 1 ∧ 1 ≤ (((Cn.wsS s).length : Int) - 1) ∧ (((Cn.wsS s).length : Int) - 1) ≤ ((Cn.wsS s).length : Int))] ?_ (Ft (Zb (Zn [(602, .to 602), (701, .to 701)] [2, 44, 45, 46] (Lp (X := Nat) (fun x0 => x0 ≤ (Cn.mdS s).length ∧ ∀ j, j < x0 → Cn.litW ((Cn.midW (Cn.splitI 32 (bytesI s))).getD j []) = true) (fun x0 => ([(2, .loc 602 0), (44, .strs (Cn.mdS s)), (45, .int ((Cn.mdS s).length : Int)), (46, .int (x0 : Int))], [(602, .box [.int (Lib.index (⟨#[32, 111, 108, 100]⟩ : ByteArray).data.toList ((Cn.wsS s).getD 0 ByteArray.empty).data.toList), .row 701]), (701, .row 3 (.ints (((Cn.midW (Cn.splitI 32 (bytesI s))).take x0).map Cn.numN)))])) (fun x0 => (Cn.mdS s).length - x0) (0) ?_ (Ex 46 (congrArg AV.int (show 0 = (0 : Int) from (by first | rfl | omega | (simp; done)))) Eb) Hb fun i hI => ?_)))))))))
   ·
    refine ap ?_ az
    first | omega | exact id | exact vcNot | exact vcG | exact vcH | (intro _; omega) | exact (fun _ h => h) | (intro h; simp at h; omega) | (simp only [List.length_cons, List.length_nil, List.length_append, List.length_map, List.length_set, List.length_replicate]; omega) | (intro h; simp [h]; done) | exact ⟨hm1, rfl⟩ | (constructor <;> omega) | exact (show (4 : Nat) ≤ _ by omega) | (intro h; exact Cn.ws_in h) | (have h8 := hl3 _ (Cn.getD_memS (d := ByteArray.empty) (by omega)); omega) | (have h8 := hwz (by omega); omega) | exact True.intro | (intro _; exact True.intro) | (intro h; exact Cn.fit_may h) | (rw [htk]; simp only [List.length_cons, List.length_nil]; omega) | exact ⟨by omega, by omega, by omega⟩ | done
   ·
    exact ⟨Nat.zero_le _, fun j hj => by omega⟩
   ·
    try dsimp only at hI
    obtain ⟨hk, hok⟩ := hI
    have hwz := Cn.mid_size (s := s) (i := i)
    have htk := Cn.md_take (s := s) (i := i) (by omega)
    refine Sz hcx [] [47] [] [] (Zs (Zj (p := ((i : Int) < ((Cn.mdS s).length : Int))) (fun h1 => ?_) fun h1 => ?_))
    ·
     refine Zk (Ft (Zs (Zb (Sq hcx [] [7] [47] [] [((0 : Int) ≤ (i : Int) ∧ (i : Int) < ((Cn.mdS s).length : Int))] ?_ (Sq hcx [] [8, 9] [] [] [(((Cn.mdS s).getD i ByteArray.empty).size ≤ 281474976710656)] ?_ (Zs (Sq hcx [] [67] [9, 7] [] [((!((Cn.atoiV ((Cn.mdS s).getD i ByteArray.empty).data.toList).2)) = true → ((!((Cn.atoiV ((Cn.mdS s).getD i ByteArray.empty).data.toList).2)) = true)), ((!((Cn.atoiV ((Cn.mdS s).getD i ByteArray.empty).data.toList).2)) = true → (True)), ((!((Cn.atoiV ((Cn.mdS s).getD i ByteArray.empty).data.toList).2)) = true → ((!((Cn.atoiV ((Cn.mdS s).getD i ByteArray.empty).data.toList).2)) = true)), ((Cn.atoiV ((Cn.mdS s).getD i ByteArray.empty).data.toList).2 = false → (!((Cn.atoiV ((Cn.mdS s).getD i ByteArray.empty).data.toList).2)) = true), ((!(((Cn.atoiV ((Cn.mdS s).getD i ByteArray.empty).data.toList).2) || (!(Cn.mayP ((Cn.atoiV ((Cn.mdS s).getD i ByteArray.empty).data.toList).1) 65536)))) = true → ((!(((Cn.atoiV ((Cn.mdS s).getD i ByteArray.empty).data.toList).2) || (!(Cn.mayP ((Cn.atoiV ((Cn.mdS s).getD i ByteArray.empty).data.toList).1) 65536)))) = true)), ((!(((Cn.atoiV ((Cn.mdS s).getD i ByteArray.empty).data.toList).2) || (!(Cn.mayP ((Cn.atoiV ((Cn.mdS s).getD i ByteArray.empty).data.toList).1) 65536)))) = true → (Fit ((Cn.atoiV ((Cn.mdS s).getD i ByteArray.empty).data.toList).1))), ((!(((Cn.atoiV ((Cn.mdS s).getD i ByteArray.empty).data.toList).2) || (!(Cn.mayP ((Cn.atoiV ((Cn.mdS s).getD i ByteArray.empty).data.toList).1) 65536)))) = true → ((!(((Cn.atoiV ((Cn.mdS s).getD i ByteArray.empty).data.toList).2) || (!(Cn.mayP ((Cn.atoiV ((Cn.mdS s).getD i ByteArray.empty).data.toList).1) 65536)))) = true)), ((!(((Cn.atoiV ((Cn.mdS s).getD i ByteArray.empty).data.toList).2) || (!(Cn.mayP ((Cn.atoiV ((Cn.mdS s).getD i ByteArray.empty).data.toList).1) 65536)))) = true → ((!(((Cn.atoiV ((Cn.mdS s).getD i ByteArray.empty).data.toList).2) || (!(Cn.mayP ((Cn.atoiV ((Cn.mdS s).getD i ByteArray.empty).data.toList).1) 65536)))) = true)), ((((Cn.atoiV ((Cn.mdS s).getD i ByteArray.empty).data.toList).2) || (!(Cn.mayP ((Cn.atoiV ((Cn.mdS s).getD i ByteArray.empty).data.toList).1) 65536))) = false → (!(((Cn.atoiV ((Cn.mdS s).getD i ByteArray.empty).data.toList).2) || (!(Cn.mayP ((Cn.atoiV ((Cn.mdS s).getD i ByteArray.empty).data.toList).1) 65536)))) = true)] ?_ (Zi (b := (((Cn.atoiV ((Cn.mdS s).getD i ByteArray.empty).data.toList).2) || (!(Cn.mayP ((Cn.atoiV ((Cn.mdS s).getD i ByteArray.empty).data.toList).1) 65536))) || (!((strOfNums (Cn.itoaI ((Cn.atoiV ((Cn.mdS s).getD i ByteArray.empty).data.toList).1))).toList == ((Cn.mdS s).getD i ByteArray.empty).toList))) (fun h2 => ?_) fun h2 => ?_))))))))
     ·
      refine ap ?_ az
      first | omega | exact id | exact vcNot | exact vcG | exact vcH | (intro _; omega) | exact (fun _ h => h) | (intro h; simp at h; omega) | (simp only [List.length_cons, List.length_nil, List.length_append, List.length_map, List.length_set, List.length_replicate]; omega) | (intro h; simp [h]; done) | exact ⟨hm1, rfl⟩ | (constructor <;> omega) | exact (show (4 : Nat) ≤ _ by omega) | (intro h; exact Cn.ws_in h) | (have h8 := hl3 _ (Cn.getD_memS (d := ByteArray.empty) (by omega)); omega) | (have h8 := hwz (by omega); omega) | exact True.intro | (intro _; exact True.intro) | (intro h; exact Cn.fit_may h) | (rw [htk]; simp only [List.length_cons, List.length_nil]; omega) | exact ⟨by omega, by omega, by omega⟩ | done
     ·
      refine ap ?_ az
      first | omega | exact id | exact vcNot | exact vcG | exact vcH | (intro _; omega) | exact (fun _ h => h) | (intro h; simp at h; omega) | (simp only [List.length_cons, List.length_nil, List.length_append, List.length_map, List.length_set, List.length_replicate]; omega) | (intro h; simp [h]; done) | exact ⟨hm1, rfl⟩ | (constructor <;> omega) | exact (show (4 : Nat) ≤ _ by omega) | (intro h; exact Cn.ws_in h) | (have h8 := hl3 _ (Cn.getD_memS (d := ByteArray.empty) (by omega)); omega) | (have h8 := hwz (by omega); omega) | exact True.intro | (intro _; exact True.intro) | (intro h; exact Cn.fit_may h) | (rw [htk]; simp only [List.length_cons, List.length_nil]; omega) | exact ⟨by omega, by omega, by omega⟩ | done
     ·
      refine ap ?_ (ap ?_ (ap ?_ (ap (by exact vcNot) (ap ?_ (ap ?_ (ap ?_ (ap ?_ (ap (by exact vcNot) az)))))))) <;>
       first | omega | exact id | exact vcNot | exact vcG | exact vcH | (intro _; omega) | exact (fun _ h => h) | (intro h; simp at h; omega) | (simp only [List.length_cons, List.length_nil, List.length_append, List.length_map, List.length_set, List.length_replicate]; omega) | (intro h; simp [h]; done) | exact ⟨hm1, rfl⟩ | (constructor <;> omega) | exact (show (4 : Nat) ≤ _ by omega) | (intro h; exact Cn.ws_in h) | (have h8 := hl3 _ (Cn.getD_memS (d := ByteArray.empty) (by omega)); omega) | (have h8 := hwz (by omega); omega) | exact True.intro | (intro _; exact True.intro) | (intro h; exact Cn.fit_may h) | (rw [htk]; simp only [List.length_cons, List.length_nil]; omega) | exact ⟨by omega, by omega, by omega⟩ | done
     ·
      have hq := Cn.lit_no h2
      exact Zs (Zn [(602, .to 602), (701, .frz)] [67, 8, 2, 44, 45, 46] (Tz hcx [(602, .to 602)] [3] [67, 8, 44, 45, 46] [] (Ft (Zr (Fr (Fk (Fr (Fr (Fk (Fr (Rv hcx (congrArg AV.tup (consE (congrArg AV.agg (consE (congrArg AV.int (show (Lib.index (⟨#[32, 111, 108, 100]⟩ : ByteArray).data.toList ((Cn.wsS s).getD 0 ByteArray.empty).data.toList) = (Cn.lnK (bytesI s)) from (by first | exact hK | exact Cn.ln_head hH | exact Cn.lnOk_head hH | exact Cn.ln_stop hH (by omega) hok hq | exact Cn.lnOk_stop (by omega) hok hq | exact Cn.ln_all hH (by omega) hok | exact Cn.lnOk_all hH (by omega) hok | done))) (consE (congrArg AV.ints (show (((Cn.midW (Cn.splitI 32 (bytesI s))).take i).map Cn.numN) = (Cn.lnL (bytesI s)) from (by first | exact hK | exact Cn.ln_head hH | exact Cn.lnOk_head hH | exact Cn.ln_stop hH (by omega) hok hq | exact Cn.lnOk_stop (by omega) hok hq | exact Cn.ln_all hH (by omega) hok | exact Cn.lnOk_all hH (by omega) hok | done))) rfl))) (consE (congrArg AV.bool (show false = (Cn.lnOk (bytesI s)) from (by first | exact hK | exact Cn.ln_head hH | exact Cn.lnOk_head hH | exact Cn.ln_stop hH (by omega) hok hq | exact Cn.lnOk_stop (by omega) hok hq | exact Cn.ln_all hH (by omega) hok | exact Cn.lnOk_all hH (by omega) hok | done))) rfl))) [] rfl)))))))))))
     ·
      obtain ⟨hq, hqv⟩ := Cn.lit_yes h2
      refine Zk (Ft (Tq hcx [(602, .to 602), (1004, .to 701)] [] [67, 8] [701] [(((((Cn.midW (Cn.splitI 32 (bytesI s))).take i).map Cn.numN).length + [(Cn.atoiV ((Cn.mdS s).getD i ByteArray.empty).data.toList).1].length) * 8 ≤ 140737488355328)] ?_ (Fb (Ft (Tq hcx [] [46] [] [] [Fit ((i : Int) + 1)] ?_ (Lr (i + 1) ?_ ?_ (Ex 46 (congrArg AV.int (show ((i : Int) + 1) = ((i + 1) : Int) from (by first | rfl | omega | (simp; done)))) Eb) (Hx 701 (congrArg (fun x => AObj.row 3 (.ints x)) (show ((((Cn.midW (Cn.splitI 32 (bytesI s))).take i).map Cn.numN) ++ [(Cn.atoiV ((Cn.mdS s).getD i ByteArray.empty).data.toList).1]) = (((Cn.midW (Cn.splitI 32 (bytesI s))).take (i + 1)).map Cn.numN) from (by exact Cn.mid_next (by omega) hqv))) Hb)))))))
      ·
       refine ap ?_ az
       first | omega | exact id | exact vcNot | exact vcG | exact vcH | (intro _; omega) | exact (fun _ h => h) | (intro h; simp at h; omega) | (simp only [List.length_cons, List.length_nil, List.length_append, List.length_map, List.length_set, List.length_replicate]; omega) | (intro h; simp [h]; done) | exact ⟨hm1, rfl⟩ | (constructor <;> omega) | exact (show (4 : Nat) ≤ _ by omega) | (intro h; exact Cn.ws_in h) | (have h8 := hl3 _ (Cn.getD_memS (d := ByteArray.empty) (by omega)); omega) | (have h8 := hwz (by omega); omega) | exact True.intro | (intro _; exact True.intro) | (intro h; exact Cn.fit_may h) | (rw [htk]; simp only [List.length_cons, List.length_nil]; omega) | exact ⟨by omega, by omega, by omega⟩ | done
      ·
       refine ap ?_ az
       first | omega | exact id | exact vcNot | exact vcG | exact vcH | (intro _; omega) | exact (fun _ h => h) | (intro h; simp at h; omega) | (simp only [List.length_cons, List.length_nil, List.length_append, List.length_map, List.length_set, List.length_replicate]; omega) | (intro h; simp [h]; done) | exact ⟨hm1, rfl⟩ | (constructor <;> omega) | exact (show (4 : Nat) ≤ _ by omega) | (intro h; exact Cn.ws_in h) | (have h8 := hl3 _ (Cn.getD_memS (d := ByteArray.empty) (by omega)); omega) | (have h8 := hwz (by omega); omega) | exact True.intro | (intro _; exact True.intro) | (intro h; exact Cn.fit_may h) | (rw [htk]; simp only [List.length_cons, List.length_nil]; omega) | exact ⟨by omega, by omega, by omega⟩ | done
      ·
       exact ⟨by omega, fun j hj => by rcases (by omega : j < i ∨ j = i) with h | rfl; exact hok j h; exact hq⟩
      ·
       try dsimp only
       omega
    ·
     exact Ze (Fe (Fe (Fs (Ft (Zs (Zn [(602, .to 602), (701, .frz)] [47, 2, 44, 45, 46] (Tz hcx [(602, .to 602)] [3] [47, 44, 45, 46] [] (Ft (Zr (Rv hcx (congrArg AV.tup (consE (congrArg AV.agg (consE (congrArg AV.int (show (Lib.index (⟨#[32, 111, 108, 100]⟩ : ByteArray).data.toList ((Cn.wsS s).getD 0 ByteArray.empty).data.toList) = (Cn.lnK (bytesI s)) from (by first | exact hK | exact Cn.ln_head hH | exact Cn.lnOk_head hH | exact Cn.ln_stop hH (by omega) hok hq | exact Cn.lnOk_stop (by omega) hok hq | exact Cn.ln_all hH (by omega) hok | exact Cn.lnOk_all hH (by omega) hok | done))) (consE (congrArg AV.ints (show (((Cn.midW (Cn.splitI 32 (bytesI s))).take i).map Cn.numN) = (Cn.lnL (bytesI s)) from (by first | exact hK | exact Cn.ln_head hH | exact Cn.lnOk_head hH | exact Cn.ln_stop hH (by omega) hok hq | exact Cn.lnOk_stop (by omega) hok hq | exact Cn.ln_all hH (by omega) hok | exact Cn.lnOk_all hH (by omega) hok | done))) rfl))) (consE (congrArg AV.bool (show true = (Cn.lnOk (bytesI s)) from (by first | exact hK | exact Cn.ln_head hH | exact Cn.lnOk_head hH | exact Cn.ln_stop hH (by omega) hok hq | exact Cn.lnOk_stop (by omega) hok hq | exact Cn.ln_all hH (by omega) hok | exact Cn.lnOk_all hH (by omega) hok | done))) rfl))) [] rfl))))))))))
 ·
  cases hσ
def cx_pGet : Cx := ⟨tyTxt, [(58, pLine_σ), (57, sCut)], true⟩
theorem cx_pGet_ok : CxOk Tryz.prog cx_pGet := cx_ok tyTxt_ok ⟨pLine_sound, sCut_sound, trivial⟩
def pGet_σ : CtF
  | [.im (.ls (.bytes b))], [] => some (b.length ≤ 1000000 ∧ Cn.isBytes b, .tup [.lines ((Cn.getV24 b).1), .int ((Cn.getV24 b).2)], [])
  | _, _ => none
theorem pGet_sound : Sound Tryz.prog 21 pGet_σ := by
 refine Sw (cx := cx_pGet) Tryz.f21 Tryz.func21 ?_
 intro wW wO wβ G0 args os p r outs hσ hp
 have hcx := cx_pGet_ok
 unfold pGet_σ at hσ
 split at hσ
 ·
  rename_i b
  cases hσ
  refine ⟨by kernel_rfl, ?_⟩
  obtain ⟨hm1, hm2⟩ := hp
  refine Sz hcx [] [] [] [] (Zs (Sz hcx [] [12] [] [] (Zj (p := ((b.length : Int) > 4194304)) (fun h0 => ?_) fun h0 => ?_)))
  ·
   omega
  ·
   refine Zk (Ft (Sz hcx [] [4] [12] [] (Zs (Zb (Zw 4 700 43 (.lines []) (Lp (X := List Int × List (Int × List Int)) (fun x0 => x0.1.length + x0.2.length ≤ b.length ∧ Cn.isBytes x0.1 ∧ Cn.getI b x0.2 x0.1) (fun x0 => ([(0, .bytes x0.1), (4, .row 700)], [(700, .row 43 (.lines x0.2))])) (fun x0 => x0.1.length) (b, ([] : List (Int × List Int))) ?_ Eb Hb fun ⟨r, o⟩ hI => ?_))))))
   ·
    try dsimp only
    exact ⟨Nat.le_refl _, hm2, Cn.getI_0 b⟩
   ·
    try dsimp only at hI
    obtain ⟨hl, hb, hG⟩ := hI
    refine Zs (Sz hcx [] [15] [] [] (Zj (p := ((r.length : Int) > 0)) (fun h1 => ?_) fun h1 => ?_))
    ·
     have h15 := h1
     obtain ⟨hc1, hc2, hc3⟩ := Cn.cut_le r
     have hcb := Cn.cut_bytes hb
     have hsz := Cn.str_size (Cn.cutN r).1
     have hbi : (bytesI (strOfNums (Cn.cutN r).1)) = (Cn.cutN r).1 := Cn.bytesI_str hcb.1
     refine Zk (Ft (Zb (Sq hcx [] [5, 6, 7] [15, 0] [] [(0 < r.length ∧ r.length ≤ 1000000 ∧ Cn.isBytes r ∧ [10] = [(10 : Int)])] ?_ (Sq hcx [(1006, .to 608)] [8, 9] [5] [] [((strOfNums ((Cn.cutN r).1)).size ≤ 1000000)] ?_ (Zs (Sq hcx [] [34] [9, 7] [] [((!(!((Cn.cutN r).2.2))) = true → ((!(!((Cn.cutN r).2.2))) = true)), ((!((Cn.cutN r).2.2)) = false → (!(!((Cn.cutN r).2.2))) = true)] ?_ (Zi (b := (!((Cn.cutN r).2.2)) || (!(Cn.lnOk (bytesI (strOfNums ((Cn.cutN r).1)))))) (fun h2 => ?_) fun h2 => ?_)))))))
     ·
      refine ap ?_ az
      first | omega | exact id | exact vcNot | exact vcG | exact vcH | (intro _; omega) | exact (fun _ h => h) | (intro h; simp at h; omega) | (simp only [List.length_cons, List.length_nil, List.length_append, List.length_map, List.length_set, List.length_replicate]; omega) | (intro h; simp [h]; done) | (constructor <;> omega) | exact ⟨by omega, by omega, hb, rfl⟩ | (rw [hsz]; omega) | (simp only [List.length_cons, List.length_nil]; omega) | done
     ·
      refine ap ?_ az
      first | omega | exact id | exact vcNot | exact vcG | exact vcH | (intro _; omega) | exact (fun _ h => h) | (intro h; simp at h; omega) | (simp only [List.length_cons, List.length_nil, List.length_append, List.length_map, List.length_set, List.length_replicate]; omega) | (intro h; simp [h]; done) | (constructor <;> omega) | exact ⟨by omega, by omega, hb, rfl⟩ | (rw [hsz]; omega) | (simp only [List.length_cons, List.length_nil]; omega) | done
     ·
      refine ap ?_ (ap (by exact vcNot) az)
      first | omega | exact id | exact vcNot | exact vcG | exact vcH | (intro _; omega) | exact (fun _ h => h) | (intro h; simp at h; omega) | (simp only [List.length_cons, List.length_nil, List.length_append, List.length_map, List.length_set, List.length_replicate]; omega) | (intro h; simp [h]; done) | (constructor <;> omega) | exact ⟨by omega, by omega, hb, rfl⟩ | (rw [hsz]; omega) | (simp only [List.length_cons, List.length_nil]; omega) | done
     ·
      have h34 := Cn.cg_no h2
      rw [hbi] at h34
      have hg := Cn.getI_no hG (by omega) h34
      exact Sz hcx [] [2, 3] [34, 8, 6, 4] [608, 700] (Zr (Fr (Fk (Fr (Fk (Fr (Fp 2 (.lines []) (Rv hcx (congrArg AV.tup (consE (congrArg AV.lines (show [] = (Cn.getV24 b).1 from (by first | (rw [hg]; done) | (rw [hge]; done) | done))) (consE (congrArg AV.int (show 11 = (Cn.getV24 b).2 from (by first | (rw [hg]; done) | (rw [hge]; done) | done))) rfl))) [] rfl))))))))
     ·
      have h34 := Cn.cg_yes h2
      rw [hbi] at h34
      have hlt := (Cn.cut_lt (Cn.cg_1 h34)).1
      refine Zk (Ft (Tq hcx [(1003, .to 700)] [0, 4] [34, 8, 6] [608, 700] [((o.length + [((Cn.lnK (bytesI (strOfNums ((Cn.cutN r).1)))), (Cn.lnL (bytesI (strOfNums ((Cn.cutN r).1)))))].length) * 32 ≤ 140737488355328)] ?_ (Fb (Lr ((Cn.cutN r).2.1, (o ++ [(Cn.lnK (bytesI (strOfNums (Cn.cutN r).1)), Cn.lnL (bytesI (strOfNums (Cn.cutN r).1)))])) ?_ ?_ Eb Hb))))
      ·
       refine ap ?_ az
       first | omega | exact id | exact vcNot | exact vcG | exact vcH | (intro _; omega) | exact (fun _ h => h) | (intro h; simp at h; omega) | (simp only [List.length_cons, List.length_nil, List.length_append, List.length_map, List.length_set, List.length_replicate]; omega) | (intro h; simp [h]; done) | (constructor <;> omega) | exact ⟨by omega, by omega, hb, rfl⟩ | (rw [hsz]; omega) | (simp only [List.length_cons, List.length_nil]; omega) | done
      ·
       try dsimp only
       exact ⟨by simp only [List.length_append, List.length_cons, List.length_nil]; omega, hcb.2, by rw [hbi]; exact Cn.getI_next hG (by omega) h34⟩
      ·
       show ((Cn.cutN r).2.1).length < r.length
       omega
    ·
     have h15 := h1
     have hge := Cn.getI_end hG (by omega)
     refine Ze (Fe (Fe (Fs (Ft (Zs (Sz hcx [] [42] [15, 0] [] (Zj (p := ((o.length : Int) > 65536)) (fun h3 => ?_) fun h3 => ?_)))))))
     ·
      rw [if_pos (by omega)] at hge
      exact Sz hcx [] [2, 3] [42, 4] [700] (Zr (Fr (Fp 2 (.lines []) (Rv hcx (congrArg AV.tup (consE (congrArg AV.lines (show [] = (Cn.getV24 b).1 from (by first | (rw [hg]; done) | (rw [hge]; done) | done))) (consE (congrArg AV.int (show 2 = (Cn.getV24 b).2 from (by first | (rw [hg]; done) | (rw [hge]; done) | done))) rfl))) [] rfl))))
     ·
      rw [if_neg (by omega)] at hge
      exact Zk (Ft (Zs (Zn [(700, .frz)] [42, 4] (Tz hcx [] [2, 3] [42, 4] [] (Ft (Zr (Rv hcx (congrArg AV.tup (consE (congrArg AV.lines (show o = (Cn.getV24 b).1 from (by first | (rw [hg]; done) | (rw [hge]; done) | done))) (consE (congrArg AV.int (show 0 = (Cn.getV24 b).2 from (by first | (rw [hg]; done) | (rw [hge]; done) | done))) rfl))) [] rfl)))))))
 ·
  cases hσ
end Go.Proofs.YtbpbndlgfiammaaGreatDoor.En
namespace Go.Proofs.YtbpbndlgfiammaaGreatDoor.En
open Go
end Go.Proofs.YtbpbndlgfiammaaGreatDoor.En
namespace Go.Proofs.YtbpbndlgfiammaaGreatDoor.Cn
open Go Go.RowKit En
theorem itoa_no {n c : Int} (hc : c = 32 ∨ c = 10) : c ∉ itoaI n := fun h => by
  have := itoa_mem _ h
  omega
theorem split_line : ∀ (l : List Int) (a : List Int), (32 : Int) ∉ a → splitI 32 (a ++ (litsW l ++ [32, 48])) = a :: (l.map itoaI ++ [[48]])
  | [], a, h => by
    show splitI 32 (a ++ 32 :: [48]) = _
    rw [splitI_hit h]; rfl
  | y :: l, a, h => by
    have e : a ++ (litsW (y :: l) ++ [32, 48]) = a ++ 32 :: (itoaI y ++ (litsW l ++ [32, 48])) := by simp [litsW]
    rw [e, splitI_hit h, split_line l (itoaI y) (itoa_no (.inl rfl))]
    rfl
def lineT (x : Int × List Int) : List Int := letW x.1 :: (litsW x.2 ++ [32, 48])
theorem lineB_is (x : Int × List Int) : lineB x = lineT x ++ [10] := by simp [lineB, lineT]
theorem let_cases {k : Int} (h : 1 ≤ k ∧ k ≤ 3) : (k = 1 ∧ letW k = 111) ∨ (k = 2 ∧ letW k = 108) ∨ (k = 3 ∧ letW k = 100) := by
  rcases (by omega : k = 1 ∨ k = 2 ∨ k = 3) with rfl | rfl | rfl
  · exact .inl ⟨rfl, by decide⟩
  · exact .inr (.inl ⟨rfl, by decide⟩)
  · exact .inr (.inr ⟨rfl, by decide⟩)
theorem kin_let {k : Int} (h : 1 ≤ k ∧ k ≤ 3) : kinI [letW k] = k := by
  rcases let_cases h with ⟨rfl, e⟩ | ⟨rfl, e⟩ | ⟨rfl, e⟩ <;> rw [e] <;> decide
theorem line_ok {x : Int × List Int} (h : lineOk x = true) : (1 ≤ x.1 ∧ x.1 ≤ 3) ∧ ∀ y ∈ x.2, mayP y 65536 = true := by
  unfold lineOk at h
  simp only [Bool.and_eq_true, decide_eq_true_eq, List.all_eq_true] at h
  exact h
theorem split_T {x : Int × List Int} (h : lineOk x = true) : splitI 32 (lineT x) = [letW x.1] :: (x.2.map itoaI ++ [[48]]) := by
  have := split_line x.2 [letW x.1] (by rcases let_cases (line_ok h).1 with ⟨_, e⟩ | ⟨_, e⟩ | ⟨_, e⟩ <;> rw [e] <;> simp)
  exact this
theorem mid_T {k : Int} {ws : List (List Int)} : midW ([k] :: (ws ++ [[48]])) = ws := by
  unfold midW
  have e : ([k] :: (ws ++ [[48]])).length - 1 = ws.length + 1 := by simp
  rw [e, List.take_succ_cons, List.drop_succ_cons, List.drop_zero, List.take_append_of_le_length (Nat.le_refl _), List.take_length]
theorem head_T {k : Int} (h : 1 ≤ k ∧ k ≤ 3) {ws : List (List Int)} : headW ([letW k] :: (ws ++ [[48]])) = true := by
  have h0 : wd ([letW k] :: (ws ++ [[48]])) 0 = [letW k] := rfl
  have h1 : wd ([letW k] :: (ws ++ [[48]])) (([letW k] :: (ws ++ [[48]])).length - 1) = [48] := by
    unfold wd
    have e : ([letW k] :: (ws ++ [[48]])).length - 1 = ws.length + 1 := by simp
    rw [e]
    simp [List.getD]
  unfold headW
  rw [h0, h1, kin_let h]
  simp
  omega
theorem lit_itoa {y : Int} (h : mayP y 65536 = true) : litW (itoaI y) = true ∧ numN (itoaI y) = y := litW_of h rfl
theorem all_lits {l : List Int} (h : ∀ y ∈ l, mayP y 65536 = true) : (l.map itoaI).all litW = true ∧ (l.map itoaI).takeWhile litW = l.map itoaI ∧ (l.map itoaI).map numN = l := by
  have ha : ∀ w ∈ l.map itoaI, litW w = true := fun w hw => by
    obtain ⟨y, hy, rfl⟩ := List.mem_map.1 hw
    exact (lit_itoa (h y hy)).1
  refine ⟨List.all_eq_true.2 ha, ?_, ?_⟩
  · have := List.takeWhile_append_of_pos (l₂ := []) ha
    simpa using this
  · rw [List.map_map]
    conv => rhs; rw [← List.map_id l]
    exact List.map_congr_left fun y hy => (lit_itoa (h y hy)).2
theorem line_back {x : Int × List Int} (h : lineOk x = true) : lnK (lineT x) = x.1 ∧ lnL (lineT x) = x.2 ∧ lnOk (lineT x) = true := by
  obtain ⟨h1, h2⟩ := line_ok h
  obtain ⟨a1, a2, a3⟩ := all_lits h2
  unfold lnK lnL lnOk
  rw [split_T h, head_T h1, mid_T, if_pos rfl, a2, a3, a1]
  exact ⟨kin_let h1, rfl, rfl⟩
theorem line_no {x : Int × List Int} (h : lineOk x = true) : (10 : Int) ∉ lineT x := by
  unfold lineT
  have hl : (10 : Int) ∉ litsW x.2 := fun hm => by
    unfold litsW at hm
    obtain ⟨y, _, hy⟩ := List.mem_flatMap.1 hm
    rcases List.mem_cons.1 hy with hy | hy
    · cases hy
    · exact itoa_no (.inr rfl) hy
  simp only [List.mem_cons, List.mem_append, not_or]
  refine ⟨?_, hl, by decide, by decide, by simp⟩
  rcases let_cases (line_ok h).1 with ⟨_, e⟩ | ⟨_, e⟩ | ⟨_, e⟩ <;> rw [e] <;> decide
theorem get_put24 : ∀ {p : List (Int × List Int)}, p.all lineOk = true → getL (putP p) = some p
  | [], _ => rfl
  | x :: p, h => by
    simp only [List.all_cons, Bool.and_eq_true] at h
    have e : putP (x :: p) = lineT x ++ 10 :: putP p := by
      have : putP (x :: p) = lineB x ++ putP p := by simp [putP]
      rw [this, lineB_is]; simp
    obtain ⟨b1, b2, b3⟩ := line_back h.1
    have hc := cut_hit (r := putP p) (line_no h.1)
    rw [e, getL_yes (by simp only [List.length_append, List.length_cons]; omega) (by rw [hc, b3]; rfl), hc]
    simp only
    rw [get_put24 h.2, b1, b2]
    rfl
theorem get_putV {p : List (Int × List Int)} (h : frmV p = 0) : getV24 (putV p) = (p, 0) := by
  obtain ⟨h1, h2⟩ := frm_ok.1 h
  unfold putV getV24
  rw [if_pos h, get_put24 h2]
  simp only
  rw [if_neg (by omega)]
end Go.Proofs.YtbpbndlgfiammaaGreatDoor.Cn
namespace Go.Proofs.YtbpbndlgfiammaaGreatDoor.Cn
open Go Go.RowKit En
def szG {α : Type} (f : α → Nat) (l : List α) : Nat := (l.map fun x => 1 + f x).sum
def szC (c : List (List Int)) : Nat := szG List.length c
def szL (p : List (Int × List Int)) : Nat := szG (fun x => x.2.length) p
theorem szG_next {α : Type} {f : α → Nat} {l : List α} {d : α} {i : Nat} (hi : i < l.length) : szG f (l.take i) + (1 + f (l.getD i d)) = szG f (l.take (i + 1)) := by
  have e : l.take (i + 1) = l.take i ++ [l.getD i d] := by rw [List.take_add_one]; simp [List.getD, List.getElem?_eq_getElem hi]
  rw [e]; simp [szG]
theorem szG_take {α : Type} {f : α → Nat} (l : List α) (i : Nat) : szG f (l.take i) ≤ szG f l := by
  have e : szG f (l.take i ++ l.drop i) = szG f (l.take i) + szG f (l.drop i) := by unfold szG; rw [List.map_append, List.sum_append]
  rw [List.take_append_drop] at e
  omega
theorem szG_mem {α : Type} {f : α → Nat} {l : List α} {x : α} (hx : x ∈ l) : f x < szG f l := by
  obtain ⟨i, hi, rfl⟩ := List.getElem_of_mem hx
  have h1 := szG_next (f := f) (d := l[i]) hi
  have h2 := szG_take (f := f) l (i + 1)
  rw [show l.getD i l[i] = l[i] by simp [List.getD, List.getElem?_eq_getElem hi]] at h1
  omega
def fewG {α : Type} (f : α → Nat) (l : List α) (m : Int) : Bool := decide ((l.length : Int) ≤ m) && decide ((szG f l : Int) ≤ 6 * m)
def fewC (c : List (List Int)) (m : Int) : Bool := fewG List.length c m
def fewL (p : List (Int × List Int)) (m : Int) : Bool := fewG (fun x => x.2.length) p m
theorem fewG_big {α : Type} {f : α → Nat} {l : List α} {m : Int} {i : Nat} (h : 6 * m < (szG f (l.take i) : Int)) : false = fewG f l m := by
  have := szG_take (f := f) l i
  unfold fewG
  rw [show decide ((szG f l : Int) ≤ 6 * m) = false by rw [decide_eq_false_iff_not]; omega, Bool.and_false]
theorem fewG_end {α : Type} {f : α → Nat} {l : List α} {m : Int} {i : Nat} (hs : (szG f (l.take i) : Int) ≤ 6 * m) (hi : i ≤ l.length) (h : (decide ((i : Int) < (l.length : Int)) && decide ((i : Int) ≤ m)) = false) : decide ((l.length : Int) ≤ m) = fewG f l m := by
  unfold fewG
  by_cases hl : i = l.length
  · rw [hl, List.take_length] at hs
    rw [show decide ((szG f l : Int) ≤ 6 * m) = true by rw [decide_eq_true_iff]; exact hs, Bool.and_true]
  · have : ¬ (i : Int) ≤ m := by
      intro hm
      rw [show decide ((i : Int) < (l.length : Int)) = true by rw [decide_eq_true_iff]; omega, show decide ((i : Int) ≤ m) = true by rw [decide_eq_true_iff]; exact hm] at h
      cases h
    rw [show decide ((l.length : Int) ≤ m) = false by rw [decide_eq_false_iff_not]; omega, Bool.false_and]
theorem fewC_next {c : List (List Int)} {i : Nat} (hi : i < c.length) : szC (c.take i) + (1 + (c.getD i []).length) = szC (c.take (i + 1)) := szG_next hi
theorem fewL_next {p : List (Int × List Int)} {i : Nat} (hi : i < p.length) : szL (p.take i) + (1 + (p.getD i (0, [])).2.length) = szL (p.take (i + 1)) := szG_next (f := fun x => x.2.length) hi
theorem fewC_iff {c : List (List Int)} {m : Int} (h : fewC c m = true) : (c.length : Int) ≤ m ∧ (szC c : Int) ≤ 6 * m ∧ ∀ x ∈ c, x.length < szC c := by
  unfold fewC fewG at h
  simp only [Bool.and_eq_true, decide_eq_true_eq] at h
  exact ⟨h.1, h.2, fun x hx => szG_mem (f := List.length) hx⟩
theorem fewL_iff {p : List (Int × List Int)} {m : Int} (h : fewL p m = true) : (p.length : Int) ≤ m ∧ (szP p : Int) ≤ 6 * m ∧ ∀ x ∈ p, x.2.length < szP p := by
  unfold fewL fewG at h
  simp only [Bool.and_eq_true, decide_eq_true_eq] at h
  exact ⟨h.1, h.2, fun x hx => szG_mem (f := fun x => x.2.length) hx⟩
theorem and_t {a b : Bool} (h : (a && b) = true) : a = true ∧ b = true := Bool.and_eq_true_iff.1 h
end Go.Proofs.YtbpbndlgfiammaaGreatDoor.Cn
namespace Go.Proofs.YtbpbndlgfiammaaGreatDoor.Cn
open Go Go.RowKit En
abbrev four4 : List (List Int) := [[1, 2], [-1, 2], [1, -2], [-1, -2]]
theorem given_next {c : List (List Int)} {i : Nat} (hi : i < c.length) : ((c.take i).map fun l => ((1 : Int), l)) ++ [(1, c.getD i [])] = (c.take (i + 1)).map fun l => ((1 : Int), l) := by
  have e : c.take (i + 1) = c.take i ++ [c.getD i []] := by rw [List.take_add_one]; simp [List.getD, List.getElem?_eq_getElem hi]
  rw [e, List.map_append]; rfl
section
variable {α : Type} {p : α → Bool} {l : List α} {d : α} {i : Nat}
theorem allD_no (hi : i < l.length) (hq : p (l.getD i d) = false) : l.all p = false := by
  rw [List.all_eq_false]
  refine ⟨l[i], List.getElem_mem _, ?_⟩
  rw [show l.getD i d = l[i] by simp [List.getD, List.getElem?_eq_getElem hi]] at hq
  rw [hq]; simp
theorem allD_yes (hi : i = l.length) (hok : ∀ j, j < i → p (l.getD j d) = true) : l.all p = true := by
  rw [List.all_eq_true]
  intro x hx
  obtain ⟨j, hj, rfl⟩ := List.getElem_of_mem hx
  have := hok j (by omega)
  rwa [show l.getD j d = l[j] by simp [List.getD, List.getElem?_eq_getElem hj]] at this
end
theorem lv24_1 : flwV ((four4.take 2).drop 0) [2] = true := by decide +kernel
theorem lv24_2 : flwV four4 [] = false := by decide +kernel
theorem lv24_3 : flwV (four4 ++ [[2]]) [] = true := by decide +kernel
theorem lv24_4 : chkC 2 four4 ((four4.map fun l => ((1 : Int), l)) ++ [(2, [2])]) [] = 0 := by decide +kernel
theorem lv24_5 : chkC 2 four4 ((((four4.map fun l => ((1 : Int), l)) ++ [(2, [2])]).take 4).drop 0) [] = 250 := by decide +kernel
theorem lv24_6 : frmV [(1, [1, -2])] = 0 := by decide +kernel
theorem lv24_7 : putV [(1, [1, -2])] = [111, 32, 49, 32, 45, 50, 32, 48, 10] := by
  have h1 : itoaI 1 = [49] := by rw [show (1 : Int) = ((1 : Nat) : Int) from rfl]; unfold itoaI; rw [Lib.itoa_nonneg, Lib.decDigits_one (by omega)]; rfl
  have h2 : itoaI (-2) = [45, 50] := by rw [show (-2 : Int) = -((2 : Nat) : Int) from rfl]; unfold itoaI; rw [Lib.itoa_neg 2 (by omega), Lib.decDigits_one (by omega)]; rfl
  unfold putV
  rw [if_pos lv24_6]
  simp [putP, lineB, litsW, h1, h2, letW, bytesI]
theorem lv24_8 : getV24 [111, 32, 49, 32, 45, 50, 32, 48, 10] = ([(1, [1, -2])], 0) := by
  rw [← lv24_7]; exact get_putV lv24_6
theorem str24 : ((strOfNums [111, 32, 49, 32, 45, 50, 32, 48, 10]).toList == (⟨#[111, 32, 49, 32, 45, 50, 32, 48, 10]⟩ : ByteArray).toList) = true := by
  rw [show strOfNums [111, 32, 49, 32, 45, 50, 32, 48, 10] = (⟨#[111, 32, 49, 32, 45, 50, 32, 48, 10]⟩ : ByteArray) by decide]
  simp
end Go.Proofs.YtbpbndlgfiammaaGreatDoor.Cn
namespace Go.Proofs.YtbpbndlgfiammaaGreatDoor.Cn
open Go Go.RowKit En
section
variable {N at_ n : Int} {L : List (List Int)} {p : List (Int × List Int)} {core l more : List Int} {a : List Bool}
end
end Go.Proofs.YtbpbndlgfiammaaGreatDoor.Cn
namespace Go.Proofs.YtbpbndlgfiammaaGreatDoor.En
open Go Go.RowKit
def tyLv24 : List (Nat × TD) := [(3, ⟨1, false, [.int .i64 0], [], none, 8, false, 1, 1⟩),
  (4, ⟨1, false, [.bool false], [], none, 1, true, 0, 2⟩),
  (5, ⟨1, false, [.int .u8 0], [], none, 1, false, 2, 8⟩),
  (9, ⟨1, false, [.string ⟨#[]⟩], [], none, 16, false, 9, 9⟩),
  (22, ⟨1, false, [.slice none 0 0], [], some 23, 24, false, 0, 50⟩),
  (23, ⟨1, false, [.slice none 0 0], [], some 3, 24, false, 0, 3⟩),
  (28, ⟨2, true, [.int .i64 0, .slice none 0 0], [(0, 3), (1, 22)], none, 32, false, 0, 6⟩),
  (29, ⟨1, false, [.slice none 0 0], [], some 43, 24, false, 0, 0⟩),
  (31, ⟨1, false, [.int .i64 0], [], none, 8, false, 1, 1⟩),
  (34, ⟨1, false, [.slice none 0 0], [], some 5, 24, false, 0, 0⟩),
  (43, ⟨2, true, [.int .i64 0, .slice none 0 0], [(0, 3), (1, 23)], none, 32, false, 0, 7⟩),
  (45, ⟨1, false, [.slice none 0 0], [], some 4, 24, false, 0, 0⟩)]
theorem tyLv24_ok : AllTy Tryz.prog tyLv24 := ⟨⟨by kernel_rfl, by kernel_rfl, by kernel_rfl⟩, ⟨by kernel_rfl, by kernel_rfl, by kernel_rfl⟩, ⟨by kernel_rfl, by kernel_rfl, by kernel_rfl⟩, ⟨by kernel_rfl, by kernel_rfl, by kernel_rfl⟩, ⟨by kernel_rfl, by kernel_rfl, by kernel_rfl⟩, ⟨by kernel_rfl, by kernel_rfl, by kernel_rfl⟩, ⟨by kernel_rfl, by kernel_rfl, by kernel_rfl⟩, ⟨by kernel_rfl, by kernel_rfl, by kernel_rfl⟩, ⟨by kernel_rfl, by kernel_rfl, by kernel_rfl⟩, ⟨by kernel_rfl, by kernel_rfl, by kernel_rfl⟩, ⟨by kernel_rfl, by kernel_rfl, by kernel_rfl⟩, ⟨by kernel_rfl, by kernel_rfl, by kernel_rfl⟩, trivial⟩
def cx_lFour : Cx := ⟨tyLv24, [], true⟩
theorem cx_lFour_ok : CxOk Tryz.prog cx_lFour := cx_ok tyLv24_ok trivial
def lFour_σ : CtF
  | [], [] => some (True, .row 0, [some (.row 23 (.intss Cn.four4))])
  | _, _ => none
theorem lFour_sound : Sound Tryz.prog 34 lFour_σ := by
 refine Sw (cx := cx_lFour) Tryz.f34 Tryz.func34 ?_
 intro wW wO wβ G0 args os p r outs hσ hp
 have hcx := cx_lFour_ok
 unfold lFour_σ at hσ
 split at hσ
 ·
  cases hσ
  refine ⟨by kernel_rfl, ?_⟩
  exact Sz hcx [] [] [] [] (Sz hcx [(1004, .to 205)] [0] [] [] (Zr (Fn [(205, .to 0)] [0] (Rv hcx rfl [true] (consO (congrArg some (congrArg (fun x => AObj.row 23 (.intss x)) (show [[1, 2], [(-1), 2], [1, (-2)], [(-1), (-2)]] = Cn.four4 from (by rfl)))) rfl)))))
 ·
  cases hσ
def cx_lGiven : Cx := ⟨tyLv24, [], true⟩
theorem cx_lGiven_ok : CxOk Tryz.prog cx_lGiven := cx_ok tyLv24_ok trivial
def lGiven_σ : CtF
  | [.row 0], [.row 23 (.intss c)] => some (c.length ≤ 1000000, .row 1, [some (.row 23 (.intss c)), some (.row 43 (.lines (c.map fun l => ((1 : Int), l))))])
  | _, _ => none
theorem lGiven_sound : Sound Tryz.prog 35 lGiven_σ := by
 refine Sw (cx := cx_lGiven) Tryz.f35 Tryz.func35 ?_
 intro wW wO wβ G0 args os p r outs hσ hp
 have hcx := cx_lGiven_ok
 unfold lGiven_σ at hσ
 split at hσ
 ·
  rename_i c
  cases hσ
  refine ⟨by kernel_rfl, ?_⟩
  have hm1 := hp
  refine Sz hcx [] [] [] [] (Sz hcx [] [3] [] [] (Zs (Sz hcx [] [6, 7, 8] [0] [] (Zb (Zw 3 700 43 (.lines []) (Zn [(0, .to 0), (700, .to 700)] [3, 6, 7, 8] (Lp (X := Nat) (fun x0 => x0 ≤ c.length) (fun x0 => ([(3, .row 700), (6, .row 0), (7, .int (c.length : Int)), (8, .int (x0 : Int))], [(0, .row 23 (.intss c)), (700, .row 43 (.lines ((c.take x0).map fun l => ((1 : Int), l))))])) (fun x0 => c.length - x0) (0) ?_ (Ex 8 (congrArg AV.int (show 0 = (0 : Int) from (by first | rfl | omega | (simp; done)))) Eb) Hb fun i hI => ?_)))))))
  ·
   show 0 ≤ c.length
   omega
  ·
   replace hI : i ≤ c.length := hI
   refine Sz hcx [] [9] [] [] (Zs (Zj (p := ((i : Int) < (c.length : Int))) (fun h0 => ?_) fun h0 => ?_))
   ·
    refine Zk (Ft (Zs (Zb (Sq hcx [] [5] [9] [] [((0 : Int) ≤ (i : Int) ∧ (i : Int) < (c.length : Int)), (i < c.length)] ?_ (Tq hcx [(1004, .to 700)] [3] [5] [700] [((((c.take i).map fun l => ((1 : Int), l)).length + [(1, (c.getD i []))].length) * 32 ≤ 140737488355328)] ?_ (Fb (Ft (Tq hcx [] [8] [] [] [Fit ((i : Int) + 1)] ?_ (Fn [(0, .to 0), (700, .to 700)] [3, 6, 7, 8] (Lr (i + 1) ?_ ?_ (Ex 8 (congrArg AV.int (show ((i : Int) + 1) = ((i + 1) : Int) from (by first | rfl | omega | (simp; done)))) Eb) (Hx 700 (congrArg (fun x => AObj.row 43 (.lines x)) (show (((c.take i).map fun l => ((1 : Int), l)) ++ [(1, (c.getD i []))]) = ((c.take (i + 1)).map fun l => ((1 : Int), l)) from (by exact Cn.given_next (by omega)))) Hb)))))))))))
    ·
     refine ap ?_ (ap ?_ az) <;>
      first | omega | exact id | exact vcNot | exact vcG | exact vcH | (intro _; omega) | exact (fun _ h => h) | (intro h; simp at h; omega) | (simp only [List.length_cons, List.length_nil, List.length_append, List.length_map, List.length_set, List.length_replicate]; omega) | (intro h; simp [h]; done) | (simp only [List.length_cons, List.length_nil, List.length_map, List.length_take]; omega) | done
    ·
     refine ap ?_ az
     first | omega | exact id | exact vcNot | exact vcG | exact vcH | (intro _; omega) | exact (fun _ h => h) | (intro h; simp at h; omega) | (simp only [List.length_cons, List.length_nil, List.length_append, List.length_map, List.length_set, List.length_replicate]; omega) | (intro h; simp [h]; done) | (simp only [List.length_cons, List.length_nil, List.length_map, List.length_take]; omega) | done
    ·
     refine ap ?_ az
     first | omega | exact id | exact vcNot | exact vcG | exact vcH | (intro _; omega) | exact (fun _ h => h) | (intro h; simp at h; omega) | (simp only [List.length_cons, List.length_nil, List.length_append, List.length_map, List.length_set, List.length_replicate]; omega) | (intro h; simp [h]; done) | (simp only [List.length_cons, List.length_nil, List.length_map, List.length_take]; omega) | done
    ·
     show (i + 1) ≤ c.length
     omega
    ·
     show c.length - (i + 1) < c.length - i
     omega
   ·
    exact Ze (Fe (Fe (Fs (Ft (Sz hcx [] [2] [9, 3, 6, 7, 8] [] (Zr (Fn [(0, .to 0), (700, .to 1)] [2] (Rv hcx rfl [true, true] (consO rfl (consO (congrArg some (congrArg (fun x => AObj.row 43 (.lines x)) (show ((c.take i).map fun l => ((1 : Int), l)) = (c.map fun l => ((1 : Int), l)) from (by (rw [show i = c.length by omega, List.take_length]))))) rfl))))))))))
 ·
  cases hσ
attribute [local irreducible] Cn.flwV Cn.chkC Cn.putV Cn.getV24 Cn.frmV
abbrev lvC1 : Bool := ((Cn.flwV ((Cn.four4.take 2).drop 0) [2]) && (!(Cn.flwV Cn.four4 ([] : List (Int)))))
abbrev lvC2 : Bool := (lvC1 && (Cn.flwV (Cn.four4 ++ [[2]]) ([] : List (Int))))
abbrev lvC3 : Bool := (lvC2 && ((Cn.chkC (2 : Int) Cn.four4 ((Cn.four4.map fun l => ((1 : Int), l)) ++ [(2, [2])]) ([] : List (Int))) == 0))
abbrev lvC4 : Bool := (lvC3 && ((Cn.chkC (2 : Int) Cn.four4 ((((Cn.four4.map fun l => ((1 : Int), l)) ++ [(2, [2])]).take 4).drop 0) ([] : List (Int))) == 250))
abbrev lvC5 : Bool := (lvC4 && ((strOfNums (Cn.putV [(1, [1, (-2)])])).toList == (⟨#[111, 32, 49, 32, 45, 50, 32, 48, 10]⟩ : ByteArray).toList))
abbrev lvC6 : Bool := (lvC5 && ((Cn.frmV [(1, [1, (-2)])]) == 0))
abbrev lvC7 : Bool := (lvC6 && ((((Cn.getV24 (Cn.putV [(1, [1, (-2)])])).1).length : Int) == 1))
def cx_live24 : Cx := ⟨tyLv24, [(14, (coeF [.ld (.intss []), .ld (.ints [])] pFlw_σ)), (17, (coeF [.agg [.id, .ld (.intss [])], .ld (.lines []), .ld (.ints [])] pCheck_σ)), (19, (coeF [.ld (.lines [])] pPut_σ)), (21, (coeF [.ld (.bytes [])] pGet_σ)), (34, lFour_σ), (35, lGiven_σ)], true⟩
theorem cx_live24_ok : CxOk Tryz.prog cx_live24 := cx_ok tyLv24_ok ⟨(pFlw_sound.coe [.ld (.intss []), .ld (.ints [])] rfl), (pCheck_sound.coe [.agg [.id, .ld (.intss [])], .ld (.lines []), .ld (.ints [])] rfl), (pPut_sound.coe [.ld (.lines [])] rfl), (pGet_sound.coe [.ld (.bytes [])] rfl), lFour_sound, lGiven_sound, trivial⟩
def live24_σ : CtF
  | [], [] => some (True, .bool true, [])
  | _, _ => none
theorem live24_sound : Sound Tryz.prog 12 live24_σ := by
 refine Sw (cx := cx_live24) Tryz.f12 Tryz.func12 ?_
 intro wW wO wβ G0 args os p r outs hσ hp
 have hcx := cx_live24_ok
 have hmx : Tryz.prog.follows .mixedOrders = true := by kernel_rfl
 unfold live24_σ at hσ
 split at hσ
 ·
  cases hσ
  refine ⟨by kernel_rfl, ?_⟩
  have h1 := Cn.lv24_1
  have h2 := Cn.lv24_2
  have h3 := Cn.lv24_3
  have h4 := Cn.lv24_4
  have h5 := Cn.lv24_5
  have h6 := Cn.lv24_6
  have h7 := Cn.lv24_7
  have h8 := Cn.lv24_8
  refine Sz hcx [] [] [] [] (Sq hcx [(1000, .to 207), (1002, .to 601)] [1] [] [] [(True)] ?_ (Sq hcx [(1005, .to 214)] [2] [] [] [(True), (Cn.four4.length ≤ 1000000), (((Cn.four4.map fun l => ((1 : Int), l)).length + [(2, [2])].length) * 32 ≤ 140737488355328)] ?_ (Zs (Zn [(601, .to 601), (207, .frz), (214, .frz)] [2, 1] (Tq hcx [] [3, 4] [] [] [(Cn.szP [(1, [1, (-2)])] ≤ 1000000000)] ?_ (Ft (Sq hcx [] [5, 6] [] [] [((Cn.putV [(1, [1, (-2)])]).length ≤ 1000000 ∧ Cn.isBytes (Cn.putV [(1, [1, (-2)])]))] ?_ (Sd hcx hmx [0, 1, 0, 7, 15, 31, 63, 127, 255, 511, 1023, 1023, 3071, 8191, 16383, 32767, 65535, 131071, 131071, 524287, 1048575, 2097151, 4194303, 8388607, 8388607, 25165823, 67108863, 134217727, 268435455, 536870911, 1073741823, 2147483647, 4294967295, 8589934591, 17179869183, 34359738367, 68719476735, 137438953471, 274877906943, 549755813887, 1099511627775, 2199023255551, 4398046511103, 8796093022207, 17592186044415, 35184372088831, 70368744177663, 140737488355327] [] [0] [5, 6, 3, 4, 2, 1] [601] [(True), ((0 : Int) ≤ 2 ∧ 2 ≤ (Cn.four4.length : Int)), (((Cn.four4.take 2).drop 0).length ≤ 1000000000 ∧ (∀ x ∈ ((Cn.four4.take 2).drop 0), x.length ≤ maxLen) ∧ [2].length ≤ maxLen), ((Cn.flwV ((Cn.four4.take 2).drop 0) [2]) = true), (True), ((Cn.flwV ((Cn.four4.take 2).drop 0) [2]) = true → (Cn.four4.length ≤ 1000000000 ∧ (∀ x ∈ Cn.four4, x.length ≤ maxLen) ∧ ([] : List (Int)).length ≤ maxLen)), ((Cn.flwV ((Cn.four4.take 2).drop 0) [2]) = true → ((Cn.flwV ((Cn.four4.take 2).drop 0) [2]) = true)), ((Cn.flwV ((Cn.four4.take 2).drop 0) [2]) = true → (Cn.flwV ((Cn.four4.take 2).drop 0) [2]) = true), (lvC1 = true), (True), (lvC1 = true), (lvC1 = true), (lvC1 = true), ((Cn.four4.length + [[2]].length) * 24 ≤ 140737488355328), (lvC1 = true → ((Cn.four4 ++ [[2]]).length ≤ 1000000000 ∧ (∀ x ∈ (Cn.four4 ++ [[2]]), x.length ≤ maxLen) ∧ ([] : List (Int)).length ≤ maxLen)), (lvC1 = true → lvC1 = true), (lvC2 = true → (lvC2 = true)), (lvC2 = true → (lvC2 = true)), (lvC2 = true → (Cn.four4.length ≤ maxLen ∧ (∀ x ∈ Cn.four4, x.length ≤ 1000000000000) ∧ ((Cn.four4.map fun l => ((1 : Int), l)) ++ [(2, [2])]).length ≤ maxLen ∧ (∀ x ∈ ((Cn.four4.map fun l => ((1 : Int), l)) ++ [(2, [2])]), x.2.length ≤ 1000000000000) ∧ ([] : List (Int)).length ≤ 1000000000000)), (lvC2 = true → (lvC2 = true)), (lvC2 = true → lvC2 = true), (lvC3 = true → (lvC3 = true)), (lvC3 = true → ((0 : Int) ≤ 4 ∧ 4 ≤ (((Cn.four4.map fun l => ((1 : Int), l)) ++ [(2, [2])]).length : Int))), (lvC3 = true → (lvC3 = true)), (lvC3 = true → (lvC3 = true)), (lvC3 = true → (Cn.four4.length ≤ maxLen ∧ (∀ x ∈ Cn.four4, x.length ≤ 1000000000000) ∧ ((((Cn.four4.map fun l => ((1 : Int), l)) ++ [(2, [2])]).take 4).drop 0).length ≤ maxLen ∧ (∀ x ∈ ((((Cn.four4.map fun l => ((1 : Int), l)) ++ [(2, [2])]).take 4).drop 0), x.2.length ≤ 1000000000000) ∧ ([] : List (Int)).length ≤ 1000000000000)), (lvC3 = true → (lvC3 = true)), (lvC3 = true → lvC3 = true), (lvC4 = true → (lvC4 = true)), (lvC4 = true → (lvC4 = true)), (lvC4 = true → lvC4 = true), (lvC5 = true → (lvC5 = true)), (lvC5 = true → lvC5 = true), (lvC6 = true → (lvC6 = true)), (lvC6 = true → (lvC6 = true)), (lvC6 = true → lvC6 = true), (lvC7 = true → (lvC7 = true)), (lvC7 = true → lvC7 = true)] ?_ (Zr (Rv hcx (congrArg AV.bool (show (lvC7 && (((Cn.getV24 (Cn.putV [(1, [1, (-2)])])).2) == 0)) = true from (by (simp only [lvC1, lvC2, lvC3, lvC4, lvC5, lvC6, lvC7, h1, h2, h3, h4, h5, h6, h7, h8, Cn.str24]; decide)))) [] rfl))))))))))
  ·
   refine ap ?_ az
   first | exact True.intro | exact (fun h => h) | exact (fun h => (Bool.and_eq_true_iff.1 h).1) | (rw [h7]; exact ⟨by decide, by unfold Cn.isBytes; decide⟩) | (simp only [h1]; done) | (simp only [lvC1, lvC2, lvC3, lvC4, lvC5, lvC6, lvC7, h1, h2, h3, h4, h5, h6]; decide) | decide | (intro _; exact True.intro) | (intro _; rw [h7]; decide) | (intro _; decide) | done
  ·
   refine ap ?_ (ap ?_ (ap ?_ az)) <;>
    first | exact True.intro | exact (fun h => h) | exact (fun h => (Bool.and_eq_true_iff.1 h).1) | (rw [h7]; exact ⟨by decide, by unfold Cn.isBytes; decide⟩) | (simp only [h1]; done) | (simp only [lvC1, lvC2, lvC3, lvC4, lvC5, lvC6, lvC7, h1, h2, h3, h4, h5, h6]; decide) | decide | (intro _; exact True.intro) | (intro _; rw [h7]; decide) | (intro _; decide) | done
  ·
   refine ap ?_ az
   first | exact True.intro | exact (fun h => h) | exact (fun h => (Bool.and_eq_true_iff.1 h).1) | (rw [h7]; exact ⟨by decide, by unfold Cn.isBytes; decide⟩) | (simp only [h1]; done) | (simp only [lvC1, lvC2, lvC3, lvC4, lvC5, lvC6, lvC7, h1, h2, h3, h4, h5, h6]; decide) | decide | (intro _; exact True.intro) | (intro _; rw [h7]; decide) | (intro _; decide) | done
  ·
   refine ap ?_ az
   first | exact True.intro | exact (fun h => h) | exact (fun h => (Bool.and_eq_true_iff.1 h).1) | (rw [h7]; exact ⟨by decide, by unfold Cn.isBytes; decide⟩) | (simp only [h1]; done) | (simp only [lvC1, lvC2, lvC3, lvC4, lvC5, lvC6, lvC7, h1, h2, h3, h4, h5, h6]; decide) | decide | (intro _; exact True.intro) | (intro _; rw [h7]; decide) | (intro _; decide) | done
  ·
   refine ap ?_ (ap ?_ (ap ?_ (ap ?_ (ap ?_ (ap ?_ (ap ?_ (ap (by exact id) (ap ?_ (ap ?_ (ap ?_ (ap ?_ (ap ?_ (ap ?_ (ap ?_ (ap (by exact id) (ap ?_ (ap ?_ (ap ?_ (ap ?_ (ap (by exact id) (ap ?_ (ap ?_ (ap ?_ (ap ?_ (ap ?_ (ap ?_ (ap (by exact id) (ap ?_ (ap ?_ (ap (by exact id) (ap ?_ (ap (by exact id) (ap ?_ (ap ?_ (ap (by exact id) (ap ?_ (ap (by exact id) az))))))))))))))))))))))))))))))))))))) <;>
    first | exact True.intro | exact (fun h => h) | exact (fun h => (Bool.and_eq_true_iff.1 h).1) | (rw [h7]; exact ⟨by decide, by unfold Cn.isBytes; decide⟩) | (simp only [h1]; done) | (simp only [lvC1, lvC2, lvC3, lvC4, lvC5, lvC6, lvC7, h1, h2, h3, h4, h5, h6]; decide) | decide | (intro _; exact True.intro) | (intro _; rw [h7]; decide) | (intro _; decide) | done
 ·
  cases hσ
end Go.Proofs.YtbpbndlgfiammaaGreatDoor.En
namespace Go.Proofs.YtbpbndlgfiammaaGreatDoor.En
open Go Go.RowKit
def tyR24A : List (Nat × TD) := [(3, ⟨1, false, [.int .i64 0], [], none, 8, false, 1, 1⟩),
  (22, ⟨1, false, [.slice none 0 0], [], some 23, 24, false, 0, 0⟩),
  (23, ⟨1, false, [.slice none 0 0], [], some 3, 24, false, 0, 3⟩),
  (29, ⟨1, false, [.slice none 0 0], [], some 43, 24, false, 0, 0⟩),
  (43, ⟨2, true, [.int .i64 0, .slice none 0 0], [(0, 3), (1, 23)], none, 32, false, 0, 7⟩)]
theorem tyR24A_ok : AllTy Tryz.prog tyR24A := ⟨⟨by kernel_rfl, by kernel_rfl, by kernel_rfl⟩, ⟨by kernel_rfl, by kernel_rfl, by kernel_rfl⟩, ⟨by kernel_rfl, by kernel_rfl, by kernel_rfl⟩, ⟨by kernel_rfl, by kernel_rfl, by kernel_rfl⟩, ⟨by kernel_rfl, by kernel_rfl, by kernel_rfl⟩, trivial⟩
def cx_rFewC : Cx := ⟨tyR24A, [], true⟩
theorem cx_rFewC_ok : CxOk Tryz.prog cx_rFewC := cx_ok tyR24A_ok trivial
def rFewC_σ : CtF
  | [.im (.ls (.intss c)), .im (.val (.int .i64 m))], [] => some (c.length ≤ maxLen ∧ (∀ x ∈ c, x.length ≤ 17592186043904) ∧ 0 ≤ m ∧ m ≤ 1000, .bool (Cn.fewC c m), [])
  | _, _ => none
theorem rFewC_sound : Sound Tryz.prog 13 rFewC_σ := by
 refine Sw (cx := cx_rFewC) Tryz.f13 Tryz.func13 ?_
 intro wW wO wβ G0 args os p r outs hσ hp
 have hcx := cx_rFewC_ok
 unfold rFewC_σ at hσ
 split at hσ
 ·
  rename_i c m
  cases hσ
  refine ⟨by kernel_rfl, ?_⟩
  obtain ⟨hm1, hm2, hm3, hm4⟩ := hp
  unfold maxLen at hm1
  refine Sz hcx [] [] [] [] (Sz hcx [] [5] [] [] (Zs (Sz hcx [] [6] [] [] (Zb (Lp (X := Nat) (fun x0 => x0 ≤ c.length ∧ (Cn.szC (c.take x0) : Int) ≤ 6 * m) (fun x0 => ([(0, .intss c), (1, .int m), (5, .int (Cn.szC (c.take x0) : Int)), (6, .int (x0 : Int))], [])) (fun x0 => c.length - x0) (0) ?_ (Ex 6 (congrArg AV.int (show 0 = (0 : Int) from (by first | rfl | omega | (simp; done)))) Eb) Hb fun i hI => ?_)))))
  ·
   exact ⟨Nat.zero_le _, by show (0 : Int) ≤ 6 * m; omega⟩
  ·
   try dsimp only at hI
   obtain ⟨hk, hs⟩ := hI
   have hn := fun (h : i < c.length) => Cn.fewC_next h
   have hxl := fun (h : i < c.length) => hm2 _ (Cn.getD_memL (d := []) h)
   refine Zs (Sq hcx [] [15] [] [] [((decide ((i : Int) < (c.length : Int))) = true → ((decide ((i : Int) < (c.length : Int))) = true)), ((decide ((i : Int) < (c.length : Int))) = true → ((decide ((i : Int) < (c.length : Int))) = true)), ((decide ((i : Int) < (c.length : Int))) = true → (decide ((i : Int) < (c.length : Int))) = true)] ?_ (Zi (b := (decide ((i : Int) < (c.length : Int))) && (decide ((i : Int) ≤ m))) (fun h0 => ?_) fun h0 => ?_))
   ·
    refine ap ?_ (ap ?_ (ap (by exact id) az)) <;>
     first | omega | exact id | exact vcNot | exact vcG | exact vcH | (intro _; omega) | exact (fun _ h => h) | (intro h; simp at h; omega) | (simp only [List.length_cons, List.length_nil, List.length_append, List.length_map, List.length_set, List.length_replicate]; omega) | (intro h; simp [h]; done) | exact (fun _ => ⟨by omega, by omega⟩) | (constructor <;> omega) | (intro _; constructor <;> omega) | omega | done
   ·
    have h15 := (Cn.and_t h0).1
    have h15b : i < c.length := by simpa using h15
    have hn9 := hn h15b
    have hx9 := hxl h15b
    refine Zk (Ft (Zs (Zb (Sq hcx [] [5] [15] [] [((0 : Int) ≤ (i : Int) ∧ (i : Int) < (c.length : Int)), Fit (1 + ((c.getD i []).length : Int)), Fit ((Cn.szC (c.take i) : Int) + (1 + ((c.getD i []).length : Int)))] ?_ (Sq hcx [] [29] [] [] [Fit (6 * m)] ?_ (Zj (p := (((Cn.szC (c.take i) : Int) + (1 + ((c.getD i []).length : Int))) > (6 * m))) (fun h1 => ?_) fun h1 => ?_))))))
    ·
     refine ap ?_ (ap ?_ (ap ?_ az)) <;>
      first | omega | exact id | exact vcNot | exact vcG | exact vcH | (intro _; omega) | exact (fun _ h => h) | (intro h; simp at h; omega) | (simp only [List.length_cons, List.length_nil, List.length_append, List.length_map, List.length_set, List.length_replicate]; omega) | (intro h; simp [h]; done) | exact (fun _ => ⟨by omega, by omega⟩) | (constructor <;> omega) | (intro _; constructor <;> omega) | omega | done
    ·
     refine ap ?_ az
     first | omega | exact id | exact vcNot | exact vcG | exact vcH | (intro _; omega) | exact (fun _ h => h) | (intro h; simp at h; omega) | (simp only [List.length_cons, List.length_nil, List.length_append, List.length_map, List.length_set, List.length_replicate]; omega) | (intro h; simp [h]; done) | exact (fun _ => ⟨by omega, by omega⟩) | (constructor <;> omega) | (intro _; constructor <;> omega) | omega | done
    ·
     have h29 := h1
     exact Sz hcx [] [4] [29, 5, 0, 1, 6] [] (Zr (Fk (Fr (Fr (Fk (Fr (Rv hcx (congrArg AV.bool (show false = (Cn.fewC c m) from (by first | exact Cn.fewG_big (by rw [show Cn.szG _ _ = Cn.szC (c.take (i + 1)) from rfl]; omega) | exact Cn.fewG_end hs hk h15 | done))) [] rfl)))))))
    ·
     have h29 := h1
     refine Zk (Fb (Ft (Tq hcx [] [6] [29] [] [Fit ((i : Int) + 1)] ?_ (Lr (i + 1) ?_ ?_ (Ex 5 (congrArg AV.int (show ((Cn.szC (c.take i) : Int) + (1 + ((c.getD i []).length : Int))) = (Cn.szC (c.take (i + 1)) : Int) from (by (have h8 := hn (by omega); omega)))) (Ex 6 (congrArg AV.int (show ((i : Int) + 1) = ((i + 1) : Int) from (by first | rfl | omega | (simp; done)))) Eb)) Hb))))
     ·
      refine ap ?_ az
      first | omega | exact id | exact vcNot | exact vcG | exact vcH | (intro _; omega) | exact (fun _ h => h) | (intro h; simp at h; omega) | (simp only [List.length_cons, List.length_nil, List.length_append, List.length_map, List.length_set, List.length_replicate]; omega) | (intro h; simp [h]; done) | exact (fun _ => ⟨by omega, by omega⟩) | (constructor <;> omega) | (intro _; constructor <;> omega) | omega | done
     ·
      exact ⟨by omega, by omega⟩
     ·
      show c.length - (i + 1) < c.length - i
      omega
   ·
    have h15 := h0
    exact Ze (Fe (Fe (Fs (Ft (Sz hcx [] [4] [15, 0, 1, 5, 6] [] (Zr (Rv hcx (congrArg AV.bool (show (decide ((c.length : Int) ≤ m)) = (Cn.fewC c m) from (by first | exact Cn.fewG_big (by rw [show Cn.szG _ _ = Cn.szC (c.take (i + 1)) from rfl]; omega) | exact Cn.fewG_end hs hk h15 | done))) [] rfl)))))))
 ·
  cases hσ
def cx_rFewL : Cx := ⟨tyR24A, [], true⟩
theorem cx_rFewL_ok : CxOk Tryz.prog cx_rFewL := cx_ok tyR24A_ok trivial
def rFewL_σ : CtF
  | [.im (.ls (.lines p)), .im (.val (.int .i64 m))], [] => some (p.length ≤ maxLen ∧ (∀ x ∈ p, x.2.length ≤ 17592186043904) ∧ 0 ≤ m ∧ m ≤ 1000, .bool (Cn.fewL p m), [])
  | _, _ => none
theorem rFewL_sound : Sound Tryz.prog 16 rFewL_σ := by
 refine Sw (cx := cx_rFewL) Tryz.f16 Tryz.func16 ?_
 intro wW wO wβ G0 args os p r outs hσ hp
 have hcx := cx_rFewL_ok
 unfold rFewL_σ at hσ
 split at hσ
 ·
  rename_i p m
  cases hσ
  refine ⟨by kernel_rfl, ?_⟩
  obtain ⟨hm1, hm2, hm3, hm4⟩ := hp
  unfold maxLen at hm1
  refine Sz hcx [] [] [] [] (Sz hcx [] [5] [] [] (Zs (Sz hcx [] [6] [] [] (Zb (Lp (X := Nat) (fun x0 => x0 ≤ p.length ∧ (Cn.szL (p.take x0) : Int) ≤ 6 * m) (fun x0 => ([(0, .lines p), (1, .int m), (5, .int (Cn.szL (p.take x0) : Int)), (6, .int (x0 : Int))], [])) (fun x0 => p.length - x0) (0) ?_ (Ex 6 (congrArg AV.int (show 0 = (0 : Int) from (by first | rfl | omega | (simp; done)))) Eb) Hb fun i hI => ?_)))))
  ·
   exact ⟨Nat.zero_le _, by show (0 : Int) ≤ 6 * m; omega⟩
  ·
   try dsimp only at hI
   obtain ⟨hk, hs⟩ := hI
   have hn := fun (h : i < p.length) => Cn.fewL_next h
   have hxl := fun (h : i < p.length) => hm2 _ (Cn.getD_memL (d := (0, [])) h)
   refine Zs (Sq hcx [] [15] [] [] [((decide ((i : Int) < (p.length : Int))) = true → ((decide ((i : Int) < (p.length : Int))) = true)), ((decide ((i : Int) < (p.length : Int))) = true → ((decide ((i : Int) < (p.length : Int))) = true)), ((decide ((i : Int) < (p.length : Int))) = true → (decide ((i : Int) < (p.length : Int))) = true)] ?_ (Zi (b := (decide ((i : Int) < (p.length : Int))) && (decide ((i : Int) ≤ m))) (fun h0 => ?_) fun h0 => ?_))
   ·
    refine ap ?_ (ap ?_ (ap (by exact id) az)) <;>
     first | omega | exact id | exact vcNot | exact vcG | exact vcH | (intro _; omega) | exact (fun _ h => h) | (intro h; simp at h; omega) | (simp only [List.length_cons, List.length_nil, List.length_append, List.length_map, List.length_set, List.length_replicate]; omega) | (intro h; simp [h]; done) | exact (fun _ => ⟨by omega, by omega⟩) | (constructor <;> omega) | (intro _; constructor <;> omega) | omega | done
   ·
    have h15 := (Cn.and_t h0).1
    have h15b : i < p.length := by simpa using h15
    have hn9 := hn h15b
    have hx9 := hxl h15b
    refine Zk (Ft (Zs (Zb (Sq hcx [] [5] [15] [] [((0 : Int) ≤ (i : Int) ∧ (i : Int) < (p.length : Int)), Fit (1 + (((p.getD i (0, [])).2).length : Int)), Fit ((Cn.szL (p.take i) : Int) + (1 + (((p.getD i (0, [])).2).length : Int)))] ?_ (Sq hcx [] [30] [] [] [Fit (6 * m)] ?_ (Zj (p := (((Cn.szL (p.take i) : Int) + (1 + (((p.getD i (0, [])).2).length : Int))) > (6 * m))) (fun h1 => ?_) fun h1 => ?_))))))
    ·
     refine ap ?_ (ap ?_ (ap ?_ az)) <;>
      first | omega | exact id | exact vcNot | exact vcG | exact vcH | (intro _; omega) | exact (fun _ h => h) | (intro h; simp at h; omega) | (simp only [List.length_cons, List.length_nil, List.length_append, List.length_map, List.length_set, List.length_replicate]; omega) | (intro h; simp [h]; done) | exact (fun _ => ⟨by omega, by omega⟩) | (constructor <;> omega) | (intro _; constructor <;> omega) | omega | done
    ·
     refine ap ?_ az
     first | omega | exact id | exact vcNot | exact vcG | exact vcH | (intro _; omega) | exact (fun _ h => h) | (intro h; simp at h; omega) | (simp only [List.length_cons, List.length_nil, List.length_append, List.length_map, List.length_set, List.length_replicate]; omega) | (intro h; simp [h]; done) | exact (fun _ => ⟨by omega, by omega⟩) | (constructor <;> omega) | (intro _; constructor <;> omega) | omega | done
    ·
     have h29 := h1
     exact Sz hcx [] [4] [30, 5, 0, 1, 6] [] (Zr (Fk (Fr (Fr (Fk (Fr (Rv hcx (congrArg AV.bool (show false = (Cn.fewL p m) from (by first | exact Cn.fewG_big (by rw [show Cn.szG _ _ = Cn.szL (p.take (i + 1)) from rfl]; omega) | exact Cn.fewG_end hs hk h15 | done))) [] rfl)))))))
    ·
     have h29 := h1
     refine Zk (Fb (Ft (Tq hcx [] [6] [30] [] [Fit ((i : Int) + 1)] ?_ (Lr (i + 1) ?_ ?_ (Ex 5 (congrArg AV.int (show ((Cn.szL (p.take i) : Int) + (1 + (((p.getD i (0, [])).2).length : Int))) = (Cn.szL (p.take (i + 1)) : Int) from (by (have h8 := hn (by omega); omega)))) (Ex 6 (congrArg AV.int (show ((i : Int) + 1) = ((i + 1) : Int) from (by first | rfl | omega | (simp; done)))) Eb)) Hb))))
     ·
      refine ap ?_ az
      first | omega | exact id | exact vcNot | exact vcG | exact vcH | (intro _; omega) | exact (fun _ h => h) | (intro h; simp at h; omega) | (simp only [List.length_cons, List.length_nil, List.length_append, List.length_map, List.length_set, List.length_replicate]; omega) | (intro h; simp [h]; done) | exact (fun _ => ⟨by omega, by omega⟩) | (constructor <;> omega) | (intro _; constructor <;> omega) | omega | done
     ·
      exact ⟨by omega, by omega⟩
     ·
      show p.length - (i + 1) < p.length - i
      omega
   ·
    have h15 := h0
    exact Ze (Fe (Fe (Fs (Ft (Sz hcx [] [4] [15, 0, 1, 5, 6] [] (Zr (Rv hcx (congrArg AV.bool (show (decide ((p.length : Int) ≤ m)) = (Cn.fewL p m) from (by first | exact Cn.fewG_big (by rw [show Cn.szG _ _ = Cn.szL (p.take (i + 1)) from rfl]; omega) | exact Cn.fewG_end hs hk h15 | done))) [] rfl)))))))
 ·
  cases hσ
end Go.Proofs.YtbpbndlgfiammaaGreatDoor.En
namespace Go.Proofs.YtbpbndlgfiammaaGreatDoor.En
open Go
end Go.Proofs.YtbpbndlgfiammaaGreatDoor.En
namespace Go.Proofs.YtbpbndlgfiammaaGreatDoor.Cn
open Go Go.RowKit En
section
variable {α : Type} [BEq α] [LawfulBEq α] {a b : List α} {d : α} {i : Nat}
end
theorem parts {ws : List (List Int)} (h2 : 2 ≤ ws.length) (h : wd ws (ws.length - 1) = [48]) : ws = wd ws 0 :: (midW ws ++ [[48]]) := by
  match ws, h2, h with
  | w :: r, h2, h =>
    simp only [List.length_cons] at h2
    have hne : r ≠ [] := fun e => by rw [e] at h2; simp at h2
    obtain ⟨s, z, rfl⟩ : ∃ s z, r = s ++ [z] := ⟨r.dropLast, r.getLast hne, (List.dropLast_concat_getLast hne).symm⟩
    have e1 : (w :: (s ++ [z])).length - 1 = s.length + 1 := by simp
    have e2 : midW (w :: (s ++ [z])) = s := by
      unfold midW
      rw [e1, List.take_succ_cons, List.drop_succ_cons, List.drop_zero, List.take_append_of_le_length (Nat.le_refl _), List.take_length]
    have e3 : wd (w :: (s ++ [z])) ((w :: (s ++ [z])).length - 1) = z := by
      rw [e1]; unfold wd; simp [List.getD]
    rw [e3] at h
    rw [e2, ← h]; rfl
section
variable {N : Int} {L : List (List Int)} {p : List (Int × List Int)} {core b : List Int}
end
end Go.Proofs.YtbpbndlgfiammaaGreatDoor.Cn
namespace Go.Proofs.YtbpbndlgfiammaaGreatDoor.Cn
open Go Go.RowKit En
theorem lit24 (x : Int) : mayP x 65536 = ((decide (x ≥ 1) && decide (x ≤ 65536)) || (decide (x ≤ -1) && decide (x ≥ -65536))) := by
  rw [Bool.eq_iff_iff, mayP_iff]
  simp only [Bool.or_eq_true, Bool.and_eq_true, decide_eq_true_eq]
  omega
section
variable {k : Int} {l : List Int} {i j : Nat} {p : List (Int × List Int)}
theorem form_no (hi : i < l.length) (hq : mayP (l.getD i 0) 65536 = false) : false = lineOk (k, l) := by
  unfold lineOk
  have := allD_no (p := fun y => mayP y 65536) (d := 0) hi hq
  simp only [this, Bool.and_false]
theorem form_yes (hi : i = l.length) (hok : ∀ j, j < i → mayP (l.getD j 0) 65536 = true) : (decide (k ≥ 1) && decide (k ≤ 3)) = lineOk (k, l) := by
  unfold lineOk
  have := allD_yes (p := fun y => mayP y 65536) (d := 0) hi hok
  simp only [this, Bool.and_true]
theorem frm_big (h : (p.length : Int) > 65536) : frmV p = 2 := by unfold frmV; rw [if_pos (by omega)]
theorem frm_bad (hl : p.length ≤ 65536) (hi : i < p.length) (hq : lineOk (p.getD i (0, [])) = false) : frmV p = 1 := by
  unfold frmV
  rw [if_neg (by omega), if_neg (by rw [allD_no hi hq]; decide)]
theorem frm_good (hl : p.length ≤ 65536) (hi : i = p.length) (hok : ∀ j, j < i → lineOk (p.getD j (0, [])) = true) : frmV p = 0 := by
  unfold frmV
  rw [if_neg (by omega), if_pos (allD_yes hi hok)]
theorem putP_snoc (hj : j < p.length) : putP (p.take (j + 1)) = putP (p.take j) ++ lineB (p.getD j (0, [])) := by
  have e : p.take (j + 1) = p.take j ++ [p.getD j (0, [])] := by rw [List.take_add_one]; simp [List.getD, List.getElem?_eq_getElem hj]
  rw [e]; simp [putP]
theorem put_size (hj : j < p.length) : (putP (p.take j)).length + (strOfNums (lineB ((p.getD j (0, [])).1, (p.getD j (0, [])).2))).size = (putP (p.take (j + 1))).length := by
  rw [putP_snoc hj, List.length_append, str_size]
end
end Go.Proofs.YtbpbndlgfiammaaGreatDoor.Cn
namespace Go.Proofs.YtbpbndlgfiammaaGreatDoor.Cn
open Go Go.RowKit En
end Go.Proofs.YtbpbndlgfiammaaGreatDoor.Cn
namespace Go.Proofs.YtbpbndlgfiammaaGreatDoor.Cn
open Go Go.RowKit En
section
variable {s : ByteArray} {i k : Nat}
end
section
variable {b : List Int} {i g : Nat} {o : List (Int × List Int)}
end
end Go.Proofs.YtbpbndlgfiammaaGreatDoor.Cn
namespace Go.Proofs.YtbpbndlgfiammaaGreatDoor.En
open Go Go.RowKit
def tyR24C : List (Nat × TD) := [(3, ⟨1, false, [.int .i64 0], [], none, 8, false, 1, 1⟩),
  (5, ⟨1, false, [.int .u8 0], [], none, 1, false, 2, 8⟩),
  (9, ⟨1, false, [.string ⟨#[]⟩], [], none, 16, false, 9, 9⟩),
  (23, ⟨1, false, [.slice none 0 0], [], some 3, 24, false, 0, 3⟩),
  (29, ⟨1, false, [.slice none 0 0], [], some 43, 24, false, 0, 0⟩),
  (34, ⟨1, false, [.slice none 0 0], [], some 5, 24, false, 0, 0⟩),
  (43, ⟨2, true, [.int .i64 0, .slice none 0 0], [(0, 3), (1, 23)], none, 32, false, 0, 7⟩)]
theorem tyR24C_ok : AllTy Tryz.prog tyR24C := ⟨⟨by kernel_rfl, by kernel_rfl, by kernel_rfl⟩, ⟨by kernel_rfl, by kernel_rfl, by kernel_rfl⟩, ⟨by kernel_rfl, by kernel_rfl, by kernel_rfl⟩, ⟨by kernel_rfl, by kernel_rfl, by kernel_rfl⟩, ⟨by kernel_rfl, by kernel_rfl, by kernel_rfl⟩, ⟨by kernel_rfl, by kernel_rfl, by kernel_rfl⟩, ⟨by kernel_rfl, by kernel_rfl, by kernel_rfl⟩, trivial⟩
def cx_rLit : Cx := ⟨tyR24C, [], true⟩
theorem cx_rLit_ok : CxOk Tryz.prog cx_rLit := cx_ok tyR24C_ok trivial
def rLit_σ : CtF
  | [.im (.val (.int .i64 x))], [] => some (True, .bool (Cn.mayP x 65536), [])
  | _, _ => none
theorem rLit_sound : Sound Tryz.prog 40 rLit_σ := by
 refine Sw (cx := cx_rLit) Tryz.f40 Tryz.func40 ?_
 intro wW wO wβ G0 args os p r outs hσ hp
 have hcx := cx_rLit_ok
 unfold rLit_σ at hσ
 split at hσ
 ·
  rename_i x
  cases hσ
  refine ⟨by kernel_rfl, ?_⟩
  refine Sz hcx [] [] [] [] (Sq hcx [] [2] [0] [] [((decide (x ≥ 1)) = true → ((decide (x ≥ 1)) = true)), ((decide (x ≥ 1)) = true → (decide (x ≥ 1)) = true), ((!((decide (x ≥ 1)) && (decide (x ≤ 65536)))) = true → ((!((decide (x ≥ 1)) && (decide (x ≤ 65536)))) = true)), ((!((decide (x ≥ 1)) && (decide (x ≤ 65536)))) = true → ((!((decide (x ≥ 1)) && (decide (x ≤ 65536)))) = true)), (((!((decide (x ≥ 1)) && (decide (x ≤ 65536)))) && (decide (x ≤ (-1)))) = true → (((!((decide (x ≥ 1)) && (decide (x ≤ 65536)))) && (decide (x ≤ (-1)))) = true)), ((!((decide (x ≥ 1)) && (decide (x ≤ 65536)))) = true → ((!((decide (x ≥ 1)) && (decide (x ≤ 65536)))) = true)), ((!((decide (x ≥ 1)) && (decide (x ≤ 65536)))) = true → ((decide (x ≤ (-1))) = true → ((!((decide (x ≥ 1)) && (decide (x ≤ 65536)))) && (decide (x ≤ (-1)))) = true)), (((decide (x ≥ 1)) && (decide (x ≤ 65536))) = false → (!((decide (x ≥ 1)) && (decide (x ≤ 65536)))) = true)] ?_ (Zr (Rv hcx (congrArg AV.bool (show (((decide (x ≥ 1)) && (decide (x ≤ 65536))) || ((decide (x ≤ (-1))) && (decide (x ≥ (-65536))))) = (Cn.mayP x 65536) from (by exact (Cn.lit24 x).symm))) [] rfl)))
  ·
   refine ap ?_ (ap (by exact id) (ap ?_ (ap ?_ (ap ?_ (ap ?_ (ap ?_ (ap (by exact vcNot) az))))))) <;>
    first | omega | exact id | exact vcNot | exact vcG | exact vcH | (intro _; omega) | exact (fun _ h => h) | (intro h; simp at h; omega) | (simp only [List.length_cons, List.length_nil, List.length_append, List.length_map, List.length_set, List.length_replicate]; omega) | (intro h; simp [h]; done) | exact True.intro | (intro _; exact True.intro) | done
 ·
  cases hσ
def cx_rForm : Cx := ⟨tyR24C, [(40, rLit_σ)], true⟩
theorem cx_rForm_ok : CxOk Tryz.prog cx_rForm := cx_ok tyR24C_ok ⟨rLit_sound, trivial⟩
def rForm_σ : CtF
  | [.agg [.im (.val (.int .i64 k)), .im (.ls (.ints l))]], [] => some (l.length ≤ maxLen, .bool (Cn.lineOk (k, l)), [])
  | _, _ => none
theorem rForm_sound : Sound Tryz.prog 53 rForm_σ := by
 refine Sw (cx := cx_rForm) Tryz.f53 Tryz.func53 ?_
 intro wW wO wβ G0 args os p r outs hσ hp
 have hcx := cx_rForm_ok
 unfold rForm_σ at hσ
 split at hσ
 ·
  rename_i k l
  cases hσ
  refine ⟨by kernel_rfl, ?_⟩
  have hm1 := hp
  unfold maxLen at hm1
  refine Sz hcx [(1000, .frz)] [1] [0] [] (Zs (Sz hcx [] [6, 7, 8] [] [] (Zb (Lp (X := Nat) (fun x0 => x0 ≤ l.length ∧ ∀ j, j < x0 → Cn.mayP (l.getD j 0) 65536 = true) (fun x0 => ([(1, .pto [.int k, .ls (.ints l)]), (6, .ints l), (7, .int (l.length : Int)), (8, .int (x0 : Int))], [])) (fun x0 => l.length - x0) (0) ?_ (Ex 8 (congrArg AV.int (show 0 = (0 : Int) from (by first | rfl | omega | (simp; done)))) Eb) Hb fun i hI => ?_))))
  ·
   exact ⟨Nat.zero_le _, fun j hj => by omega⟩
  ·
   try dsimp only at hI
   obtain ⟨hk, hok⟩ := hI
   refine Sz hcx [] [9] [] [] (Zs (Zj (p := ((i : Int) < (l.length : Int))) (fun h0 => ?_) fun h0 => ?_))
   ·
    refine Zk (Ft (Zs (Zb (Sq hcx [] [4] [9] [] [((0 : Int) ≤ (i : Int) ∧ (i : Int) < (l.length : Int))] ?_ (Sq hcx [] [14] [4] [] [(True)] ?_ (Zi (b := !(Cn.mayP (l.getD i 0) 65536)) (fun h1 => ?_) fun h1 => ?_))))))
    ·
     refine ap ?_ az
     first | omega | exact id | exact vcNot | exact vcG | exact vcH | (intro _; omega) | exact (fun _ h => h) | (intro h; simp at h; omega) | (simp only [List.length_cons, List.length_nil, List.length_append, List.length_map, List.length_set, List.length_replicate]; omega) | (intro h; simp [h]; done) | exact True.intro | (constructor <;> omega) | done
    ·
     refine ap ?_ az
     first | omega | exact id | exact vcNot | exact vcG | exact vcH | (intro _; omega) | exact (fun _ h => h) | (intro h; simp at h; omega) | (simp only [List.length_cons, List.length_nil, List.length_append, List.length_map, List.length_set, List.length_replicate]; omega) | (intro h; simp [h]; done) | exact True.intro | (constructor <;> omega) | done
    ·
     have hq := Cn.ntT h1
     exact Sz hcx [] [2] [14, 1, 6, 7, 8] [] (Zr (Fk (Fr (Fr (Fk (Fr (Rv hcx (congrArg AV.bool (show false = (Cn.lineOk (k, l)) from (by first | exact Cn.form_no (by omega) hq | exact Cn.form_yes (by omega) hok | done))) [] rfl)))))))
    ·
     have hq := Cn.ntF h1
     refine Zk (Fb (Ft (Tq hcx [] [8] [14] [] [Fit ((i : Int) + 1)] ?_ (Lr (i + 1) ?_ ?_ (Ex 8 (congrArg AV.int (show ((i : Int) + 1) = ((i + 1) : Int) from (by first | rfl | omega | (simp; done)))) Eb) Hb))))
     ·
      refine ap ?_ az
      first | omega | exact id | exact vcNot | exact vcG | exact vcH | (intro _; omega) | exact (fun _ h => h) | (intro h; simp at h; omega) | (simp only [List.length_cons, List.length_nil, List.length_append, List.length_map, List.length_set, List.length_replicate]; omega) | (intro h; simp [h]; done) | exact True.intro | (constructor <;> omega) | done
     ·
      exact ⟨by omega, fun j hj => by rcases (by omega : j < i ∨ j = i) with h | rfl; exact hok j h; exact hq⟩
     ·
      show l.length - (i + 1) < l.length - i
      omega
   ·
    refine Ze (Fe (Fe (Fs (Ft (Sq hcx [] [2] [9, 1, 6, 7, 8] [] [((decide (k ≥ 1)) = true → ((decide (k ≥ 1)) = true)), ((decide (k ≥ 1)) = true → ((decide (k ≥ 1)) = true)), ((decide (k ≥ 1)) = true → (decide (k ≥ 1)) = true)] ?_ (Zr (Rv hcx (congrArg AV.bool (show ((decide (k ≥ 1)) && (decide (k ≤ 3))) = (Cn.lineOk (k, l)) from (by first | exact Cn.form_no (by omega) hq | exact Cn.form_yes (by omega) hok | done))) [] rfl)))))))
    ·
     refine ap ?_ (ap ?_ (ap (by exact id) az)) <;>
      first | omega | exact id | exact vcNot | exact vcG | exact vcH | (intro _; omega) | exact (fun _ h => h) | (intro h; simp at h; omega) | (simp only [List.length_cons, List.length_nil, List.length_append, List.length_map, List.length_set, List.length_replicate]; omega) | (intro h; simp [h]; done) | exact True.intro | (constructor <;> omega) | done
 ·
  cases hσ
end Go.Proofs.YtbpbndlgfiammaaGreatDoor.En
namespace Go.Proofs.YtbpbndlgfiammaaGreatDoor.Cn
open Go
def OneI (t : Int → Bool) (l : List Int) (i : Nat) (o : Int) : Prop :=
  i ≤ l.length ∧ (∀ x ∈ l.take i, mayP x 65536 = true → t x = false ∧ (t (-x) = true ∨ x = o)) ∧ (o ≠ 0 → o ∈ l.take i ∧ mayP o 65536 = true ∧ t o = false ∧ t (-o) = false)
section
variable {t : Int → Bool} {l : List Int} {i : Nat} {o : Int}
theorem one_0 (t : Int → Bool) (l : List Int) : OneI t l 0 0 := ⟨Nat.zero_le _, fun x hx => by simp at hx, fun h => absurd rfl h⟩
theorem tk_in {x : Int} (hi : i < l.length) (h : x ∈ l.take (i + 1)) : x ∈ l.take i ∨ x = l.getD i 0 := by
  have e : l.take (i + 1) = l.take i ++ [l.getD i 0] := by rw [List.take_add_one]; simp [List.getD, List.getElem?_eq_getElem hi]
  rw [e] at h
  simpa using h
theorem tk_up {x : Int} (h : x ∈ l.take i) : x ∈ l.take (i + 1) := by
  rw [List.take_add_one]; exact List.mem_append_left _ h
theorem at_in (hi : i < l.length) : l.getD i 0 ∈ l.take (i + 1) := by
  have e : l.take (i + 1) = l.take i ++ [l.getD i 0] := by rw [List.take_add_one]; simp [List.getD, List.getElem?_eq_getElem hi]
  rw [e]; simp
theorem one_skip (h : OneI t l i o) (hi : i < l.length) (hm : mayP (l.getD i 0) 65536 = false) : OneI t l (i + 1) o := by
  obtain ⟨h1, h2, h3⟩ := h
  refine ⟨hi, fun x hx hmx => ?_, fun h0 => ?_⟩
  · rcases tk_in hi hx with hx | rfl
    · exact h2 x hx hmx
    · rw [hm] at hmx; cases hmx
  · obtain ⟨q1, q2⟩ := h3 h0; exact ⟨tk_up q1, q2⟩
theorem one_false (h : OneI t l i o) (hi : i < l.length) (ht : t (l.getD i 0) = false) (hn : t (-(l.getD i 0)) = true) : OneI t l (i + 1) o := by
  obtain ⟨h1, h2, h3⟩ := h
  refine ⟨hi, fun x hx hmx => ?_, fun h0 => ?_⟩
  · rcases tk_in hi hx with hx | rfl
    · exact h2 x hx hmx
    · exact ⟨ht, .inl hn⟩
  · obtain ⟨q1, q2⟩ := h3 h0; exact ⟨tk_up q1, q2⟩
theorem one_open (h : OneI t l i o) (hi : i < l.length) (hm : mayP (l.getD i 0) 65536 = true) (ht : t (l.getD i 0) = false) (hn : t (-(l.getD i 0)) = false) (ho : o = 0 ∨ o = l.getD i 0) : OneI t l (i + 1) (l.getD i 0) := by
  obtain ⟨h1, h2, h3⟩ := h
  refine ⟨hi, fun x hx hmx => ?_, fun _ => ⟨at_in hi, hm, ht, hn⟩⟩
  rcases tk_in hi hx with hx | rfl
  · obtain ⟨q1, q2⟩ := h2 x hx hmx
    refine ⟨q1, q2.imp id fun e => ?_⟩
    rcases ho with ho | ho
    · rw [e, ho] at hmx; exact absurd rfl (may_ne hmx)
    · rw [e, ho]
  · exact ⟨ht, .inr rfl⟩
theorem one_true (hc : Cons t) (hi : i < l.length) (hm : mayP (l.getD i 0) 65536 = true) (ht : t (l.getD i 0) = true) : lookV t l = (0, false) :=
  look_sat hc (List.mem_of_mem_take (at_in hi)) hm ht
theorem one_two (h : OneI t l i o) (hi : i < l.length) (hm : mayP (l.getD i 0) 65536 = true) (ht : t (l.getD i 0) = false) (hn : t (-(l.getD i 0)) = false) (h0 : o ≠ 0) (hne : o ≠ l.getD i 0) : lookV t l = (0, false) := by
  obtain ⟨q1, q2, q3, q4⟩ := h.2.2 h0
  have hx : l.getD i 0 ∈ l := List.mem_of_mem_take (at_in hi)
  have ho : o ∈ l := List.mem_of_mem_take q1
  rcases look_cases t l with hl | hl | hl
  · have := look_conf.1 hl _ hx hm; rw [hn] at this; cases this
  · exfalso
    have hu := look_unit hl
    have e1 := hu.2 _ hx hm
    have e2 := hu.2 _ ho q2
    rw [hn] at e1
    rw [q4] at e2
    simp only [Bool.false_eq_true, false_or] at e1 e2
    exact hne (e2.trans e1.symm)
  · exact hl
theorem one_end (h : OneI t l l.length o) : lookV t l = (o, o == 0) := by
  obtain ⟨h1, h2, h3⟩ := h
  rw [List.take_length] at h2 h3
  by_cases h0 : o = 0
  · subst h0
    have hc : (lookV t l).2 = true := look_conf.2 fun x hx hm => by
      rcases (h2 x hx hm).2 with h | h
      · exact h
      · exact absurd h (may_ne hm)
    have : opn t l = [] := by
      cases ho : opn t l with
      | nil => rfl
      | cons y m =>
        have hy : y ∈ opn t l := by rw [ho]; exact List.mem_cons_self
        obtain ⟨a, b, c⟩ := opn_mem.1 hy
        have := look_conf.1 hc y a b
        rw [c] at this; cases this
    unfold lookV; rw [this]; rfl
  · obtain ⟨q1, q2, q3, q4⟩ := h3 h0
    rw [unit_look (y := o) ⟨⟨q1, q2, q4, q3⟩, fun x hx hm => (h2 x hx hm).2⟩]
    rw [show (o == 0) = false by simpa using h0]
theorem one_fin (h : OneI t l i o) (hi : i = l.length) : lookV t l = (o, o == 0) := by subst hi; exact one_end h
def oneN (t : Int → Bool) (o x : Int) : Int := if mayP x 65536 = true ∧ t (-x) = false then x else o
theorem oneN_1 {x : Int} (h : mayP x 65536 = false) : oneN t o x = o := if_neg fun q => by rw [h] at q; cases q.1
theorem oneN_2 {x : Int} (h : t (-x) = true) : oneN t o x = o := if_neg fun q => by rw [h] at q; cases q.2
theorem oneN_3 {x : Int} (h : mayP x 65536 = true) (hn : t (-x) = false) : oneN t o x = x := if_pos ⟨h, hn⟩
theorem one_nn {x : Int} (h : ((o != 0) && (o != x)) = true) : o ≠ 0 ∧ o ≠ x := by
  rw [Bool.and_eq_true, bne_iff_ne, bne_iff_ne] at h; exact h
theorem one_nf {x : Int} (h : ((o != 0) && (o != x)) = false) : o = 0 ∨ o = x := by
  rw [Bool.and_eq_false_iff, bne_eq_false_iff_eq, bne_eq_false_iff_eq] at h; exact h
theorem hasQ_yes {x : Int} (hi : i < l.length) (h : (x == l.getD i 0) = true) : true = l.contains x := by
  have : x = l.getD i 0 := eq_of_beq h
  rw [this, show l.getD i 0 = l[i] by simp [List.getD, List.getElem?_eq_getElem hi]]
  simp
theorem hasQ_no {x : Int} (hi : i = l.length) (hok : ∀ j, j < i → (x == l.getD j 0) = false) : false = l.contains x := by
  cases hc : l.contains x with
  | false => rfl
  | true =>
    rw [List.contains_iff_mem] at hc
    obtain ⟨j, hj, rfl⟩ := List.getElem_of_mem hc
    have := hok j (by omega)
    rw [show l.getD j 0 = l[j] by simp [List.getD, List.getElem?_eq_getElem hj]] at this
    simp at this
end
end Go.Proofs.YtbpbndlgfiammaaGreatDoor.Cn
namespace Go.Proofs.YtbpbndlgfiammaaGreatDoor.Cn
open Go
def negL (l : List Int) : List Int := (l.filter fun x => mayP x 65536).map fun x => -x
theorem has_iff {T : List Int} {z : Int} : hasK T z = true ↔ z ∈ T := by unfold hasK; exact List.contains_iff_mem
theorem negL_mem {l : List Int} {z : Int} : z ∈ negL l ↔ ∃ x ∈ l, mayP x 65536 = true ∧ z = -x := by
  unfold negL
  simp only [List.mem_map, List.mem_filter]
  exact ⟨fun ⟨x, ⟨h1, h2⟩, h3⟩ => ⟨x, h1, h2, h3.symm⟩, fun ⟨x, h1, h2, h3⟩ => ⟨x, ⟨h1, h2⟩, h3.symm⟩⟩
theorem has_neg (l : List Int) : hasK (negL l) = negT l := funext fun z => by
  rw [Bool.eq_iff_iff, has_iff, negL_mem]
  unfold negT
  simp only [List.any_eq_true, Bool.and_eq_true, beq_iff_eq]
section
variable {c : List (List Int)} {l T x : List Int} {i : Nat}
theorem ct_hit (hi : i < l.length) (hm : mayP (l.getD i 0) 65536 = true) (h : hasK (negL (l.take i)) (l.getD i 0) = true) : contra l = true := by
  obtain ⟨y, h1, h2, h3⟩ := negL_mem.1 (has_iff.1 h)
  exact contra_iff.2 ⟨l.getD i 0, List.mem_of_mem_take (at_in hi), hm, by rw [h3, Int.neg_neg]; exact List.mem_of_mem_take h1⟩
theorem ct_next (hi : i < l.length) (h0 : contra (l.take i) = false) (h : mayP (l.getD i 0) 65536 = true → hasK (negL (l.take i)) (l.getD i 0) = false) : contra (l.take (i + 1)) = false := by
  cases hc : contra (l.take (i + 1)) with
  | false => rfl
  | true =>
    exfalso
    have hno : ∀ y ∈ l.take i, mayP y 65536 = true → mayP (l.getD i 0) 65536 = true → l.getD i 0 ≠ -y := fun y hy hm hm2 e => by
      have := h hm2
      rw [has_iff.2 (negL_mem.2 ⟨y, hy, hm, e⟩)] at this; cases this
    obtain ⟨z, h1, h2, h3⟩ := contra_iff.1 hc
    have hm' : mayP (-z) 65536 = true := by rw [may_neg]; exact h2
    rcases tk_in hi h1 with h1 | h1 <;> rcases tk_in hi h3 with h3 | h3
    · rw [contra_iff.2 ⟨z, h1, h2, h3⟩] at h0; cases h0
    · exact hno z h1 h2 (by rw [← h3]; exact hm') h3.symm
    · exact hno (-z) h3 hm' (by rw [← h1]; exact h2) (by rw [← h1, Int.neg_neg])
    · have := may_ne h2; omega
theorem negL_1 (hi : i < l.length) (hm : mayP (l.getD i 0) 65536 = true) : negL (l.take i) ++ [-(l.getD i 0)] = negL (l.take (i + 1)) := by
  have e : l.take (i + 1) = l.take i ++ [l.getD i 0] := by rw [List.take_add_one]; simp [List.getD, List.getElem?_eq_getElem hi]
  rw [e]; unfold negL
  rw [List.filter_append, List.map_append, List.filter_cons, if_pos hm]; rfl
theorem negL_0 (hi : i < l.length) (hm : mayP (l.getD i 0) 65536 = false) : negL (l.take i) = negL (l.take (i + 1)) := by
  have e : l.take (i + 1) = l.take i ++ [l.getD i 0] := by rw [List.take_add_one]; simp [List.getD, List.getElem?_eq_getElem hi]
  rw [e]; unfold negL
  rw [List.filter_append, List.map_append, List.filter_cons, if_neg (by rw [hm]; simp)]; simp
def FI (c : List (List Int)) (l T : List Int) : Prop := Cons (hasK T) ∧ (∀ z, negT l z = true → hasK T z = true) ∧ (Rup c (hasK T) → Rup c (negT l))
theorem FI_0 (h : contra l = false) : FI c l (negL l) := by
  unfold FI; rw [has_neg]; exact ⟨cons_neg h, fun _ h => h, fun h => h⟩
theorem FI_conf (h : FI c l T) (hx : x ∈ c) (hq : (lookV (hasK T) x).2 = true) : flwV c l = true := flw_t (h.2.2 (.conf _ x hx hq))
theorem FI_unit (h : FI c l T) (hx : x ∈ c) (h0 : (lookV (hasK T) x).1 ≠ 0) : FI c l (T ++ [(lookV (hasK T) x).1]) := by
  have hu := look_unit h0
  unfold FI
  rw [has_app]
  refine ⟨cons_add h.1 hu, fun z hz => by unfold addT; rw [h.2.1 z hz]; rfl, fun hr => h.2.2 (.unit _ x hx h0 hr)⟩
theorem FI_none (h : FI c l T) (hct : contra l = false) (ha : ∀ x ∈ c, lookV (hasK T) x = (0, false)) : flwV c l = false := flw_f hct fun hr => rup_closed ha (hr.mono_t h.2.1)
def cntU (c : List (List Int)) (T : List Int) : Nat := c.countP fun x => !satB (hasK T) x
theorem cnt_unit (hc : Cons (hasK T)) (hx : x ∈ c) (h0 : (lookV (hasK T) x).1 ≠ 0) : cntU c (T ++ [(lookV (hasK T) x).1]) < cntU c T := by
  have hu := look_unit h0
  unfold cntU
  rw [has_app]
  refine cnt_lt (fun y _ hy => ?_) ⟨x, hx, ?_, ?_⟩
  · simp only [Bool.not_eq_true'] at hy ⊢
    cases hs : satB (hasK T) y with
    | false => rfl
    | true =>
      unfold satB at hs hy
      obtain ⟨z, hz, hzt⟩ := List.any_eq_true.1 hs
      rw [Bool.and_eq_true] at hzt
      have := List.any_eq_false.1 hy z hz
      exact absurd (by rw [hzt.1]; unfold addT; rw [hzt.2]; rfl) this
  · simp only [Bool.not_eq_true']
    cases hs : satB (hasK T) x with
    | false => rfl
    | true =>
      exfalso
      unfold satB at hs
      obtain ⟨z, hz, hzt⟩ := List.any_eq_true.1 hs
      rw [Bool.and_eq_true] at hzt
      rcases hu.2 z hz hzt.1 with h1 | h1
      · have := hc z hzt.2; rw [h1] at this; cases this
      · rw [h1, hu.1.2.2.2] at hzt; cases hzt.2
  · simp only [Bool.not_eq_false', satB, List.any_eq_true]
    exact ⟨_, hu.1.1, by simp [hu.1.2.1, addT]⟩
theorem and_tt {z : Int} (h : (mayP z 65536 && T.contains z) = true) : mayP z 65536 = true ∧ hasK T z = true := Bool.and_eq_true_iff.1 h
theorem and_ff {z : Int} (h : (mayP z 65536 && T.contains z) = false) : mayP z 65536 = true → hasK T z = false := fun hm => by rw [hm, Bool.true_and] at h; exact h
theorem negL_len (l : List Int) (i : Nat) : (negL (l.take i)).length ≤ i := by
  unfold negL
  rw [List.length_map]
  refine Nat.le_trans (List.length_filter_le _ _) ?_
  rw [List.length_take]; omega
def nxS (S : List Int) (y : Int) : List Int := if y = 0 then S else S ++ [y]
theorem nxS_0 {S : List Int} {y : Int} (h : y = 0) : nxS S y = S := if_pos h
theorem nxS_1 {S : List Int} {y : Int} (h : ¬ y = 0) : nxS S y = S ++ [y] := if_neg h
def FB (c : List (List Int)) (l T : List Int) : Prop := FI c l T ∧ T.length + cntU c T ≤ c.length + l.length
theorem FB_0 (h : contra l = false) : FB c l (negL l) := by
  refine ⟨FI_0 h, ?_⟩
  have h1 := negL_len l l.length
  rw [List.take_length] at h1
  have h2 : cntU c (negL l) ≤ c.length := List.countP_le_length
  omega
def RI (c : List (List Int)) (l T : List Int) (j : Nat) (S : List Int) (m : Bool) : Prop :=
  j ≤ c.length ∧ FB c l S ∧ (m = false → S = T ∧ ∀ k, k < j → lookV (hasK T) (c.getD k []) = (0, false)) ∧ (m = true → cntU c S < cntU c T)
theorem RI_0 (h : FB c l T) : RI c l T 0 T false := ⟨Nat.zero_le _, h, fun _ => ⟨rfl, fun k hk => by omega⟩, fun e => by cases e⟩
theorem RI_unit {S : List Int} {j : Nat} {m : Bool} (h : RI c l T j S m) (hj : j < c.length) (h0 : ¬ (lookV (hasK S) (c.getD j [])).1 = 0) :
    RI c l T (j + 1) (nxS S (lookV (hasK S) (c.getD j [])).1) (m || !((lookV (hasK S) (c.getD j [])).1 == 0)) := by
  obtain ⟨h1, ⟨h2, h3⟩, h4, h5⟩ := h
  have hx : c.getD j [] ∈ c := by rw [show c.getD j [] = c[j] by simp [List.getD, List.getElem?_eq_getElem hj]]; exact List.getElem_mem _
  have hlt := cnt_unit h2.1 hx h0
  have hle : cntU c S ≤ cntU c T := by
    cases m with
    | false => rw [(h4 rfl).1]; exact Nat.le_refl _
    | true => exact Nat.le_of_lt (h5 rfl)
  rw [nxS_1 h0, show ((lookV (hasK S) (c.getD j [])).1 == 0) = false by simpa using h0]
  refine ⟨hj, ⟨FI_unit h2 hx h0, by rw [List.length_append]; simp only [List.length_cons, List.length_nil]; omega⟩, fun e => by simp at e, fun _ => by omega⟩
theorem RI_none {S : List Int} {j : Nat} {m : Bool} (h : RI c l T j S m) (hj : j < c.length) (hq : (lookV (hasK S) (c.getD j [])).2 = false) (h0 : (lookV (hasK S) (c.getD j [])).1 = 0) :
    RI c l T (j + 1) (nxS S (lookV (hasK S) (c.getD j [])).1) (m || !((lookV (hasK S) (c.getD j [])).1 == 0)) := by
  obtain ⟨h1, h2, h4, h5⟩ := h
  have hv : lookV (hasK S) (c.getD j []) = (0, false) := Prod.ext h0 hq
  rw [nxS_0 h0, show ((lookV (hasK S) (c.getD j [])).1 == 0) = true by simpa using h0]
  have em : (m || !true) = m := by cases m <;> rfl
  rw [em]
  refine ⟨hj, h2, fun e => ?_, h5⟩
  obtain ⟨q1, q2⟩ := h4 e
  refine ⟨q1, fun k hk => ?_⟩
  rcases (by omega : k < j ∨ k = j) with h | rfl
  · exact q2 k h
  · rw [← q1]; exact hv
theorem RI_end {S : List Int} {j : Nat} (h : RI c l T j S false) (hj : j = c.length) (hct : contra l = false) (hT : FB c l T) : flwV c l = false := by
  obtain ⟨_, _, h4, _⟩ := h
  refine FI_none hT.1 hct fun x hx => ?_
  obtain ⟨k, hk, rfl⟩ := List.getElem_of_mem hx
  have := (h4 rfl).2 k (by omega)
  rwa [show c.getD k [] = c[k] by simp [List.getD, List.getElem?_eq_getElem hk]] at this
theorem or_t {m : Bool} {y : Int} (h : ¬ y = 0) : (m || !(y == 0)) = true := by rw [show (y == 0) = false by simpa using h]; cases m <;> rfl
theorem or_f {m : Bool} {y : Int} (h : y = 0) : (m || !(y == 0)) = m := by rw [show (y == 0) = true by simpa using h]; cases m <;> rfl
end
end Go.Proofs.YtbpbndlgfiammaaGreatDoor.Cn
