/- Lemmas and contracts for the row. -/
import Derived.Shelf.SlicesE.Delete
import Derived.Shelf.SortM.Plain
import Derived.Shelf.SortM.SortNone
import Derived.Shelf.SlicesG.CompactI
import Derived.Ground.SlgmProg
import Derived.Ground.SlgnProg
import Derived.Test.YtbpbndlgfiammaaGreatDoorProg
set_option linter.unusedVariables false
set_option linter.unusedSimpArgs false
set_option linter.unnecessarySimpa false
namespace Go.Proofs
open Go.Shelf
def Tryz.shDelL_ren : Go.Shelf.Ren := ⟨fun | 45 => 39 | n => n, fun | 22 => 22 | 23 => 23 | 3 => 3 | 4 => 4 | 0 => 0 | n => n, fun | n => n⟩
theorem Tryz.shDelL : Go.Proofs.SlLaysE.n45 Tryz.prog Tryz.shDelL_ren := {
  mixed := by kernel_rfl
  f45 := ⟨Tryz.f39.name, by decide, Tryz.func39.trans (congrArg some (by kernel_rfl))⟩
  t0 := Tryz.underlying0
  a0 := Tryz.isAgg0
  z0 := Tryz.sizeOf0
  v0 := Tryz.zeroValue0
  t3 := Tryz.underlying3
  a3 := Tryz.isAgg3
  z3 := Tryz.sizeOf3
  v3 := Tryz.zeroValue3
  t4 := Tryz.underlying4
  a4 := Tryz.isAgg4
  z4 := Tryz.sizeOf4
  v4 := Tryz.zeroValue4
  t22 := Tryz.underlying22
  a22 := Tryz.isAgg22
  z22 := Tryz.sizeOf22
  v22 := Tryz.zeroValue22
  a23 := Tryz.isAgg23
  z23 := Tryz.sizeOf23 }
def Tryz.shSort_ren : Go.Shelf.Ren := ⟨fun | 5 => 129 | 8 => 123 | 7 => 159 | 19 => 156 | 20 => 157 | 10 => 177 | 11 => 178 | 12 => 179 | 13 => 180 | 14 => 181 | 15 => 182 | 16 => 183 | 17 => 184 | 18 => 185 | 30 => 192 | 31 => 173 | 32 => 174 | 33 => 193 | 34 => 194 | 35 => 124 | 40 => 195 | n => n, fun | 23 => 23 | 25 => 3 | 3 => 3 | 32 => 133 | 22 => 23 | 0 => 0 | 44 => 143 | 46 => 128 | 4 => 4 | 36 => 157 | 35 => 156 | 41 => 68 | 5 => 5 | 9 => 9 | 53 => 178 | 57 => 182 | 63 => 195 | 64 => 196 | n => n, fun | n => n⟩
theorem Tryz.shSort : Go.Proofs.SlLaysM.n5 Tryz.prog Tryz.shSort_ren := {
  mixed := by kernel_rfl
  f5 := ⟨Tryz.f129.name, by decide, Tryz.func129.trans (congrArg some (by kernel_rfl))⟩
  f7 := ⟨Tryz.f159.name, by decide, Tryz.func159.trans (congrArg some (by kernel_rfl))⟩
  f8 := Tryz.func123.trans (congrArg some (by kernel_rfl))
  f10 := ⟨Tryz.f177.name, by decide, Tryz.func177.trans (congrArg some (by kernel_rfl))⟩
  f11 := ⟨Tryz.f178.name, by decide, Tryz.func178.trans (congrArg some (by kernel_rfl))⟩
  f12 := ⟨Tryz.f179.name, by decide, Tryz.func179.trans (congrArg some (by kernel_rfl))⟩
  f13 := ⟨Tryz.f180.name, by decide, Tryz.func180.trans (congrArg some (by kernel_rfl))⟩
  f14 := ⟨Tryz.f181.name, by decide, Tryz.func181.trans (congrArg some (by kernel_rfl))⟩
  f15 := ⟨Tryz.f182.name, by decide, Tryz.func182.trans (congrArg some (by kernel_rfl))⟩
  f16 := ⟨Tryz.f183.name, by decide, Tryz.func183.trans (congrArg some (by kernel_rfl))⟩
  f17 := ⟨Tryz.f184.name, by decide, Tryz.func184.trans (congrArg some (by kernel_rfl))⟩
  f18 := ⟨Tryz.f185.name, by decide, Tryz.func185.trans (congrArg some (by kernel_rfl))⟩
  f19 := Tryz.func156.trans (congrArg some (by kernel_rfl))
  f20 := Tryz.func157.trans (congrArg some (by kernel_rfl))
  f30 := ⟨Tryz.f192.name, by decide, Tryz.func192.trans (congrArg some (by kernel_rfl))⟩
  f31 := Tryz.func173.trans (congrArg some (by kernel_rfl))
  f32 := Tryz.func174.trans (congrArg some (by kernel_rfl))
  f33 := ⟨Tryz.f193.name, by decide, Tryz.func193.trans (congrArg some (by kernel_rfl))⟩
  f34 := ⟨Tryz.f194.name, by decide, Tryz.func194.trans (congrArg some (by kernel_rfl))⟩
  f35 := ⟨Tryz.f124.name, by decide, Tryz.func124.trans (congrArg some (by kernel_rfl))⟩
  f40 := ⟨Tryz.f195.name, by decide, Tryz.func195.trans (congrArg some (by kernel_rfl))⟩
  t0 := Tryz.underlying0
  a0 := Tryz.isAgg0
  z0 := Tryz.sizeOf0
  v0 := Tryz.zeroValue0
  t3 := Tryz.underlying3
  a3 := Tryz.isAgg3
  z3 := Tryz.sizeOf3
  v3 := Tryz.zeroValue3
  t4 := Tryz.underlying4
  a4 := Tryz.isAgg4
  z4 := Tryz.sizeOf4
  v4 := Tryz.zeroValue4
  t5 := Tryz.underlying5
  a5 := Tryz.isAgg5
  z5 := Tryz.sizeOf5
  v5 := Tryz.zeroValue5
  t9 := Tryz.underlying9
  a9 := Tryz.isAgg9
  z9 := Tryz.sizeOf9
  v9 := Tryz.zeroValue9
  t22 := Tryz.underlying23
  a22 := Tryz.isAgg23
  z22 := Tryz.sizeOf23
  v22 := Tryz.zeroValue23
  t23 := Tryz.underlying23
  a23 := Tryz.isAgg23
  z23 := Tryz.sizeOf23
  v23 := Tryz.zeroValue23
  t25 := Tryz.underlying3
  a25 := Tryz.isAgg3
  z25 := Tryz.sizeOf3
  v25 := Tryz.zeroValue3
  t32 := Tryz.underlying133
  a32 := Tryz.isAgg133
  z32 := Tryz.sizeOf133
  v32 := Tryz.zeroValue133
  t35 := Tryz.underlying156
  a35 := Tryz.isAgg156
  z35 := Tryz.sizeOf156
  v35 := Tryz.zeroValue156
  t36 := Tryz.underlying157
  a36 := Tryz.isAgg157
  z36 := Tryz.sizeOf157
  v36 := Tryz.zeroValue157
  t41 := Tryz.underlying68
  a41 := Tryz.isAgg68
  z41 := Tryz.sizeOf68
  v41 := Tryz.zeroValue68
  t44 := Tryz.underlying143
  a44 := Tryz.isAgg143
  z44 := Tryz.sizeOf143
  v44 := Tryz.zeroValue143
  t46 := Tryz.underlying128
  a46 := Tryz.isAgg128
  z46 := Tryz.sizeOf128
  v46 := Tryz.zeroValue128
  t53 := Tryz.underlying178
  a53 := Tryz.isAgg178
  z53 := Tryz.sizeOf178
  v53 := Tryz.zeroValue178
  t57 := Tryz.underlying182
  a57 := Tryz.isAgg182
  z57 := Tryz.sizeOf182
  v57 := Tryz.zeroValue182
  t63 := Tryz.underlying195
  a63 := Tryz.isAgg195
  z63 := Tryz.sizeOf195
  v63 := Tryz.zeroValue195
  t64 := Tryz.underlying196
  a64 := Tryz.isAgg196
  z64 := Tryz.sizeOf196
  v64 := Tryz.zeroValue196 }
def Tryz.shCompact_ren : Go.Shelf.Ren := ⟨fun | 43 => 99 | n => n, fun | 22 => 23 | 23 => 3 | 3 => 3 | 4 => 4 | 0 => 0 | n => n, fun | n => n⟩
theorem Tryz.shCompact : Go.Proofs.SlLaysN.n43 Tryz.prog Tryz.shCompact_ren := {
  mixed := by kernel_rfl
  f43 := ⟨Tryz.f99.name, by decide, Tryz.func99.trans (congrArg some (by kernel_rfl))⟩
  t0 := Tryz.underlying0
  a0 := Tryz.isAgg0
  z0 := Tryz.sizeOf0
  v0 := Tryz.zeroValue0
  t3 := Tryz.underlying3
  a3 := Tryz.isAgg3
  z3 := Tryz.sizeOf3
  v3 := Tryz.zeroValue3
  t4 := Tryz.underlying4
  a4 := Tryz.isAgg4
  z4 := Tryz.sizeOf4
  v4 := Tryz.zeroValue4
  t22 := Tryz.underlying23
  a22 := Tryz.isAgg23
  z22 := Tryz.sizeOf23
  v22 := Tryz.zeroValue23
  t23 := Tryz.underlying3
  a23 := Tryz.isAgg3
  z23 := Tryz.sizeOf3
  v23 := Tryz.zeroValue3
  i23 := by kernel_rfl }
end Go.Proofs
