/- Lemmas and contracts for the row. -/
import Derived.Shelf.SlIterI.Nil
import Derived.Shelf.SlIterI.Sorted
import Derived.Shelf.SortM.Plain
import Derived.Shelf.SortM.SortNone
import Derived.Shelf.Small.Wraps
import Derived.Ground.GgzProg
import Derived.Ground.SlgmProg
import Derived.Test.YtkkapbnopmmmjaaGreatDoorProg
set_option linter.unusedVariables false
set_option linter.unusedSimpArgs false
set_option linter.unnecessarySimpa false
namespace Go.Proofs
open Go.Shelf
def Tryz.shKeys_ren : Go.Shelf.Ren := ⟨fun | 7 => 78 | 10 => 125 | n => n, fun | 23 => 112 | 26 => 3 | 3 => 114 | 28 => 121 | 0 => 0 | 27 => 120 | 33 => 88 | 4 => 4 | n => n, fun | n => n⟩
theorem Tryz.shKeys : Go.Proofs.SlLaysZI.n7 Tryz.prog Tryz.shKeys_ren := {
 mixed := by kernel_rfl
 f7 := ⟨Tryz.f78.name, by decide, Tryz.func78.trans (congrArg some (by kernel_rfl))⟩
 f10 := ⟨Tryz.f125.name, by decide, Tryz.func125.trans (congrArg some (by kernel_rfl))⟩
 t0 := Tryz.underlying0
 a0 := Tryz.isAgg0
 z0 := Tryz.sizeOf0
 v0 := Tryz.zeroValue0
 t4 := Tryz.underlying4
 a4 := Tryz.isAgg4
 z4 := Tryz.sizeOf4
 v4 := Tryz.zeroValue4
 t23 := Tryz.underlying112
 a23 := Tryz.isAgg112
 z23 := Tryz.sizeOf112
 v23 := Tryz.zeroValue112
 t26 := Tryz.underlying3
 a26 := Tryz.isAgg3
 z26 := Tryz.sizeOf3
 v26 := Tryz.zeroValue3
 t27 := Tryz.underlying120
 a27 := Tryz.isAgg120
 z27 := Tryz.sizeOf120
 v27 := Tryz.zeroValue120
 t28 := Tryz.underlying121
 a28 := Tryz.isAgg121
 z28 := Tryz.sizeOf121
 v28 := Tryz.zeroValue121
 t33 := Tryz.underlying88
 a33 := Tryz.isAgg88
 z33 := Tryz.sizeOf88
 v33 := Tryz.zeroValue88 }
def Tryz.shSorted_ren : Go.Shelf.Ren := ⟨fun | 6 => 77 | 8 => 123 | 9 => 124 | 11 => 154 | 13 => 156 | 12 => 155 | 23 => 182 | 24 => 183 | 14 => 173 | 15 => 174 | 16 => 175 | 17 => 176 | 18 => 177 | 19 => 178 | 20 => 179 | 21 => 180 | 22 => 181 | 25 => 202 | 26 => 203 | 27 => 204 | 28 => 205 | 29 => 206 | 30 => 126 | 31 => 212 | n => n, fun | 26 => 3 | 28 => 121 | 24 => 22 | 0 => 0 | 3 => 3 | 37 => 138 | 48 => 202 | 50 => 204 | 4 => 4 | 40 => 195 | 39 => 194 | 45 => 125 | 5 => 5 | 9 => 9 | 51 => 213 | 55 => 217 | 57 => 223 | 58 => 128 | 33 => 88 | n => n, fun | n => n⟩
theorem Tryz.shSorted : Go.Proofs.SlLaysZI.n6 Tryz.prog Tryz.shSorted_ren := {
 mixed := by kernel_rfl
 f6 := ⟨Tryz.f77.name, by decide, Tryz.func77.trans (congrArg some (by kernel_rfl))⟩
 f8 := ⟨Tryz.f123.name, by decide, Tryz.func123.trans (congrArg some (by kernel_rfl))⟩
 f11 := ⟨Tryz.f154.name, by decide, Tryz.func154.trans (congrArg some (by kernel_rfl))⟩
 t0 := Tryz.underlying0
 a0 := Tryz.isAgg0
 z0 := Tryz.sizeOf0
 v0 := Tryz.zeroValue0
 t24 := Tryz.underlying22
 a24 := Tryz.isAgg22
 z24 := Tryz.sizeOf22
 v24 := Tryz.zeroValue22
 t26 := Tryz.underlying3
 a26 := Tryz.isAgg3
 z26 := Tryz.sizeOf3
 v26 := Tryz.zeroValue3
 t28 := Tryz.underlying121
 a28 := Tryz.isAgg121
 z28 := Tryz.sizeOf121
 v28 := Tryz.zeroValue121
 i26 := by kernel_rfl }
def Tryz.shSort_ren : Go.Shelf.Ren := ⟨fun | 5 => 124 | 8 => 156 | 7 => 155 | 19 => 182 | 20 => 183 | 10 => 173 | 11 => 174 | 12 => 175 | 13 => 176 | 14 => 177 | 15 => 178 | 16 => 179 | 17 => 180 | 18 => 181 | 30 => 202 | 31 => 203 | 32 => 204 | 33 => 205 | 34 => 206 | 35 => 126 | 40 => 212 | n => n, fun | 23 => 22 | 25 => 3 | 3 => 3 | 32 => 138 | 22 => 22 | 0 => 0 | 44 => 202 | 46 => 204 | 4 => 4 | 36 => 195 | 35 => 194 | 41 => 125 | 5 => 5 | 9 => 9 | 53 => 213 | 57 => 217 | 63 => 223 | 64 => 128 | n => n, fun | n => n⟩
theorem Tryz.shSort : Go.Proofs.SlLaysM.n5 Tryz.prog Tryz.shSort_ren := {
 mixed := by kernel_rfl
 f5 := ⟨Tryz.f124.name, by decide, Tryz.func124.trans (congrArg some (by kernel_rfl))⟩
 f7 := ⟨Tryz.f155.name, by decide, Tryz.func155.trans (congrArg some (by kernel_rfl))⟩
 f8 := Tryz.func156.trans (congrArg some (by kernel_rfl))
 f10 := ⟨Tryz.f173.name, by decide, Tryz.func173.trans (congrArg some (by kernel_rfl))⟩
 f11 := ⟨Tryz.f174.name, by decide, Tryz.func174.trans (congrArg some (by kernel_rfl))⟩
 f12 := ⟨Tryz.f175.name, by decide, Tryz.func175.trans (congrArg some (by kernel_rfl))⟩
 f13 := ⟨Tryz.f176.name, by decide, Tryz.func176.trans (congrArg some (by kernel_rfl))⟩
 f14 := ⟨Tryz.f177.name, by decide, Tryz.func177.trans (congrArg some (by kernel_rfl))⟩
 f15 := ⟨Tryz.f178.name, by decide, Tryz.func178.trans (congrArg some (by kernel_rfl))⟩
 f16 := ⟨Tryz.f179.name, by decide, Tryz.func179.trans (congrArg some (by kernel_rfl))⟩
 f17 := ⟨Tryz.f180.name, by decide, Tryz.func180.trans (congrArg some (by kernel_rfl))⟩
 f18 := ⟨Tryz.f181.name, by decide, Tryz.func181.trans (congrArg some (by kernel_rfl))⟩
 f19 := Tryz.func182.trans (congrArg some (by kernel_rfl))
 f20 := Tryz.func183.trans (congrArg some (by kernel_rfl))
 f30 := ⟨Tryz.f202.name, by decide, Tryz.func202.trans (congrArg some (by kernel_rfl))⟩
 f31 := Tryz.func203.trans (congrArg some (by kernel_rfl))
 f32 := Tryz.func204.trans (congrArg some (by kernel_rfl))
 f33 := ⟨Tryz.f205.name, by decide, Tryz.func205.trans (congrArg some (by kernel_rfl))⟩
 f34 := ⟨Tryz.f206.name, by decide, Tryz.func206.trans (congrArg some (by kernel_rfl))⟩
 f35 := ⟨Tryz.f126.name, by decide, Tryz.func126.trans (congrArg some (by kernel_rfl))⟩
 f40 := ⟨Tryz.f212.name, by decide, Tryz.func212.trans (congrArg some (by kernel_rfl))⟩
 t0 := Tryz.underlying0
 a0 := Tryz.isAgg0
 z0 := Tryz.sizeOf0
 v0 := Tryz.zeroValue0
 t3 := Tryz.underlying3
 a3 := Tryz.isAgg3
 z3 := Tryz.sizeOf3
 v3 := Tryz.zeroValue3
 t4 := Tryz.underlying4
 a4 := Tryz.isAgg4
 z4 := Tryz.sizeOf4
 v4 := Tryz.zeroValue4
 t5 := Tryz.underlying5
 a5 := Tryz.isAgg5
 z5 := Tryz.sizeOf5
 v5 := Tryz.zeroValue5
 t9 := Tryz.underlying9
 a9 := Tryz.isAgg9
 z9 := Tryz.sizeOf9
 v9 := Tryz.zeroValue9
 t22 := Tryz.underlying22
 a22 := Tryz.isAgg22
 z22 := Tryz.sizeOf22
 v22 := Tryz.zeroValue22
 t23 := Tryz.underlying22
 a23 := Tryz.isAgg22
 z23 := Tryz.sizeOf22
 v23 := Tryz.zeroValue22
 t25 := Tryz.underlying3
 a25 := Tryz.isAgg3
 z25 := Tryz.sizeOf3
 v25 := Tryz.zeroValue3
 t32 := Tryz.underlying138
 a32 := Tryz.isAgg138
 z32 := Tryz.sizeOf138
 v32 := Tryz.zeroValue138
 t35 := Tryz.underlying194
 a35 := Tryz.isAgg194
 z35 := Tryz.sizeOf194
 v35 := Tryz.zeroValue194
 t36 := Tryz.underlying195
 a36 := Tryz.isAgg195
 z36 := Tryz.sizeOf195
 v36 := Tryz.zeroValue195
 t41 := Tryz.underlying125
 a41 := Tryz.isAgg125
 z41 := Tryz.sizeOf125
 v41 := Tryz.zeroValue125
 t44 := Tryz.underlying202
 a44 := Tryz.isAgg202
 z44 := Tryz.sizeOf202
 v44 := Tryz.zeroValue202
 t46 := Tryz.underlying204
 a46 := Tryz.isAgg204
 z46 := Tryz.sizeOf204
 v46 := Tryz.zeroValue204
 t53 := Tryz.underlying213
 a53 := Tryz.isAgg213
 z53 := Tryz.sizeOf213
 v53 := Tryz.zeroValue213
 t57 := Tryz.underlying217
 a57 := Tryz.isAgg217
 z57 := Tryz.sizeOf217
 v57 := Tryz.zeroValue217
 t63 := Tryz.underlying223
 a63 := Tryz.isAgg223
 z63 := Tryz.sizeOf223
 v63 := Tryz.zeroValue223
 t64 := Tryz.underlying128
 a64 := Tryz.isAgg128
 z64 := Tryz.sizeOf128
 v64 := Tryz.zeroValue128 }
end Go.Proofs
