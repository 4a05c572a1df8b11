/- Lemmas and contracts for the row. -/
import Derived.Shelf.SlIterI.Nil
import Derived.Shelf.SlIterI.Sorted
import Derived.Shelf.SortM.Plain
import Derived.Shelf.SortM.SortNone
import Derived.Shelf.Small.Wraps
import Derived.Ground.GgzProg
import Derived.Ground.SlgmProg
import Derived.Test.YtkkapbnopmmmjaaDoorProg
set_option linter.unusedVariables false
set_option linter.unusedSimpArgs false
set_option linter.unnecessarySimpa false
namespace Go.Proofs
open Go.Shelf
def Tryd.shKeys_ren : Go.Shelf.Ren := ⟨fun | 7 => 24 | 10 => 43 | n => n, fun | 23 => 51 | 26 => 3 | 3 => 53 | 28 => 61 | 0 => 0 | 27 => 60 | 33 => 66 | 4 => 4 | n => n, fun | n => n⟩
theorem Tryd.shKeys : Go.Proofs.SlLaysZI.n7 Tryd.prog Tryd.shKeys_ren := {
  mixed := by kernel_rfl
  f7 := ⟨Tryd.f24.name, by decide, Tryd.func24.trans (congrArg some (by kernel_rfl))⟩
  f10 := ⟨Tryd.f43.name, by decide, Tryd.func43.trans (congrArg some (by kernel_rfl))⟩
  t0 := Tryd.underlying0
  a0 := Tryd.isAgg0
  z0 := Tryd.sizeOf0
  v0 := Tryd.zeroValue0
  t4 := Tryd.underlying4
  a4 := Tryd.isAgg4
  z4 := Tryd.sizeOf4
  v4 := Tryd.zeroValue4
  t23 := Tryd.underlying51
  a23 := Tryd.isAgg51
  z23 := Tryd.sizeOf51
  v23 := Tryd.zeroValue51
  t26 := Tryd.underlying3
  a26 := Tryd.isAgg3
  z26 := Tryd.sizeOf3
  v26 := Tryd.zeroValue3
  t27 := Tryd.underlying60
  a27 := Tryd.isAgg60
  z27 := Tryd.sizeOf60
  v27 := Tryd.zeroValue60
  t28 := Tryd.underlying61
  a28 := Tryd.isAgg61
  z28 := Tryd.sizeOf61
  v28 := Tryd.zeroValue61
  t33 := Tryd.underlying66
  a33 := Tryd.isAgg66
  z33 := Tryd.sizeOf66
  v33 := Tryd.zeroValue66 }
def Tryd.shSorted_ren : Go.Shelf.Ren := ⟨fun | 6 => 23 | 8 => 41 | 9 => 42 | 11 => 52 | 13 => 54 | 12 => 53 | 23 => 76 | 24 => 77 | 14 => 67 | 15 => 68 | 16 => 69 | 17 => 70 | 18 => 71 | 19 => 72 | 20 => 73 | 21 => 74 | 22 => 75 | 25 => 90 | 26 => 91 | 27 => 92 | 28 => 93 | 29 => 94 | 30 => 44 | 31 => 97 | n => n, fun | 26 => 3 | 28 => 61 | 24 => 24 | 0 => 0 | 3 => 3 | 37 => 84 | 48 => 108 | 50 => 110 | 4 => 4 | 40 => 101 | 39 => 100 | 45 => 69 | 5 => 5 | 9 => 9 | 51 => 115 | 55 => 119 | 57 => 123 | 58 => 97 | 33 => 66 | n => n, fun | n => n⟩
theorem Tryd.shSorted : Go.Proofs.SlLaysZI.n6 Tryd.prog Tryd.shSorted_ren := {
  mixed := by kernel_rfl
  f6 := ⟨Tryd.f23.name, by decide, Tryd.func23.trans (congrArg some (by kernel_rfl))⟩
  f8 := ⟨Tryd.f41.name, by decide, Tryd.func41.trans (congrArg some (by kernel_rfl))⟩
  f11 := ⟨Tryd.f52.name, by decide, Tryd.func52.trans (congrArg some (by kernel_rfl))⟩
  t0 := Tryd.underlying0
  a0 := Tryd.isAgg0
  z0 := Tryd.sizeOf0
  v0 := Tryd.zeroValue0
  t24 := Tryd.underlying24
  a24 := Tryd.isAgg24
  z24 := Tryd.sizeOf24
  v24 := Tryd.zeroValue24
  t26 := Tryd.underlying3
  a26 := Tryd.isAgg3
  z26 := Tryd.sizeOf3
  v26 := Tryd.zeroValue3
  t28 := Tryd.underlying61
  a28 := Tryd.isAgg61
  z28 := Tryd.sizeOf61
  v28 := Tryd.zeroValue61
  i26 := by kernel_rfl }
def Tryd.shSort_ren : Go.Shelf.Ren := ⟨fun | 5 => 42 | 8 => 54 | 7 => 53 | 19 => 76 | 20 => 77 | 10 => 67 | 11 => 68 | 12 => 69 | 13 => 70 | 14 => 71 | 15 => 72 | 16 => 73 | 17 => 74 | 18 => 75 | 30 => 90 | 31 => 91 | 32 => 92 | 33 => 93 | 34 => 94 | 35 => 44 | 40 => 97 | n => n, fun | 23 => 24 | 25 => 3 | 3 => 3 | 32 => 84 | 22 => 24 | 0 => 0 | 44 => 108 | 46 => 110 | 4 => 4 | 36 => 101 | 35 => 100 | 41 => 69 | 5 => 5 | 9 => 9 | 53 => 115 | 57 => 119 | 63 => 123 | 64 => 97 | n => n, fun | n => n⟩
theorem Tryd.shSort : Go.Proofs.SlLaysM.n5 Tryd.prog Tryd.shSort_ren := {
  mixed := by kernel_rfl
  f5 := ⟨Tryd.f42.name, by decide, Tryd.func42.trans (congrArg some (by kernel_rfl))⟩
  f7 := ⟨Tryd.f53.name, by decide, Tryd.func53.trans (congrArg some (by kernel_rfl))⟩
  f8 := Tryd.func54.trans (congrArg some (by kernel_rfl))
  f10 := ⟨Tryd.f67.name, by decide, Tryd.func67.trans (congrArg some (by kernel_rfl))⟩
  f11 := ⟨Tryd.f68.name, by decide, Tryd.func68.trans (congrArg some (by kernel_rfl))⟩
  f12 := ⟨Tryd.f69.name, by decide, Tryd.func69.trans (congrArg some (by kernel_rfl))⟩
  f13 := ⟨Tryd.f70.name, by decide, Tryd.func70.trans (congrArg some (by kernel_rfl))⟩
  f14 := ⟨Tryd.f71.name, by decide, Tryd.func71.trans (congrArg some (by kernel_rfl))⟩
  f15 := ⟨Tryd.f72.name, by decide, Tryd.func72.trans (congrArg some (by kernel_rfl))⟩
  f16 := ⟨Tryd.f73.name, by decide, Tryd.func73.trans (congrArg some (by kernel_rfl))⟩
  f17 := ⟨Tryd.f74.name, by decide, Tryd.func74.trans (congrArg some (by kernel_rfl))⟩
  f18 := ⟨Tryd.f75.name, by decide, Tryd.func75.trans (congrArg some (by kernel_rfl))⟩
  f19 := Tryd.func76.trans (congrArg some (by kernel_rfl))
  f20 := Tryd.func77.trans (congrArg some (by kernel_rfl))
  f30 := ⟨Tryd.f90.name, by decide, Tryd.func90.trans (congrArg some (by kernel_rfl))⟩
  f31 := Tryd.func91.trans (congrArg some (by kernel_rfl))
  f32 := Tryd.func92.trans (congrArg some (by kernel_rfl))
  f33 := ⟨Tryd.f93.name, by decide, Tryd.func93.trans (congrArg some (by kernel_rfl))⟩
  f34 := ⟨Tryd.f94.name, by decide, Tryd.func94.trans (congrArg some (by kernel_rfl))⟩
  f35 := ⟨Tryd.f44.name, by decide, Tryd.func44.trans (congrArg some (by kernel_rfl))⟩
  f40 := ⟨Tryd.f97.name, by decide, Tryd.func97.trans (congrArg some (by kernel_rfl))⟩
  t0 := Tryd.underlying0
  a0 := Tryd.isAgg0
  z0 := Tryd.sizeOf0
  v0 := Tryd.zeroValue0
  t3 := Tryd.underlying3
  a3 := Tryd.isAgg3
  z3 := Tryd.sizeOf3
  v3 := Tryd.zeroValue3
  t4 := Tryd.underlying4
  a4 := Tryd.isAgg4
  z4 := Tryd.sizeOf4
  v4 := Tryd.zeroValue4
  t5 := Tryd.underlying5
  a5 := Tryd.isAgg5
  z5 := Tryd.sizeOf5
  v5 := Tryd.zeroValue5
  t9 := Tryd.underlying9
  a9 := Tryd.isAgg9
  z9 := Tryd.sizeOf9
  v9 := Tryd.zeroValue9
  t22 := Tryd.underlying24
  a22 := Tryd.isAgg24
  z22 := Tryd.sizeOf24
  v22 := Tryd.zeroValue24
  t23 := Tryd.underlying24
  a23 := Tryd.isAgg24
  z23 := Tryd.sizeOf24
  v23 := Tryd.zeroValue24
  t25 := Tryd.underlying3
  a25 := Tryd.isAgg3
  z25 := Tryd.sizeOf3
  v25 := Tryd.zeroValue3
  t32 := Tryd.underlying84
  a32 := Tryd.isAgg84
  z32 := Tryd.sizeOf84
  v32 := Tryd.zeroValue84
  t35 := Tryd.underlying100
  a35 := Tryd.isAgg100
  z35 := Tryd.sizeOf100
  v35 := Tryd.zeroValue100
  t36 := Tryd.underlying101
  a36 := Tryd.isAgg101
  z36 := Tryd.sizeOf101
  v36 := Tryd.zeroValue101
  t41 := Tryd.underlying69
  a41 := Tryd.isAgg69
  z41 := Tryd.sizeOf69
  v41 := Tryd.zeroValue69
  t44 := Tryd.underlying108
  a44 := Tryd.isAgg108
  z44 := Tryd.sizeOf108
  v44 := Tryd.zeroValue108
  t46 := Tryd.underlying110
  a46 := Tryd.isAgg110
  z46 := Tryd.sizeOf110
  v46 := Tryd.zeroValue110
  t53 := Tryd.underlying115
  a53 := Tryd.isAgg115
  z53 := Tryd.sizeOf115
  v53 := Tryd.zeroValue115
  t57 := Tryd.underlying119
  a57 := Tryd.isAgg119
  z57 := Tryd.sizeOf119
  v57 := Tryd.zeroValue119
  t63 := Tryd.underlying123
  a63 := Tryd.isAgg123
  z63 := Tryd.sizeOf123
  v63 := Tryd.zeroValue123
  t64 := Tryd.underlying97
  a64 := Tryd.isAgg97
  z64 := Tryd.sizeOf97
  v64 := Tryd.zeroValue97 }
end Go.Proofs
