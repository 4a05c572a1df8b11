/-
  DERIVED: THE SHELF's CONTRACTS AT THIS DUMP, IN PLAIN WORDS (tools/lay-plain.mjs out of 'YtogolfneckhnaaaDoorShelfX.lean', which tools/lay-shelf.mjs wrote): THE SAME DECLARATIONS UNDER THE SAME NAMES: 'import', 'namespace', 'open', 'def', 'theorem' AND NOTHING ELSE: no command of the shelf's: FOR A HAND-IN. Each laying: the table of numbers ('.._ren') and one theorem, a field a fact of the dump's own or the kernel's comparison; each contract: ONE APPLICATION.
-/
import Derived.Shelf.SlIterI.Nil
import Derived.Shelf.SlIterI.Sorted
import Derived.Shelf.SortM.Plain
import Derived.Shelf.SortM.SortNone
import Derived.Shelf.Small.Wraps
import Derived.Ground.GgzProg
import Derived.Ground.SlgmProg
import Derived.Test.YtogolfneckhnaaaDoorProg
namespace Go.Proofs
open Go.Shelf
def Tryd.shKeys_ren : Go.Shelf.Ren := ⟨fun | 7 => 53 | 10 => 76 | n => n, fun | 23 => 75 | 26 => 3 | 3 => 77 | 28 => 85 | 0 => 0 | 27 => 84 | 33 => 67 | 4 => 4 | n => n, fun | n => n⟩
theorem Tryd.shKeys : Go.Proofs.SlLaysZI.n7 Tryd.prog Tryd.shKeys_ren := {
  mixed := by kernel_rfl
  f7 := ⟨Tryd.f53.name, by decide, Tryd.func53.trans (congrArg some (by kernel_rfl))⟩
  f10 := ⟨Tryd.f76.name, by decide, Tryd.func76.trans (congrArg some (by kernel_rfl))⟩
  t0 := Tryd.underlying0
  a0 := Tryd.isAgg0
  z0 := Tryd.sizeOf0
  v0 := Tryd.zeroValue0
  t4 := Tryd.underlying4
  a4 := Tryd.isAgg4
  z4 := Tryd.sizeOf4
  v4 := Tryd.zeroValue4
  t23 := Tryd.underlying75
  a23 := Tryd.isAgg75
  z23 := Tryd.sizeOf75
  v23 := Tryd.zeroValue75
  t26 := Tryd.underlying3
  a26 := Tryd.isAgg3
  z26 := Tryd.sizeOf3
  v26 := Tryd.zeroValue3
  t27 := Tryd.underlying84
  a27 := Tryd.isAgg84
  z27 := Tryd.sizeOf84
  v27 := Tryd.zeroValue84
  t28 := Tryd.underlying85
  a28 := Tryd.isAgg85
  z28 := Tryd.sizeOf85
  v28 := Tryd.zeroValue85
  t33 := Tryd.underlying67
  a33 := Tryd.isAgg67
  z33 := Tryd.sizeOf67
  v33 := Tryd.zeroValue67 }
def Tryd.shSorted_ren : Go.Shelf.Ren := ⟨fun | 6 => 52 | 8 => 74 | 9 => 75 | 11 => 81 | 13 => 83 | 12 => 82 | 23 => 93 | 24 => 94 | 14 => 84 | 15 => 85 | 16 => 86 | 17 => 87 | 18 => 88 | 19 => 89 | 20 => 90 | 21 => 91 | 22 => 92 | 25 => 95 | 26 => 96 | 27 => 97 | 28 => 98 | 29 => 99 | 30 => 77 | 31 => 100 | n => n, fun | 26 => 3 | 28 => 85 | 24 => 22 | 0 => 0 | 3 => 3 | 37 => 59 | 48 => 93 | 50 => 95 | 4 => 4 | 40 => 108 | 39 => 107 | 45 => 112 | 5 => 5 | 9 => 9 | 51 => 114 | 55 => 118 | 57 => 120 | 58 => 61 | 33 => 67 | n => n, fun | n => n⟩
theorem Tryd.shSorted : Go.Proofs.SlLaysZI.n6 Tryd.prog Tryd.shSorted_ren := {
  mixed := by kernel_rfl
  f6 := ⟨Tryd.f52.name, by decide, Tryd.func52.trans (congrArg some (by kernel_rfl))⟩
  f8 := ⟨Tryd.f74.name, by decide, Tryd.func74.trans (congrArg some (by kernel_rfl))⟩
  f11 := ⟨Tryd.f81.name, by decide, Tryd.func81.trans (congrArg some (by kernel_rfl))⟩
  t0 := Tryd.underlying0
  a0 := Tryd.isAgg0
  z0 := Tryd.sizeOf0
  v0 := Tryd.zeroValue0
  t24 := Tryd.underlying22
  a24 := Tryd.isAgg22
  z24 := Tryd.sizeOf22
  v24 := Tryd.zeroValue22
  t26 := Tryd.underlying3
  a26 := Tryd.isAgg3
  z26 := Tryd.sizeOf3
  v26 := Tryd.zeroValue3
  t28 := Tryd.underlying85
  a28 := Tryd.isAgg85
  z28 := Tryd.sizeOf85
  v28 := Tryd.zeroValue85
  i26 := by kernel_rfl }
def Tryd.shSort_ren : Go.Shelf.Ren := ⟨fun | 5 => 75 | 8 => 83 | 7 => 82 | 19 => 93 | 20 => 94 | 10 => 84 | 11 => 85 | 12 => 86 | 13 => 87 | 14 => 88 | 15 => 89 | 16 => 90 | 17 => 91 | 18 => 92 | 30 => 95 | 31 => 96 | 32 => 97 | 33 => 98 | 34 => 99 | 35 => 77 | 40 => 100 | n => n, fun | 23 => 22 | 25 => 3 | 3 => 3 | 32 => 59 | 22 => 22 | 0 => 0 | 44 => 93 | 46 => 95 | 4 => 4 | 36 => 108 | 35 => 107 | 41 => 112 | 5 => 5 | 9 => 9 | 53 => 114 | 57 => 118 | 63 => 120 | 64 => 61 | n => n, fun | n => n⟩
theorem Tryd.shSort : Go.Proofs.SlLaysM.n5 Tryd.prog Tryd.shSort_ren := {
  mixed := by kernel_rfl
  f5 := ⟨Tryd.f75.name, by decide, Tryd.func75.trans (congrArg some (by kernel_rfl))⟩
  f7 := ⟨Tryd.f82.name, by decide, Tryd.func82.trans (congrArg some (by kernel_rfl))⟩
  f8 := Tryd.func83.trans (congrArg some (by kernel_rfl))
  f10 := ⟨Tryd.f84.name, by decide, Tryd.func84.trans (congrArg some (by kernel_rfl))⟩
  f11 := ⟨Tryd.f85.name, by decide, Tryd.func85.trans (congrArg some (by kernel_rfl))⟩
  f12 := ⟨Tryd.f86.name, by decide, Tryd.func86.trans (congrArg some (by kernel_rfl))⟩
  f13 := ⟨Tryd.f87.name, by decide, Tryd.func87.trans (congrArg some (by kernel_rfl))⟩
  f14 := ⟨Tryd.f88.name, by decide, Tryd.func88.trans (congrArg some (by kernel_rfl))⟩
  f15 := ⟨Tryd.f89.name, by decide, Tryd.func89.trans (congrArg some (by kernel_rfl))⟩
  f16 := ⟨Tryd.f90.name, by decide, Tryd.func90.trans (congrArg some (by kernel_rfl))⟩
  f17 := ⟨Tryd.f91.name, by decide, Tryd.func91.trans (congrArg some (by kernel_rfl))⟩
  f18 := ⟨Tryd.f92.name, by decide, Tryd.func92.trans (congrArg some (by kernel_rfl))⟩
  f19 := Tryd.func93.trans (congrArg some (by kernel_rfl))
  f20 := Tryd.func94.trans (congrArg some (by kernel_rfl))
  f30 := ⟨Tryd.f95.name, by decide, Tryd.func95.trans (congrArg some (by kernel_rfl))⟩
  f31 := Tryd.func96.trans (congrArg some (by kernel_rfl))
  f32 := Tryd.func97.trans (congrArg some (by kernel_rfl))
  f33 := ⟨Tryd.f98.name, by decide, Tryd.func98.trans (congrArg some (by kernel_rfl))⟩
  f34 := ⟨Tryd.f99.name, by decide, Tryd.func99.trans (congrArg some (by kernel_rfl))⟩
  f35 := ⟨Tryd.f77.name, by decide, Tryd.func77.trans (congrArg some (by kernel_rfl))⟩
  f40 := ⟨Tryd.f100.name, by decide, Tryd.func100.trans (congrArg some (by kernel_rfl))⟩
  t0 := Tryd.underlying0
  a0 := Tryd.isAgg0
  z0 := Tryd.sizeOf0
  v0 := Tryd.zeroValue0
  t3 := Tryd.underlying3
  a3 := Tryd.isAgg3
  z3 := Tryd.sizeOf3
  v3 := Tryd.zeroValue3
  t4 := Tryd.underlying4
  a4 := Tryd.isAgg4
  z4 := Tryd.sizeOf4
  v4 := Tryd.zeroValue4
  t5 := Tryd.underlying5
  a5 := Tryd.isAgg5
  z5 := Tryd.sizeOf5
  v5 := Tryd.zeroValue5
  t9 := Tryd.underlying9
  a9 := Tryd.isAgg9
  z9 := Tryd.sizeOf9
  v9 := Tryd.zeroValue9
  t22 := Tryd.underlying22
  a22 := Tryd.isAgg22
  z22 := Tryd.sizeOf22
  v22 := Tryd.zeroValue22
  t23 := Tryd.underlying22
  a23 := Tryd.isAgg22
  z23 := Tryd.sizeOf22
  v23 := Tryd.zeroValue22
  t25 := Tryd.underlying3
  a25 := Tryd.isAgg3
  z25 := Tryd.sizeOf3
  v25 := Tryd.zeroValue3
  t32 := Tryd.underlying59
  a32 := Tryd.isAgg59
  z32 := Tryd.sizeOf59
  v32 := Tryd.zeroValue59
  t35 := Tryd.underlying107
  a35 := Tryd.isAgg107
  z35 := Tryd.sizeOf107
  v35 := Tryd.zeroValue107
  t36 := Tryd.underlying108
  a36 := Tryd.isAgg108
  z36 := Tryd.sizeOf108
  v36 := Tryd.zeroValue108
  t41 := Tryd.underlying112
  a41 := Tryd.isAgg112
  z41 := Tryd.sizeOf112
  v41 := Tryd.zeroValue112
  t44 := Tryd.underlying93
  a44 := Tryd.isAgg93
  z44 := Tryd.sizeOf93
  v44 := Tryd.zeroValue93
  t46 := Tryd.underlying95
  a46 := Tryd.isAgg95
  z46 := Tryd.sizeOf95
  v46 := Tryd.zeroValue95
  t53 := Tryd.underlying114
  a53 := Tryd.isAgg114
  z53 := Tryd.sizeOf114
  v53 := Tryd.zeroValue114
  t57 := Tryd.underlying118
  a57 := Tryd.isAgg118
  z57 := Tryd.sizeOf118
  v57 := Tryd.zeroValue118
  t63 := Tryd.underlying120
  a63 := Tryd.isAgg120
  z63 := Tryd.sizeOf120
  v63 := Tryd.zeroValue120
  t64 := Tryd.underlying61
  a64 := Tryd.isAgg61
  z64 := Tryd.sizeOf61
  v64 := Tryd.zeroValue61 }
def Tryd.shCompare_ren : Go.Shelf.Ren := ⟨fun | 122 => 54 | 215 => 77 | n => n, fun | 3 => 3 | 4 => 4 | n => n, fun | n => n⟩
theorem Tryd.shCompare : Go.Proofs.Lays.n122 Tryd.prog Tryd.shCompare_ren := {
  mixed := by kernel_rfl
  f122 := Tryd.func54.trans (congrArg some (by kernel_rfl))
  f215 := Tryd.func77.trans (congrArg some (by kernel_rfl))
  t3 := Tryd.underlying3
  a3 := Tryd.isAgg3
  z3 := Tryd.sizeOf3
  v3 := Tryd.zeroValue3
  t4 := Tryd.underlying4
  a4 := Tryd.isAgg4
  z4 := Tryd.sizeOf4
  v4 := Tryd.zeroValue4 }
end Go.Proofs
