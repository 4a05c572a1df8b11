/-
  DERIVED: THE SHELF's CONTRACTS AT THIS DUMP, IN PLAIN WORDS (tools/lay-plain.mjs out of 'YtlhjliigfecihaaDoorShelf11X.lean', which tools/lay-shelf.mjs wrote): THE SAME DECLARATIONS UNDER THE SAME NAMES: 'import', 'namespace', 'open', 'def', 'theorem' AND NOTHING ELSE: no command of the shelf's: FOR A HAND-IN. Each laying: the table of numbers ('.._ren') and one theorem, a field a fact of the dump's own or the kernel's comparison; each contract: ONE APPLICATION.
-/
import Derived.Shelf.SortM.Plain
import Derived.Shelf.SortM.SortNone
import Derived.Shelf.SlicesG.CompactI
import Derived.Ground.SlgmProg
import Derived.Ground.SlgnProg
import Derived.Test.YtlhjliigfecihaaDoorProg
namespace Go.Proofs
open Go.Shelf
def Tryd.shSort_ren : Go.Shelf.Ren := ⟨fun | 5 => 37 | 8 => 53 | 7 => 52 | 19 => 64 | 20 => 65 | 10 => 55 | 11 => 56 | 12 => 57 | 13 => 58 | 14 => 59 | 15 => 60 | 16 => 61 | 17 => 62 | 18 => 63 | 30 => 66 | 31 => 67 | 32 => 68 | 33 => 69 | 34 => 70 | 35 => 71 | 40 => 72 | n => n, fun | 23 => 36 | 25 => 3 | 3 => 3 | 32 => 56 | 22 => 36 | 0 => 0 | 44 => 68 | 46 => 70 | 4 => 4 | 36 => 60 | 35 => 59 | 41 => 65 | 5 => 5 | 9 => 9 | 53 => 71 | 57 => 75 | 63 => 78 | 64 => 79 | n => n, fun | n => n⟩
theorem Tryd.shSort : Go.Proofs.SlLaysM.n5 Tryd.prog Tryd.shSort_ren := {
  mixed := by kernel_rfl
  f5 := ⟨Tryd.f37.name, by decide, Tryd.func37.trans (congrArg some (by kernel_rfl))⟩
  f7 := ⟨Tryd.f52.name, by decide, Tryd.func52.trans (congrArg some (by kernel_rfl))⟩
  f8 := Tryd.func53.trans (congrArg some (by kernel_rfl))
  f10 := ⟨Tryd.f55.name, by decide, Tryd.func55.trans (congrArg some (by kernel_rfl))⟩
  f11 := ⟨Tryd.f56.name, by decide, Tryd.func56.trans (congrArg some (by kernel_rfl))⟩
  f12 := ⟨Tryd.f57.name, by decide, Tryd.func57.trans (congrArg some (by kernel_rfl))⟩
  f13 := ⟨Tryd.f58.name, by decide, Tryd.func58.trans (congrArg some (by kernel_rfl))⟩
  f14 := ⟨Tryd.f59.name, by decide, Tryd.func59.trans (congrArg some (by kernel_rfl))⟩
  f15 := ⟨Tryd.f60.name, by decide, Tryd.func60.trans (congrArg some (by kernel_rfl))⟩
  f16 := ⟨Tryd.f61.name, by decide, Tryd.func61.trans (congrArg some (by kernel_rfl))⟩
  f17 := ⟨Tryd.f62.name, by decide, Tryd.func62.trans (congrArg some (by kernel_rfl))⟩
  f18 := ⟨Tryd.f63.name, by decide, Tryd.func63.trans (congrArg some (by kernel_rfl))⟩
  f19 := Tryd.func64.trans (congrArg some (by kernel_rfl))
  f20 := Tryd.func65.trans (congrArg some (by kernel_rfl))
  f30 := ⟨Tryd.f66.name, by decide, Tryd.func66.trans (congrArg some (by kernel_rfl))⟩
  f31 := Tryd.func67.trans (congrArg some (by kernel_rfl))
  f32 := Tryd.func68.trans (congrArg some (by kernel_rfl))
  f33 := ⟨Tryd.f69.name, by decide, Tryd.func69.trans (congrArg some (by kernel_rfl))⟩
  f34 := ⟨Tryd.f70.name, by decide, Tryd.func70.trans (congrArg some (by kernel_rfl))⟩
  f35 := ⟨Tryd.f71.name, by decide, Tryd.func71.trans (congrArg some (by kernel_rfl))⟩
  f40 := ⟨Tryd.f72.name, by decide, Tryd.func72.trans (congrArg some (by kernel_rfl))⟩
  t0 := Tryd.underlying0
  a0 := Tryd.isAgg0
  z0 := Tryd.sizeOf0
  v0 := Tryd.zeroValue0
  t3 := Tryd.underlying3
  a3 := Tryd.isAgg3
  z3 := Tryd.sizeOf3
  v3 := Tryd.zeroValue3
  t4 := Tryd.underlying4
  a4 := Tryd.isAgg4
  z4 := Tryd.sizeOf4
  v4 := Tryd.zeroValue4
  t5 := Tryd.underlying5
  a5 := Tryd.isAgg5
  z5 := Tryd.sizeOf5
  v5 := Tryd.zeroValue5
  t9 := Tryd.underlying9
  a9 := Tryd.isAgg9
  z9 := Tryd.sizeOf9
  v9 := Tryd.zeroValue9
  t22 := Tryd.underlying36
  a22 := Tryd.isAgg36
  z22 := Tryd.sizeOf36
  v22 := Tryd.zeroValue36
  t23 := Tryd.underlying36
  a23 := Tryd.isAgg36
  z23 := Tryd.sizeOf36
  v23 := Tryd.zeroValue36
  t25 := Tryd.underlying3
  a25 := Tryd.isAgg3
  z25 := Tryd.sizeOf3
  v25 := Tryd.zeroValue3
  t32 := Tryd.underlying56
  a32 := Tryd.isAgg56
  z32 := Tryd.sizeOf56
  v32 := Tryd.zeroValue56
  t35 := Tryd.underlying59
  a35 := Tryd.isAgg59
  z35 := Tryd.sizeOf59
  v35 := Tryd.zeroValue59
  t36 := Tryd.underlying60
  a36 := Tryd.isAgg60
  z36 := Tryd.sizeOf60
  v36 := Tryd.zeroValue60
  t41 := Tryd.underlying65
  a41 := Tryd.isAgg65
  z41 := Tryd.sizeOf65
  v41 := Tryd.zeroValue65
  t44 := Tryd.underlying68
  a44 := Tryd.isAgg68
  z44 := Tryd.sizeOf68
  v44 := Tryd.zeroValue68
  t46 := Tryd.underlying70
  a46 := Tryd.isAgg70
  z46 := Tryd.sizeOf70
  v46 := Tryd.zeroValue70
  t53 := Tryd.underlying71
  a53 := Tryd.isAgg71
  z53 := Tryd.sizeOf71
  v53 := Tryd.zeroValue71
  t57 := Tryd.underlying75
  a57 := Tryd.isAgg75
  z57 := Tryd.sizeOf75
  v57 := Tryd.zeroValue75
  t63 := Tryd.underlying78
  a63 := Tryd.isAgg78
  z63 := Tryd.sizeOf78
  v63 := Tryd.zeroValue78
  t64 := Tryd.underlying79
  a64 := Tryd.isAgg79
  z64 := Tryd.sizeOf79
  v64 := Tryd.zeroValue79 }
def Tryd.shCompact_ren : Go.Shelf.Ren := ⟨fun | 43 => 38 | n => n, fun | 22 => 36 | 23 => 3 | 3 => 3 | 4 => 4 | 0 => 0 | n => n, fun | n => n⟩
theorem Tryd.shCompact : Go.Proofs.SlLaysN.n43 Tryd.prog Tryd.shCompact_ren := {
  mixed := by kernel_rfl
  f43 := ⟨Tryd.f38.name, by decide, Tryd.func38.trans (congrArg some (by kernel_rfl))⟩
  t0 := Tryd.underlying0
  a0 := Tryd.isAgg0
  z0 := Tryd.sizeOf0
  v0 := Tryd.zeroValue0
  t3 := Tryd.underlying3
  a3 := Tryd.isAgg3
  z3 := Tryd.sizeOf3
  v3 := Tryd.zeroValue3
  t4 := Tryd.underlying4
  a4 := Tryd.isAgg4
  z4 := Tryd.sizeOf4
  v4 := Tryd.zeroValue4
  t22 := Tryd.underlying36
  a22 := Tryd.isAgg36
  z22 := Tryd.sizeOf36
  v22 := Tryd.zeroValue36
  t23 := Tryd.underlying3
  a23 := Tryd.isAgg3
  z23 := Tryd.sizeOf3
  v23 := Tryd.zeroValue3
  i23 := by kernel_rfl }
end Go.Proofs
