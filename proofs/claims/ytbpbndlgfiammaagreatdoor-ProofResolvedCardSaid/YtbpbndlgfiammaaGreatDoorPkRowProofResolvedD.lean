/- Lemmas and contracts for the row. -/
import Derived.Test.YtbpbndlgfiammaaGreatDoorPkRowProofResolvedA
import Derived.Lib.ItoaLen
import Derived.Lib.UnsafeStr
import Derived.Laws.BytesArg
import Derived.Lib.Bytes
import Derived.Test.YtbpbndlgfiammaaGreatDoorPkRowProofResolvedC
import Derived.Shelf.SlicesE.Delete
import Derived.Shelf.SortM.Plain
import Derived.Shelf.SortM.SortNone
import Derived.Shelf.SlicesG.CompactI
import Derived.Ground.SlgmProg
import Derived.Ground.SlgnProg
import Derived.Test.YtbpbndlgfiammaaGreatDoorProg
import Derived.Shelf.SlicesE.DeleteFunc
import Derived.Shelf.SlSortCmp.NoneTotal
import Derived.Shelf.Spec.SlicesGrow
import Derived.Ground.SlgfProg
import Derived.Ground.SlsfProg
import Derived.Ground.Names8Prog
import Derived.WalkKit
import Derived.Below
import Derived.ChangeSlices
import Derived.WideShapes
import Derived.Lib.SmallJoins
import Derived.Deep.Grids
import Derived.KernelRfl
set_option linter.unusedVariables false
set_option linter.unusedSimpArgs false
set_option linter.unnecessarySimpa false
namespace Go.Proofs.YtbpbndlgfiammaaGreatDoor.Cn
def itoaI (n : Int) : List Int := (Go.Lib.itoa n).map fun b => (b.toNat : Int)
def bytesC (xs : List Int) : List Value := xs.map (Value.int .u8)
theorem bytesC_itoa (n : Int) : Go.Lib.byteCells (Go.Lib.itoa n) = bytesC (itoaI n) := by simp [Go.Lib.byteCells, bytesC, itoaI, Function.comp_def]
theorem itoa_len {n : Int} (h0 : -9223372036854775808 ≤ n) (h1 : n ≤ 9223372036854775807) : (itoaI n).length ≤ 21 := by
  rw [itoaI, List.length_map]; exact Go.Lib.itoa_length_le n h0 h1
end Go.Proofs.YtbpbndlgfiammaaGreatDoor.Cn
namespace Go.Proofs.YtbpbndlgfiammaaGreatDoor.Cn
def dval (l : List Int) : Int := l.foldl (fun n c => 10 * n + (c - 48)) 0
def isDg (c : Int) : Bool := !(decide (c < 48) || decide (c > 57))
def numM (w : List Int) : Bool := decide ((w.length : Int) > 0) && ((w.getD 0 0) == 45)
def numD (w : List Int) : List Int := bif numM w then (w.take w.length).drop 1 else w
def numBad (w : List Int) : Bool := ((((numD w).length : Int) == 0) || (decide (((numD w).length : Int) > 10))) || ((((numD w).getD 0 0) == 48) && ((numM w) || (decide (((numD w).length : Int) > 1))))
theorem bad_of {w v : List Int} (h : numD w = v) : numBad w = (((((v.length : Int) == 0) || (decide ((v.length : Int) > 10))) || (((v.getD 0 0) == 48) && ((numM w) || (decide ((v.length : Int) > 1)))))) := by unfold numBad; rw [h]
theorem numD_t {w : List Int} (h : numM w = true) : numD w = (w.take w.length).drop 1 := by unfold numD; rw [h]; rfl
theorem numD_f {w : List Int} (h : numM w = false) : numD w = w := by unfold numD; rw [h]; rfl
def numOk (w : List Int) : Bool := !numBad w && (numD w).all isDg
def numN (w : List Int) : Int := bif numOk w then (bif numM w then -(dval (numD w)) else dval (numD w)) else 0
theorem dval_snoc (l : List Int) (c : Int) : dval (l ++ [c]) = 10 * dval l + (c - 48) := by simp [dval]
theorem str_inj {w v : List Int} (hw : isBytes w) (hv : isBytes v) : ((strOfNums w).toList == (strOfNums v).toList) = (w == v) := by
  have hmap : ∀ {w v : List Int}, isBytes w → isBytes v → (w.map fun n => UInt8.ofNat n.toNat) = (v.map fun n => UInt8.ofNat n.toNat) → w = v := by
    intro w
    induction w with
    | nil => intro v _ _ h; cases v <;> simp_all
    | cons x w ih =>
      intro v hw hv h
      cases v with
      | nil => simp at h
      | cons y v =>
        simp only [List.map_cons, List.cons.injEq] at h
        have h1 := hw x (by simp)
        have h2 := hv y (by simp)
        have h3 := congrArg UInt8.toNat h.1
        rw [UInt8.toNat_ofNat', UInt8.toNat_ofNat'] at h3
        rw [show x = y by omega, ih (fun z hz => hw z (by simp [hz])) (fun z hz => hv z (by simp [hz])) h.2]
  have hl : ∀ u : List Int, (strOfNums u).toList = u.map fun n => UInt8.ofNat n.toNat := fun u => by rw [Go.Lib.strOfNums_toList]; rfl
  rw [hl, hl, Bool.eq_iff_iff, beq_iff_eq, beq_iff_eq]
  exact ⟨hmap hw hv, fun h => by rw [h]⟩
end Go.Proofs.YtbpbndlgfiammaaGreatDoor.Cn
namespace Go.Proofs.YtbpbndlgfiammaaGreatDoor.Cn
end Go.Proofs.YtbpbndlgfiammaaGreatDoor.Cn
namespace Go.Proofs.YtbpbndlgfiammaaGreatDoor.Cn
end Go.Proofs.YtbpbndlgfiammaaGreatDoor.Cn
namespace Go.Proofs.YtbpbndlgfiammaaGreatDoor.Cn
variable {a b l t : List Int} {w : List Bool} {v x : Int}
end Go.Proofs.YtbpbndlgfiammaaGreatDoor.Cn
namespace Go.Proofs.YtbpbndlgfiammaaGreatDoor.Cn
open Go
def dgs (u : Nat) : List Int := (Go.Lib.decDigits u).map fun b => (b.toNat : Int)
theorem dgs_lo {u : Nat} (h : u < 10) : dgs u = [48 + (u : Int)] := by
  unfold dgs
  rw [Go.Lib.decDigits_one h]
  have : (UInt8.ofNat (48 + u)).toNat = 48 + u := by rw [UInt8.toNat_ofNat']; omega
  simp only [List.map_cons, List.map_nil, this]
  simp
theorem dgs_hi {u : Nat} (h : ¬ u < 10) : dgs u = dgs (u / 10) ++ [48 + ((u % 10 : Nat) : Int)] := by
  unfold dgs
  rw [Go.Lib.decDigits, dif_neg h, List.map_append]
  have : (UInt8.ofNat (48 + u % 10)).toNat = 48 + u % 10 := by rw [UInt8.toNat_ofNat']; omega
  simp only [List.map_cons, List.map_nil, this]
  simp
theorem dgs_all : ∀ (u : Nat), (∀ x ∈ dgs u, 48 ≤ x ∧ x ≤ 57) ∧ dval (dgs u) = (u : Int) ∧ 1 ≤ (dgs u).length ∧ ((dgs u).getD 0 0 = 48 → u = 0) := fun u => by
  induction u using Nat.strongRecOn with
  | _ u ih =>
    by_cases h : u < 10
    · rw [dgs_lo h]
      exact ⟨fun x hx => by rw [List.mem_singleton] at hx; omega, by show 10 * 0 + (48 + (u : Int) - 48) = u; omega, by simp, fun h => by simp at h; omega⟩
    · obtain ⟨h1, h2, h3, h4⟩ := ih (u / 10) (by omega)
      rw [dgs_hi h]
      refine ⟨fun x hx => ?_, ?_, by simp, fun h9 => ?_⟩
      · rcases List.mem_append.1 hx with h9 | h9
        · exact h1 x h9
        · rw [List.mem_singleton] at h9; omega
      · rw [dval_snoc, h2]; omega
      · rw [List.getD_eq_getElem?_getD, List.getElem?_append_left (by omega), ← List.getD_eq_getElem?_getD] at h9
        have := h4 h9
        omega
theorem dgs_len : ∀ (k u : Nat), u < 10 ^ (k + 1) → (dgs u).length ≤ k + 1
  | 0, u, h => by rw [dgs_lo (by simpa using h)]; simp
  | k + 1, u, h => by
    by_cases h9 : u < 10
    · rw [dgs_lo h9]; simp
    · rw [dgs_hi h9, List.length_append]
      have := dgs_len k (u / 10) (by rw [Nat.pow_succ] at h; omega)
      simp; omega
theorem itoa_pos {n : Int} (h : 0 ≤ n) : itoaI n = dgs n.toNat := by unfold itoaI dgs Go.Lib.itoa; rw [if_neg (by omega)]
theorem itoa_neg {n : Int} (h : n < 0) : itoaI n = 45 :: dgs n.natAbs := by unfold itoaI dgs Go.Lib.itoa; rw [if_pos h]; rfl
theorem itoa_mem {n : Int} : ∀ x ∈ itoaI n, x = 45 ∨ (48 ≤ x ∧ x ≤ 57) := fun x hx => by
  by_cases h : n < 0
  · rw [itoa_neg h, List.mem_cons] at hx
    rcases hx with rfl | hx
    · exact .inl rfl
    · exact .inr ((dgs_all _).1 x hx)
  · rw [itoa_pos (by omega)] at hx
    exact .inr ((dgs_all _).1 x hx)
theorem dig_all {u : Nat} : (dgs u).all isDg = true := List.all_eq_true.2 fun x hx => by
  have := (dgs_all u).1 x hx
  unfold isDg
  rw [decide_eq_false (show ¬ x < 48 by omega), decide_eq_false (show ¬ x > 57 by omega)]; rfl
theorem num_itoa {n : Int} (h1 : -65536 ≤ n) (h2 : n ≤ 65536) : numOk (itoaI n) = true ∧ numN (itoaI n) = n := by
  have key : ∀ u : Nat, u ≤ 65536 → (dgs u).length ≤ 5 := fun u hu => dgs_len 4 u (by omega)
  by_cases h : n < 0
  · have hM : numM (itoaI n) = true := by unfold numM; rw [itoa_neg h]; simp
    have hD : numD (itoaI n) = dgs n.natAbs := by rw [numD_t hM, List.take_length, itoa_neg h]; rfl
    obtain ⟨a1, a2, a3, a4⟩ := dgs_all n.natAbs
    have a5 := key n.natAbs (by omega)
    have hB : numBad (itoaI n) = false := by
      rw [bad_of hD, hM, show (((dgs n.natAbs).length : Int) == 0) = false by rw [beq_eq_false_iff_ne]; omega, decide_eq_false (show ¬ ((dgs n.natAbs).length : Int) > 10 by omega), show (((dgs n.natAbs).getD 0 0) == 48) = false by rw [beq_eq_false_iff_ne]; intro e; have := a4 e; omega]
      rfl
    have hO : numOk (itoaI n) = true := by unfold numOk; rw [hB, hD, dig_all]; rfl
    exact ⟨hO, by unfold numN; rw [hO, hM, hD, a2]; show -((n.natAbs : Nat) : Int) = n; omega⟩
  · have e := itoa_pos (n := n) (by omega)
    obtain ⟨a1, a2, a3, a4⟩ := dgs_all n.toNat
    have a5 := key n.toNat (by omega)
    have hM : numM (itoaI n) = false := by
      unfold numM
      rw [e]
      have : (dgs n.toNat).getD 0 0 ∈ dgs n.toNat := getD_memL (by omega)
      have := a1 _ this
      rw [show ((dgs n.toNat).getD 0 0 == 45) = false by rw [beq_eq_false_iff_ne]; omega, Bool.and_false]
    have hD : numD (itoaI n) = dgs n.toNat := by rw [numD_f hM, e]
    have hB : numBad (itoaI n) = false := by
      rw [bad_of hD, hM, show (((dgs n.toNat).length : Int) == 0) = false by rw [beq_eq_false_iff_ne]; omega, decide_eq_false (show ¬ ((dgs n.toNat).length : Int) > 10 by omega)]
      by_cases h0 : (dgs n.toNat).getD 0 0 = 48
      · have := a4 h0
        rw [this, dgs_lo (by omega)]; decide
      · rw [show (((dgs n.toNat).getD 0 0) == 48) = false by rw [beq_eq_false_iff_ne]; exact h0]; rfl
    have hO : numOk (itoaI n) = true := by unfold numOk; rw [hB, hD, dig_all]; rfl
    exact ⟨hO, by unfold numN; rw [hO, hM, hD, a2]; show ((n.toNat : Nat) : Int) = n; omega⟩
end Go.Proofs.YtbpbndlgfiammaaGreatDoor.Cn
namespace Go.Proofs.YtbpbndlgfiammaaGreatDoor.Cn
open Go
end Go.Proofs.YtbpbndlgfiammaaGreatDoor.Cn
namespace Go.Proofs.YtbpbndlgfiammaaGreatDoor.Cn
open Go
end Go.Proofs.YtbpbndlgfiammaaGreatDoor.Cn
namespace Go.Proofs
open Go.Shelf
def Tryz.shDelL_ren : Go.Shelf.Ren := ⟨fun | 45 => 39 | n => n, fun | 22 => 22 | 23 => 23 | 3 => 3 | 4 => 4 | 0 => 0 | n => n, fun | n => n⟩
theorem Tryz.shDelL : Go.Proofs.SlLaysE.n45 Tryz.prog Tryz.shDelL_ren := {
  mixed := by kernel_rfl
  f45 := ⟨Tryz.f39.name, by decide, Tryz.func39.trans (congrArg some (by kernel_rfl))⟩
  t0 := Tryz.underlying0
  a0 := Tryz.isAgg0
  z0 := Tryz.sizeOf0
  v0 := Tryz.zeroValue0
  t3 := Tryz.underlying3
  a3 := Tryz.isAgg3
  z3 := Tryz.sizeOf3
  v3 := Tryz.zeroValue3
  t4 := Tryz.underlying4
  a4 := Tryz.isAgg4
  z4 := Tryz.sizeOf4
  v4 := Tryz.zeroValue4
  t22 := Tryz.underlying22
  a22 := Tryz.isAgg22
  z22 := Tryz.sizeOf22
  v22 := Tryz.zeroValue22
  a23 := Tryz.isAgg23
  z23 := Tryz.sizeOf23 }
def Tryz.shSort_ren : Go.Shelf.Ren := ⟨fun | 5 => 129 | 8 => 123 | 7 => 159 | 19 => 156 | 20 => 157 | 10 => 177 | 11 => 178 | 12 => 179 | 13 => 180 | 14 => 181 | 15 => 182 | 16 => 183 | 17 => 184 | 18 => 185 | 30 => 192 | 31 => 173 | 32 => 174 | 33 => 193 | 34 => 194 | 35 => 124 | 40 => 195 | n => n, fun | 23 => 23 | 25 => 3 | 3 => 3 | 32 => 133 | 22 => 23 | 0 => 0 | 44 => 143 | 46 => 128 | 4 => 4 | 36 => 157 | 35 => 156 | 41 => 68 | 5 => 5 | 9 => 9 | 53 => 178 | 57 => 182 | 63 => 195 | 64 => 196 | n => n, fun | n => n⟩
theorem Tryz.shSort : Go.Proofs.SlLaysM.n5 Tryz.prog Tryz.shSort_ren := {
  mixed := by kernel_rfl
  f5 := ⟨Tryz.f129.name, by decide, Tryz.func129.trans (congrArg some (by kernel_rfl))⟩
  f7 := ⟨Tryz.f159.name, by decide, Tryz.func159.trans (congrArg some (by kernel_rfl))⟩
  f8 := Tryz.func123.trans (congrArg some (by kernel_rfl))
  f10 := ⟨Tryz.f177.name, by decide, Tryz.func177.trans (congrArg some (by kernel_rfl))⟩
  f11 := ⟨Tryz.f178.name, by decide, Tryz.func178.trans (congrArg some (by kernel_rfl))⟩
  f12 := ⟨Tryz.f179.name, by decide, Tryz.func179.trans (congrArg some (by kernel_rfl))⟩
  f13 := ⟨Tryz.f180.name, by decide, Tryz.func180.trans (congrArg some (by kernel_rfl))⟩
  f14 := ⟨Tryz.f181.name, by decide, Tryz.func181.trans (congrArg some (by kernel_rfl))⟩
  f15 := ⟨Tryz.f182.name, by decide, Tryz.func182.trans (congrArg some (by kernel_rfl))⟩
  f16 := ⟨Tryz.f183.name, by decide, Tryz.func183.trans (congrArg some (by kernel_rfl))⟩
  f17 := ⟨Tryz.f184.name, by decide, Tryz.func184.trans (congrArg some (by kernel_rfl))⟩
  f18 := ⟨Tryz.f185.name, by decide, Tryz.func185.trans (congrArg some (by kernel_rfl))⟩
  f19 := Tryz.func156.trans (congrArg some (by kernel_rfl))
  f20 := Tryz.func157.trans (congrArg some (by kernel_rfl))
  f30 := ⟨Tryz.f192.name, by decide, Tryz.func192.trans (congrArg some (by kernel_rfl))⟩
  f31 := Tryz.func173.trans (congrArg some (by kernel_rfl))
  f32 := Tryz.func174.trans (congrArg some (by kernel_rfl))
  f33 := ⟨Tryz.f193.name, by decide, Tryz.func193.trans (congrArg some (by kernel_rfl))⟩
  f34 := ⟨Tryz.f194.name, by decide, Tryz.func194.trans (congrArg some (by kernel_rfl))⟩
  f35 := ⟨Tryz.f124.name, by decide, Tryz.func124.trans (congrArg some (by kernel_rfl))⟩
  f40 := ⟨Tryz.f195.name, by decide, Tryz.func195.trans (congrArg some (by kernel_rfl))⟩
  t0 := Tryz.underlying0
  a0 := Tryz.isAgg0
  z0 := Tryz.sizeOf0
  v0 := Tryz.zeroValue0
  t3 := Tryz.underlying3
  a3 := Tryz.isAgg3
  z3 := Tryz.sizeOf3
  v3 := Tryz.zeroValue3
  t4 := Tryz.underlying4
  a4 := Tryz.isAgg4
  z4 := Tryz.sizeOf4
  v4 := Tryz.zeroValue4
  t5 := Tryz.underlying5
  a5 := Tryz.isAgg5
  z5 := Tryz.sizeOf5
  v5 := Tryz.zeroValue5
  t9 := Tryz.underlying9
  a9 := Tryz.isAgg9
  z9 := Tryz.sizeOf9
  v9 := Tryz.zeroValue9
  t22 := Tryz.underlying23
  a22 := Tryz.isAgg23
  z22 := Tryz.sizeOf23
  v22 := Tryz.zeroValue23
  t23 := Tryz.underlying23
  a23 := Tryz.isAgg23
  z23 := Tryz.sizeOf23
  v23 := Tryz.zeroValue23
  t25 := Tryz.underlying3
  a25 := Tryz.isAgg3
  z25 := Tryz.sizeOf3
  v25 := Tryz.zeroValue3
  t32 := Tryz.underlying133
  a32 := Tryz.isAgg133
  z32 := Tryz.sizeOf133
  v32 := Tryz.zeroValue133
  t35 := Tryz.underlying156
  a35 := Tryz.isAgg156
  z35 := Tryz.sizeOf156
  v35 := Tryz.zeroValue156
  t36 := Tryz.underlying157
  a36 := Tryz.isAgg157
  z36 := Tryz.sizeOf157
  v36 := Tryz.zeroValue157
  t41 := Tryz.underlying68
  a41 := Tryz.isAgg68
  z41 := Tryz.sizeOf68
  v41 := Tryz.zeroValue68
  t44 := Tryz.underlying143
  a44 := Tryz.isAgg143
  z44 := Tryz.sizeOf143
  v44 := Tryz.zeroValue143
  t46 := Tryz.underlying128
  a46 := Tryz.isAgg128
  z46 := Tryz.sizeOf128
  v46 := Tryz.zeroValue128
  t53 := Tryz.underlying178
  a53 := Tryz.isAgg178
  z53 := Tryz.sizeOf178
  v53 := Tryz.zeroValue178
  t57 := Tryz.underlying182
  a57 := Tryz.isAgg182
  z57 := Tryz.sizeOf182
  v57 := Tryz.zeroValue182
  t63 := Tryz.underlying195
  a63 := Tryz.isAgg195
  z63 := Tryz.sizeOf195
  v63 := Tryz.zeroValue195
  t64 := Tryz.underlying196
  a64 := Tryz.isAgg196
  z64 := Tryz.sizeOf196
  v64 := Tryz.zeroValue196 }
def Tryz.shCompact_ren : Go.Shelf.Ren := ⟨fun | 43 => 99 | n => n, fun | 22 => 23 | 23 => 3 | 3 => 3 | 4 => 4 | 0 => 0 | n => n, fun | n => n⟩
theorem Tryz.shCompact : Go.Proofs.SlLaysN.n43 Tryz.prog Tryz.shCompact_ren := {
  mixed := by kernel_rfl
  f43 := ⟨Tryz.f99.name, by decide, Tryz.func99.trans (congrArg some (by kernel_rfl))⟩
  t0 := Tryz.underlying0
  a0 := Tryz.isAgg0
  z0 := Tryz.sizeOf0
  v0 := Tryz.zeroValue0
  t3 := Tryz.underlying3
  a3 := Tryz.isAgg3
  z3 := Tryz.sizeOf3
  v3 := Tryz.zeroValue3
  t4 := Tryz.underlying4
  a4 := Tryz.isAgg4
  z4 := Tryz.sizeOf4
  v4 := Tryz.zeroValue4
  t22 := Tryz.underlying23
  a22 := Tryz.isAgg23
  z22 := Tryz.sizeOf23
  v22 := Tryz.zeroValue23
  t23 := Tryz.underlying3
  a23 := Tryz.isAgg3
  z23 := Tryz.sizeOf3
  v23 := Tryz.zeroValue3
  i23 := by kernel_rfl }
end Go.Proofs
namespace Go.Proofs
open Go.Shelf
def Tryz.shDelete_ren : Go.Shelf.Ren := ⟨fun | 10 => 70 | 6 => 92 | n => n, fun | 22 => 23 | 23 => 3 | 25 => 66 | 3 => 3 | 4 => 4 | 0 => 0 | n => n, fun | n => n⟩
theorem Tryz.shDelete : Go.Proofs.SlLaysH.n10 Tryz.prog Tryz.shDelete_ren := {
  mixed := by kernel_rfl
  f6 := ⟨Tryz.f92.name, by decide, Tryz.func92.trans (congrArg some (by kernel_rfl))⟩
  f10 := ⟨Tryz.f70.name, by decide, Tryz.func70.trans (congrArg some (by kernel_rfl))⟩
  t0 := Tryz.underlying0
  a0 := Tryz.isAgg0
  z0 := Tryz.sizeOf0
  v0 := Tryz.zeroValue0
  t3 := Tryz.underlying3
  a3 := Tryz.isAgg3
  z3 := Tryz.sizeOf3
  v3 := Tryz.zeroValue3
  t4 := Tryz.underlying4
  a4 := Tryz.isAgg4
  z4 := Tryz.sizeOf4
  v4 := Tryz.zeroValue4
  t22 := Tryz.underlying23
  a22 := Tryz.isAgg23
  z22 := Tryz.sizeOf23
  v22 := Tryz.zeroValue23
  a23 := Tryz.isAgg3
  z23 := Tryz.sizeOf3
  t25 := Tryz.underlying66
  a25 := Tryz.isAgg66
  z25 := Tryz.sizeOf66
  v25 := Tryz.zeroValue66 }
def Tryz.shSortF_ren : Go.Shelf.Ren := ⟨fun | 6 => 95 | 15 => 123 | 14 => 122 | 28 => 156 | 29 => 157 | 20 => 148 | 21 => 149 | 22 => 150 | 23 => 151 | 24 => 152 | 25 => 153 | 26 => 154 | 27 => 155 | 46 => 172 | 47 => 173 | 48 => 174 | 49 => 175 | 50 => 176 | 57 => 191 | n => n, fun | 22 => 23 | 24 => 3 | 25 => 117 | 3 => 3 | 39 => 133 | 0 => 0 | 53 => 143 | 55 => 128 | 4 => 4 | 46 => 157 | 45 => 156 | 50 => 68 | 5 => 5 | 9 => 9 | 66 => 178 | 70 => 182 | 76 => 195 | 77 => 196 | n => n, fun | n => n⟩
theorem Tryz.shSortF : Go.Proofs.SlLaysF.n6 Tryz.prog Tryz.shSortF_ren := {
  mixed := by kernel_rfl
  f6 := ⟨Tryz.f95.name, by decide, Tryz.func95.trans (congrArg some (by kernel_rfl))⟩
  f14 := ⟨Tryz.f122.name, by decide, Tryz.func122.trans (congrArg some (by kernel_rfl))⟩
  f15 := Tryz.func123.trans (congrArg some (by kernel_rfl))
  f20 := ⟨Tryz.f148.name, by decide, Tryz.func148.trans (congrArg some (by kernel_rfl))⟩
  f21 := ⟨Tryz.f149.name, by decide, Tryz.func149.trans (congrArg some (by kernel_rfl))⟩
  f22 := ⟨Tryz.f150.name, by decide, Tryz.func150.trans (congrArg some (by kernel_rfl))⟩
  f23 := ⟨Tryz.f151.name, by decide, Tryz.func151.trans (congrArg some (by kernel_rfl))⟩
  f24 := ⟨Tryz.f152.name, by decide, Tryz.func152.trans (congrArg some (by kernel_rfl))⟩
  f25 := ⟨Tryz.f153.name, by decide, Tryz.func153.trans (congrArg some (by kernel_rfl))⟩
  f26 := ⟨Tryz.f154.name, by decide, Tryz.func154.trans (congrArg some (by kernel_rfl))⟩
  f27 := ⟨Tryz.f155.name, by decide, Tryz.func155.trans (congrArg some (by kernel_rfl))⟩
  f28 := Tryz.func156.trans (congrArg some (by kernel_rfl))
  f29 := Tryz.func157.trans (congrArg some (by kernel_rfl))
  f46 := ⟨Tryz.f172.name, by decide, Tryz.func172.trans (congrArg some (by kernel_rfl))⟩
  f47 := Tryz.func173.trans (congrArg some (by kernel_rfl))
  f48 := Tryz.func174.trans (congrArg some (by kernel_rfl))
  f49 := ⟨Tryz.f175.name, by decide, Tryz.func175.trans (congrArg some (by kernel_rfl))⟩
  f50 := ⟨Tryz.f176.name, by decide, Tryz.func176.trans (congrArg some (by kernel_rfl))⟩
  f57 := ⟨Tryz.f191.name, by decide, Tryz.func191.trans (congrArg some (by kernel_rfl))⟩
  t0 := Tryz.underlying0
  a0 := Tryz.isAgg0
  z0 := Tryz.sizeOf0
  v0 := Tryz.zeroValue0
  t3 := Tryz.underlying3
  a3 := Tryz.isAgg3
  z3 := Tryz.sizeOf3
  v3 := Tryz.zeroValue3
  t4 := Tryz.underlying4
  a4 := Tryz.isAgg4
  z4 := Tryz.sizeOf4
  v4 := Tryz.zeroValue4
  t5 := Tryz.underlying5
  a5 := Tryz.isAgg5
  z5 := Tryz.sizeOf5
  v5 := Tryz.zeroValue5
  t9 := Tryz.underlying9
  a9 := Tryz.isAgg9
  z9 := Tryz.sizeOf9
  v9 := Tryz.zeroValue9
  t22 := Tryz.underlying23
  a22 := Tryz.isAgg23
  z22 := Tryz.sizeOf23
  v22 := Tryz.zeroValue23
  a24 := Tryz.isAgg3
  z24 := Tryz.sizeOf3
  t25 := Tryz.underlying117
  a25 := Tryz.isAgg117
  z25 := Tryz.sizeOf117
  v25 := Tryz.zeroValue117
  t39 := Tryz.underlying133
  a39 := Tryz.isAgg133
  z39 := Tryz.sizeOf133
  v39 := Tryz.zeroValue133
  t45 := Tryz.underlying156
  a45 := Tryz.isAgg156
  z45 := Tryz.sizeOf156
  v45 := Tryz.zeroValue156
  t46 := Tryz.underlying157
  a46 := Tryz.isAgg157
  z46 := Tryz.sizeOf157
  v46 := Tryz.zeroValue157
  t50 := Tryz.underlying68
  a50 := Tryz.isAgg68
  z50 := Tryz.sizeOf68
  v50 := Tryz.zeroValue68
  t53 := Tryz.underlying143
  a53 := Tryz.isAgg143
  z53 := Tryz.sizeOf143
  v53 := Tryz.zeroValue143
  t55 := Tryz.underlying128
  a55 := Tryz.isAgg128
  z55 := Tryz.sizeOf128
  v55 := Tryz.zeroValue128
  t66 := Tryz.underlying178
  a66 := Tryz.isAgg178
  z66 := Tryz.sizeOf178
  v66 := Tryz.zeroValue178
  t70 := Tryz.underlying182
  a70 := Tryz.isAgg182
  z70 := Tryz.sizeOf182
  v70 := Tryz.zeroValue182
  t76 := Tryz.underlying195
  a76 := Tryz.isAgg195
  z76 := Tryz.sizeOf195
  v76 := Tryz.zeroValue195
  t77 := Tryz.underlying196
  a77 := Tryz.isAgg196
  z77 := Tryz.sizeOf196
  v77 := Tryz.zeroValue196 }
def Tryz.shGrow_ren : Go.Shelf.Ren := ⟨fun | 4 => 102 | n => n, fun | 22 => 23 | 25 => 3 | 3 => 3 | 4 => 4 | 9 => 9 | 20 => 20 | 0 => 0 | n => n, fun | n => n⟩
theorem Tryz.shGrow : Go.Proofs.Lays8.n4 Tryz.prog Tryz.shGrow_ren := {
  mixed := by kernel_rfl
  f4 := ⟨Tryz.f102.name, by decide, Tryz.func102.trans (congrArg some (by kernel_rfl))⟩
  t0 := Tryz.underlying0
  a0 := Tryz.isAgg0
  z0 := Tryz.sizeOf0
  v0 := Tryz.zeroValue0
  t3 := Tryz.underlying3
  a3 := Tryz.isAgg3
  z3 := Tryz.sizeOf3
  v3 := Tryz.zeroValue3
  t4 := Tryz.underlying4
  a4 := Tryz.isAgg4
  z4 := Tryz.sizeOf4
  v4 := Tryz.zeroValue4
  t9 := Tryz.underlying9
  a9 := Tryz.isAgg9
  z9 := Tryz.sizeOf9
  v9 := Tryz.zeroValue9
  t20 := Tryz.underlying20
  a20 := Tryz.isAgg20
  z20 := Tryz.sizeOf20
  v20 := Tryz.zeroValue20
  t22 := Tryz.underlying23
  a22 := Tryz.isAgg23
  z22 := Tryz.sizeOf23
  v22 := Tryz.zeroValue23 }
end Go.Proofs
namespace Go.Proofs.YtbpbndlgfiammaaGreatDoor
open Go.ChangeShapes Go.WideShapes Go.ChangeAt Go.RowKit Go.Joins Go.Deep
theorem own : ownKnob Tryz.prog.godebug = none := by kernel_rfl
theorem laidOut : laidOutB Tryz.prog = true := by kernel_rfl
abbrev InI64 (n : Int) : Prop := -9223372036854775808 ≤ n ∧ n ≤ 9223372036854775807
theorem i64_of_wf {n : Int} (h : (Lit.int .i64 n).wf = true) : InI64 n := by
  simp [Lit.wf] at h
  exact h
section
variable {H : Type} {enc : TypeId × Value → H} {P : Program} {w : World} {base : Nat} {spare : Nat → Bool}
theorem cells_rd {α : Type} {encV : α → Value} {a : Addr} {zs : List α} {len : Nat} {z : α} (hl : len ≤ zs.length) (hc : ∀ i, i < zs.length → w.cell? (a.add i) = some (encV (zs.getD i z))) : Rd encV (· < w.heap.size) w (some a) (zs.take len) := fun hn => by
  rw [List.length_take] at hn
  have h0 := hc 0 (by omega)
  obtain ⟨b, off, spot⟩ := a
  have hs : spot = none := by simpa [Addr.add] using World.cell?_spot h0
  subst hs
  refine ⟨b, off, rfl, ?_, fun j hj => ?_⟩
  · exact World.block_lt_of_cell? w _ (by simpa [Addr.add] using h0)
  · rw [List.length_take] at hj
    have := hc j (by omega)
    rw [add_mk] at this
    rw [this, List.getElem_take, List.getD_eq_getElem?_getD, List.getElem?_eq_getElem (by omega)]
    rfl
end
end Go.Proofs.YtbpbndlgfiammaaGreatDoor
