/- The chapter's examples hold: live. -/
import Derived.Test.YtiokflebeojokaaGreatDoorCnf14S
import Derived.Test.YtiokflebeojokaaGreatDoorLive14P
namespace Go.Proofs.YtiokflebeojokaaGreatDoor.En
open Go Go.RowKit
set_option linter.unusedVariables false
set_option linter.unusedSimpArgs false
set_option linter.unnecessarySimpa false
theorem str14 : ((strOfNums [112, 32, 99, 110, 102, 32, 51, 32, 50, 10, 49, 32, 45, 50, 32, 48, 10, 48, 10]).toList == (⟨#[112, 32, 99, 110, 102, 32, 51, 32, 50, 10, 49, 32, 45, 50, 32, 48, 10, 48, 10]⟩ : ByteArray).toList) = true := by
  rw [show strOfNums [112, 32, 99, 110, 102, 32, 51, 32, 50, 10, 49, 32, 45, 50, 32, 48, 10, 48, 10] = (⟨#[112, 32, 99, 110, 102, 32, 51, 32, 50, 10, 49, 32, 45, 50, 32, 48, 10, 48, 10]⟩ : ByteArray) from rfl]
  exact beq_self_eq_true _
def tyLv14 : List (Nat × TD) := [(3, ⟨1, false, [.int .i64 0], [], none, 8, false, 1, 1⟩),
  (4, ⟨1, false, [.bool false], [], none, 1, true, 0, 2⟩),
  (5, ⟨1, false, [.int .u8 0], [], none, 1, false, 2, 8⟩),
  (9, ⟨1, false, [.string ⟨#[]⟩], [], none, 16, false, 9, 9⟩),
  (22, ⟨1, false, [.slice none 0 0], [], some 25, 24, false, 0, 0⟩),
  (24, ⟨2, true, [.int .i64 0, .slice none 0 0], [(0, 3), (1, 22)], none, 32, false, 0, 6⟩),
  (25, ⟨1, false, [.slice none 0 0], [], some 3, 24, false, 0, 3⟩),
  (26, ⟨1, false, [.slice none 0 0], [], some 4, 24, false, 0, 0⟩),
  (32, ⟨1, false, [.int .i64 0], [], none, 8, false, 1, 1⟩),
  (41, ⟨1, false, [.slice none 0 0], [], some 5, 24, false, 0, 0⟩)]
theorem tyLv14_ok : AllTy Tryz.prog tyLv14 := ⟨⟨by kernel_rfl, by kernel_rfl⟩, ⟨by kernel_rfl, by kernel_rfl⟩, ⟨by kernel_rfl, by kernel_rfl⟩, ⟨by kernel_rfl, by kernel_rfl⟩, ⟨by kernel_rfl, by kernel_rfl⟩, ⟨by kernel_rfl, by kernel_rfl⟩, ⟨by kernel_rfl, by kernel_rfl⟩, ⟨by kernel_rfl, by kernel_rfl⟩, ⟨by kernel_rfl, by kernel_rfl⟩, ⟨by kernel_rfl, by kernel_rfl⟩, trivial⟩
abbrev lvG0 : Int × List (List Int) × Int := (Cn.getV (Cn.wordsV [112, 32, 99, 110, 102, 32, 51, 32, 50, 32, 49, 32, 48]))
abbrev lvG1 : Int × List (List Int) × Int := (Cn.getV (Cn.wordsV [99, 32, 120, 10, 112, 32, 99, 110, 102, 32, 51, 10, 50, 32, 49, 32, 45, 50, 32, 48, 32, 48]))
abbrev lvP1 : Bool := (((Cn.resE [1, 2] [(-1), 3] (1 : Int)) == 0) && ((Cn.resE [1, 2] [1, 3] (1 : Int)) == 140))
abbrev lvP2 : Bool := (lvP1 && ((Cn.chkV (3 : Int) [[1, (-2)], []]) == 0))
abbrev lvP3 : Bool := (lvP2 && ((lvG1.2.2) == 0))
abbrev lvP4 : Bool := (lvP3 && ((lvG0.2.2) == 11))
abbrev lvP5 : Bool := (lvP4 && ((decide ((Cn.normL [2, (-1), 2]) = [(-1), 2])) && (decide ((Cn.resL [1, 2] [(-1), 3] (1 : Int)) = [2, 3]))))
abbrev lvP6 : Bool := (lvP5 && (!(Cn.tautL [2, (-1), 2])))
abbrev lvP7 : Bool := (lvP6 && (Cn.tautL [1, (-1)]))
abbrev lvP8 : Bool := (lvP7 && ((strOfNums (if Cn.chkV (3 : Int) [[1, (-2)], []] = 0 then Cn.putB (3 : Int) [[1, (-2)], []] else [])).toList == (⟨#[112, 32, 99, 110, 102, 32, 51, 32, 50, 10, 49, 32, 45, 50, 32, 48, 10, 48, 10]⟩ : ByteArray).toList))
abbrev lvP9 : Bool := (lvP8 && (((3 : Int) == (lvG1.1)) && decide ([[1, (-2)], []] = (lvG1.2.1))))
abbrev lvP10 : Bool := (lvP9 && (Cn.holdsV ([] : List (Bool)) [1, (-2)]))
abbrev lvP11 : Bool := (lvP10 && (!(Cn.holdsV [false, false, true] [1, (-2)])))
abbrev lvP12 : Bool := (lvP11 && (!(Cn.valV (3 : Int) [[1, (-2)], []] ([] : List (Bool)))))
abbrev lvP13 : Bool := (lvP12 && (!([1].any fun x => !([2, 1].contains x))))
abbrev lvP14 : Bool := (lvP13 && (!(!([1].any fun x => !([(-1)].contains x)))))
abbrev lvP15 : Bool := (lvP14 && ((Cn.chkV (3 : Int) [[1, (-2)], []]) == 0))
abbrev lvP16 : Bool := (lvP15 && ((Cn.chkV (1 : Int) [[1, (-2)], []]) == 1))
def cx_live14 : Cx := ⟨tyLv14, [(14, (frzF (coeF [.ld (.ints [])] cNorm_σ))), (27, (frzF (coeF [.ld (.ints []), .ld (.ints []), .id] cResolve_σ))), (31, (frzF (coeF [.ld (.bytes [])] cGet_σ))), (17, (coeF [.agg [.id, .ld (.intss [])]] cCheck_σ)), (19, (coeF [.agg [.id, .ld (.intss [])], .agg [.id, .ld (.intss [])]] cSame_σ)), (21, (coeF [.ld (.ints []), .ld (.bools [])] cHolds_σ)), (23, (coeF [.agg [.id, .ld (.intss [])], .ld (.bools [])] cValue_σ)), (16, (coeF [.ld (.ints []), .ld (.ints [])] rInts_σ)), (29, sPut), (25, sSub)], false⟩
theorem cx_live14_ok : CxOk Tryz.prog cx_live14 := cx_ok tyLv14_ok ⟨((cNorm_sound.coe [.ld (.ints [])] rfl)).frz, ((cResolve_sound.coe [.ld (.ints []), .ld (.ints []), .id] rfl)).frz, ((cGet_sound.coe [.ld (.bytes [])] rfl)).frz, (cCheck_sound.coe [.agg [.id, .ld (.intss [])]] rfl), (cSame_sound.coe [.agg [.id, .ld (.intss [])], .agg [.id, .ld (.intss [])]] rfl), (cHolds_sound.coe [.ld (.ints []), .ld (.bools [])] rfl), (cValue_sound.coe [.agg [.id, .ld (.intss [])], .ld (.bools [])] rfl), (rInts_sound.coe [.ld (.ints []), .ld (.ints [])] rfl), sPut_sound, sSub_sound, trivial⟩
def live14_σ : CtF
  | [], [] => some (True, .bool true, [])
  | _, _ => none
theorem live14_sound : Sound Tryz.prog 12 live14_σ := by
 refine sound_mk (cx := cx_live14) (fn := Tryz.f12) Tryz.func12 (by kernel_rfl) rfl ?_
 intro w0 G0 args os p r outs hσ hp hm0 hd0
 have hcx : CxOk Tryz.prog cx_live14 := cx_live14_ok
 unfold live14_σ at hσ
 split at hσ
 ·
  skip
  simp only [Option.some.injEq, Prod.mk.injEq] at hσ
  obtain ⟨rfl, rfl, rfl⟩ := hσ
  obtain ⟨wW, wO, wm, wβ, wd⟩ := w0
  replace hm0 : wm = 0 := hm0
  subst hm0
  replace hd0 : wd = [] := hd0
  subst hd0
  refine ⟨by kernel_rfl, ?_⟩
  change Tri ⟨_, _, _, _, _, _⟩ [] [] _ _
  obtain ⟨hN1, hT1⟩ := Cn.lv1
  obtain ⟨hN2, hT2⟩ := Cn.lv2
  obtain ⟨hR3, hE3⟩ := Cn.lv3
  have hE4 := Cn.lv4
  obtain ⟨hC5, hC6⟩ := Cn.lv5
  have hP := Cn.lv6
  have hG := Cn.lv7
  have hG2 := Cn.lv8
  refine tri_seq ?_
  refine tri_regD hcx [] [] [] [] [] [] [] (by kernel_rfl) ?_ ?_
  ·
   exact az
  refine fin_then ?_
  refine tri_seq ?_
  refine tri_regD hcx [] [1, 2] [] [] [([2, (-1), 2].length ≤ 1000000)] [(1, .ints (Cn.normL [2, (-1), 2])), (2, .bool (Cn.tautL [2, (-1), 2]))] [] (by kernel_rfl) ?_ ?_
  ·
   refine (ap ?_ az)
   decide
  refine fin_then ?_
  refine tri_seq ?_
  refine tri_regD hcx [] [4] [1, 2] [] [([1, (-1)].length ≤ 1000000)] [(4, .bool (Cn.tautL [1, (-1)]))] [] (by kernel_rfl) ?_ ?_
  ·
   refine (ap ?_ az)
   decide
  refine fin_then ?_
  refine tri_seq ?_
  refine tri_regD hcx [] [5, 6] [4, 1, 2] [] [([1, 2].length ≤ 100000 ∧ [(-1), 3].length ≤ 100000 ∧ Fit (1 : Int))] [(5, .ints (Cn.resL [1, 2] [(-1), 3] (1 : Int))), (6, .int (Cn.resE [1, 2] [(-1), 3] (1 : Int)))] [] (by kernel_rfl) ?_ ?_
  ·
   refine (ap ?_ az)
   decide
  refine fin_then ?_
  refine tri_seq ?_
  refine tri_regD hcx [] [8] [5, 6, 4, 1, 2] [] [([1, 2].length ≤ 100000 ∧ [1, 3].length ≤ 100000 ∧ Fit (1 : Int))] [(8, .int (Cn.resE [1, 2] [1, 3] (1 : Int)))] [] (by kernel_rfl) ?_ ?_
  ·
   refine (ap ?_ az)
   decide
  refine fin_then ?_
  refine tri_seq ?_
  refine tri_regD hcx [(1004, .to 609)] [9] [8, 5, 6, 4, 1, 2] [] [] [(9, .loc 609 0)] [(609, .box [.int 3, .intss [[1, (-2)], []]])] (by kernel_rfl) ?_ ?_
  ·
   exact az
  refine fin_then ?_
  refine tri_seq ?_
  refine tri_regD hcx [] [10, 11] [9, 8, 5, 6, 4, 1, 2] [609] [([[1, (-2)], []].length ≤ 1000000 ∧ (∀ l ∈ [[1, (-2)], []], l.length ≤ 1000000000) ∧ Cn.sizeL [[1, (-2)], []] ≤ 1000000000)] [(10, .bytes (if Cn.chkV (3 : Int) [[1, (-2)], []] = 0 then Cn.putB (3 : Int) [[1, (-2)], []] else [])), (11, .int (Cn.chkV (3 : Int) [[1, (-2)], []]))] [] (by kernel_rfl) ?_ ?_
  ·
   refine (ap ?_ az)
   decide
  refine fin_then ?_
  refine tri_seq ?_
  refine tri_regD hcx [(1006, .to 612)] [12, 13] [10, 11, 9, 8, 5, 6, 4, 1, 2] [609] [(0 < [99, 32, 120, 10, 112, 32, 99, 110, 102, 32, 51, 10, 50, 32, 49, 32, 45, 50, 32, 48, 32, 48].length), ([99, 32, 120, 10, 112, 32, 99, 110, 102, 32, 51, 10, 50, 32, 49, 32, 45, 50, 32, 48, 32, 48].length ≤ 100000 ∧ Cn.isBytes [99, 32, 120, 10, 112, 32, 99, 110, 102, 32, 51, 10, 50, 32, 49, 32, 45, 50, 32, 48, 32, 48])] [(12, .loc 612 0), (13, .int (lvG1.2.2))] [(612, .box [.int (lvG1.1), .intss (lvG1.2.1)])] (by kernel_rfl) ?_ ?_
  ·
   refine (ap ?_ (ap ?_ az))
   all_goals
    first | decide | exact ⟨by decide, by unfold Cn.isBytes; decide⟩
  refine fin_then ?_
  refine tri_seq ?_
  refine tri_regD hcx [] [15] [12, 13, 10, 11, 9, 8, 5, 6, 4, 1, 2] [612, 609] [(0 < [112, 32, 99, 110, 102, 32, 51, 32, 50, 32, 49, 32, 48].length), ([112, 32, 99, 110, 102, 32, 51, 32, 50, 32, 49, 32, 48].length ≤ 100000 ∧ Cn.isBytes [112, 32, 99, 110, 102, 32, 51, 32, 50, 32, 49, 32, 48])] [(15, .int (lvG0.2.2))] [] (by kernel_rfl) ?_ ?_
  ·
   refine (ap ?_ (ap ?_ az))
   all_goals
    first | decide | exact ⟨by decide, by unfold Cn.isBytes; decide⟩
  refine fin_then ?_
  refine tri_seq ?_
  refine tri_regD hcx [] [16] [12, 10, 9, 5, 4, 1, 2] [612, 609] [(((Cn.resE [1, 2] [(-1), 3] (1 : Int)) == 0) = true → (((Cn.resE [1, 2] [(-1), 3] (1 : Int)) == 0) = true)), (((Cn.resE [1, 2] [(-1), 3] (1 : Int)) == 0) = true → ((Cn.resE [1, 2] [(-1), 3] (1 : Int)) == 0) = true), (lvP1 = true → (lvP1 = true)), (lvP1 = true → lvP1 = true), (lvP2 = true → (lvP2 = true)), (lvP2 = true → lvP2 = true), (lvP3 = true → (lvP3 = true)), (lvP3 = true → lvP3 = true)] [(16, .bool lvP4)] [] (by kernel_rfl) ?_ ?_
  ·
   refine (ap ?_ (ap (by exact id) (ap ?_ (ap (by exact id) (ap ?_ (ap (by exact id) (ap ?_ (ap (by exact id) az))))))))
   all_goals
    decide
  refine fin_then ?_
  refine tri_seq ?_
  refine tri_regD hcx [] [17] [16, 12, 10, 9, 4, 2] [612, 609] [((Cn.normL [2, (-1), 2]).length ≤ maxLen), ((decide ((Cn.normL [2, (-1), 2]) = [(-1), 2])) = true → ((decide ((Cn.normL [2, (-1), 2]) = [(-1), 2])) = true)), ((decide ((Cn.normL [2, (-1), 2]) = [(-1), 2])) = true → ((decide ((Cn.normL [2, (-1), 2]) = [(-1), 2])) = true)), ((decide ((Cn.normL [2, (-1), 2]) = [(-1), 2])) = true → ((Cn.resL [1, 2] [(-1), 3] (1 : Int)).length ≤ maxLen)), ((decide ((Cn.normL [2, (-1), 2]) = [(-1), 2])) = true → (decide ((Cn.normL [2, (-1), 2]) = [(-1), 2])) = true)] [(17, .bool ((decide ((Cn.normL [2, (-1), 2]) = [(-1), 2])) && (decide ((Cn.resL [1, 2] [(-1), 3] (1 : Int)) = [2, 3]))))] [] (by kernel_rfl) ?_ ?_
  ·
   refine (ap ?_ (ap ?_ (ap ?_ (ap ?_ (ap (by exact id) az)))))
   all_goals
    first | exact id | (simp only [lvG0, lvG1, lvP1, lvP2, lvP3, lvP4, lvP5, lvP6, lvP7, lvP8, lvP9, lvP10, lvP11, lvP12, lvP13, lvP14, lvP15, lvP16, hN1, hT1, hN2, hT2, hR3, hE3, hE4, hC5, hC6, hP, hG, hG2]; decide)
  refine fin_then ?_
  refine tri_seq ?_
  refine tri_regD hcx [] [0] [] [] [(lvP4 = true → lvP4 = true), (lvP5 = true → (lvP5 = true)), (lvP5 = true → lvP5 = true), (lvP6 = true → lvP6 = true), (lvP7 = true → (lvP7 = true)), (lvP7 = true → (lvP7 = true)), (lvP7 = true → lvP7 = true), (lvP8 = true → (lvP8 = true)), (lvP8 = true → (lvP8 = true)), (lvP8 = true → ([[1, (-2)], []].length ≤ maxLen ∧ (∀ l ∈ [[1, (-2)], []], l.length ≤ maxLen))), (lvP8 = true → lvP8 = true), (lvP9 = true → (lvP9 = true)), (lvP9 = true → ([1, (-2)].length ≤ maxLen ∧ ([] : List (Bool)).length ≤ maxLen)), (lvP9 = true → lvP9 = true), (lvP10 = true → (lvP10 = true)), (lvP10 = true → (lvP10 = true)), (lvP10 = true → ([1, (-2)].length ≤ maxLen ∧ [false, false, true].length ≤ maxLen)), (lvP10 = true → (lvP10 = true)), (lvP10 = true → lvP10 = true), (lvP11 = true → (lvP11 = true)), (lvP11 = true → ([[1, (-2)], []].length ≤ maxLen ∧ (∀ l ∈ [[1, (-2)], []], l.length ≤ maxLen) ∧ ([] : List (Bool)).length ≤ maxLen)), (lvP11 = true → (lvP11 = true)), (lvP11 = true → lvP11 = true), (lvP12 = true → (lvP12 = true)), (lvP12 = true → (lvP12 = true)), (lvP12 = true → ([1].length ≤ maxLen ∧ [2, 1].length ≤ maxLen)), (lvP12 = true → lvP12 = true), (lvP13 = true → (lvP13 = true)), (lvP13 = true → (lvP13 = true)), (lvP13 = true → ([1].length ≤ maxLen ∧ [(-1)].length ≤ maxLen)), (lvP13 = true → (lvP13 = true)), (lvP13 = true → lvP13 = true), (lvP14 = true → (lvP14 = true)), (lvP14 = true → ([[1, (-2)], []].length ≤ maxLen ∧ ∀ l ∈ [[1, (-2)], []], l.length ≤ maxLen)), (lvP14 = true → (lvP14 = true)), (lvP14 = true → lvP14 = true), (lvP15 = true → (lvP15 = true)), (lvP15 = true → (lvP15 = true)), (lvP15 = true → (lvP15 = true)), (lvP15 = true → ([[1, (-2)], []].length ≤ maxLen ∧ ∀ l ∈ [[1, (-2)], []], l.length ≤ maxLen)), (lvP15 = true → (lvP15 = true)), (lvP15 = true → lvP15 = true)] [(0, .bool lvP16)] [] (by kernel_rfl) ?_ ?_
  ·
   refine (ap (by exact id) (ap ?_ (ap (by exact id) (ap (by exact id) (ap ?_ (ap ?_ (ap (by exact id) (ap ?_ (ap ?_ (ap ?_ (ap (by exact id) (ap ?_ (ap ?_ (ap (by exact id) (ap ?_ (ap ?_ (ap ?_ (ap ?_ (ap (by exact id) (ap ?_ (ap ?_ (ap ?_ (ap (by exact id) (ap ?_ (ap ?_ (ap ?_ (ap (by exact id) (ap ?_ (ap ?_ (ap ?_ (ap ?_ (ap (by exact id) (ap ?_ (ap ?_ (ap ?_ (ap (by exact id) (ap ?_ (ap ?_ (ap ?_ (ap ?_ (ap ?_ (ap (by exact id) az))))))))))))))))))))))))))))))))))))))))))
   all_goals
    first | exact id | (intro _; decide)
  refine fin_then ?_
  refine tri_ret ?_
  exact fin_ret [] rfl rfl trivial hcx (avs := [.bool lvP16]) (by kernel_rfl) (congrArg AV.bool (show lvP16 = true from (by simp only [lvG0, lvG1, lvP1, lvP2, lvP3, lvP4, lvP5, lvP6, lvP7, lvP8, lvP9, lvP10, lvP11, lvP12, lvP13, lvP14, lvP15, lvP16, hN1, hT1, hN2, hT2, hR3, hE3, hE4, hC5, hC6, hP, hG, hG2, if_true, str14]; decide))) [] rfl
 ·
  cases hσ
end Go.Proofs.YtiokflebeojokaaGreatDoor.En
