/- live and few of the laws of layer 11, in the reader's words. -/
import Derived.Test.YtlhjliigfecihaaDoorLaw11A
import Derived.Test.YtlhjliigfecihaaDoorFlatT
import Derived.Test.YtlhjliigfecihaaDoorWeighX
import Derived.Test.YtlhjliigfecihaaDoorTreeZ
namespace Go.Proofs.YtlhjliigfecihaaDoor.En
open Go Go.RowKit
set_option linter.unusedVariables false
set_option linter.unusedSimpArgs false
set_option linter.unnecessarySimpa false
def tyL11b : List (Nat × TD) := [(3, ⟨1, false, [.int .i64 0], [], none, 8, false, 1, 1⟩),
  (4, ⟨1, false, [.bool false], [], none, 1, true, 0, 2⟩),
  (22, ⟨1, false, [.slice none 0 0], [], some 24, 24, false, 0, 0⟩),
  (24, ⟨4, true, [.int .i64 0, .int .i64 0, .int .i64 0, .slice none 0 0], [(0, 3), (1, 3), (2, 3), (3, 22)], none, 48, false, 0, 4⟩),
  (25, ⟨1, false, [.slice none 0 0], [], some 4, 24, false, 0, 0⟩),
  (31, ⟨1, false, [.int .i64 0], [], none, 8, false, 1, 1⟩),
  (36, ⟨1, false, [.slice none 0 0], [], some 3, 24, false, 0, 3⟩)]
theorem tyL11b_ok : AllTy Tryd.prog tyL11b := ⟨⟨by kernel_rfl, by kernel_rfl⟩, ⟨by kernel_rfl, by kernel_rfl⟩, ⟨by kernel_rfl, by kernel_rfl⟩, ⟨by kernel_rfl, by kernel_rfl⟩, ⟨by kernel_rfl, by kernel_rfl⟩, ⟨by kernel_rfl, by kernel_rfl⟩, ⟨by kernel_rfl, by kernel_rfl⟩, trivial⟩
abbrev lvA : List Tree := [(Tree.node 2 (1 : Int) 0 []), (Tree.node (4 : Int) 0 (0 : Int) [(Tree.node 2 (2 : Int) 0 []), (Tree.node 2 (3 : Int) 0 [])]), (Tree.node 1 (1 : Int) 0 [])]
abbrev lvB : List Tree := [(Tree.node 2 (1 : Int) 0 []), (Tree.node 2 (2 : Int) 0 []), (Tree.node 1 (1 : Int) 0 [])]
abbrev lvD : List Tree := [(Tree.node 2 (1 : Int) 0 []), (Tree.node 2 (2 : Int) 0 []), (Tree.node 2 (3 : Int) 0 [])]
abbrev lvC : List Tree := [(Tree.node 2 (1 : Int) 0 []), (Tree.node 2 (2 : Int) 0 [])]
abbrev lvN : List Tree := [Tree.node (3 : Int) (0 : Int) (0 : Int) [Tree.node (2 : Int) (1 : Int) (0 : Int) []]]
abbrev lsN : Tree := (Fl.simN (3 : Int) (0 : Int) (0 : Int) lvN)
abbrev lsA : Tree := (Fl.simN (4 : Int) (0 : Int) (0 : Int) lvA)
abbrev lsB : Tree := (Fl.simN (6 : Int) (0 : Int) (2 : Int) lvB)
abbrev lsC : Tree := (Fl.simN (6 : Int) (0 : Int) (2 : Int) lvC)
abbrev lvS : List Int := (Fl.setI (Fl.varsT (.node (4 : Int) (0 : Int) (0 : Int) lvA)))
abbrev leN : Bool := (Fl.sameB (.node (lsN.kind) (lsN.v) (lsN.k) (lsN.l)) (.node (2 : Int) (1 : Int) (0 : Int) []))
abbrev leA : Bool := (Fl.sameB (.node (lsA.kind) (lsA.v) (lsA.k) (lsA.l)) (.node (4 : Int) (0 : Int) (0 : Int) lvD))
abbrev leB : Bool := (Fl.sameB (.node (lsB.kind) (lsB.v) (lsB.k) (lsB.l)) (.node (5 : Int) (0 : Int) (0 : Int) lvC))
abbrev leC : Bool := (Fl.sameB (.node (lsC.kind) (lsC.v) (lsC.k) (lsC.l)) (.node (4 : Int) (0 : Int) (0 : Int) lvC))
def cx_rFew : Cx := ⟨tyL11b, [(25, lV_σ), (26, lConst_σ), (21, (coeF [.id, .id, .ld (.trees [])] lOf_σ)), (20, (coeF [.agg [.id, .id, .id, .ld (.trees [])]] lNot_σ)), (15, (coeF [.agg [.id, .id, .id, .ld (.trees [])]] fSimple_σ)), (27, (coeF [.agg [.id, .id, .id, .ld (.trees [])], .agg [.id, .id, .id, .ld (.trees [])]] fSame_τ)), (12, (coeF [.agg [.id, .id, .id, .ld (.trees [])], .ld (.bools [])] fVal_τ)), (24, (coeF [.agg [.id, .id, .id, .ld (.trees [])]] fSize_σ)), (17, (coeF [.agg [.id, .id, .id, .ld (.trees [])], .id] fChk_σ)), (23, (coeF [.agg [.id, .id, .id, .ld (.trees [])]] fVars_σ)), (36, (coeF [.agg [.id, .id, .id, .ld (.trees [])], .id] rWeigh))]⟩
theorem cx_rFew_ok : CxOk Tryd.prog cx_rFew := cx_ok tyL11b_ok ⟨lV_sound, lConst_sound, (lOf_sound.coe [.id, .id, .ld (.trees [])] rfl), (lNot_sound.coe [.agg [.id, .id, .id, .ld (.trees [])]] rfl), (fSimple_sound.coe [.agg [.id, .id, .id, .ld (.trees [])]] rfl), (fSame_sound.coe [.agg [.id, .id, .id, .ld (.trees [])], .agg [.id, .id, .id, .ld (.trees [])]] rfl), (fVal_sound.coe [.agg [.id, .id, .id, .ld (.trees [])], .ld (.bools [])] rfl), (fSize_sound.coe [.agg [.id, .id, .id, .ld (.trees [])]] rfl), (fChk_sound.coe [.agg [.id, .id, .id, .ld (.trees [])], .id] rfl), (fVars_sound.coe [.agg [.id, .id, .id, .ld (.trees [])]] rfl), (rWeigh_sound.coe [.agg [.id, .id, .id, .ld (.trees [])], .id] rfl), trivial⟩
def rFew_σ : CtF
  | [.agg [.im (.val (.int .i64 q)), .im (.val (.int .i64 v)), .im (.val (.int .i64 k)), .im (.ls (.trees l))]], [] => some (True, .bool (Fl.fewT l), [])
  | _, _ => none
theorem rFew_sound : Sound Tryd.prog 19 rFew_σ := by
 refine sound_mk (cx := cx_rFew) (fn := Tryd.f19) Tryd.func19 (by kernel_rfl) rfl ?_
 intro w0 G0 args os p r outs hσ hp hm0 hd0
 have hcx : CxOk Tryd.prog cx_rFew := cx_rFew_ok
 unfold rFew_σ at hσ
 split at hσ
 ·
  rename_i q v k l
  simp only [Option.some.injEq, Prod.mk.injEq] at hσ
  obtain ⟨rfl, rfl, rfl⟩ := hσ
  obtain ⟨wW, wO, wm, wβ, wd⟩ := w0
  replace hm0 : wm = 0 := hm0
  subst hm0
  replace hd0 : wd = [] := hd0
  subst hd0
  refine ⟨by kernel_rfl, ?_⟩
  change Tri ⟨_, _, _, _, _, _⟩ [(0, .agg [.int q, .int v, .int k, .trees l])] [] _ _
  refine tri_seq ?_
  refine tri_regD hcx [(1000, .frz)] [1] [] [] [] [(1, .pto [.int q, .int v, .int k, .ls (.trees l)])] [] (by kernel_rfl) ?_ ?_
  ·
   exact az
  refine fin_then ?_
  refine tri_seq ?_
  refine tri_regD hcx [] [2] [] [] [(True)] [(2, .bool (decide ((Fl.weighL (400 : Int) 1 l) ≤ 400)))] [] (by kernel_rfl) ?_ ?_
  ·
   refine (ap ?_ az)
   first | exact True.intro | exact hp
  refine fin_then ?_
  refine tri_ret ?_
  exact fin_ret [] rfl rfl trivial hcx (avs := [.bool (decide ((Fl.weighL (400 : Int) 1 l) ≤ 400))]) (by kernel_rfl) (congrArg AV.bool (show (decide ((Fl.weighL (400 : Int) 1 l) ≤ 400)) = (Fl.fewT l) from (by rfl))) [] rfl
 ·
  cases hσ
def cx_lFew : Cx := ⟨tyL11b, [(25, lV_σ), (26, lConst_σ), (21, (coeF [.id, .id, .ld (.trees [])] lOf_σ)), (20, (coeF [.agg [.id, .id, .id, .ld (.trees [])]] lNot_σ)), (15, (coeF [.agg [.id, .id, .id, .ld (.trees [])]] fSimple_σ)), (27, (coeF [.agg [.id, .id, .id, .ld (.trees [])], .agg [.id, .id, .id, .ld (.trees [])]] fSame_τ)), (12, (coeF [.agg [.id, .id, .id, .ld (.trees [])], .ld (.bools [])] fVal_τ)), (24, (coeF [.agg [.id, .id, .id, .ld (.trees [])]] fSize_σ)), (17, (coeF [.agg [.id, .id, .id, .ld (.trees [])], .id] fChk_σ)), (23, (coeF [.agg [.id, .id, .id, .ld (.trees [])]] fVars_σ)), (36, (coeF [.agg [.id, .id, .id, .ld (.trees [])], .id] rWeigh)), (19, (coeF [.agg [.id, .id, .id, .ld (.trees [])]] rFew_σ))]⟩
theorem cx_lFew_ok : CxOk Tryd.prog cx_lFew := cx_ok tyL11b_ok ⟨lV_sound, lConst_sound, (lOf_sound.coe [.id, .id, .ld (.trees [])] rfl), (lNot_sound.coe [.agg [.id, .id, .id, .ld (.trees [])]] rfl), (fSimple_sound.coe [.agg [.id, .id, .id, .ld (.trees [])]] rfl), (fSame_sound.coe [.agg [.id, .id, .id, .ld (.trees [])], .agg [.id, .id, .id, .ld (.trees [])]] rfl), (fVal_sound.coe [.agg [.id, .id, .id, .ld (.trees [])], .ld (.bools [])] rfl), (fSize_sound.coe [.agg [.id, .id, .id, .ld (.trees [])]] rfl), (fChk_sound.coe [.agg [.id, .id, .id, .ld (.trees [])], .id] rfl), (fVars_sound.coe [.agg [.id, .id, .id, .ld (.trees [])]] rfl), (rWeigh_sound.coe [.agg [.id, .id, .id, .ld (.trees [])], .id] rfl), (rFew_sound.coe [.agg [.id, .id, .id, .ld (.trees [])]] rfl), trivial⟩
def lFew_σ : CtF
  | [.agg [.im (.val (.int .i64 q)), .im (.val (.int .i64 v)), .im (.val (.int .i64 k)), .im (.ls (.trees l))], .im (.ls (.bools a))], [] => some (a.length ≤ maxLen, .bool (Fl.fewT l && decide ((a.length : Int) ≤ 1000)), [])
  | _, _ => none
theorem lFew_sound : Sound Tryd.prog 11 lFew_σ := by
 refine sound_mk (cx := cx_lFew) (fn := Tryd.f11) Tryd.func11 (by kernel_rfl) rfl ?_
 intro w0 G0 args os p r outs hσ hp hm0 hd0
 have hcx : CxOk Tryd.prog cx_lFew := cx_lFew_ok
 unfold lFew_σ at hσ
 split at hσ
 ·
  rename_i q v k l a
  simp only [Option.some.injEq, Prod.mk.injEq] at hσ
  obtain ⟨rfl, rfl, rfl⟩ := hσ
  obtain ⟨wW, wO, wm, wβ, wd⟩ := w0
  replace hm0 : wm = 0 := hm0
  subst hm0
  replace hd0 : wd = [] := hd0
  subst hd0
  refine ⟨by kernel_rfl, ?_⟩
  change Tri ⟨_, _, _, _, _, _⟩ [(0, .agg [.int q, .int v, .int k, .trees l]), (1, .bools a)] [] _ _
  refine tri_seq ?_
  refine tri_regD hcx [(1000, .frz)] [2] [1] [] [] [(2, .pto [.int q, .int v, .int k, .ls (.trees l)])] [] (by kernel_rfl) ?_ ?_
  ·
   exact az
  refine fin_then ?_
  refine tri_seq ?_
  refine tri_regD hcx [] [4] [] [] [(True), ((Fl.fewT l) = true → ((Fl.fewT l) = true)), ((Fl.fewT l) = true → ((Fl.fewT l) = true)), ((Fl.fewT l) = true → (Fl.fewT l) = true)] [(4, .bool ((Fl.fewT l) && (decide ((a.length : Int) ≤ 1000))))] [] (by kernel_rfl) ?_ ?_
  ·
   refine (ap ?_ (ap ?_ (ap ?_ (ap (by exact id) az))))
   all_goals
    first | exact True.intro | exact (fun _ => True.intro) | exact (fun h => h) | exact hp
  refine fin_then ?_
  refine tri_ret ?_
  exact fin_ret [] rfl rfl trivial hcx (avs := [.bool ((Fl.fewT l) && (decide ((a.length : Int) ≤ 1000)))]) (by kernel_rfl) (congrArg AV.bool (show ((Fl.fewT l) && (decide ((a.length : Int) ≤ 1000))) = (Fl.fewT l && decide ((a.length : Int) ≤ 1000)) from (by rfl))) [] rfl
 ·
  cases hσ
def cx_lLive : Cx := ⟨tyL11b, [(25, lV_σ), (26, lConst_σ), (21, (coeF [.id, .id, .ld (.trees [])] lOf_σ)), (20, (coeF [.agg [.id, .id, .id, .ld (.trees [])]] lNot_σ)), (15, (coeF [.agg [.id, .id, .id, .ld (.trees [])]] fSimple_σ)), (27, (coeF [.agg [.id, .id, .id, .ld (.trees [])], .agg [.id, .id, .id, .ld (.trees [])]] fSame_τ)), (12, (coeF [.agg [.id, .id, .id, .ld (.trees [])], .ld (.bools [])] fVal_τ)), (24, (coeF [.agg [.id, .id, .id, .ld (.trees [])]] fSize_σ)), (17, (coeF [.agg [.id, .id, .id, .ld (.trees [])], .id] fChk_σ)), (23, (coeF [.agg [.id, .id, .id, .ld (.trees [])]] fVars_σ)), (36, (coeF [.agg [.id, .id, .id, .ld (.trees [])], .id] rWeigh)), (19, (coeF [.agg [.id, .id, .id, .ld (.trees [])]] rFew_σ)), (11, (coeF [.agg [.id, .id, .id, .ld (.trees [])], .ld (.bools [])] lFew_σ))]⟩
theorem cx_lLive_ok : CxOk Tryd.prog cx_lLive := cx_ok tyL11b_ok ⟨lV_sound, lConst_sound, (lOf_sound.coe [.id, .id, .ld (.trees [])] rfl), (lNot_sound.coe [.agg [.id, .id, .id, .ld (.trees [])]] rfl), (fSimple_sound.coe [.agg [.id, .id, .id, .ld (.trees [])]] rfl), (fSame_sound.coe [.agg [.id, .id, .id, .ld (.trees [])], .agg [.id, .id, .id, .ld (.trees [])]] rfl), (fVal_sound.coe [.agg [.id, .id, .id, .ld (.trees [])], .ld (.bools [])] rfl), (fSize_sound.coe [.agg [.id, .id, .id, .ld (.trees [])]] rfl), (fChk_sound.coe [.agg [.id, .id, .id, .ld (.trees [])], .id] rfl), (fVars_sound.coe [.agg [.id, .id, .id, .ld (.trees [])]] rfl), (rWeigh_sound.coe [.agg [.id, .id, .id, .ld (.trees [])], .id] rfl), (rFew_sound.coe [.agg [.id, .id, .id, .ld (.trees [])]] rfl), (lFew_sound.coe [.agg [.id, .id, .id, .ld (.trees [])], .ld (.bools [])] rfl), trivial⟩
def lLive_σ : CtF
  | [], [] => some (True, .bool true, [])
  | _, _ => none
theorem lLive_sound : Sound Tryd.prog 10 lLive_σ := by
 refine sound_mk (cx := cx_lLive) (fn := Tryd.f10) Tryd.func10 (by kernel_rfl) rfl ?_
 intro w0 G0 args os p r outs hσ hp hm0 hd0
 have hcx : CxOk Tryd.prog cx_lLive := cx_lLive_ok
 unfold lLive_σ at hσ
 split at hσ
 ·
  skip
  simp only [Option.some.injEq, Prod.mk.injEq] at hσ
  obtain ⟨rfl, rfl, rfl⟩ := hσ
  obtain ⟨wW, wO, wm, wβ, wd⟩ := w0
  replace hm0 : wm = 0 := hm0
  subst hm0
  replace hd0 : wd = [] := hd0
  subst hd0
  refine ⟨by kernel_rfl, ?_⟩
  change Tri ⟨_, _, _, _, _, _⟩ [] [] _ _
  have hV : lvS = [1, 2, 3] := Fl.live_vars
  refine tri_seq ?_
  refine tri_regD hcx [] [] [] [] [] [] [] (by kernel_rfl) ?_ ?_
  ·
   exact az
  refine fin_then ?_
  refine tri_seq ?_
  refine tri_regD hcx [(1008, .to 601)] [1] [] [] [(True), (True), (True), (True), (True), (True)] [(1, .loc 601 0)] [(601, .box [.int (4 : Int), .int 0, .int (0 : Int), .trees lvA])] (by kernel_rfl) ?_ ?_
  ·
   refine (ap ?_ (ap ?_ (ap ?_ (ap ?_ (ap ?_ (ap ?_ az))))))
   all_goals
    first | (intro _; rw [hV]; decide) | exact True.intro | exact (fun _ => True.intro) | exact id | (intro h; exact h) | exact (fun _ => ⟨of_decide_eq_true (by kernel_rfl), Fl.lensL_size (of_decide_eq_true (by kernel_rfl)), of_decide_eq_true (by kernel_rfl)⟩) | exact (fun _ => ⟨of_decide_eq_true (by kernel_rfl), Fl.lensL_size (of_decide_eq_true (by kernel_rfl))⟩) | exact ⟨of_decide_eq_true (by kernel_rfl), Fl.lensL_size (of_decide_eq_true (by kernel_rfl)), of_decide_eq_true (by kernel_rfl)⟩ | exact ⟨of_decide_eq_true (by kernel_rfl), Fl.lensL_size (of_decide_eq_true (by kernel_rfl))⟩ | exact (fun _ => of_decide_eq_true (by kernel_rfl)) | exact of_decide_eq_true (by kernel_rfl) | done
  refine fin_then ?_
  refine tri_seq ?_
  refine tri_regD hcx [(1005, .to 602)] [2] [1] [601] [(True), (True), (True), (True)] [(2, .loc 602 0)] [(602, .box [.int (6 : Int), .int 0, .int (2 : Int), .trees lvB])] (by kernel_rfl) ?_ ?_
  ·
   refine (ap ?_ (ap ?_ (ap ?_ (ap ?_ az))))
   all_goals
    first | (intro _; rw [hV]; decide) | exact True.intro | exact (fun _ => True.intro) | exact id | (intro h; exact h) | exact (fun _ => ⟨of_decide_eq_true (by kernel_rfl), Fl.lensL_size (of_decide_eq_true (by kernel_rfl)), of_decide_eq_true (by kernel_rfl)⟩) | exact (fun _ => ⟨of_decide_eq_true (by kernel_rfl), Fl.lensL_size (of_decide_eq_true (by kernel_rfl))⟩) | exact ⟨of_decide_eq_true (by kernel_rfl), Fl.lensL_size (of_decide_eq_true (by kernel_rfl)), of_decide_eq_true (by kernel_rfl)⟩ | exact ⟨of_decide_eq_true (by kernel_rfl), Fl.lensL_size (of_decide_eq_true (by kernel_rfl))⟩ | exact (fun _ => of_decide_eq_true (by kernel_rfl)) | exact of_decide_eq_true (by kernel_rfl) | done
  refine fin_then ?_
  refine tri_seq ?_
  refine tri_regD hcx [(1004, .to 603)] [3] [2, 1] [602, 601] [(True), (True), (True)] [(3, .loc 603 0)] [(603, .box [.int (6 : Int), .int 0, .int (2 : Int), .trees lvC])] (by kernel_rfl) ?_ ?_
  ·
   refine (ap ?_ (ap ?_ (ap ?_ az)))
   all_goals
    first | (intro _; rw [hV]; decide) | exact True.intro | exact (fun _ => True.intro) | exact id | (intro h; exact h) | exact (fun _ => ⟨of_decide_eq_true (by kernel_rfl), Fl.lensL_size (of_decide_eq_true (by kernel_rfl)), of_decide_eq_true (by kernel_rfl)⟩) | exact (fun _ => ⟨of_decide_eq_true (by kernel_rfl), Fl.lensL_size (of_decide_eq_true (by kernel_rfl))⟩) | exact ⟨of_decide_eq_true (by kernel_rfl), Fl.lensL_size (of_decide_eq_true (by kernel_rfl)), of_decide_eq_true (by kernel_rfl)⟩ | exact ⟨of_decide_eq_true (by kernel_rfl), Fl.lensL_size (of_decide_eq_true (by kernel_rfl))⟩ | exact (fun _ => of_decide_eq_true (by kernel_rfl)) | exact of_decide_eq_true (by kernel_rfl) | done
  refine fin_then ?_
  refine tri_seq ?_
  refine tri_regD hcx [] [4] [3, 2, 1] [603, 602, 601] [(True), (True), (True), (lvN.length ≤ 2932031007317 ∧ Fl.lensL lvN ∧ Fl.sizeL lvN ≤ 1000000), (True), ((lsN.l).length ≤ 2932031007317 ∧ Fl.lensL (lsN.l)), (leN = true → (leN = true)), (leN = true → (lvA.length ≤ 2932031007317 ∧ Fl.lensL lvA ∧ Fl.sizeL lvA ≤ 1000000)), (leN = true → (True)), (leN = true → (True)), (leN = true → (True)), (leN = true → (leN = true)), (leN = true → (leN = true)), (leN = true → (leN = true)), (leN = true → (leN = true)), (leN = true → (True)), (leN = true → (leN = true)), (leN = true → (leN = true)), (leN = true → ((lsA.l).length ≤ 2932031007317 ∧ Fl.lensL (lsA.l))), (leN = true → leN = true), ((leN && leA) = true → ((leN && leA) = true)), ((leN && leA) = true → (lvB.length ≤ 2932031007317 ∧ Fl.lensL lvB ∧ Fl.sizeL lvB ≤ 1000000)), ((leN && leA) = true → (True)), ((leN && leA) = true → (True)), ((leN && leA) = true → ((leN && leA) = true)), ((leN && leA) = true → ((leN && leA) = true)), ((leN && leA) = true → ((leN && leA) = true)), ((leN && leA) = true → (True)), ((leN && leA) = true → ((leN && leA) = true)), ((leN && leA) = true → ((leN && leA) = true)), ((leN && leA) = true → ((lsB.l).length ≤ 2932031007317 ∧ Fl.lensL (lsB.l))), ((leN && leA) = true → (leN && leA) = true), (((leN && leA) && leB) = true → (((leN && leA) && leB) = true)), (((leN && leA) && leB) = true → (lvC.length ≤ 2932031007317 ∧ Fl.lensL lvC ∧ Fl.sizeL lvC ≤ 1000000)), (((leN && leA) && leB) = true → (True)), (((leN && leA) && leB) = true → (True)), (((leN && leA) && leB) = true → (((leN && leA) && leB) = true)), (((leN && leA) && leB) = true → (((leN && leA) && leB) = true)), (((leN && leA) && leB) = true → (((leN && leA) && leB) = true)), (((leN && leA) && leB) = true → (True)), (((leN && leA) && leB) = true → (((leN && leA) && leB) = true)), (((leN && leA) && leB) = true → (((leN && leA) && leB) = true)), (((leN && leA) && leB) = true → ((lsC.l).length ≤ 2932031007317 ∧ Fl.lensL (lsC.l))), (((leN && leA) && leB) = true → ((leN && leA) && leB) = true)] [(4, .bool (((leN && leA) && leB) && leC))] [] (by kernel_rfl) ?_ ?_
  ·
   refine (ap ?_ (ap ?_ (ap ?_ (ap ?_ (ap ?_ (ap ?_ (ap ?_ (ap ?_ (ap ?_ (ap ?_ (ap ?_ (ap ?_ (ap ?_ (ap ?_ (ap ?_ (ap ?_ (ap ?_ (ap ?_ (ap ?_ (ap (by exact id) (ap ?_ (ap ?_ (ap ?_ (ap ?_ (ap ?_ (ap ?_ (ap ?_ (ap ?_ (ap ?_ (ap ?_ (ap ?_ (ap (by exact id) (ap ?_ (ap ?_ (ap ?_ (ap ?_ (ap ?_ (ap ?_ (ap ?_ (ap ?_ (ap ?_ (ap ?_ (ap ?_ (ap (by exact id) az))))))))))))))))))))))))))))))))))))))))))))
   all_goals
    first | (intro _; rw [hV]; decide) | exact True.intro | exact (fun _ => True.intro) | exact id | (intro h; exact h) | exact (fun _ => ⟨of_decide_eq_true (by kernel_rfl), Fl.lensL_size (of_decide_eq_true (by kernel_rfl)), of_decide_eq_true (by kernel_rfl)⟩) | exact (fun _ => ⟨of_decide_eq_true (by kernel_rfl), Fl.lensL_size (of_decide_eq_true (by kernel_rfl))⟩) | exact ⟨of_decide_eq_true (by kernel_rfl), Fl.lensL_size (of_decide_eq_true (by kernel_rfl)), of_decide_eq_true (by kernel_rfl)⟩ | exact ⟨of_decide_eq_true (by kernel_rfl), Fl.lensL_size (of_decide_eq_true (by kernel_rfl))⟩ | exact (fun _ => of_decide_eq_true (by kernel_rfl)) | exact of_decide_eq_true (by kernel_rfl) | done
  refine fin_then ?_
  refine tri_seq ?_
  refine tri_regD hcx [(1001, .frz)] [5] [4, 3, 2, 1] [603, 602, 601] [(Fl.sizeT (.node (4 : Int) (0 : Int) (0 : Int) lvA) ≤ 1000000000000)] [(5, .ints lvS)] [] (by kernel_rfl) ?_ ?_
  ·
   refine (ap ?_ az)
   first | (intro _; rw [hV]; decide) | exact True.intro | exact (fun _ => True.intro) | exact id | (intro h; exact h) | exact (fun _ => ⟨of_decide_eq_true (by kernel_rfl), Fl.lensL_size (of_decide_eq_true (by kernel_rfl)), of_decide_eq_true (by kernel_rfl)⟩) | exact (fun _ => ⟨of_decide_eq_true (by kernel_rfl), Fl.lensL_size (of_decide_eq_true (by kernel_rfl))⟩) | exact ⟨of_decide_eq_true (by kernel_rfl), Fl.lensL_size (of_decide_eq_true (by kernel_rfl)), of_decide_eq_true (by kernel_rfl)⟩ | exact ⟨of_decide_eq_true (by kernel_rfl), Fl.lensL_size (of_decide_eq_true (by kernel_rfl))⟩ | exact (fun _ => of_decide_eq_true (by kernel_rfl)) | exact of_decide_eq_true (by kernel_rfl) | done
  refine fin_then ?_
  refine tri_seq ?_
  refine tri_seq ?_
  refine tri_regD hcx [] [61] [5, 4, 3, 2, 1] [603, 602, 601] [] [(61, .bool ((lvS.length : Int) != 3))] [] (by kernel_rfl) ?_ ?_
  ·
   exact az
  refine fin_then ?_
  refine tri_cond (b := ((lvS.length : Int) != 3)) (by kernel_rfl) (fun hb0 => ?_) (fun hb0 => ?_)
  ·
   skip
   have h0 := bne_iff_ne.1 hb0
   exact absurd h0 (by rw [hV]; decide)
  ·
   skip
   have h0 := bneF hb0
   refine tri_skip ?_
   refine fin_then ?_
   refine tri_seq ?_
   refine tri_regD hcx [] [0] [] [] [((((leN && leA) && leB) && leC) = true → ((((leN && leA) && leB) && leC) = true)), ((((leN && leA) && leB) && leC) = true → ((0 : Int) ≤ 0 ∧ 0 < (lvS.length : Int))), ((((leN && leA) && leB) && leC) = true → ((((leN && leA) && leB) && leC) = true)), ((((leN && leA) && leB) && leC) = true → ((((leN && leA) && leB) && leC) = true)), ((((leN && leA) && leB) && leC) = true → (((leN && leA) && leB) && leC) = true), (((((leN && leA) && leB) && leC) && ((lvS.getD 0 0) == 1)) = true → (((((leN && leA) && leB) && leC) && ((lvS.getD 0 0) == 1)) = true)), (((((leN && leA) && leB) && leC) && ((lvS.getD 0 0) == 1)) = true → ((0 : Int) ≤ 2 ∧ 2 < (lvS.length : Int))), (((((leN && leA) && leB) && leC) && ((lvS.getD 0 0) == 1)) = true → (((((leN && leA) && leB) && leC) && ((lvS.getD 0 0) == 1)) = true)), (((((leN && leA) && leB) && leC) && ((lvS.getD 0 0) == 1)) = true → (((((leN && leA) && leB) && leC) && ((lvS.getD 0 0) == 1)) = true)), (((((leN && leA) && leB) && leC) && ((lvS.getD 0 0) == 1)) = true → ((((leN && leA) && leB) && leC) && ((lvS.getD 0 0) == 1)) = true), ((((((leN && leA) && leB) && leC) && ((lvS.getD 0 0) == 1)) && ((lvS.getD 2 0) == 3)) = true → ((((((leN && leA) && leB) && leC) && ((lvS.getD 0 0) == 1)) && ((lvS.getD 2 0) == 3)) = true)), ((((((leN && leA) && leB) && leC) && ((lvS.getD 0 0) == 1)) && ((lvS.getD 2 0) == 3)) = true → (Fl.sizeT (.node (4 : Int) (0 : Int) (0 : Int) lvA) ≤ 1000000000000000)), ((((((leN && leA) && leB) && leC) && ((lvS.getD 0 0) == 1)) && ((lvS.getD 2 0) == 3)) = true → ((((((leN && leA) && leB) && leC) && ((lvS.getD 0 0) == 1)) && ((lvS.getD 2 0) == 3)) = true)), ((((((leN && leA) && leB) && leC) && ((lvS.getD 0 0) == 1)) && ((lvS.getD 2 0) == 3)) = true → (((((leN && leA) && leB) && leC) && ((lvS.getD 0 0) == 1)) && ((lvS.getD 2 0) == 3)) = true), (((((((leN && leA) && leB) && leC) && ((lvS.getD 0 0) == 1)) && ((lvS.getD 2 0) == 3)) && (((Fl.sizeT (.node (4 : Int) (0 : Int) (0 : Int) lvA) : Nat) : Int) == 6)) = true → (((((((leN && leA) && leB) && leC) && ((lvS.getD 0 0) == 1)) && ((lvS.getD 2 0) == 3)) && (((Fl.sizeT (.node (4 : Int) (0 : Int) (0 : Int) lvA) : Nat) : Int) == 6)) = true)), (((((((leN && leA) && leB) && leC) && ((lvS.getD 0 0) == 1)) && ((lvS.getD 2 0) == 3)) && (((Fl.sizeT (.node (4 : Int) (0 : Int) (0 : Int) lvA) : Nat) : Int) == 6)) = true → (Fl.sizeT (.node (4 : Int) (0 : Int) (0 : Int) lvA) ≤ 1000000000000000)), (((((((leN && leA) && leB) && leC) && ((lvS.getD 0 0) == 1)) && ((lvS.getD 2 0) == 3)) && (((Fl.sizeT (.node (4 : Int) (0 : Int) (0 : Int) lvA) : Nat) : Int) == 6)) = true → (((((((leN && leA) && leB) && leC) && ((lvS.getD 0 0) == 1)) && ((lvS.getD 2 0) == 3)) && (((Fl.sizeT (.node (4 : Int) (0 : Int) (0 : Int) lvA) : Nat) : Int) == 6)) = true)), (((((((leN && leA) && leB) && leC) && ((lvS.getD 0 0) == 1)) && ((lvS.getD 2 0) == 3)) && (((Fl.sizeT (.node (4 : Int) (0 : Int) (0 : Int) lvA) : Nat) : Int) == 6)) = true → ((((((leN && leA) && leB) && leC) && ((lvS.getD 0 0) == 1)) && ((lvS.getD 2 0) == 3)) && (((Fl.sizeT (.node (4 : Int) (0 : Int) (0 : Int) lvA) : Nat) : Int) == 6)) = true), ((((((((leN && leA) && leB) && leC) && ((lvS.getD 0 0) == 1)) && ((lvS.getD 2 0) == 3)) && (((Fl.sizeT (.node (4 : Int) (0 : Int) (0 : Int) lvA) : Nat) : Int) == 6)) && ((Fl.chkN (3 : Int) (4 : Int) (0 : Int) (0 : Int) lvA) == 0)) = true → ((((((((leN && leA) && leB) && leC) && ((lvS.getD 0 0) == 1)) && ((lvS.getD 2 0) == 3)) && (((Fl.sizeT (.node (4 : Int) (0 : Int) (0 : Int) lvA) : Nat) : Int) == 6)) && ((Fl.chkN (3 : Int) (4 : Int) (0 : Int) (0 : Int) lvA) == 0)) = true)), ((((((((leN && leA) && leB) && leC) && ((lvS.getD 0 0) == 1)) && ((lvS.getD 2 0) == 3)) && (((Fl.sizeT (.node (4 : Int) (0 : Int) (0 : Int) lvA) : Nat) : Int) == 6)) && ((Fl.chkN (3 : Int) (4 : Int) (0 : Int) (0 : Int) lvA) == 0)) = true → (Fl.sizeT (.node (4 : Int) (0 : Int) (0 : Int) lvA) ≤ 1000000000000000)), ((((((((leN && leA) && leB) && leC) && ((lvS.getD 0 0) == 1)) && ((lvS.getD 2 0) == 3)) && (((Fl.sizeT (.node (4 : Int) (0 : Int) (0 : Int) lvA) : Nat) : Int) == 6)) && ((Fl.chkN (3 : Int) (4 : Int) (0 : Int) (0 : Int) lvA) == 0)) = true → ((((((((leN && leA) && leB) && leC) && ((lvS.getD 0 0) == 1)) && ((lvS.getD 2 0) == 3)) && (((Fl.sizeT (.node (4 : Int) (0 : Int) (0 : Int) lvA) : Nat) : Int) == 6)) && ((Fl.chkN (3 : Int) (4 : Int) (0 : Int) (0 : Int) lvA) == 0)) = true)), ((((((((leN && leA) && leB) && leC) && ((lvS.getD 0 0) == 1)) && ((lvS.getD 2 0) == 3)) && (((Fl.sizeT (.node (4 : Int) (0 : Int) (0 : Int) lvA) : Nat) : Int) == 6)) && ((Fl.chkN (3 : Int) (4 : Int) (0 : Int) (0 : Int) lvA) == 0)) = true → (((((((leN && leA) && leB) && leC) && ((lvS.getD 0 0) == 1)) && ((lvS.getD 2 0) == 3)) && (((Fl.sizeT (.node (4 : Int) (0 : Int) (0 : Int) lvA) : Nat) : Int) == 6)) && ((Fl.chkN (3 : Int) (4 : Int) (0 : Int) (0 : Int) lvA) == 0)) = true), (((((((((leN && leA) && leB) && leC) && ((lvS.getD 0 0) == 1)) && ((lvS.getD 2 0) == 3)) && (((Fl.sizeT (.node (4 : Int) (0 : Int) (0 : Int) lvA) : Nat) : Int) == 6)) && ((Fl.chkN (3 : Int) (4 : Int) (0 : Int) (0 : Int) lvA) == 0)) && ((Fl.chkN (2 : Int) (4 : Int) (0 : Int) (0 : Int) lvA) == 1)) = true → (((((((((leN && leA) && leB) && leC) && ((lvS.getD 0 0) == 1)) && ((lvS.getD 2 0) == 3)) && (((Fl.sizeT (.node (4 : Int) (0 : Int) (0 : Int) lvA) : Nat) : Int) == 6)) && ((Fl.chkN (3 : Int) (4 : Int) (0 : Int) (0 : Int) lvA) == 0)) && ((Fl.chkN (2 : Int) (4 : Int) (0 : Int) (0 : Int) lvA) == 1)) = true)), (((((((((leN && leA) && leB) && leC) && ((lvS.getD 0 0) == 1)) && ((lvS.getD 2 0) == 3)) && (((Fl.sizeT (.node (4 : Int) (0 : Int) (0 : Int) lvA) : Nat) : Int) == 6)) && ((Fl.chkN (3 : Int) (4 : Int) (0 : Int) (0 : Int) lvA) == 0)) && ((Fl.chkN (2 : Int) (4 : Int) (0 : Int) (0 : Int) lvA) == 1)) = true → (((((((((leN && leA) && leB) && leC) && ((lvS.getD 0 0) == 1)) && ((lvS.getD 2 0) == 3)) && (((Fl.sizeT (.node (4 : Int) (0 : Int) (0 : Int) lvA) : Nat) : Int) == 6)) && ((Fl.chkN (3 : Int) (4 : Int) (0 : Int) (0 : Int) lvA) == 0)) && ((Fl.chkN (2 : Int) (4 : Int) (0 : Int) (0 : Int) lvA) == 1)) = true)), (((((((((leN && leA) && leB) && leC) && ((lvS.getD 0 0) == 1)) && ((lvS.getD 2 0) == 3)) && (((Fl.sizeT (.node (4 : Int) (0 : Int) (0 : Int) lvA) : Nat) : Int) == 6)) && ((Fl.chkN (3 : Int) (4 : Int) (0 : Int) (0 : Int) lvA) == 0)) && ((Fl.chkN (2 : Int) (4 : Int) (0 : Int) (0 : Int) lvA) == 1)) = true → (lvC.length ≤ 2932031007317 ∧ Fl.lensL lvC ∧ [false, true, true].length ≤ maxLen)), (((((((((leN && leA) && leB) && leC) && ((lvS.getD 0 0) == 1)) && ((lvS.getD 2 0) == 3)) && (((Fl.sizeT (.node (4 : Int) (0 : Int) (0 : Int) lvA) : Nat) : Int) == 6)) && ((Fl.chkN (3 : Int) (4 : Int) (0 : Int) (0 : Int) lvA) == 0)) && ((Fl.chkN (2 : Int) (4 : Int) (0 : Int) (0 : Int) lvA) == 1)) = true → ((((((((leN && leA) && leB) && leC) && ((lvS.getD 0 0) == 1)) && ((lvS.getD 2 0) == 3)) && (((Fl.sizeT (.node (4 : Int) (0 : Int) (0 : Int) lvA) : Nat) : Int) == 6)) && ((Fl.chkN (3 : Int) (4 : Int) (0 : Int) (0 : Int) lvA) == 0)) && ((Fl.chkN (2 : Int) (4 : Int) (0 : Int) (0 : Int) lvA) == 1)) = true), ((((((((((leN && leA) && leB) && leC) && ((lvS.getD 0 0) == 1)) && ((lvS.getD 2 0) == 3)) && (((Fl.sizeT (.node (4 : Int) (0 : Int) (0 : Int) lvA) : Nat) : Int) == 6)) && ((Fl.chkN (3 : Int) (4 : Int) (0 : Int) (0 : Int) lvA) == 0)) && ((Fl.chkN (2 : Int) (4 : Int) (0 : Int) (0 : Int) lvA) == 1)) && (Fl.valN [false, true, true] (6 : Int) (0 : Int) (2 : Int) lvC)) = true → ((((((((((leN && leA) && leB) && leC) && ((lvS.getD 0 0) == 1)) && ((lvS.getD 2 0) == 3)) && (((Fl.sizeT (.node (4 : Int) (0 : Int) (0 : Int) lvA) : Nat) : Int) == 6)) && ((Fl.chkN (3 : Int) (4 : Int) (0 : Int) (0 : Int) lvA) == 0)) && ((Fl.chkN (2 : Int) (4 : Int) (0 : Int) (0 : Int) lvA) == 1)) && (Fl.valN [false, true, true] (6 : Int) (0 : Int) (2 : Int) lvC)) = true)), ((((((((((leN && leA) && leB) && leC) && ((lvS.getD 0 0) == 1)) && ((lvS.getD 2 0) == 3)) && (((Fl.sizeT (.node (4 : Int) (0 : Int) (0 : Int) lvA) : Nat) : Int) == 6)) && ((Fl.chkN (3 : Int) (4 : Int) (0 : Int) (0 : Int) lvA) == 0)) && ((Fl.chkN (2 : Int) (4 : Int) (0 : Int) (0 : Int) lvA) == 1)) && (Fl.valN [false, true, true] (6 : Int) (0 : Int) (2 : Int) lvC)) = true → ((((((((((leN && leA) && leB) && leC) && ((lvS.getD 0 0) == 1)) && ((lvS.getD 2 0) == 3)) && (((Fl.sizeT (.node (4 : Int) (0 : Int) (0 : Int) lvA) : Nat) : Int) == 6)) && ((Fl.chkN (3 : Int) (4 : Int) (0 : Int) (0 : Int) lvA) == 0)) && ((Fl.chkN (2 : Int) (4 : Int) (0 : Int) (0 : Int) lvA) == 1)) && (Fl.valN [false, true, true] (6 : Int) (0 : Int) (2 : Int) lvC)) = true)), ((((((((((leN && leA) && leB) && leC) && ((lvS.getD 0 0) == 1)) && ((lvS.getD 2 0) == 3)) && (((Fl.sizeT (.node (4 : Int) (0 : Int) (0 : Int) lvA) : Nat) : Int) == 6)) && ((Fl.chkN (3 : Int) (4 : Int) (0 : Int) (0 : Int) lvA) == 0)) && ((Fl.chkN (2 : Int) (4 : Int) (0 : Int) (0 : Int) lvA) == 1)) && (Fl.valN [false, true, true] (6 : Int) (0 : Int) (2 : Int) lvC)) = true → (lvC.length ≤ 2932031007317 ∧ Fl.lensL lvC ∧ [false, true].length ≤ maxLen)), ((((((((((leN && leA) && leB) && leC) && ((lvS.getD 0 0) == 1)) && ((lvS.getD 2 0) == 3)) && (((Fl.sizeT (.node (4 : Int) (0 : Int) (0 : Int) lvA) : Nat) : Int) == 6)) && ((Fl.chkN (3 : Int) (4 : Int) (0 : Int) (0 : Int) lvA) == 0)) && ((Fl.chkN (2 : Int) (4 : Int) (0 : Int) (0 : Int) lvA) == 1)) && (Fl.valN [false, true, true] (6 : Int) (0 : Int) (2 : Int) lvC)) = true → ((((((((((leN && leA) && leB) && leC) && ((lvS.getD 0 0) == 1)) && ((lvS.getD 2 0) == 3)) && (((Fl.sizeT (.node (4 : Int) (0 : Int) (0 : Int) lvA) : Nat) : Int) == 6)) && ((Fl.chkN (3 : Int) (4 : Int) (0 : Int) (0 : Int) lvA) == 0)) && ((Fl.chkN (2 : Int) (4 : Int) (0 : Int) (0 : Int) lvA) == 1)) && (Fl.valN [false, true, true] (6 : Int) (0 : Int) (2 : Int) lvC)) = true)), ((((((((((leN && leA) && leB) && leC) && ((lvS.getD 0 0) == 1)) && ((lvS.getD 2 0) == 3)) && (((Fl.sizeT (.node (4 : Int) (0 : Int) (0 : Int) lvA) : Nat) : Int) == 6)) && ((Fl.chkN (3 : Int) (4 : Int) (0 : Int) (0 : Int) lvA) == 0)) && ((Fl.chkN (2 : Int) (4 : Int) (0 : Int) (0 : Int) lvA) == 1)) && (Fl.valN [false, true, true] (6 : Int) (0 : Int) (2 : Int) lvC)) = true → (((((((((leN && leA) && leB) && leC) && ((lvS.getD 0 0) == 1)) && ((lvS.getD 2 0) == 3)) && (((Fl.sizeT (.node (4 : Int) (0 : Int) (0 : Int) lvA) : Nat) : Int) == 6)) && ((Fl.chkN (3 : Int) (4 : Int) (0 : Int) (0 : Int) lvA) == 0)) && ((Fl.chkN (2 : Int) (4 : Int) (0 : Int) (0 : Int) lvA) == 1)) && (Fl.valN [false, true, true] (6 : Int) (0 : Int) (2 : Int) lvC)) = true), (((((((((((leN && leA) && leB) && leC) && ((lvS.getD 0 0) == 1)) && ((lvS.getD 2 0) == 3)) && (((Fl.sizeT (.node (4 : Int) (0 : Int) (0 : Int) lvA) : Nat) : Int) == 6)) && ((Fl.chkN (3 : Int) (4 : Int) (0 : Int) (0 : Int) lvA) == 0)) && ((Fl.chkN (2 : Int) (4 : Int) (0 : Int) (0 : Int) lvA) == 1)) && (Fl.valN [false, true, true] (6 : Int) (0 : Int) (2 : Int) lvC)) && (!(Fl.valN [false, true] (6 : Int) (0 : Int) (2 : Int) lvC))) = true → (((((((((((leN && leA) && leB) && leC) && ((lvS.getD 0 0) == 1)) && ((lvS.getD 2 0) == 3)) && (((Fl.sizeT (.node (4 : Int) (0 : Int) (0 : Int) lvA) : Nat) : Int) == 6)) && ((Fl.chkN (3 : Int) (4 : Int) (0 : Int) (0 : Int) lvA) == 0)) && ((Fl.chkN (2 : Int) (4 : Int) (0 : Int) (0 : Int) lvA) == 1)) && (Fl.valN [false, true, true] (6 : Int) (0 : Int) (2 : Int) lvC)) && (!(Fl.valN [false, true] (6 : Int) (0 : Int) (2 : Int) lvC))) = true)), (((((((((((leN && leA) && leB) && leC) && ((lvS.getD 0 0) == 1)) && ((lvS.getD 2 0) == 3)) && (((Fl.sizeT (.node (4 : Int) (0 : Int) (0 : Int) lvA) : Nat) : Int) == 6)) && ((Fl.chkN (3 : Int) (4 : Int) (0 : Int) (0 : Int) lvA) == 0)) && ((Fl.chkN (2 : Int) (4 : Int) (0 : Int) (0 : Int) lvA) == 1)) && (Fl.valN [false, true, true] (6 : Int) (0 : Int) (2 : Int) lvC)) && (!(Fl.valN [false, true] (6 : Int) (0 : Int) (2 : Int) lvC))) = true → (((((((((((leN && leA) && leB) && leC) && ((lvS.getD 0 0) == 1)) && ((lvS.getD 2 0) == 3)) && (((Fl.sizeT (.node (4 : Int) (0 : Int) (0 : Int) lvA) : Nat) : Int) == 6)) && ((Fl.chkN (3 : Int) (4 : Int) (0 : Int) (0 : Int) lvA) == 0)) && ((Fl.chkN (2 : Int) (4 : Int) (0 : Int) (0 : Int) lvA) == 1)) && (Fl.valN [false, true, true] (6 : Int) (0 : Int) (2 : Int) lvC)) && (!(Fl.valN [false, true] (6 : Int) (0 : Int) (2 : Int) lvC))) = true)), (((((((((((leN && leA) && leB) && leC) && ((lvS.getD 0 0) == 1)) && ((lvS.getD 2 0) == 3)) && (((Fl.sizeT (.node (4 : Int) (0 : Int) (0 : Int) lvA) : Nat) : Int) == 6)) && ((Fl.chkN (3 : Int) (4 : Int) (0 : Int) (0 : Int) lvA) == 0)) && ((Fl.chkN (2 : Int) (4 : Int) (0 : Int) (0 : Int) lvA) == 1)) && (Fl.valN [false, true, true] (6 : Int) (0 : Int) (2 : Int) lvC)) && (!(Fl.valN [false, true] (6 : Int) (0 : Int) (2 : Int) lvC))) = true → (lvB.length ≤ 2932031007317 ∧ Fl.lensL lvB ∧ [false, true].length ≤ maxLen)), (((((((((((leN && leA) && leB) && leC) && ((lvS.getD 0 0) == 1)) && ((lvS.getD 2 0) == 3)) && (((Fl.sizeT (.node (4 : Int) (0 : Int) (0 : Int) lvA) : Nat) : Int) == 6)) && ((Fl.chkN (3 : Int) (4 : Int) (0 : Int) (0 : Int) lvA) == 0)) && ((Fl.chkN (2 : Int) (4 : Int) (0 : Int) (0 : Int) lvA) == 1)) && (Fl.valN [false, true, true] (6 : Int) (0 : Int) (2 : Int) lvC)) && (!(Fl.valN [false, true] (6 : Int) (0 : Int) (2 : Int) lvC))) = true → ((((((((((leN && leA) && leB) && leC) && ((lvS.getD 0 0) == 1)) && ((lvS.getD 2 0) == 3)) && (((Fl.sizeT (.node (4 : Int) (0 : Int) (0 : Int) lvA) : Nat) : Int) == 6)) && ((Fl.chkN (3 : Int) (4 : Int) (0 : Int) (0 : Int) lvA) == 0)) && ((Fl.chkN (2 : Int) (4 : Int) (0 : Int) (0 : Int) lvA) == 1)) && (Fl.valN [false, true, true] (6 : Int) (0 : Int) (2 : Int) lvC)) && (!(Fl.valN [false, true] (6 : Int) (0 : Int) (2 : Int) lvC))) = true)] [(0, .bool (((((((((((leN && leA) && leB) && leC) && ((lvS.getD 0 0) == 1)) && ((lvS.getD 2 0) == 3)) && (((Fl.sizeT (.node (4 : Int) (0 : Int) (0 : Int) lvA) : Nat) : Int) == 6)) && ((Fl.chkN (3 : Int) (4 : Int) (0 : Int) (0 : Int) lvA) == 0)) && ((Fl.chkN (2 : Int) (4 : Int) (0 : Int) (0 : Int) lvA) == 1)) && (Fl.valN [false, true, true] (6 : Int) (0 : Int) (2 : Int) lvC)) && (!(Fl.valN [false, true] (6 : Int) (0 : Int) (2 : Int) lvC))) && (Fl.valN [false, true] (6 : Int) (0 : Int) (2 : Int) lvB)))] [] (by kernel_rfl) ?_ ?_
   ·
    refine (ap ?_ (ap ?_ (ap ?_ (ap ?_ (ap (by exact id) (ap ?_ (ap ?_ (ap ?_ (ap ?_ (ap (by exact id) (ap ?_ (ap ?_ (ap ?_ (ap (by exact id) (ap ?_ (ap ?_ (ap ?_ (ap (by exact id) (ap ?_ (ap ?_ (ap ?_ (ap (by exact id) (ap ?_ (ap ?_ (ap ?_ (ap (by exact id) (ap ?_ (ap ?_ (ap ?_ (ap ?_ (ap (by exact id) (ap ?_ (ap ?_ (ap ?_ (ap (by exact id) az)))))))))))))))))))))))))))))))))))
    all_goals
     first | (intro _; rw [hV]; decide) | exact True.intro | exact (fun _ => True.intro) | exact id | (intro h; exact h) | exact (fun _ => ⟨of_decide_eq_true (by kernel_rfl), Fl.lensL_size (of_decide_eq_true (by kernel_rfl)), of_decide_eq_true (by kernel_rfl)⟩) | exact (fun _ => ⟨of_decide_eq_true (by kernel_rfl), Fl.lensL_size (of_decide_eq_true (by kernel_rfl))⟩) | exact ⟨of_decide_eq_true (by kernel_rfl), Fl.lensL_size (of_decide_eq_true (by kernel_rfl)), of_decide_eq_true (by kernel_rfl)⟩ | exact ⟨of_decide_eq_true (by kernel_rfl), Fl.lensL_size (of_decide_eq_true (by kernel_rfl))⟩ | exact (fun _ => of_decide_eq_true (by kernel_rfl)) | exact of_decide_eq_true (by kernel_rfl) | done
   refine fin_then ?_
   refine tri_ret ?_
   exact fin_ret [] rfl rfl trivial hcx (avs := [.bool (((((((((((leN && leA) && leB) && leC) && ((lvS.getD 0 0) == 1)) && ((lvS.getD 2 0) == 3)) && (((Fl.sizeT (.node (4 : Int) (0 : Int) (0 : Int) lvA) : Nat) : Int) == 6)) && ((Fl.chkN (3 : Int) (4 : Int) (0 : Int) (0 : Int) lvA) == 0)) && ((Fl.chkN (2 : Int) (4 : Int) (0 : Int) (0 : Int) lvA) == 1)) && (Fl.valN [false, true, true] (6 : Int) (0 : Int) (2 : Int) lvC)) && (!(Fl.valN [false, true] (6 : Int) (0 : Int) (2 : Int) lvC))) && (Fl.valN [false, true] (6 : Int) (0 : Int) (2 : Int) lvB))]) (by kernel_rfl) (congrArg AV.bool (show (((((((((((leN && leA) && leB) && leC) && ((lvS.getD 0 0) == 1)) && ((lvS.getD 2 0) == 3)) && (((Fl.sizeT (.node (4 : Int) (0 : Int) (0 : Int) lvA) : Nat) : Int) == 6)) && ((Fl.chkN (3 : Int) (4 : Int) (0 : Int) (0 : Int) lvA) == 0)) && ((Fl.chkN (2 : Int) (4 : Int) (0 : Int) (0 : Int) lvA) == 1)) && (Fl.valN [false, true, true] (6 : Int) (0 : Int) (2 : Int) lvC)) && (!(Fl.valN [false, true] (6 : Int) (0 : Int) (2 : Int) lvC))) && (Fl.valN [false, true] (6 : Int) (0 : Int) (2 : Int) lvB)) = true from (by (rw [hV]; kernel_rfl)))) [] rfl
 ·
  cases hσ
end Go.Proofs.YtlhjliigfecihaaDoor.En
