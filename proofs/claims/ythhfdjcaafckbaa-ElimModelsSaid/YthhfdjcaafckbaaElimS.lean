/- Layer 23's functions, in the reader's words. -/
import Derived.Test.YthhfdjcaafckbaaCnfT
import Derived.Test.YthhfdjcaafckbaaItWith
import Derived.Test.YthhfdjcaafckbaaElimQ
namespace Go.Proofs.Ythhfdjcaafckbaa.En
open Go Go.RowKit
set_option linter.unusedVariables false
set_option linter.unusedSimpArgs false
set_option linter.unnecessarySimpa false
def tyElim : List (Nat × TD) := [(3, ⟨1, false, [.int .i64 0], [], none, 8, false, 1, 1⟩),
  (4, ⟨1, false, [.bool false], [], none, 1, true, 0, 2⟩),
  (22, ⟨1, false, [.slice none 0 0], [], some 43, 24, false, 0, 0⟩),
  (24, ⟨2, true, [.int .i64 0, .slice none 0 0], [(0, 3), (1, 22)], none, 32, false, 0, 6⟩),
  (28, ⟨2, true, [.int .i64 0, .slice none 0 0], [(0, 3), (1, 22)], none, 32, false, 0, 6⟩),
  (29, ⟨1, false, [.int .i64 0], [], none, 8, false, 1, 1⟩),
  (34, ⟨1, false, [.slice none 0 0], [], some 28, 24, false, 0, 0⟩),
  (36, ⟨1, false, [.slice none 0 0], [], some 4, 24, false, 0, 0⟩),
  (43, ⟨1, false, [.slice none 0 0], [], some 3, 24, false, 0, 3⟩),
  (63, ⟨1, false, [.nilFunc], [], none, 8, false, 0, 0⟩),
  (64, ⟨1, false, [.nilFunc], [], none, 8, false, 0, 0⟩)]
theorem tyElim_ok : AllTy Try.prog tyElim := ⟨⟨by kernel_rfl, by kernel_rfl⟩, ⟨by kernel_rfl, by kernel_rfl⟩, ⟨by kernel_rfl, by kernel_rfl⟩, ⟨by kernel_rfl, by kernel_rfl⟩, ⟨by kernel_rfl, by kernel_rfl⟩, ⟨by kernel_rfl, by kernel_rfl⟩, ⟨by kernel_rfl, by kernel_rfl⟩, ⟨by kernel_rfl, by kernel_rfl⟩, ⟨by kernel_rfl, by kernel_rfl⟩, ⟨by kernel_rfl, by kernel_rfl⟩, ⟨by kernel_rfl, by kernel_rfl⟩, trivial⟩
def cx_eHas1 : Cx := ⟨tyElim, [(46, cMay_σ), (73, cOf_σ), (57, (coeF [.id, .ld (.bools [])] cTrue_σ)), (56, cHolds1_σ), (59, (orF (coeF [.ld (.ints []), .id] ixHolds_σ) (coeF [.ld (.ints []), .id] ixCheck_σ))), (41, (orF (coeF [.ld (.ints []), .id] ctHolds_σ) (coeF [.ld (.ints []), .id] ctCheck_σ))), (37, (coeF [.ld (.ints []), .ld (.bools [])] cHolds_σ)), (45, cCheck1_σ), (25, (coeF [.agg [.id, .ld (.intss [])]] cCheck_σ)), (39, (coeF [.ld (.ints []), .id] cValue1_σ)), (55, (coeF [.ld (.intss []), .id] ixValue_σ)), (35, (coeF [.ld (.intss []), .id] ctValue_σ)), (21, (coeF [.agg [.id, .ld (.intss [])], .ld (.bools [])] cValue_σ)), (61, (coeF [.ld (.ints []), .id] sIndex_σ)), (43, (coeF [.ld (.ints []), .id] sContains_σ)), (60, sClone), (65, (orF sDel1 sDel2)), (69, sSortF), (74, sCompact), (75, sGrow), (49, (coeF [.ld (.ints [])] cNorm_σ)), (67, (coeF [.ld (.intss [])] sConcat_σ)), (64, (coeF [.ld (.ints []), .id] cRes1_σ)), (48, (coeF [.ld (.ints []), .ld (.ints []), .id] cResolve_σ))]⟩
theorem cx_eHas1_ok : CxOk Try.prog cx_eHas1 := cx_ok tyElim_ok ⟨cMay_sound, cOf_sound, (cTrue_sound.coe [.id, .ld (.bools [])] rfl), cHolds1_sound, ((ixHolds_sound.coe [.ld (.ints []), .id] rfl).or (ixCheck_sound.coe [.ld (.ints []), .id] rfl)), ((ctHolds_sound.coe [.ld (.ints []), .id] rfl).or (ctCheck_sound.coe [.ld (.ints []), .id] rfl)), (cHolds_sound.coe [.ld (.ints []), .ld (.bools [])] rfl), cCheck1_sound, (cCheck_sound.coe [.agg [.id, .ld (.intss [])]] rfl), (cValue1_sound.coe [.ld (.ints []), .id] rfl), (ixValue_sound.coe [.ld (.intss []), .id] rfl), (ctValue_sound.coe [.ld (.intss []), .id] rfl), (cValue_sound.coe [.agg [.id, .ld (.intss [])], .ld (.bools [])] rfl), (sIndex_sound.coe [.ld (.ints []), .id] rfl), (sContains_sound.coe [.ld (.ints []), .id] rfl), sClone_sound, (sDel1_sound.or sDel2_sound), sSortF_sound, sCompact_sound, sGrow_sound, (cNorm_sound.coe [.ld (.ints [])] rfl), (sConcat_sound.coe [.ld (.intss [])] rfl), (cRes1_sound.coe [.ld (.ints []), .id] rfl), (cResolve_sound.coe [.ld (.ints []), .ld (.ints []), .id] rfl), trivial⟩
def eHas1_σ : CtF
  | [.im (.ls (.ints l)), .pto [.val (.int .i64 v)]], [] => some (l.length ≤ maxLen ∧ -65536 ≤ v ∧ v ≤ 65536, .bool (Cn.hasV v l), [])
  | _, _ => none
theorem eHas1_sound : Sound Try.prog 62 eHas1_σ := by
 refine sound_mk (cx := cx_eHas1) (fn := Try.f62) Try.func62 (by kernel_rfl) rfl ?_
 intro w0 G0 args os p r outs hσ hp hm0 hd0
 have hcx : CxOk Try.prog cx_eHas1 := cx_eHas1_ok
 unfold eHas1_σ at hσ
 split at hσ
 ·
  rename_i l v
  simp only [Option.some.injEq, Prod.mk.injEq] at hσ
  obtain ⟨rfl, rfl, rfl⟩ := hσ
  obtain ⟨wW, wO, wm, wβ, wd⟩ := w0
  replace hm0 : wm = 0 := hm0
  subst hm0
  replace hd0 : wd = [] := hd0
  subst hd0
  refine ⟨by kernel_rfl, ?_⟩
  change Tri ⟨_, _, _, _, _, _⟩ [(0, .ints l), (1, .pto [.int v])] [] _ _
  obtain ⟨hm1, hm2, hm3⟩ := hp
  refine tri_seq ?_
  refine tri_regD hcx [] [] [0, 1] [] [] [] [] (by kernel_rfl) ?_ ?_
  ·
   exact az
  refine fin_then ?_
  refine tri_seq ?_
  refine tri_regD hcx [] [3] [] [] [(l.length ≤ maxLen), ((!(l.contains v)) = true → ((!(l.contains v)) = true)), ((!(l.contains v)) = true → Fit (-v)), ((!(l.contains v)) = true → ((!(l.contains v)) = true)), ((!(l.contains v)) = true → ((!(l.contains v)) = true)), ((!(l.contains v)) = true → (l.length ≤ maxLen)), ((l.contains v) = false → (!(l.contains v)) = true)] [(3, .bool ((l.contains v) || (l.contains (-v))))] [] (by kernel_rfl) ?_ ?_
  ·
   refine (ap ?_ (ap ?_ (ap ?_ (ap ?_ (ap ?_ (ap ?_ (ap (by exact vcNot) az)))))))
   all_goals
    first | exact hm1 | exact (fun _ => hm1) | (first | omega | exact id | exact vcNot | exact vcG | exact vcH | (intro _; omega) | exact (fun _ h => h) | (intro h; simp at h; omega) | (simp only [List.length_cons, List.length_nil, List.length_append, List.length_map, List.length_set, List.length_replicate]; omega) | (intro h; simp [h]; done)) | (constructor <;> omega) | (intro _; constructor <;> omega)
  refine fin_then ?_
  refine tri_ret ?_
  exact fin_ret [] rfl rfl trivial hcx (avs := [.bool ((l.contains v) || (l.contains (-v)))]) (by kernel_rfl) (congrArg AV.bool (show ((l.contains v) || (l.contains (-v))) = (Cn.hasV v l) from (by rfl))) [] rfl
 ·
  cases hσ
def cx_eHas : Cx := ⟨tyElim, [(46, cMay_σ), (73, cOf_σ), (57, (coeF [.id, .ld (.bools [])] cTrue_σ)), (56, cHolds1_σ), (59, (orF (coeF [.ld (.ints []), .id] ixHolds_σ) (coeF [.ld (.ints []), .id] ixCheck_σ))), (41, (orF (coeF [.ld (.ints []), .id] ctHolds_σ) (coeF [.ld (.ints []), .id] ctCheck_σ))), (37, (coeF [.ld (.ints []), .ld (.bools [])] cHolds_σ)), (45, cCheck1_σ), (25, (coeF [.agg [.id, .ld (.intss [])]] cCheck_σ)), (39, (coeF [.ld (.ints []), .id] cValue1_σ)), (55, (coeF [.ld (.intss []), .id] ixValue_σ)), (35, (coeF [.ld (.intss []), .id] ctValue_σ)), (21, (coeF [.agg [.id, .ld (.intss [])], .ld (.bools [])] cValue_σ)), (61, (coeF [.ld (.ints []), .id] sIndex_σ)), (43, (coeF [.ld (.ints []), .id] sContains_σ)), (60, sClone), (65, (orF sDel1 sDel2)), (69, sSortF), (74, sCompact), (75, sGrow), (49, (coeF [.ld (.ints [])] cNorm_σ)), (67, (coeF [.ld (.intss [])] sConcat_σ)), (64, (coeF [.ld (.ints []), .id] cRes1_σ)), (48, (coeF [.ld (.ints []), .ld (.ints []), .id] cResolve_σ)), (62, (coeF [.ld (.ints []), .id] eHas1_σ))]⟩
theorem cx_eHas_ok : CxOk Try.prog cx_eHas := cx_ok tyElim_ok ⟨cMay_sound, cOf_sound, (cTrue_sound.coe [.id, .ld (.bools [])] rfl), cHolds1_sound, ((ixHolds_sound.coe [.ld (.ints []), .id] rfl).or (ixCheck_sound.coe [.ld (.ints []), .id] rfl)), ((ctHolds_sound.coe [.ld (.ints []), .id] rfl).or (ctCheck_sound.coe [.ld (.ints []), .id] rfl)), (cHolds_sound.coe [.ld (.ints []), .ld (.bools [])] rfl), cCheck1_sound, (cCheck_sound.coe [.agg [.id, .ld (.intss [])]] rfl), (cValue1_sound.coe [.ld (.ints []), .id] rfl), (ixValue_sound.coe [.ld (.intss []), .id] rfl), (ctValue_sound.coe [.ld (.intss []), .id] rfl), (cValue_sound.coe [.agg [.id, .ld (.intss [])], .ld (.bools [])] rfl), (sIndex_sound.coe [.ld (.ints []), .id] rfl), (sContains_sound.coe [.ld (.ints []), .id] rfl), sClone_sound, (sDel1_sound.or sDel2_sound), sSortF_sound, sCompact_sound, sGrow_sound, (cNorm_sound.coe [.ld (.ints [])] rfl), (sConcat_sound.coe [.ld (.intss [])] rfl), (cRes1_sound.coe [.ld (.ints []), .id] rfl), (cResolve_sound.coe [.ld (.ints []), .ld (.ints []), .id] rfl), (eHas1_sound.coe [.ld (.ints []), .id] rfl), trivial⟩
def eHas_σ : CtF
  | [.im (.val (.int .i64 v))], [] => some (True, .clo 62 [.pto [.int v]], [])
  | _, _ => none
theorem eHas_sound : Sound Try.prog 44 eHas_σ := by
 refine sound_mk (cx := cx_eHas) (fn := Try.f44) Try.func44 (by kernel_rfl) rfl ?_
 intro w0 G0 args os p r outs hσ hp hm0 hd0
 have hcx : CxOk Try.prog cx_eHas := cx_eHas_ok
 unfold eHas_σ at hσ
 split at hσ
 ·
  rename_i v
  simp only [Option.some.injEq, Prod.mk.injEq] at hσ
  obtain ⟨rfl, rfl, rfl⟩ := hσ
  obtain ⟨wW, wO, wm, wβ, wd⟩ := w0
  replace hm0 : wm = 0 := hm0
  subst hm0
  replace hd0 : wd = [] := hd0
  subst hd0
  refine ⟨by kernel_rfl, ?_⟩
  change Tri ⟨_, _, _, _, _, _⟩ [(0, .int v)] [] _ _
  refine tri_seq ?_
  refine tri_regD hcx [(1000, .frz)] [1] [] [] [] [(1, .pto [.int v])] [] (by kernel_rfl) ?_ ?_
  ·
   exact az
  refine fin_then ?_
  refine tri_seq ?_
  refine tri_regD hcx [] [2] [] [] [] [(2, .clo 62 [.pto [.int v]])] [] (by kernel_rfl) ?_ ?_
  ·
   exact az
  refine fin_then ?_
  refine tri_ret ?_
  exact fin_ret [] rfl rfl trivial hcx (avs := [.clo 62 [.pto [.int v]]]) (by kernel_rfl) rfl [] rfl
 ·
  cases hσ
def cx_eWith : Cx := ⟨tyElim, [(46, cMay_σ), (73, cOf_σ), (57, (coeF [.id, .ld (.bools [])] cTrue_σ)), (56, cHolds1_σ), (59, (orF (coeF [.ld (.ints []), .id] ixHolds_σ) (coeF [.ld (.ints []), .id] ixCheck_σ))), (41, (orF (coeF [.ld (.ints []), .id] ctHolds_σ) (coeF [.ld (.ints []), .id] ctCheck_σ))), (37, (coeF [.ld (.ints []), .ld (.bools [])] cHolds_σ)), (45, cCheck1_σ), (25, (coeF [.agg [.id, .ld (.intss [])]] cCheck_σ)), (39, (coeF [.ld (.ints []), .id] cValue1_σ)), (55, (coeF [.ld (.intss []), .id] ixValue_σ)), (35, (coeF [.ld (.intss []), .id] ctValue_σ)), (21, (coeF [.agg [.id, .ld (.intss [])], .ld (.bools [])] cValue_σ)), (61, (coeF [.ld (.ints []), .id] sIndex_σ)), (43, (coeF [.ld (.ints []), .id] sContains_σ)), (60, sClone), (65, (orF sDel1 sDel2)), (69, sSortF), (74, sCompact), (75, sGrow), (49, (coeF [.ld (.ints [])] cNorm_σ)), (67, (coeF [.ld (.intss [])] sConcat_σ)), (64, (coeF [.ld (.ints []), .id] cRes1_σ)), (48, (coeF [.ld (.ints []), .ld (.ints []), .id] cResolve_σ)), (62, (coeF [.ld (.ints []), .id] eHas1_σ)), (44, eHas_σ)]⟩
theorem cx_eWith_ok : CxOk Try.prog cx_eWith := cx_ok tyElim_ok ⟨cMay_sound, cOf_sound, (cTrue_sound.coe [.id, .ld (.bools [])] rfl), cHolds1_sound, ((ixHolds_sound.coe [.ld (.ints []), .id] rfl).or (ixCheck_sound.coe [.ld (.ints []), .id] rfl)), ((ctHolds_sound.coe [.ld (.ints []), .id] rfl).or (ctCheck_sound.coe [.ld (.ints []), .id] rfl)), (cHolds_sound.coe [.ld (.ints []), .ld (.bools [])] rfl), cCheck1_sound, (cCheck_sound.coe [.agg [.id, .ld (.intss [])]] rfl), (cValue1_sound.coe [.ld (.ints []), .id] rfl), (ixValue_sound.coe [.ld (.intss []), .id] rfl), (ctValue_sound.coe [.ld (.intss []), .id] rfl), (cValue_sound.coe [.agg [.id, .ld (.intss [])], .ld (.bools [])] rfl), (sIndex_sound.coe [.ld (.ints []), .id] rfl), (sContains_sound.coe [.ld (.ints []), .id] rfl), sClone_sound, (sDel1_sound.or sDel2_sound), sSortF_sound, sCompact_sound, sGrow_sound, (cNorm_sound.coe [.ld (.ints [])] rfl), (sConcat_sound.coe [.ld (.intss [])] rfl), (cRes1_sound.coe [.ld (.ints []), .id] rfl), (cResolve_sound.coe [.ld (.ints []), .ld (.ints []), .id] rfl), (eHas1_sound.coe [.ld (.ints []), .id] rfl), eHas_sound, trivial⟩
def eWith_σ : CtF
  | [.im (.ls (.intss c)), .im (.val (.int .i64 x))], [] => some (True, .clo 63 [.pto [.ls (.intss c)], .pto [.int x]], [])
  | _, _ => none
theorem eWith_sound : Sound Try.prog 47 eWith_σ := by
 refine sound_mk (cx := cx_eWith) (fn := Try.f47) Try.func47 (by kernel_rfl) rfl ?_
 intro w0 G0 args os p r outs hσ hp hm0 hd0
 have hcx : CxOk Try.prog cx_eWith := cx_eWith_ok
 unfold eWith_σ at hσ
 split at hσ
 ·
  rename_i c x
  simp only [Option.some.injEq, Prod.mk.injEq] at hσ
  obtain ⟨rfl, rfl, rfl⟩ := hσ
  obtain ⟨wW, wO, wm, wβ, wd⟩ := w0
  replace hm0 : wm = 0 := hm0
  subst hm0
  replace hd0 : wd = [] := hd0
  subst hd0
  refine ⟨by kernel_rfl, ?_⟩
  change Tri ⟨_, _, _, _, _, _⟩ [(0, .intss c), (1, .int x)] [] _ _
  refine tri_seq ?_
  refine tri_regD hcx [(1000, .frz), (1001, .frz)] [2, 3] [] [] [] [(2, .pto [.ls (.intss c)]), (3, .pto [.int x])] [] (by kernel_rfl) ?_ ?_
  ·
   exact az
  refine fin_then ?_
  refine tri_seq ?_
  refine tri_regD hcx [] [4] [] [] [] [(4, .clo 63 [.pto [.ls (.intss c)], .pto [.int x]])] [] (by kernel_rfl) ?_ ?_
  ·
   exact az
  refine fin_then ?_
  refine tri_ret ?_
  exact fin_ret [] rfl rfl trivial hcx (avs := [.clo 63 [.pto [.ls (.intss c)], .pto [.int x]]]) (by kernel_rfl) rfl [] rfl
 ·
  cases hσ
def cx_eOwn : Cx := ⟨tyElim, [(46, cMay_σ), (73, cOf_σ), (57, (coeF [.id, .ld (.bools [])] cTrue_σ)), (56, cHolds1_σ), (59, (orF (coeF [.ld (.ints []), .id] ixHolds_σ) (coeF [.ld (.ints []), .id] ixCheck_σ))), (41, (orF (coeF [.ld (.ints []), .id] ctHolds_σ) (coeF [.ld (.ints []), .id] ctCheck_σ))), (37, (coeF [.ld (.ints []), .ld (.bools [])] cHolds_σ)), (45, cCheck1_σ), (25, (coeF [.agg [.id, .ld (.intss [])]] cCheck_σ)), (39, (coeF [.ld (.ints []), .id] cValue1_σ)), (55, (coeF [.ld (.intss []), .id] ixValue_σ)), (35, (coeF [.ld (.intss []), .id] ctValue_σ)), (21, (coeF [.agg [.id, .ld (.intss [])], .ld (.bools [])] cValue_σ)), (61, (coeF [.ld (.ints []), .id] sIndex_σ)), (43, (coeF [.ld (.ints []), .id] sContains_σ)), (60, sClone), (65, (orF sDel1 sDel2)), (69, sSortF), (74, sCompact), (75, sGrow), (49, (coeF [.ld (.ints [])] cNorm_σ)), (67, (coeF [.ld (.intss [])] sConcat_σ)), (64, (coeF [.ld (.ints []), .id] cRes1_σ)), (48, (coeF [.ld (.ints []), .ld (.ints []), .id] cResolve_σ)), (62, (coeF [.ld (.ints []), .id] eHas1_σ)), (44, eHas_σ), (47, (coeF [.ld (.intss []), .id] eWith_σ))]⟩
theorem cx_eOwn_ok : CxOk Try.prog cx_eOwn := cx_ok tyElim_ok ⟨cMay_sound, cOf_sound, (cTrue_sound.coe [.id, .ld (.bools [])] rfl), cHolds1_sound, ((ixHolds_sound.coe [.ld (.ints []), .id] rfl).or (ixCheck_sound.coe [.ld (.ints []), .id] rfl)), ((ctHolds_sound.coe [.ld (.ints []), .id] rfl).or (ctCheck_sound.coe [.ld (.ints []), .id] rfl)), (cHolds_sound.coe [.ld (.ints []), .ld (.bools [])] rfl), cCheck1_sound, (cCheck_sound.coe [.agg [.id, .ld (.intss [])]] rfl), (cValue1_sound.coe [.ld (.ints []), .id] rfl), (ixValue_sound.coe [.ld (.intss []), .id] rfl), (ctValue_sound.coe [.ld (.intss []), .id] rfl), (cValue_sound.coe [.agg [.id, .ld (.intss [])], .ld (.bools [])] rfl), (sIndex_sound.coe [.ld (.ints []), .id] rfl), (sContains_sound.coe [.ld (.ints []), .id] rfl), sClone_sound, (sDel1_sound.or sDel2_sound), sSortF_sound, sCompact_sound, sGrow_sound, (cNorm_sound.coe [.ld (.ints [])] rfl), (sConcat_sound.coe [.ld (.intss [])] rfl), (cRes1_sound.coe [.ld (.ints []), .id] rfl), (cResolve_sound.coe [.ld (.ints []), .ld (.ints []), .id] rfl), (eHas1_sound.coe [.ld (.ints []), .id] rfl), eHas_sound, (eWith_sound.coe [.ld (.intss []), .id] rfl), trivial⟩
def eOwn_σ : CtF
  | [.im (.ls (.intss c))], [] => some (c.length ≤ 1000000 ∧ ∀ l ∈ c, l.length ≤ 1000000, .row 0, [some (.row 43 (.intss c))])
  | _, _ => none
theorem eOwn_sound : Sound Try.prog 42 eOwn_σ := by
 refine sound_mk (cx := cx_eOwn) (fn := Try.f42) Try.func42 (by kernel_rfl) rfl ?_
 intro w0 G0 args os p r outs hσ hp hm0 hd0
 have hcx : CxOk Try.prog cx_eOwn := cx_eOwn_ok
 unfold eOwn_σ at hσ
 split at hσ
 ·
  rename_i c
  simp only [Option.some.injEq, Prod.mk.injEq] at hσ
  obtain ⟨rfl, rfl, rfl⟩ := hσ
  obtain ⟨wW, wO, wm, wβ, wd⟩ := w0
  replace hm0 : wm = 0 := hm0
  subst hm0
  replace hd0 : wd = [] := hd0
  subst hd0
  refine ⟨by kernel_rfl, ?_⟩
  change Tri ⟨_, _, _, _, _, _⟩ [(0, .intss c)] [] _ _
  obtain ⟨hm1, hm2⟩ := hp
  have hm3 : ∀ k, k < c.length → (c.getD k []).length ≤ 1000000 := fun k hk => hm2 _ (Cn.getD_memL hk)
  refine tri_seq ?_
  refine tri_regD hcx [] [] [0] [] [] [] [] (by kernel_rfl) ?_ ?_
  ·
   exact az
  refine fin_then ?_
  refine tri_seq ?_
  refine tri_regD hcx [] [3] [0] [] [] [(3, .im (.val (.slice none 0 0)))] [] (by kernel_rfl) ?_ ?_
  ·
   exact az
  refine fin_then ?_
  refine tri_seq ?_
  refine tri_seq ?_
  refine tri_regD hcx [] [6, 7, 8] [3] [] [] [(6, .intss c), (7, .int (c.length : Int)), (8, .int 0)] [] (by kernel_rfl) ?_ ?_
  ·
   exact az
  refine fin_then ?_
  refine tri_block ?_
  refine tri_row 3 10 43 (.intss []) (by kernel_rfl) (by kernel_rfl) (by kernel_rfl) (by kernel_rfl) (E' := [(6, .intss c), (7, .int (c.length : Int)), (8, .int 0), (3, .row 10)]) (by kernel_rfl) ?_
  refine tri_loop (X := Nat) (fun x0 => x0 ≤ c.length) (fun x0 => [(3, .row 10), (6, .intss c), (7, .int (c.length : Int)), (8, .int (x0 : Int))]) (fun x0 => [(10, .row 43 (.intss (c.take x0)))]) (fun x0 => c.length - x0) (0) ?_ ?_ ?_ ?_
  ·
   show 0 ≤ c.length
   omega
  ·
   exact subE_mk (l := [.row 10, .intss c, .int (c.length : Int), .int 0]) (m := [.row 10, .intss c, .int (c.length : Int), .int (0 : Int)]) (by kernel_rfl) (by kernel_rfl) (consE rfl (consE rfl (consE rfl (consE (congrArg AV.int (show 0 = (0 : Int) from (by first | rfl | omega | (simp; done)))) rfl))))
  ·
   exact Eq.trans (show _ = [(10, .row 43 (.intss []))] from by kernel_rfl) (consH (congrArg (fun x => ((10 : Nat), x)) (congrArg (fun x => AObj.row 43 (.intss x)) (show [] = (c.take 0) from (by rfl)))) rfl)
  ·
   intro k hI
   replace hI : k ≤ c.length := hI
   change Tri _ [(3, .row 10), (6, .intss c), (7, .int (c.length : Int)), (8, .int (k : Int))] [(10, .row 43 (.intss (c.take k)))] _ _
   have hm4 := hm3 k
   have htl : (c.take k).length ≤ k := by rw [List.length_take]; omega
   refine tri_seq ?_
   refine tri_regD hcx [] [9] [3, 6, 7, 8] [10] [] [(9, .bool (decide ((k : Int) < (c.length : Int))))] [] (by kernel_rfl) ?_ ?_
   ·
    exact az
   refine fin_then ?_
   refine tri_seq ?_
   refine tri_cond (b := (decide ((k : Int) < (c.length : Int)))) (by kernel_rfl) (fun hb0 => ?_) (fun hb0 => ?_)
   ·
    skip
    have h0 := of_decide_eq_true hb0
    refine tri_skip ?_
    refine fin_then ?_
    refine tri_seq ?_
    refine tri_block ?_
    refine tri_seq ?_
    refine tri_regD hcx [] [5] [3, 6, 7, 8] [10] [((0 : Int) ≤ (k : Int) ∧ (k : Int) < (c.length : Int))] [(5, .ints (c.getD k []))] [] (by kernel_rfl) ?_ ?_
    ·
     refine (ap ?_ az)
     first | omega | exact id | exact vcNot | exact vcG | exact vcH | (intro _; omega) | exact (fun _ h => h) | (intro h; simp at h; omega) | (simp only [List.length_cons, List.length_nil, List.length_append, List.length_map, List.length_set, List.length_replicate]; omega) | (intro h; simp [h]; done) | (have := hm4 (by omega); omega)
    refine fin_then ?_
    refine tri_regD hcx [(1004, .to 10)] [3] [6, 7, 8] [] [((c.getD k []).length ≤ 1000000000000), (((c.take k).length + [(c.getD k [])].length) * 24 ≤ 140737488355328)] [(3, .row 10)] [(10, .row 43 (.intss ((c.take k) ++ [(c.getD k [])])))] (by kernel_rfl) ?_ ?_
    ·
     refine (ap ?_ (ap ?_ az))
     all_goals
      first | omega | exact id | exact vcNot | exact vcG | exact vcH | (intro _; omega) | exact (fun _ h => h) | (intro h; simp at h; omega) | (simp only [List.length_cons, List.length_nil, List.length_append, List.length_map, List.length_set, List.length_replicate]; omega) | (intro h; simp [h]; done) | (have := hm4 (by omega); omega)
    refine fin_block ?_
    refine fin_then ?_
    refine tri_regD hcx [] [8] [3, 6, 7] [10] [Fit ((k : Int) + 1)] [(8, .int ((k : Int) + 1))] [] (by kernel_rfl) ?_ ?_
    ·
     refine (ap ?_ az)
     first | omega | exact id | exact vcNot | exact vcG | exact vcH | (intro _; omega) | exact (fun _ h => h) | (intro h; simp at h; omega) | (simp only [List.length_cons, List.length_nil, List.length_append, List.length_map, List.length_set, List.length_replicate]; omega) | (intro h; simp [h]; done) | (have := hm4 (by omega); omega)
    refine fin_round (k + 1) ?_ ?_ ?_ ?_
    ·
     show (k + 1) ≤ c.length
     omega
    ·
     show c.length - (k + 1) < c.length - k
     omega
    ·
     exact subE_mk (l := [.row 10, .intss c, .int (c.length : Int), .int ((k : Int) + 1)]) (m := [.row 10, .intss c, .int (c.length : Int), .int ((k + 1) : Int)]) (by kernel_rfl) (by kernel_rfl) (consE rfl (consE rfl (consE rfl (consE (congrArg AV.int (show ((k : Int) + 1) = ((k + 1) : Int) from (by first | rfl | omega | (simp; done)))) rfl))))
    ·
     exact Eq.trans (show _ = [(10, .row 43 (.intss ((c.take k) ++ [(c.getD k [])])))] from by kernel_rfl) (consH (congrArg (fun x => ((10 : Nat), x)) (congrArg (fun x => AObj.row 43 (.intss x)) (show ((c.take k) ++ [(c.getD k [])]) = (c.take (k + 1)) from (by exact (Cn.take_sD (by omega)).symm)))) rfl)
   ·
    skip
    have h0 := of_decide_eq_false hb0
    refine tri_exit ?_
    refine fin_then_exit ?_
    refine fin_then_exit ?_
    refine fin_block_same ?_
    refine fin_then ?_
    refine tri_seq ?_
    refine tri_regD hcx [] [2] [] [10] [] [(2, .row 10)] [] (by kernel_rfl) ?_ ?_
    ·
     exact az
    refine fin_then ?_
    refine tri_ret ?_
    refine fin_ren (ρ := [(10, .to 0)]) (keys := [2]) (E' := [(2, .row 0)]) (H' := [(0, .row 43 (.intss (c.take k)))]) (by kernel_rfl) ?_
    exact fin_ret [] rfl rfl trivial hcx (avs := [.row 0]) (by kernel_rfl) rfl [true] (Eq.trans (show _ = [some (.row 43 (.intss (c.take k)))] from by kernel_rfl) (consO (congrArg some (congrArg (fun x => AObj.row 43 (.intss x)) (show (c.take k) = c from (by rw [show k = c.length from (by omega), List.take_length])))) rfl))
 ·
  cases hσ
def cx_eOut : Cx := ⟨tyElim, [(46, cMay_σ), (73, cOf_σ), (57, (coeF [.id, .ld (.bools [])] cTrue_σ)), (56, cHolds1_σ), (59, (orF (coeF [.ld (.ints []), .id] ixHolds_σ) (coeF [.ld (.ints []), .id] ixCheck_σ))), (41, (orF (coeF [.ld (.ints []), .id] ctHolds_σ) (coeF [.ld (.ints []), .id] ctCheck_σ))), (37, (coeF [.ld (.ints []), .ld (.bools [])] cHolds_σ)), (45, cCheck1_σ), (25, (coeF [.agg [.id, .ld (.intss [])]] cCheck_σ)), (39, (coeF [.ld (.ints []), .id] cValue1_σ)), (55, (coeF [.ld (.intss []), .id] ixValue_σ)), (35, (coeF [.ld (.intss []), .id] ctValue_σ)), (21, (coeF [.agg [.id, .ld (.intss [])], .ld (.bools [])] cValue_σ)), (61, (coeF [.ld (.ints []), .id] sIndex_σ)), (43, (coeF [.ld (.ints []), .id] sContains_σ)), (60, sClone), (65, (orF sDel1 sDel2)), (69, sSortF), (74, sCompact), (75, sGrow), (49, (coeF [.ld (.ints [])] cNorm_σ)), (67, (coeF [.ld (.intss [])] sConcat_σ)), (64, (coeF [.ld (.ints []), .id] cRes1_σ)), (48, (coeF [.ld (.ints []), .ld (.ints []), .id] cResolve_σ)), (62, (coeF [.ld (.ints []), .id] eHas1_σ)), (44, eHas_σ), (47, (coeF [.ld (.intss []), .id] eWith_σ)), (42, (coeF [.ld (.intss [])] eOwn_σ))]⟩
theorem cx_eOut_ok : CxOk Try.prog cx_eOut := cx_ok tyElim_ok ⟨cMay_sound, cOf_sound, (cTrue_sound.coe [.id, .ld (.bools [])] rfl), cHolds1_sound, ((ixHolds_sound.coe [.ld (.ints []), .id] rfl).or (ixCheck_sound.coe [.ld (.ints []), .id] rfl)), ((ctHolds_sound.coe [.ld (.ints []), .id] rfl).or (ctCheck_sound.coe [.ld (.ints []), .id] rfl)), (cHolds_sound.coe [.ld (.ints []), .ld (.bools [])] rfl), cCheck1_sound, (cCheck_sound.coe [.agg [.id, .ld (.intss [])]] rfl), (cValue1_sound.coe [.ld (.ints []), .id] rfl), (ixValue_sound.coe [.ld (.intss []), .id] rfl), (ctValue_sound.coe [.ld (.intss []), .id] rfl), (cValue_sound.coe [.agg [.id, .ld (.intss [])], .ld (.bools [])] rfl), (sIndex_sound.coe [.ld (.ints []), .id] rfl), (sContains_sound.coe [.ld (.ints []), .id] rfl), sClone_sound, (sDel1_sound.or sDel2_sound), sSortF_sound, sCompact_sound, sGrow_sound, (cNorm_sound.coe [.ld (.ints [])] rfl), (sConcat_sound.coe [.ld (.intss [])] rfl), (cRes1_sound.coe [.ld (.ints []), .id] rfl), (cResolve_sound.coe [.ld (.ints []), .ld (.ints []), .id] rfl), (eHas1_sound.coe [.ld (.ints []), .id] rfl), eHas_sound, (eWith_sound.coe [.ld (.intss []), .id] rfl), (eOwn_sound.coe [.ld (.intss [])] rfl), trivial⟩
def eOut_σ : CtF
  | [.agg [.im (.val (.int .i64 N)), .im (.ls (.intss L))], .im (.val (.int .i64 v)), .im (.val (.int .i64 many))], [] => some (L.length ≤ 10000 ∧ (∀ l ∈ L, l.length ≤ 1000) ∧ 1 ≤ v ∧ v ≤ 65536 ∧ 0 ≤ many ∧ many ≤ 65536, .tup [.agg [.int N, .row 0], .agg [.int v, .row 1], .bool (decide (((Cn.outX L v many).length : Int) ≤ many))], [some (.row 43 (.intss (Cn.outX L v many))), some (.row 43 (.intss (Cn.uOf L v)))])
  | _, _ => none
theorem eOut_sound : Sound Try.prog 26 eOut_σ := by
 refine sound_mk (cx := cx_eOut) (fn := Try.f26) Try.func26 (by kernel_rfl) rfl ?_
 intro w0 G0 args os p r outs hσ hp hm0 hd0
 have hcx : CxOk Try.prog cx_eOut := cx_eOut_ok
 have hmx : Try.prog.follows .mixedOrders = true := by kernel_rfl
 unfold eOut_σ at hσ
 split at hσ
 ·
  rename_i N L v many
  simp only [Option.some.injEq, Prod.mk.injEq] at hσ
  obtain ⟨rfl, rfl, rfl⟩ := hσ
  obtain ⟨wW, wO, wm, wβ, wd⟩ := w0
  replace hm0 : wm = 0 := hm0
  subst hm0
  replace hd0 : wd = [] := hd0
  subst hd0
  refine ⟨by kernel_rfl, ?_⟩
  change Tri ⟨_, _, _, _, _, _⟩ [(0, .agg [.int N, .intss L]), (1, .int v), (2, .int many)] [] _ _
  obtain ⟨hm1, hm2, hm3, hm4, hm5, hm6⟩ := hp
  have hXX : (Cn.outX L v many).length ≤ 1000000 ∧ ∀ l ∈ (Cn.outX L v many), l.length ≤ 1000000 := ⟨by have := Cn.out_len (v := v) hm1 hm6; omega, fun l hl => by have := Cn.out_lens hm2 l hl; omega⟩
  have hm7 : ∀ k, k < L.length → (L.getD k []).length ≤ 1000 := fun k hk => hm2 _ (Cn.getD_memL hk)
  refine tri_seq ?_
  refine tri_regD hcx [(1003, .to 606), (1004, .to 607), (1000, .frz), (1001, .frz), (1002, .frz)] [3, 4, 5, 6, 7, 8] [] [] [] [(3, .pto [.int N, .ls (.intss L)]), (4, .pto [.int v]), (5, .pto [.int many]), (6, .loc 606 0), (7, .loc 607 0), (8, .bool false)] [(606, .box [.int 0, .im (.val (.slice none 0 0))]), (607, .box [.int 0, .im (.val (.slice none 0 0))])] (by kernel_rfl) ?_ ?_
  ·
   exact az
  refine fin_then ?_
  refine tri_scope ?_
  refine tri_seq ?_
  refine tri_drawD [0, 1, 3, 0, 8, 7, 63] hcx hmx [(606, .to 606), (607, .to 607)] [] [3, 4, 5, 6, 7, 8] [] [] [] [(606, .box [.int N, .im (.val (.slice none 0 0))]), (607, .box [.int v, .im (.val (.slice none 0 0))])] (by kernel_rfl) ?_ ?_
  ·
   exact az
  refine fin_then ?_
  refine tri_seq ?_
  refine tri_regD hcx [] [9] [3, 4, 5, 6, 7, 8] [606, 607] [(True)] [(9, .clo 62 [.pto [.int v]])] [] (by kernel_rfl) ?_ ?_
  ·
   refine (ap ?_ az)
   first | (rw [← hOX]; exact hXX) | exact hUU | (first | omega | exact id | exact vcNot | exact vcG | exact vcH | (intro _; omega) | exact (fun _ h => h) | (intro h; simp at h; omega) | (simp only [List.length_cons, List.length_nil, List.length_append, List.length_map, List.length_set, List.length_replicate]; omega) | (intro h; simp [h]; done)) | exact ⟨by have := hpl p hi0; omega, by have := hql q hi1; omega, by omega, by omega⟩ | (have := hm7 k (by omega); exact ⟨by unfold maxLen; omega, by omega, by omega⟩) | (have := hpl p hi0; have := hql q hi1; have := Cn.resL_len ((Cn.withL (Cn.uOf (L.take k) v) v).getD p []) ((Cn.withL (Cn.uOf (L.take k) v) (-v)).getD q []) v; omega) | (constructor <;> omega) | trivial
  refine fin_then ?_
  refine tri_seq ?_
  refine tri_seq ?_
  refine tri_rowB 606 1 10 43 (.intss []) (by kernel_rfl) (by kernel_rfl) (by kernel_rfl) (by kernel_rfl) (H' := [(606, .box [.int N, .row 10]), (607, .box [.int v, .im (.val (.slice none 0 0))])]) (by kernel_rfl) ?_
  refine tri_rowB 607 1 11 43 (.intss []) (by kernel_rfl) (by kernel_rfl) (by kernel_rfl) (by kernel_rfl) (H' := [(10, .row 43 (.intss [])), (606, .box [.int N, .row 10]), (607, .box [.int v, .row 11])]) (by kernel_rfl) ?_
  refine tri_regD hcx [] [26, 27, 28] [9, 4, 5, 6, 7, 8] [11, 10, 606, 607] [] [(26, .intss L), (27, .int (L.length : Int)), (28, .int 0)] [] (by kernel_rfl) ?_ ?_
  ·
   exact az
  refine fin_then ?_
  refine tri_block ?_
  refine tri_ren (ρ := [(10, .to 10), (11, .to 11), (606, .to 606), (607, .to 607)]) (keys := [4, 5, 6, 7, 8, 9, 26, 27, 28]) (E' := [(4, .pto [.int v]), (5, .pto [.int many]), (6, .loc 606 0), (7, .loc 607 0), (8, .bool false), (9, .clo 62 [.pto [.int v]]), (26, .intss L), (27, .int (L.length : Int)), (28, .int 0)]) (H' := [(10, .row 43 (.intss [])), (11, .row 43 (.intss [])), (606, .box [.int N, .row 10]), (607, .box [.int v, .row 11])]) (by kernel_rfl) ?_
  refine tri_loop (X := Nat) (fun x0 => x0 ≤ L.length) (fun x0 => [(4, .pto [.int v]), (5, .pto [.int many]), (6, .loc 606 0), (7, .loc 607 0), (8, .bool false), (9, .clo 62 [.pto [.int v]]), (26, .intss L), (27, .int (L.length : Int)), (28, .int (x0 : Int))]) (fun x0 => [(10, .row 43 (.intss (Cn.xOf (L.take x0) v))), (11, .row 43 (.intss (Cn.uOf (L.take x0) v))), (606, .box [.int N, .row 10]), (607, .box [.int v, .row 11])]) (fun x0 => L.length - x0) (0) ?_ ?_ ?_ ?_
  ·
   show 0 ≤ L.length
   omega
  ·
   exact subE_mk (l := [.pto [.int v], .pto [.int many], .loc 606 0, .loc 607 0, .bool false, .clo 62 [.pto [.int v]], .intss L, .int (L.length : Int), .int 0]) (m := [.pto [.int v], .pto [.int many], .loc 606 0, .loc 607 0, .bool false, .clo 62 [.pto [.int v]], .intss L, .int (L.length : Int), .int (0 : Int)]) (by kernel_rfl) (by kernel_rfl) (consE rfl (consE rfl (consE rfl (consE rfl (consE rfl (consE rfl (consE rfl (consE rfl (consE (congrArg AV.int (show 0 = (0 : Int) from (by first | rfl | omega | (simp; done)))) rfl)))))))))
  ·
   exact Eq.trans (show _ = [(10, .row 43 (.intss [])), (11, .row 43 (.intss [])), (606, .box [.int N, .row 10]), (607, .box [.int v, .row 11])] from by kernel_rfl) (consH (congrArg (fun x => ((10 : Nat), x)) (congrArg (fun x => AObj.row 43 (.intss x)) (show [] = (Cn.xOf (L.take 0) v) from (by simp [Cn.xOf])))) (consH (congrArg (fun x => ((11 : Nat), x)) (congrArg (fun x => AObj.row 43 (.intss x)) (show [] = (Cn.uOf (L.take 0) v) from (by simp [Cn.uOf])))) (consH rfl (consH rfl rfl))))
  ·
   intro k hI
   replace hI : k ≤ L.length := hI
   change Tri _ [(4, .pto [.int v]), (5, .pto [.int many]), (6, .loc 606 0), (7, .loc 607 0), (8, .bool false), (9, .clo 62 [.pto [.int v]]), (26, .intss L), (27, .int (L.length : Int)), (28, .int (k : Int))] [(10, .row 43 (.intss (Cn.xOf (L.take k) v))), (11, .row 43 (.intss (Cn.uOf (L.take k) v))), (606, .box [.int N, .row 10]), (607, .box [.int v, .row 11])] _ _
   have hxl := Cn.xOf_len (c := L.take k) (v := v)
   have hul := Cn.uOf_len (c := L.take k) (v := v)
   have htl : (L.take k).length ≤ k := by rw [List.length_take]; omega
   refine tri_seq ?_
   refine tri_regD hcx [] [29] [4, 5, 6, 7, 8, 9, 26, 27, 28] [10, 11, 606, 607] [] [(29, .bool (decide ((k : Int) < (L.length : Int))))] [] (by kernel_rfl) ?_ ?_
   ·
    exact az
   refine fin_then ?_
   refine tri_seq ?_
   refine tri_cond (b := (decide ((k : Int) < (L.length : Int)))) (by kernel_rfl) (fun hb0 => ?_) (fun hb0 => ?_)
   ·
    skip
    have h0 := of_decide_eq_true hb0
    refine tri_skip ?_
    refine fin_then ?_
    refine tri_seq ?_
    refine tri_block ?_
    refine tri_seq ?_
    refine tri_regD hcx [] [11] [4, 5, 6, 7, 8, 9, 26, 27, 28] [10, 11, 606, 607] [((0 : Int) ≤ (k : Int) ∧ (k : Int) < (L.length : Int))] [(11, .ints (L.getD k []))] [] (by kernel_rfl) ?_ ?_
    ·
     refine (ap ?_ az)
     first | (rw [← hOX]; exact hXX) | exact hUU | (first | omega | exact id | exact vcNot | exact vcG | exact vcH | (intro _; omega) | exact (fun _ h => h) | (intro h; simp at h; omega) | (simp only [List.length_cons, List.length_nil, List.length_append, List.length_map, List.length_set, List.length_replicate]; omega) | (intro h; simp [h]; done)) | exact ⟨by have := hpl p hi0; omega, by have := hql q hi1; omega, by omega, by omega⟩ | (have := hm7 k (by omega); exact ⟨by unfold maxLen; omega, by omega, by omega⟩) | (have := hpl p hi0; have := hql q hi1; have := Cn.resL_len ((Cn.withL (Cn.uOf (L.take k) v) v).getD p []) ((Cn.withL (Cn.uOf (L.take k) v) (-v)).getD q []) v; omega) | (constructor <;> omega) | trivial
    refine fin_then ?_
    refine tri_seq ?_
    refine tri_regD hcx [] [34] [11, 4, 5, 6, 7, 8, 9, 26, 27, 28] [10, 11, 606, 607] [((L.getD k []).length ≤ maxLen ∧ -65536 ≤ v ∧ v ≤ 65536)] [(34, .bool (Cn.hasV v (L.getD k [])))] [] (by kernel_rfl) ?_ ?_
    ·
     refine (ap ?_ az)
     first | (rw [← hOX]; exact hXX) | exact hUU | (first | omega | exact id | exact vcNot | exact vcG | exact vcH | (intro _; omega) | exact (fun _ h => h) | (intro h; simp at h; omega) | (simp only [List.length_cons, List.length_nil, List.length_append, List.length_map, List.length_set, List.length_replicate]; omega) | (intro h; simp [h]; done)) | exact ⟨by have := hpl p hi0; omega, by have := hql q hi1; omega, by omega, by omega⟩ | (have := hm7 k (by omega); exact ⟨by unfold maxLen; omega, by omega, by omega⟩) | (have := hpl p hi0; have := hql q hi1; have := Cn.resL_len ((Cn.withL (Cn.uOf (L.take k) v) v).getD p []) ((Cn.withL (Cn.uOf (L.take k) v) (-v)).getD q []) v; omega) | (constructor <;> omega) | trivial
    refine fin_then ?_
    refine tri_cond (b := (Cn.hasV v (L.getD k []))) (by kernel_rfl) (fun hb1 => ?_) (fun hb1 => ?_)
    ·
     skip
     have h1 := hb1
     have hq := h1
     refine tri_regD hcx [(1004, .to 11), (607, .to 607)] [] [4, 5, 6, 7, 8, 9, 26, 27, 28] [10, 606] [(((Cn.uOf (L.take k) v).length + [(L.getD k [])].length) * 24 ≤ 140737488355328)] [] [(11, .row 43 (.intss ((Cn.uOf (L.take k) v) ++ [(L.getD k [])]))), (607, .box [.int v, .row 11])] (by kernel_rfl) ?_ ?_
     ·
      refine (ap ?_ az)
      first | (rw [← hOX]; exact hXX) | exact hUU | (first | omega | exact id | exact vcNot | exact vcG | exact vcH | (intro _; omega) | exact (fun _ h => h) | (intro h; simp at h; omega) | (simp only [List.length_cons, List.length_nil, List.length_append, List.length_map, List.length_set, List.length_replicate]; omega) | (intro h; simp [h]; done)) | exact ⟨by have := hpl p hi0; omega, by have := hql q hi1; omega, by omega, by omega⟩ | (have := hm7 k (by omega); exact ⟨by unfold maxLen; omega, by omega, by omega⟩) | (have := hpl p hi0; have := hql q hi1; have := Cn.resL_len ((Cn.withL (Cn.uOf (L.take k) v) v).getD p []) ((Cn.withL (Cn.uOf (L.take k) v) (-v)).getD q []) v; omega) | (constructor <;> omega) | trivial
     refine fin_block ?_
     refine fin_then ?_
     refine tri_regD hcx [] [28] [4, 5, 6, 7, 8, 9, 26, 27] [11, 607, 10, 606] [Fit ((k : Int) + 1)] [(28, .int ((k : Int) + 1))] [] (by kernel_rfl) ?_ ?_
     ·
      refine (ap ?_ az)
      first | (rw [← hOX]; exact hXX) | exact hUU | (first | omega | exact id | exact vcNot | exact vcG | exact vcH | (intro _; omega) | exact (fun _ h => h) | (intro h; simp at h; omega) | (simp only [List.length_cons, List.length_nil, List.length_append, List.length_map, List.length_set, List.length_replicate]; omega) | (intro h; simp [h]; done)) | exact ⟨by have := hpl p hi0; omega, by have := hql q hi1; omega, by omega, by omega⟩ | (have := hm7 k (by omega); exact ⟨by unfold maxLen; omega, by omega, by omega⟩) | (have := hpl p hi0; have := hql q hi1; have := Cn.resL_len ((Cn.withL (Cn.uOf (L.take k) v) v).getD p []) ((Cn.withL (Cn.uOf (L.take k) v) (-v)).getD q []) v; omega) | (constructor <;> omega) | trivial
     refine fin_ren (ρ := [(10, .to 10), (11, .to 11), (606, .to 606), (607, .to 607)]) (keys := [4, 5, 6, 7, 8, 9, 26, 27, 28]) (E' := [(4, .pto [.int v]), (5, .pto [.int many]), (6, .loc 606 0), (7, .loc 607 0), (8, .bool false), (9, .clo 62 [.pto [.int v]]), (26, .intss L), (27, .int (L.length : Int)), (28, .int ((k : Int) + 1))]) (H' := [(10, .row 43 (.intss (Cn.xOf (L.take k) v))), (11, .row 43 (.intss ((Cn.uOf (L.take k) v) ++ [(L.getD k [])]))), (606, .box [.int N, .row 10]), (607, .box [.int v, .row 11])]) (by kernel_rfl) ?_
     refine fin_round (k + 1) ?_ ?_ ?_ ?_
     ·
      show (k + 1) ≤ L.length
      omega
     ·
      show L.length - (k + 1) < L.length - k
      omega
     ·
      exact subE_mk (l := [.pto [.int v], .pto [.int many], .loc 606 0, .loc 607 0, .bool false, .clo 62 [.pto [.int v]], .intss L, .int (L.length : Int), .int ((k : Int) + 1)]) (m := [.pto [.int v], .pto [.int many], .loc 606 0, .loc 607 0, .bool false, .clo 62 [.pto [.int v]], .intss L, .int (L.length : Int), .int ((k + 1) : Int)]) (by kernel_rfl) (by kernel_rfl) (consE rfl (consE rfl (consE rfl (consE rfl (consE rfl (consE rfl (consE rfl (consE rfl (consE (congrArg AV.int (show ((k : Int) + 1) = ((k + 1) : Int) from (by first | rfl | omega | (simp; done)))) rfl)))))))))
     ·
      exact Eq.trans (show _ = [(10, .row 43 (.intss (Cn.xOf (L.take k) v))), (11, .row 43 (.intss ((Cn.uOf (L.take k) v) ++ [(L.getD k [])]))), (606, .box [.int N, .row 10]), (607, .box [.int v, .row 11])] from by kernel_rfl) (consH (congrArg (fun x => ((10 : Nat), x)) (congrArg (fun x => AObj.row 43 (.intss x)) (show (Cn.xOf (L.take k) v) = (Cn.xOf (L.take (k + 1)) v) from (by first | exact (Cn.uOf_next_y (by omega) hq).2 | exact (Cn.uOf_next_n (by omega) hq).1)))) (consH (congrArg (fun x => ((11 : Nat), x)) (congrArg (fun x => AObj.row 43 (.intss x)) (show ((Cn.uOf (L.take k) v) ++ [(L.getD k [])]) = (Cn.uOf (L.take (k + 1)) v) from (by first | exact (Cn.uOf_next_y (by omega) hq).1 | exact (Cn.uOf_next_n (by omega) hq).2)))) (consH rfl (consH rfl rfl))))
    ·
     skip
     have h1 := hb1
     have hq := h1
     refine tri_regD hcx [(1004, .to 10), (606, .to 606)] [] [4, 5, 6, 7, 8, 9, 26, 27, 28] [11, 607] [(((Cn.xOf (L.take k) v).length + [(L.getD k [])].length) * 24 ≤ 140737488355328)] [] [(10, .row 43 (.intss ((Cn.xOf (L.take k) v) ++ [(L.getD k [])]))), (606, .box [.int N, .row 10])] (by kernel_rfl) ?_ ?_
     ·
      refine (ap ?_ az)
      first | (rw [← hOX]; exact hXX) | exact hUU | (first | omega | exact id | exact vcNot | exact vcG | exact vcH | (intro _; omega) | exact (fun _ h => h) | (intro h; simp at h; omega) | (simp only [List.length_cons, List.length_nil, List.length_append, List.length_map, List.length_set, List.length_replicate]; omega) | (intro h; simp [h]; done)) | exact ⟨by have := hpl p hi0; omega, by have := hql q hi1; omega, by omega, by omega⟩ | (have := hm7 k (by omega); exact ⟨by unfold maxLen; omega, by omega, by omega⟩) | (have := hpl p hi0; have := hql q hi1; have := Cn.resL_len ((Cn.withL (Cn.uOf (L.take k) v) v).getD p []) ((Cn.withL (Cn.uOf (L.take k) v) (-v)).getD q []) v; omega) | (constructor <;> omega) | trivial
     refine fin_block ?_
     refine fin_then ?_
     refine tri_regD hcx [] [28] [4, 5, 6, 7, 8, 9, 26, 27] [10, 606, 11, 607] [Fit ((k : Int) + 1)] [(28, .int ((k : Int) + 1))] [] (by kernel_rfl) ?_ ?_
     ·
      refine (ap ?_ az)
      first | (rw [← hOX]; exact hXX) | exact hUU | (first | omega | exact id | exact vcNot | exact vcG | exact vcH | (intro _; omega) | exact (fun _ h => h) | (intro h; simp at h; omega) | (simp only [List.length_cons, List.length_nil, List.length_append, List.length_map, List.length_set, List.length_replicate]; omega) | (intro h; simp [h]; done)) | exact ⟨by have := hpl p hi0; omega, by have := hql q hi1; omega, by omega, by omega⟩ | (have := hm7 k (by omega); exact ⟨by unfold maxLen; omega, by omega, by omega⟩) | (have := hpl p hi0; have := hql q hi1; have := Cn.resL_len ((Cn.withL (Cn.uOf (L.take k) v) v).getD p []) ((Cn.withL (Cn.uOf (L.take k) v) (-v)).getD q []) v; omega) | (constructor <;> omega) | trivial
     refine fin_ren (ρ := [(10, .to 10), (11, .to 11), (606, .to 606), (607, .to 607)]) (keys := [4, 5, 6, 7, 8, 9, 26, 27, 28]) (E' := [(4, .pto [.int v]), (5, .pto [.int many]), (6, .loc 606 0), (7, .loc 607 0), (8, .bool false), (9, .clo 62 [.pto [.int v]]), (26, .intss L), (27, .int (L.length : Int)), (28, .int ((k : Int) + 1))]) (H' := [(10, .row 43 (.intss ((Cn.xOf (L.take k) v) ++ [(L.getD k [])]))), (11, .row 43 (.intss (Cn.uOf (L.take k) v))), (606, .box [.int N, .row 10]), (607, .box [.int v, .row 11])]) (by kernel_rfl) ?_
     refine fin_round (k + 1) ?_ ?_ ?_ ?_
     ·
      show (k + 1) ≤ L.length
      omega
     ·
      show L.length - (k + 1) < L.length - k
      omega
     ·
      exact subE_mk (l := [.pto [.int v], .pto [.int many], .loc 606 0, .loc 607 0, .bool false, .clo 62 [.pto [.int v]], .intss L, .int (L.length : Int), .int ((k : Int) + 1)]) (m := [.pto [.int v], .pto [.int many], .loc 606 0, .loc 607 0, .bool false, .clo 62 [.pto [.int v]], .intss L, .int (L.length : Int), .int ((k + 1) : Int)]) (by kernel_rfl) (by kernel_rfl) (consE rfl (consE rfl (consE rfl (consE rfl (consE rfl (consE rfl (consE rfl (consE rfl (consE (congrArg AV.int (show ((k : Int) + 1) = ((k + 1) : Int) from (by first | rfl | omega | (simp; done)))) rfl)))))))))
     ·
      exact Eq.trans (show _ = [(10, .row 43 (.intss ((Cn.xOf (L.take k) v) ++ [(L.getD k [])]))), (11, .row 43 (.intss (Cn.uOf (L.take k) v))), (606, .box [.int N, .row 10]), (607, .box [.int v, .row 11])] from by kernel_rfl) (consH (congrArg (fun x => ((10 : Nat), x)) (congrArg (fun x => AObj.row 43 (.intss x)) (show ((Cn.xOf (L.take k) v) ++ [(L.getD k [])]) = (Cn.xOf (L.take (k + 1)) v) from (by first | exact (Cn.uOf_next_y (by omega) hq).2 | exact (Cn.uOf_next_n (by omega) hq).1)))) (consH (congrArg (fun x => ((11 : Nat), x)) (congrArg (fun x => AObj.row 43 (.intss x)) (show (Cn.uOf (L.take k) v) = (Cn.uOf (L.take (k + 1)) v) from (by first | exact (Cn.uOf_next_y (by omega) hq).1 | exact (Cn.uOf_next_n (by omega) hq).2)))) (consH rfl (consH rfl rfl))))
   ·
    skip
    have h0 := of_decide_eq_false hb0
    have hkL : (L.take k) = L := by rw [show k = L.length from (by omega), List.take_length]
    have hu1 : (Cn.uOf (L.take k) v).length ≤ 10000 := by have := Cn.uOf_len (c := (L.take k)) (v := v); rw [hkL] at *; omega
    have hu2 : ∀ l ∈ (Cn.uOf (L.take k) v), l.length ≤ 1000 := fun l hl => hm2 l (by rw [hkL] at hl; exact (List.mem_filter.1 hl).1)
    have hit : (Cn.uOf (L.take k) v).length ≤ maxLen ∧ (∀ l ∈ (Cn.uOf (L.take k) v), l.length ≤ maxLen) := ⟨by unfold maxLen; omega, fun l hl => by have := hu2 l hl; unfold maxLen; omega⟩
    have hUU : (Cn.uOf (L.take k) v).length ≤ 1000000 ∧ ∀ l ∈ (Cn.uOf (L.take k) v), l.length ≤ 1000000 := ⟨by omega, fun l hl => by have := hu2 l hl; omega⟩
    have hpl : ∀ p, p < (Cn.withL (Cn.uOf (L.take k) v) v).length → ((Cn.withL (Cn.uOf (L.take k) v) v).getD p []).length ≤ 1000 := fun p hp => hu2 _ (List.mem_filter.1 (Cn.getD_memL hp)).1
    have hql : ∀ q, q < (Cn.withL (Cn.uOf (L.take k) v) (-v)).length → ((Cn.withL (Cn.uOf (L.take k) v) (-v)).getD q []).length ≤ 1000 := fun q hq => hu2 _ (List.mem_filter.1 (Cn.getD_memL hq)).1
    refine tri_exit ?_
    refine fin_then_exit ?_
    refine fin_then_exit ?_
    refine fin_block_same ?_
    refine fin_then ?_
    refine tri_seq ?_
    refine tri_label ?_
    refine fin_then ?_
    refine tri_seq ?_
    refine tri_seq ?_
    refine tri_ren (ρ := [(10, .to 10), (606, .to 606), (607, .to 607), (11, .frz)]) (keys := [29, 4, 5, 6, 7, 8, 9, 26, 27, 28]) (E' := [(29, .bool (decide ((k : Int) < (L.length : Int)))), (4, .pto [.int v]), (5, .pto [.int many]), (6, .loc 606 0), (7, .loc 607 0), (8, .bool false), (9, .clo 62 [.pto [.int v]]), (26, .intss L), (27, .int (L.length : Int)), (28, .int (k : Int))]) (H' := [(10, .row 43 (.intss (Cn.xOf (L.take k) v))), (606, .box [.int N, .row 10]), (607, .box [.int v, .intss (Cn.uOf (L.take k) v)])]) (by kernel_rfl) ?_
    refine tri_regD hcx [] [51] [4, 5, 6, 7, 8] [10, 606, 607] [(True)] [(51, .clo 63 [.pto [.ls (.intss (Cn.uOf (L.take k) v))], .pto [.int v]])] [] (by kernel_rfl) ?_ ?_
    ·
     refine (ap ?_ az)
     first | (rw [← hOX]; exact hXX) | exact hUU | (first | omega | exact id | exact vcNot | exact vcG | exact vcH | (intro _; omega) | exact (fun _ h => h) | (intro h; simp at h; omega) | (simp only [List.length_cons, List.length_nil, List.length_append, List.length_map, List.length_set, List.length_replicate]; omega) | (intro h; simp [h]; done)) | exact ⟨by have := hpl p hi0; omega, by have := hql q hi1; omega, by omega, by omega⟩ | (have := hm7 k (by omega); exact ⟨by unfold maxLen; omega, by omega, by omega⟩) | (have := hpl p hi0; have := hql q hi1; have := Cn.resL_len ((Cn.withL (Cn.uOf (L.take k) v) v).getD p []) ((Cn.withL (Cn.uOf (L.take k) v) (-v)).getD q []) v; omega) | (constructor <;> omega) | trivial
    refine fin_then ?_
    refine tri_block ?_
    refine tri_ren (ρ := [(606, .to 0), (607, .to 1), (10, .to 10)]) (keys := [51, 4, 5, 6, 7, 8]) (E' := [(51, .clo 63 [.pto [.ls (.intss (Cn.uOf (L.take k) v))], .pto [.int v]]), (4, .pto [.int v]), (5, .pto [.int many]), (6, .loc 0 0), (7, .loc 1 0), (8, .bool false)]) (H' := [(0, .box [.int N, .row 10]), (1, .box [.int v, .intss (Cn.uOf (L.take k) v)]), (10, .row 43 (.intss (Cn.xOf (L.take k) v)))]) (by kernel_rfl) ?_
    refine tri_range (X := Unit) rfl with_seq (caps := [.pto [.ls (.intss (Cn.uOf (L.take k) v))], .pto [.int v]]) (by kernel_rfl) (N := (Cn.withL (Cn.uOf (L.take k) v) v).length) (el := fun p => [.ints ((Cn.withL (Cn.uOf (L.take k) v) v).getD p [])]) rfl (by kernel_rfl) ?_ 2 970 989 (by kernel_rfl) (fun p x0 => Cn.okX (L.take k) v many p 0) (fun p x0 => [(0, .box [.int N, .row 10]), (1, .box [.int v, .intss (Cn.uOf (L.take k) v)]), (10, .row 43 (.intss (Cn.stX (L.take k) v p 0)))]) (fun p x0 => [(51, .clo 63 [.pto [.ls (.intss (Cn.uOf (L.take k) v))], .pto [.int v]]), (4, .pto [.int v]), (5, .pto [.int many]), (6, .loc 0 0), (7, .loc 1 0), (8, .bool false), (12, .loc 612 0)]) (fun p x0 => [(0, .box [.int N, .row 10]), (1, .box [.int v, .intss (Cn.uOf (L.take k) v)]), (10, .row 43 (.intss (Cn.stX (L.take k) v p 0))), (612, .box [.ints ((Cn.withL (Cn.uOf (L.take k) v) v).getD p [])])]) (()) ?_ ?_ (fun _ _ => rfl) (fun _ _ _ => by kernel_rfl) (fun _ _ => by kernel_rfl) ?_ ?_ ?_
    ·
     exact ⟨hit.1, hit.2, by omega, by omega⟩
    ·
     show Cn.okX (L.take k) v many 0 0
     exact Cn.ok_zero
    ·
     exact Eq.trans (show _ = [(0, .box [.int N, .row 10]), (1, .box [.int v, .intss (Cn.uOf (L.take k) v)]), (10, .row 43 (.intss (Cn.xOf (L.take k) v)))] from by kernel_rfl) (consH rfl (consH rfl (consH (congrArg (fun x => ((10 : Nat), x)) (congrArg (fun x => AObj.row 43 (.intss x)) (show (Cn.xOf (L.take k) v) = (Cn.stX (L.take k) v 0 0) from (by exact Cn.st_zero)))) rfl)))
    ·
     intro Wr Or βr Gr l0 r0 p un hi0 hI0
     replace hI0 : Cn.okX (L.take k) v many p 0 := hI0
     change Tri _ [(52, .ints ((Cn.withL (Cn.uOf (L.take k) v) v).getD p [])), (51, .clo 63 [.pto [.ls (.intss (Cn.uOf (L.take k) v))], .pto [.int v]]), (4, .pto [.int v]), (5, .pto [.int many]), (6, .loc 0 0), (7, .loc 1 0), (8, .bool false)] [(970, .other l0 (.loop r0)), (0, .box [.int N, .row 10]), (1, .box [.int v, .intss (Cn.uOf (L.take k) v)]), (10, .row 43 (.intss (Cn.stX (L.take k) v p 0)))] _ _
     refine tri_regD hcx [(1000, .to 612)] [12] [51, 4, 5, 6, 7, 8] [970, 0, 1, 10] [] [(12, .loc 612 0)] [(612, .box [.ints ((Cn.withL (Cn.uOf (L.take k) v) v).getD p [])])] (by kernel_rfl) ?_ ?_
     ·
      exact az
     refine fin_ren (ρ := [(970, .to 970), (0, .to 0), (1, .to 1), (10, .to 10), (612, .to 612)]) (keys := [4, 5, 6, 7, 8, 12, 51]) (E' := [(4, .pto [.int v]), (5, .pto [.int many]), (6, .loc 0 0), (7, .loc 1 0), (8, .bool false), (12, .loc 612 0), (51, .clo 63 [.pto [.ls (.intss (Cn.uOf (L.take k) v))], .pto [.int v]])]) (H' := [(970, .other l0 (.loop r0)), (0, .box [.int N, .row 10]), (1, .box [.int v, .intss (Cn.uOf (L.take k) v)]), (10, .row 43 (.intss (Cn.stX (L.take k) v p 0))), (612, .box [.ints ((Cn.withL (Cn.uOf (L.take k) v) v).getD p [])])]) (by kernel_rfl) ?_
     refine fin_assign ?_ ?_
     ·
      exact subE_mk (l := [.clo 63 [.pto [.ls (.intss (Cn.uOf (L.take k) v))], .pto [.int v]], .pto [.int v], .pto [.int many], .loc 0 0, .loc 1 0, .bool false, .loc 612 0]) (m := [.clo 63 [.pto [.ls (.intss (Cn.uOf (L.take k) v))], .pto [.int v]], .pto [.int v], .pto [.int many], .loc 0 0, .loc 1 0, .bool false, .loc 612 0]) (by kernel_rfl) (by kernel_rfl) rfl
     ·
      kernel_rfl
    ·
     intro Wr Or βr Gr l0 r0 p un hi0 hI0
     replace hI0 : Cn.okX (L.take k) v many p 0 := hI0
     change Tri _ [(51, .clo 63 [.pto [.ls (.intss (Cn.uOf (L.take k) v))], .pto [.int v]]), (4, .pto [.int v]), (5, .pto [.int many]), (6, .loc 0 0), (7, .loc 1 0), (8, .bool false), (12, .loc 612 0)] [(970, .other l0 (.loop r0)), (0, .box [.int N, .row 10]), (1, .box [.int v, .intss (Cn.uOf (L.take k) v)]), (10, .row 43 (.intss (Cn.stX (L.take k) v p 0))), (612, .box [.ints ((Cn.withL (Cn.uOf (L.take k) v) v).getD p [])])] _ _
     refine tri_block ?_
     refine tri_seq ?_
     refine tri_regD hcx [] [57] [4, 5, 6, 7, 8, 12] [970, 0, 1, 10, 612] [Fit (-v), (True)] [(57, .clo 63 [.pto [.ls (.intss (Cn.uOf (L.take k) v))], .pto [.int (-v)]])] [] (by kernel_rfl) ?_ ?_
     ·
      refine (ap ?_ (ap ?_ az))
      all_goals
       first | (rw [← hOX]; exact hXX) | exact hUU | (first | omega | exact id | exact vcNot | exact vcG | exact vcH | (intro _; omega) | exact (fun _ h => h) | (intro h; simp at h; omega) | (simp only [List.length_cons, List.length_nil, List.length_append, List.length_map, List.length_set, List.length_replicate]; omega) | (intro h; simp [h]; done)) | exact ⟨by have := hpl p hi0; omega, by have := hql q hi1; omega, by omega, by omega⟩ | (have := hm7 k (by omega); exact ⟨by unfold maxLen; omega, by omega, by omega⟩) | (have := hpl p hi0; have := hql q hi1; have := Cn.resL_len ((Cn.withL (Cn.uOf (L.take k) v) v).getD p []) ((Cn.withL (Cn.uOf (L.take k) v) (-v)).getD q []) v; omega) | (constructor <;> omega) | trivial
     refine fin_then ?_
     refine tri_block ?_
     refine tri_ren (ρ := [(0, .to 0), (1, .to 1), (612, .to 2), (10, .to 10), (970, .to 970)]) (keys := [57, 4, 5, 6, 7, 8, 12]) (E' := [(57, .clo 63 [.pto [.ls (.intss (Cn.uOf (L.take k) v))], .pto [.int (-v)]]), (4, .pto [.int v]), (5, .pto [.int many]), (6, .loc 0 0), (7, .loc 1 0), (8, .bool false), (12, .loc 2 0)]) (H' := [(0, .box [.int N, .row 10]), (1, .box [.int v, .intss (Cn.uOf (L.take k) v)]), (2, .box [.ints ((Cn.withL (Cn.uOf (L.take k) v) v).getD p [])]), (10, .row 43 (.intss (Cn.stX (L.take k) v p 0))), (970, .other l0 (.loop r0))]) (by kernel_rfl) ?_
     refine tri_rangeN (X := Unit) 970 l0 r0 rfl rfl with_seq (caps := [.pto [.ls (.intss (Cn.uOf (L.take k) v))], .pto [.int (-v)]]) (by kernel_rfl) (N := (Cn.withL (Cn.uOf (L.take k) v) (-v)).length) (el := fun q => [.ints ((Cn.withL (Cn.uOf (L.take k) v) (-v)).getD q [])]) rfl (by kernel_rfl) ?_ 3 971 (by kernel_rfl) (fun q x0 => Cn.okX (L.take k) v many p q) (fun q x0 => [(0, .box [.int N, .row 10]), (1, .box [.int v, .intss (Cn.uOf (L.take k) v)]), (2, .box [.ints ((Cn.withL (Cn.uOf (L.take k) v) v).getD p [])]), (10, .row 43 (.intss (Cn.stX (L.take k) v p q))), (970, .other l0 (.loop r0))]) (fun q x0 => [(57, .clo 63 [.pto [.ls (.intss (Cn.uOf (L.take k) v))], .pto [.int (-v)]]), (4, .pto [.int v]), (5, .pto [.int many]), (6, .loc 0 0), (7, .loc 1 0), (8, .bool false), (12, .loc 2 0), (13, .ints ((Cn.withL (Cn.uOf (L.take k) v) (-v)).getD q []))]) (fun q x0 => [(0, .box [.int N, .row 10]), (1, .box [.int v, .intss (Cn.uOf (L.take k) v)]), (2, .box [.ints ((Cn.withL (Cn.uOf (L.take k) v) v).getD p [])]), (10, .row 43 (.intss (Cn.stX (L.take k) v p q))), (970, .other l0 (.loop r0))]) (()) ?_ ?_ (fun _ _ => rfl) (fun _ _ _ => by kernel_rfl) ?_ ?_ ?_
     ·
      exact ⟨hit.1, hit.2, by omega, by omega⟩
     ·
      show Cn.okX (L.take k) v many p 0
      exact hI0
     ·
      kernel_rfl
     ·
      intro Wr Or βr Gr l1 r1 q un2 hi1 hI1
      replace hI1 : Cn.okX (L.take k) v many p q := hI1
      have hsl := Cn.ok_len (by rw [hkL]; exact hm1) hm6 hI1
      change Tri _ [(58, .ints ((Cn.withL (Cn.uOf (L.take k) v) (-v)).getD q [])), (57, .clo 63 [.pto [.ls (.intss (Cn.uOf (L.take k) v))], .pto [.int (-v)]]), (4, .pto [.int v]), (5, .pto [.int many]), (6, .loc 0 0), (7, .loc 1 0), (8, .bool false), (12, .loc 2 0)] [(971, .other l1 (.loop r1)), (0, .box [.int N, .row 10]), (1, .box [.int v, .intss (Cn.uOf (L.take k) v)]), (2, .box [.ints ((Cn.withL (Cn.uOf (L.take k) v) v).getD p [])]), (10, .row 43 (.intss (Cn.stX (L.take k) v p q))), (970, .other l0 (.loop r0))] _ _
      refine tri_regD hcx [] [13] [57, 4, 5, 6, 7, 8, 12] [971, 0, 1, 2, 10, 970] [] [(13, .ints ((Cn.withL (Cn.uOf (L.take k) v) (-v)).getD q []))] [] (by kernel_rfl) ?_ ?_
      ·
       exact az
      refine fin_assign ?_ ?_
      ·
       exact subE_mk (l := [.clo 63 [.pto [.ls (.intss (Cn.uOf (L.take k) v))], .pto [.int (-v)]], .pto [.int v], .pto [.int many], .loc 0 0, .loc 1 0, .bool false, .loc 2 0, .ints ((Cn.withL (Cn.uOf (L.take k) v) (-v)).getD q [])]) (m := [.clo 63 [.pto [.ls (.intss (Cn.uOf (L.take k) v))], .pto [.int (-v)]], .pto [.int v], .pto [.int many], .loc 0 0, .loc 1 0, .bool false, .loc 2 0, .ints ((Cn.withL (Cn.uOf (L.take k) v) (-v)).getD q [])]) (by kernel_rfl) (by kernel_rfl) rfl
      ·
       kernel_rfl
     ·
      intro Wr Or βr Gr l1 r1 q un2 hi1 hI1
      replace hI1 : Cn.okX (L.take k) v many p q := hI1
      have hsl := Cn.ok_len (by rw [hkL]; exact hm1) hm6 hI1
      change Tri _ [(57, .clo 63 [.pto [.ls (.intss (Cn.uOf (L.take k) v))], .pto [.int (-v)]]), (4, .pto [.int v]), (5, .pto [.int many]), (6, .loc 0 0), (7, .loc 1 0), (8, .bool false), (12, .loc 2 0), (13, .ints ((Cn.withL (Cn.uOf (L.take k) v) (-v)).getD q []))] [(971, .other l1 (.loop r1)), (0, .box [.int N, .row 10]), (1, .box [.int v, .intss (Cn.uOf (L.take k) v)]), (2, .box [.ints ((Cn.withL (Cn.uOf (L.take k) v) v).getD p [])]), (10, .row 43 (.intss (Cn.stX (L.take k) v p q))), (970, .other l0 (.loop r0))] _ _
      refine tri_block ?_
      refine tri_seq ?_
      refine tri_regD hcx [(1003, .to 263)] [14] [5, 6, 7] [971, 0, 1, 2, 10, 970] [(((Cn.withL (Cn.uOf (L.take k) v) v).getD p []).length ≤ 100000 ∧ ((Cn.withL (Cn.uOf (L.take k) v) (-v)).getD q []).length ≤ 100000 ∧ Fit v)] [(14, .row 263)] [(263, .row 3 (.ints (Cn.resL ((Cn.withL (Cn.uOf (L.take k) v) v).getD p []) ((Cn.withL (Cn.uOf (L.take k) v) (-v)).getD q []) v)))] (by kernel_rfl) ?_ ?_
      ·
       refine (ap ?_ az)
       first | (rw [← hOX]; exact hXX) | exact hUU | (first | omega | exact id | exact vcNot | exact vcG | exact vcH | (intro _; omega) | exact (fun _ h => h) | (intro h; simp at h; omega) | (simp only [List.length_cons, List.length_nil, List.length_append, List.length_map, List.length_set, List.length_replicate]; omega) | (intro h; simp [h]; done)) | exact ⟨by have := hpl p hi0; omega, by have := hql q hi1; omega, by omega, by omega⟩ | (have := hm7 k (by omega); exact ⟨by unfold maxLen; omega, by omega, by omega⟩) | (have := hpl p hi0; have := hql q hi1; have := Cn.resL_len ((Cn.withL (Cn.uOf (L.take k) v) v).getD p []) ((Cn.withL (Cn.uOf (L.take k) v) (-v)).getD q []) v; omega) | (constructor <;> omega) | trivial
      refine fin_then ?_
      refine tri_seq ?_
      refine tri_seq ?_
      refine tri_regD hcx [] [17] [14, 5, 6, 7] [263, 971, 0, 1, 2, 10, 970] [((Cn.resL ((Cn.withL (Cn.uOf (L.take k) v) v).getD p []) ((Cn.withL (Cn.uOf (L.take k) v) (-v)).getD q []) v).length ≤ 1000000)] [(17, .bool (Cn.tautL (Cn.resL ((Cn.withL (Cn.uOf (L.take k) v) v).getD p []) ((Cn.withL (Cn.uOf (L.take k) v) (-v)).getD q []) v)))] [] (by kernel_rfl) ?_ ?_
      ·
       refine (ap ?_ az)
       first | (rw [← hOX]; exact hXX) | exact hUU | (first | omega | exact id | exact vcNot | exact vcG | exact vcH | (intro _; omega) | exact (fun _ h => h) | (intro h; simp at h; omega) | (simp only [List.length_cons, List.length_nil, List.length_append, List.length_map, List.length_set, List.length_replicate]; omega) | (intro h; simp [h]; done)) | exact ⟨by have := hpl p hi0; omega, by have := hql q hi1; omega, by omega, by omega⟩ | (have := hm7 k (by omega); exact ⟨by unfold maxLen; omega, by omega, by omega⟩) | (have := hpl p hi0; have := hql q hi1; have := Cn.resL_len ((Cn.withL (Cn.uOf (L.take k) v) v).getD p []) ((Cn.withL (Cn.uOf (L.take k) v) (-v)).getD q []) v; omega) | (constructor <;> omega) | trivial
      refine fin_then ?_
      refine tri_seq ?_
      refine tri_regD hcx [] [71] [14, 5, 6, 7] [263, 971, 0, 1, 2, 10, 970] [] [(71, .bool (Cn.tautL (Cn.resL ((Cn.withL (Cn.uOf (L.take k) v) v).getD p []) ((Cn.withL (Cn.uOf (L.take k) v) (-v)).getD q []) v)))] [] (by kernel_rfl) ?_ ?_
      ·
       exact az
      refine fin_then ?_
      refine tri_cond (b := (Cn.tautL (Cn.resL ((Cn.withL (Cn.uOf (L.take k) v) v).getD p []) ((Cn.withL (Cn.uOf (L.take k) v) (-v)).getD q []) v))) (by kernel_rfl) (fun hb2 => ?_) (fun hb2 => ?_)
      ·
       skip
       have h2 := hb2
       have ht := h2
       refine tri_exit ?_
       refine fin_then_exit ?_
       refine fin_block_same ?_
       refine fin_ren (ρ := [(971, .to 971), (0, .to 0), (1, .to 1), (2, .to 2), (10, .to 10), (970, .to 970)]) (keys := []) (E' := []) (H' := [(971, .other l1 (.loop r1)), (0, .box [.int N, .row 10]), (1, .box [.int v, .intss (Cn.uOf (L.take k) v)]), (2, .box [.ints ((Cn.withL (Cn.uOf (L.take k) v) v).getD p [])]), (10, .row 43 (.intss (Cn.stX (L.take k) v p q))), (970, .other l0 (.loop r0))]) (by kernel_rfl) ?_
       refine fin_rnext (()) ?_ ?_
       ·
        show Cn.okX (L.take k) v many p (q + 1)
        first | exact Cn.ok_skip hi1 ht hI1 | exact Cn.ok_add hi1 ht (by first | exact Int.not_lt.1 hle | exact hle | omega)
       ·
        exact Eq.trans (show _ = [(971, .other l1 (.loop r1)), (0, .box [.int N, .row 10]), (1, .box [.int v, .intss (Cn.uOf (L.take k) v)]), (2, .box [.ints ((Cn.withL (Cn.uOf (L.take k) v) v).getD p [])]), (10, .row 43 (.intss (Cn.stX (L.take k) v p q))), (970, .other l0 (.loop r0))] from by kernel_rfl) (consH rfl (consH rfl (consH rfl (consH rfl (consH (congrArg (fun x => ((10 : Nat), x)) (congrArg (fun x => AObj.row 43 (.intss x)) (show (Cn.stX (L.take k) v p q) = (Cn.stX (L.take k) v p (q + 1)) from (by first | exact Cn.st_skip hi1 ht | exact Cn.st_add hi1 ht)))) (consH rfl rfl))))))
      ·
       skip
       have h2 := hb2
       have ht := h2
       refine tri_skip ?_
       refine fin_then ?_
       refine tri_seq ?_
       refine tri_regD hcx [(0, .to 0), (1004, .to 10)] [] [5, 6, 7] [971, 1, 2, 970] [(((Cn.stX (L.take k) v p q).length + [(Cn.resL ((Cn.withL (Cn.uOf (L.take k) v) v).getD p []) ((Cn.withL (Cn.uOf (L.take k) v) (-v)).getD q []) v)].length) * 24 ≤ 140737488355328)] [] [(0, .box [.int N, .row 10]), (10, .row 43 (.intss ((Cn.stX (L.take k) v p q) ++ [(Cn.resL ((Cn.withL (Cn.uOf (L.take k) v) v).getD p []) ((Cn.withL (Cn.uOf (L.take k) v) (-v)).getD q []) v)])))] (by kernel_rfl) ?_ ?_
       ·
        refine (ap ?_ az)
        first | (rw [← hOX]; exact hXX) | exact hUU | (first | omega | exact id | exact vcNot | exact vcG | exact vcH | (intro _; omega) | exact (fun _ h => h) | (intro h; simp at h; omega) | (simp only [List.length_cons, List.length_nil, List.length_append, List.length_map, List.length_set, List.length_replicate]; omega) | (intro h; simp [h]; done)) | exact ⟨by have := hpl p hi0; omega, by have := hql q hi1; omega, by omega, by omega⟩ | (have := hm7 k (by omega); exact ⟨by unfold maxLen; omega, by omega, by omega⟩) | (have := hpl p hi0; have := hql q hi1; have := Cn.resL_len ((Cn.withL (Cn.uOf (L.take k) v) v).getD p []) ((Cn.withL (Cn.uOf (L.take k) v) (-v)).getD q []) v; omega) | (constructor <;> omega) | trivial
       refine fin_then ?_
       refine tri_seq ?_
       refine tri_regD hcx [] [82] [5, 6, 7] [0, 10, 971, 1, 2, 970] [] [(82, .bool (decide ((((Cn.stX (L.take k) v p q) ++ [(Cn.resL ((Cn.withL (Cn.uOf (L.take k) v) v).getD p []) ((Cn.withL (Cn.uOf (L.take k) v) (-v)).getD q []) v)]).length : Int) > many)))] [] (by kernel_rfl) ?_ ?_
       ·
        exact az
       refine fin_then ?_
       refine tri_cond (b := (decide ((((Cn.stX (L.take k) v p q) ++ [(Cn.resL ((Cn.withL (Cn.uOf (L.take k) v) v).getD p []) ((Cn.withL (Cn.uOf (L.take k) v) (-v)).getD q []) v)]).length : Int) > many))) (by kernel_rfl) (fun hb3 => ?_) (fun hb3 => ?_)
       ·
        skip
        have h3 := of_decide_eq_true hb3
        have hOX : (Cn.outX L v many) = (Cn.stX (L.take k) v p q) ++ [(Cn.resL ((Cn.withL (Cn.uOf (L.take k) v) v).getD p []) ((Cn.withL (Cn.uOf (L.take k) v) (-v)).getD q []) v)] := by have := Cn.st_brk hi0 hi1 ht hI1 h3; rw [hkL] at this ⊢; exact this
        refine tri_exit ?_
        refine fin_block_other rfl ?_
        refine fin_ren (ρ := [(971, .to 971), (0, .to 0), (1, .to 1), (2, .to 2), (10, .to 10), (970, .to 970)]) (keys := []) (E' := []) (H' := [(971, .other l1 (.loop r1)), (0, .box [.int N, .row 10]), (1, .box [.int v, .intss (Cn.uOf (L.take k) v)]), (2, .box [.ints ((Cn.withL (Cn.uOf (L.take k) v) v).getD p [])]), (10, .row 43 (.intss ((Cn.stX (L.take k) v p q) ++ [(Cn.resL ((Cn.withL (Cn.uOf (L.take k) v) v).getD p []) ((Cn.withL (Cn.uOf (L.take k) v) (-v)).getD q []) v)]))), (970, .other l0 (.loop r0))]) (by kernel_rfl) ?_
        refine fin_rexit [(0, .box [.int N, .row 10]), (1, .box [.int v, .intss (Cn.uOf (L.take k) v)]), (2, .box [.ints ((Cn.withL (Cn.uOf (L.take k) v) v).getD p [])]), (10, .row 43 (.intss ((Cn.stX (L.take k) v p q) ++ [(Cn.resL ((Cn.withL (Cn.uOf (L.take k) v) v).getD p []) ((Cn.withL (Cn.uOf (L.take k) v) (-v)).getD q []) v)]))), (970, .other l0 (.loop r0))] rfl (by kernel_rfl) ?_
        change Fin _ [(57, .clo 63 [.pto [.ls (.intss (Cn.uOf (L.take k) v))], .pto [.int (-v)]]), (4, .pto [.int v]), (5, .pto [.int many]), (6, .loc 0 0), (7, .loc 1 0), (8, .bool false), (12, .loc 2 0)] [(0, .box [.int N, .row 10]), (1, .box [.int v, .intss (Cn.uOf (L.take k) v)]), (2, .box [.ints ((Cn.withL (Cn.uOf (L.take k) v) v).getD p [])]), (10, .row 43 (.intss ((Cn.stX (L.take k) v p q) ++ [(Cn.resL ((Cn.withL (Cn.uOf (L.take k) v) v).getD p []) ((Cn.withL (Cn.uOf (L.take k) v) (-v)).getD q []) v)]))), (970, .other l0 (.loop r0))] _ _
        refine fin_block_other rfl ?_
        refine fin_block_other rfl ?_
        refine fin_ren (ρ := [(970, .to 970), (0, .to 0), (1, .to 1), (10, .to 10)]) (keys := []) (E' := []) (H' := [(970, .other l0 (.loop r0)), (0, .box [.int N, .row 10]), (1, .box [.int v, .intss (Cn.uOf (L.take k) v)]), (10, .row 43 (.intss ((Cn.stX (L.take k) v p q) ++ [(Cn.resL ((Cn.withL (Cn.uOf (L.take k) v) v).getD p []) ((Cn.withL (Cn.uOf (L.take k) v) (-v)).getD q []) v)])))]) (by kernel_rfl) ?_
        refine fin_rexit [(0, .box [.int N, .row 10]), (1, .box [.int v, .intss (Cn.uOf (L.take k) v)]), (10, .row 43 (.intss ((Cn.stX (L.take k) v p q) ++ [(Cn.resL ((Cn.withL (Cn.uOf (L.take k) v) v).getD p []) ((Cn.withL (Cn.uOf (L.take k) v) (-v)).getD q []) v)])))] rfl (by kernel_rfl) ⟨by kernel_rfl, fun D0 => ?_⟩
        change Fin _ [(51, .clo 63 [.pto [.ls (.intss (Cn.uOf (L.take k) v))], .pto [.int v]]), (4, .pto [.int v]), (5, .pto [.int many]), (6, .loc 0 0), (7, .loc 1 0), (8, .bool false)] [(989, .other D0 dfr), (0, .box [.int N, .row 10]), (1, .box [.int v, .intss (Cn.uOf (L.take k) v)]), (10, .row 43 (.intss ((Cn.stX (L.take k) v p q) ++ [(Cn.resL ((Cn.withL (Cn.uOf (L.take k) v) v).getD p []) ((Cn.withL (Cn.uOf (L.take k) v) (-v)).getD q []) v)])))] _ _
        refine fin_block_same ?_
        refine fin_then ?_
        refine tri_seq ?_
        refine tri_ren (ρ := [(0, .to 0), (1, .to 1), (989, .to 989), (10, .frz)]) (keys := [51, 4, 5, 6, 7, 8]) (E' := [(51, .clo 63 [.pto [.ls (.intss (Cn.uOf (L.take k) v))], .pto [.int v]]), (4, .pto [.int v]), (5, .pto [.int many]), (6, .loc 0 0), (7, .loc 1 0), (8, .bool false)]) (H' := [(0, .box [.int N, .intss ((Cn.stX (L.take k) v p q) ++ [(Cn.resL ((Cn.withL (Cn.uOf (L.take k) v) v).getD p []) ((Cn.withL (Cn.uOf (L.take k) v) (-v)).getD q []) v)])]), (1, .box [.int v, .intss (Cn.uOf (L.take k) v)]), (989, .other D0 dfr)]) (by kernel_rfl) ?_
        refine tri_drawD [0, 1, 3, 0, 8, 31, 7, 127, 255, 511] hcx hmx [(0, .to 0), (1, .to 1), (1002, .to 285), (1005, .to 288)] [] [5, 6, 7] [989] [(((Cn.stX (L.take k) v p q) ++ [(Cn.resL ((Cn.withL (Cn.uOf (L.take k) v) v).getD p []) ((Cn.withL (Cn.uOf (L.take k) v) (-v)).getD q []) v)]).length ≤ 1000000 ∧ ∀ l ∈ ((Cn.stX (L.take k) v p q) ++ [(Cn.resL ((Cn.withL (Cn.uOf (L.take k) v) v).getD p []) ((Cn.withL (Cn.uOf (L.take k) v) (-v)).getD q []) v)]), l.length ≤ 1000000), ((Cn.uOf (L.take k) v).length ≤ 1000000 ∧ ∀ l ∈ (Cn.uOf (L.take k) v), l.length ≤ 1000000)] [] [(0, .box [.int N, .row 285]), (1, .box [.int v, .row 288]), (285, .row 43 (.intss ((Cn.stX (L.take k) v p q) ++ [(Cn.resL ((Cn.withL (Cn.uOf (L.take k) v) v).getD p []) ((Cn.withL (Cn.uOf (L.take k) v) (-v)).getD q []) v)]))), (288, .row 43 (.intss (Cn.uOf (L.take k) v)))] (by kernel_rfl) ?_ ?_
        ·
         refine (ap ?_ (ap ?_ az))
         all_goals
          first | (rw [← hOX]; exact hXX) | exact hUU | (first | omega | exact id | exact vcNot | exact vcG | exact vcH | (intro _; omega) | exact (fun _ h => h) | (intro h; simp at h; omega) | (simp only [List.length_cons, List.length_nil, List.length_append, List.length_map, List.length_set, List.length_replicate]; omega) | (intro h; simp [h]; done)) | exact ⟨by have := hpl p hi0; omega, by have := hql q hi1; omega, by omega, by omega⟩ | (have := hm7 k (by omega); exact ⟨by unfold maxLen; omega, by omega, by omega⟩) | (have := hpl p hi0; have := hql q hi1; have := Cn.resL_len ((Cn.withL (Cn.uOf (L.take k) v) v).getD p []) ((Cn.withL (Cn.uOf (L.take k) v) (-v)).getD q []) v; omega) | (constructor <;> omega) | trivial
        refine fin_then ?_
        refine tri_seq ?_
        refine tri_drawD [0, 0, 0, 4, 12, 0, 60, 13, 143, 511] hcx hmx [(0, .to 0), (1, .to 1)] [8] [6, 7] [285, 288, 989] [] [(8, .bool (decide ((((Cn.stX (L.take k) v p q) ++ [(Cn.resL ((Cn.withL (Cn.uOf (L.take k) v) v).getD p []) ((Cn.withL (Cn.uOf (L.take k) v) (-v)).getD q []) v)]).length : Int) ≤ many)))] [(0, .box [.int N, .row 285]), (1, .box [.int v, .row 288])] (by kernel_rfl) ?_ ?_
        ·
         exact az
        refine fin_then ?_
        refine tri_ret ?_
        refine fin_scope_ret ?_
        refine fin_ren (ρ := [(285, .to 0), (288, .to 1), (989, .to 989), (0, .to 990), (1, .to 991)]) (keys := [6, 7, 8]) (E' := [(6, .loc 990 0), (7, .loc 991 0), (8, .bool (decide ((((Cn.stX (L.take k) v p q) ++ [(Cn.resL ((Cn.withL (Cn.uOf (L.take k) v) v).getD p []) ((Cn.withL (Cn.uOf (L.take k) v) (-v)).getD q []) v)]).length : Int) ≤ many)))]) (H' := [(0, .row 43 (.intss ((Cn.stX (L.take k) v p q) ++ [(Cn.resL ((Cn.withL (Cn.uOf (L.take k) v) v).getD p []) ((Cn.withL (Cn.uOf (L.take k) v) (-v)).getD q []) v)]))), (1, .row 43 (.intss (Cn.uOf (L.take k) v))), (989, .other D0 dfr), (990, .box [.int N, .row 0]), (991, .box [.int v, .row 1])]) (by kernel_rfl) ?_
        exact fin_retM _ rfl [(989, D0)] rfl rfl ⟨rfl, trivial⟩ hcx (avs := [.agg [.int N, .row 0], .agg [.int v, .row 1], .bool (decide ((((Cn.stX (L.take k) v p q) ++ [(Cn.resL ((Cn.withL (Cn.uOf (L.take k) v) v).getD p []) ((Cn.withL (Cn.uOf (L.take k) v) (-v)).getD q []) v)]).length : Int) ≤ many))]) (by kernel_rfl) (congrArg AV.tup (consE rfl (consE rfl (consE (congrArg AV.bool (show (decide ((((Cn.stX (L.take k) v p q) ++ [(Cn.resL ((Cn.withL (Cn.uOf (L.take k) v) v).getD p []) ((Cn.withL (Cn.uOf (L.take k) v) (-v)).getD q []) v)]).length : Int) ≤ many)) = (decide (((Cn.outX L v many).length : Int) ≤ many)) from (by rw [hOX]))) rfl)))) [true, true] (Eq.trans (show _ = [some (.row 43 (.intss ((Cn.stX (L.take k) v p q) ++ [(Cn.resL ((Cn.withL (Cn.uOf (L.take k) v) v).getD p []) ((Cn.withL (Cn.uOf (L.take k) v) (-v)).getD q []) v)]))), some (.row 43 (.intss (Cn.uOf (L.take k) v)))] from by kernel_rfl) (consO (congrArg some (congrArg (fun x => AObj.row 43 (.intss x)) (show ((Cn.stX (L.take k) v p q) ++ [(Cn.resL ((Cn.withL (Cn.uOf (L.take k) v) v).getD p []) ((Cn.withL (Cn.uOf (L.take k) v) (-v)).getD q []) v)]) = (Cn.outX L v many) from (by exact hOX.symm)))) (consO (congrArg some (congrArg (fun x => AObj.row 43 (.intss x)) (show (Cn.uOf (L.take k) v) = (Cn.uOf L v) from (by rw [hkL])))) rfl)))
       ·
        skip
        have h3 := of_decide_eq_false hb3
        have hle := h3
        refine tri_skip ?_
        refine fin_block ?_
        refine fin_ren (ρ := [(971, .to 971), (0, .to 0), (1, .to 1), (2, .to 2), (10, .to 10), (970, .to 970)]) (keys := []) (E' := []) (H' := [(971, .other l1 (.loop r1)), (0, .box [.int N, .row 10]), (1, .box [.int v, .intss (Cn.uOf (L.take k) v)]), (2, .box [.ints ((Cn.withL (Cn.uOf (L.take k) v) v).getD p [])]), (10, .row 43 (.intss ((Cn.stX (L.take k) v p q) ++ [(Cn.resL ((Cn.withL (Cn.uOf (L.take k) v) v).getD p []) ((Cn.withL (Cn.uOf (L.take k) v) (-v)).getD q []) v)]))), (970, .other l0 (.loop r0))]) (by kernel_rfl) ?_
        refine fin_rnext (()) ?_ ?_
        ·
         show Cn.okX (L.take k) v many p (q + 1)
         first | exact Cn.ok_skip hi1 ht hI1 | exact Cn.ok_add hi1 ht (by first | exact Int.not_lt.1 hle | exact hle | omega)
        ·
         exact Eq.trans (show _ = [(971, .other l1 (.loop r1)), (0, .box [.int N, .row 10]), (1, .box [.int v, .intss (Cn.uOf (L.take k) v)]), (2, .box [.ints ((Cn.withL (Cn.uOf (L.take k) v) v).getD p [])]), (10, .row 43 (.intss ((Cn.stX (L.take k) v p q) ++ [(Cn.resL ((Cn.withL (Cn.uOf (L.take k) v) v).getD p []) ((Cn.withL (Cn.uOf (L.take k) v) (-v)).getD q []) v)]))), (970, .other l0 (.loop r0))] from by kernel_rfl) (consH rfl (consH rfl (consH rfl (consH rfl (consH (congrArg (fun x => ((10 : Nat), x)) (congrArg (fun x => AObj.row 43 (.intss x)) (show ((Cn.stX (L.take k) v p q) ++ [(Cn.resL ((Cn.withL (Cn.uOf (L.take k) v) v).getD p []) ((Cn.withL (Cn.uOf (L.take k) v) (-v)).getD q []) v)]) = (Cn.stX (L.take k) v p (q + 1)) from (by first | exact Cn.st_skip hi1 ht | exact Cn.st_add hi1 ht)))) (consH rfl rfl))))))
     ·
      intro un2 hI1
      replace hI1 : Cn.okX (L.take k) v many p ((Cn.withL (Cn.uOf (L.take k) v) (-v)).length) := hI1
      change Fin _ [(57, .clo 63 [.pto [.ls (.intss (Cn.uOf (L.take k) v))], .pto [.int (-v)]]), (4, .pto [.int v]), (5, .pto [.int many]), (6, .loc 0 0), (7, .loc 1 0), (8, .bool false), (12, .loc 2 0)] [(0, .box [.int N, .row 10]), (1, .box [.int v, .intss (Cn.uOf (L.take k) v)]), (2, .box [.ints ((Cn.withL (Cn.uOf (L.take k) v) v).getD p [])]), (10, .row 43 (.intss (Cn.stX (L.take k) v p ((Cn.withL (Cn.uOf (L.take k) v) (-v)).length)))), (970, .other l0 (.loop r0))] _ _
      refine fin_block ?_
      refine fin_block ?_
      refine fin_ren (ρ := [(970, .to 970), (0, .to 0), (1, .to 1), (10, .to 10)]) (keys := []) (E' := []) (H' := [(970, .other l0 (.loop r0)), (0, .box [.int N, .row 10]), (1, .box [.int v, .intss (Cn.uOf (L.take k) v)]), (10, .row 43 (.intss (Cn.stX (L.take k) v p ((Cn.withL (Cn.uOf (L.take k) v) (-v)).length))))]) (by kernel_rfl) ?_
      refine fin_rnext (()) ?_ ?_
      ·
       show Cn.okX (L.take k) v many (p + 1) 0
       exact Cn.ok_next hi0 hI1
      ·
       exact Eq.trans (show _ = [(970, .other l0 (.loop r0)), (0, .box [.int N, .row 10]), (1, .box [.int v, .intss (Cn.uOf (L.take k) v)]), (10, .row 43 (.intss (Cn.stX (L.take k) v p ((Cn.withL (Cn.uOf (L.take k) v) (-v)).length))))] from by kernel_rfl) (consH rfl (consH rfl (consH rfl (consH (congrArg (fun x => ((10 : Nat), x)) (congrArg (fun x => AObj.row 43 (.intss x)) (show (Cn.stX (L.take k) v p ((Cn.withL (Cn.uOf (L.take k) v) (-v)).length)) = (Cn.stX (L.take k) v (p + 1) 0) from (by exact Cn.st_next hi0)))) rfl))))
    ·
     intro D0 un hI0
     replace hI0 : Cn.okX (L.take k) v many ((Cn.withL (Cn.uOf (L.take k) v) v).length) 0 := hI0
     have hOX : (Cn.outX L v many) = (Cn.stX (L.take k) v (Cn.withL (Cn.uOf (L.take k) v) v).length 0) := by have := Cn.st_end hI0; rw [hkL] at this ⊢; exact this
     change Fin _ [(51, .clo 63 [.pto [.ls (.intss (Cn.uOf (L.take k) v))], .pto [.int v]]), (4, .pto [.int v]), (5, .pto [.int many]), (6, .loc 0 0), (7, .loc 1 0), (8, .bool false)] [(989, .other D0 dfr), (0, .box [.int N, .row 10]), (1, .box [.int v, .intss (Cn.uOf (L.take k) v)]), (10, .row 43 (.intss (Cn.stX (L.take k) v ((Cn.withL (Cn.uOf (L.take k) v) v).length) 0)))] _ _
     refine fin_block ?_
     refine fin_then ?_
     refine tri_seq ?_
     refine tri_ren (ρ := [(0, .to 0), (1, .to 1), (989, .to 989), (10, .frz)]) (keys := [51, 4, 5, 6, 7, 8]) (E' := [(51, .clo 63 [.pto [.ls (.intss (Cn.uOf (L.take k) v))], .pto [.int v]]), (4, .pto [.int v]), (5, .pto [.int many]), (6, .loc 0 0), (7, .loc 1 0), (8, .bool false)]) (H' := [(0, .box [.int N, .intss (Cn.stX (L.take k) v ((Cn.withL (Cn.uOf (L.take k) v) v).length) 0)]), (1, .box [.int v, .intss (Cn.uOf (L.take k) v)]), (989, .other D0 dfr)]) (by kernel_rfl) ?_
     refine tri_drawD [0, 1, 3, 0, 8, 31, 7, 127, 255, 511] hcx hmx [(0, .to 0), (1, .to 1), (1002, .to 285), (1005, .to 288)] [] [5, 6, 7] [989] [((Cn.stX (L.take k) v ((Cn.withL (Cn.uOf (L.take k) v) v).length) 0).length ≤ 1000000 ∧ ∀ l ∈ (Cn.stX (L.take k) v ((Cn.withL (Cn.uOf (L.take k) v) v).length) 0), l.length ≤ 1000000), ((Cn.uOf (L.take k) v).length ≤ 1000000 ∧ ∀ l ∈ (Cn.uOf (L.take k) v), l.length ≤ 1000000)] [] [(0, .box [.int N, .row 285]), (1, .box [.int v, .row 288]), (285, .row 43 (.intss (Cn.stX (L.take k) v ((Cn.withL (Cn.uOf (L.take k) v) v).length) 0))), (288, .row 43 (.intss (Cn.uOf (L.take k) v)))] (by kernel_rfl) ?_ ?_
     ·
      refine (ap ?_ (ap ?_ az))
      all_goals
       first | (rw [← hOX]; exact hXX) | exact hUU | (first | omega | exact id | exact vcNot | exact vcG | exact vcH | (intro _; omega) | exact (fun _ h => h) | (intro h; simp at h; omega) | (simp only [List.length_cons, List.length_nil, List.length_append, List.length_map, List.length_set, List.length_replicate]; omega) | (intro h; simp [h]; done)) | exact ⟨by have := hpl p hi0; omega, by have := hql q hi1; omega, by omega, by omega⟩ | (have := hm7 k (by omega); exact ⟨by unfold maxLen; omega, by omega, by omega⟩) | (have := hpl p hi0; have := hql q hi1; have := Cn.resL_len ((Cn.withL (Cn.uOf (L.take k) v) v).getD p []) ((Cn.withL (Cn.uOf (L.take k) v) (-v)).getD q []) v; omega) | (constructor <;> omega) | trivial
     refine fin_then ?_
     refine tri_seq ?_
     refine tri_drawD [0, 0, 0, 4, 12, 0, 60, 13, 143, 511] hcx hmx [(0, .to 0), (1, .to 1)] [8] [6, 7] [285, 288, 989] [] [(8, .bool (decide (((Cn.stX (L.take k) v ((Cn.withL (Cn.uOf (L.take k) v) v).length) 0).length : Int) ≤ many)))] [(0, .box [.int N, .row 285]), (1, .box [.int v, .row 288])] (by kernel_rfl) ?_ ?_
     ·
      exact az
     refine fin_then ?_
     refine tri_ret ?_
     refine fin_scope_ret ?_
     refine fin_ren (ρ := [(285, .to 0), (288, .to 1), (989, .to 989), (0, .to 990), (1, .to 991)]) (keys := [6, 7, 8]) (E' := [(6, .loc 990 0), (7, .loc 991 0), (8, .bool (decide (((Cn.stX (L.take k) v ((Cn.withL (Cn.uOf (L.take k) v) v).length) 0).length : Int) ≤ many)))]) (H' := [(0, .row 43 (.intss (Cn.stX (L.take k) v ((Cn.withL (Cn.uOf (L.take k) v) v).length) 0))), (1, .row 43 (.intss (Cn.uOf (L.take k) v))), (989, .other D0 dfr), (990, .box [.int N, .row 0]), (991, .box [.int v, .row 1])]) (by kernel_rfl) ?_
     exact fin_retM _ rfl [(989, D0)] rfl rfl ⟨rfl, trivial⟩ hcx (avs := [.agg [.int N, .row 0], .agg [.int v, .row 1], .bool (decide (((Cn.stX (L.take k) v ((Cn.withL (Cn.uOf (L.take k) v) v).length) 0).length : Int) ≤ many))]) (by kernel_rfl) (congrArg AV.tup (consE rfl (consE rfl (consE (congrArg AV.bool (show (decide (((Cn.stX (L.take k) v ((Cn.withL (Cn.uOf (L.take k) v) v).length) 0).length : Int) ≤ many)) = (decide (((Cn.outX L v many).length : Int) ≤ many)) from (by rw [hOX]))) rfl)))) [true, true] (Eq.trans (show _ = [some (.row 43 (.intss (Cn.stX (L.take k) v ((Cn.withL (Cn.uOf (L.take k) v) v).length) 0))), some (.row 43 (.intss (Cn.uOf (L.take k) v)))] from by kernel_rfl) (consO (congrArg some (congrArg (fun x => AObj.row 43 (.intss x)) (show (Cn.stX (L.take k) v ((Cn.withL (Cn.uOf (L.take k) v) v).length) 0) = (Cn.outX L v many) from (by exact hOX.symm)))) (consO (congrArg some (congrArg (fun x => AObj.row 43 (.intss x)) (show (Cn.uOf (L.take k) v) = (Cn.uOf L v) from (by rw [hkL])))) rfl)))
 ·
  cases hσ
def cx_eOutF : Cx := ⟨tyElim, [(46, cMay_σ), (73, cOf_σ), (57, (coeF [.id, .ld (.bools [])] cTrue_σ)), (56, cHolds1_σ), (59, (orF (coeF [.ld (.ints []), .id] ixHolds_σ) (coeF [.ld (.ints []), .id] ixCheck_σ))), (41, (orF (coeF [.ld (.ints []), .id] ctHolds_σ) (coeF [.ld (.ints []), .id] ctCheck_σ))), (37, (coeF [.ld (.ints []), .ld (.bools [])] cHolds_σ)), (45, cCheck1_σ), (25, (coeF [.agg [.id, .ld (.intss [])]] cCheck_σ)), (39, (coeF [.ld (.ints []), .id] cValue1_σ)), (55, (coeF [.ld (.intss []), .id] ixValue_σ)), (35, (coeF [.ld (.intss []), .id] ctValue_σ)), (21, (coeF [.agg [.id, .ld (.intss [])], .ld (.bools [])] cValue_σ)), (61, (coeF [.ld (.ints []), .id] sIndex_σ)), (43, (coeF [.ld (.ints []), .id] sContains_σ)), (60, sClone), (65, (orF sDel1 sDel2)), (69, sSortF), (74, sCompact), (75, sGrow), (49, (coeF [.ld (.ints [])] cNorm_σ)), (67, (coeF [.ld (.intss [])] sConcat_σ)), (64, (coeF [.ld (.ints []), .id] cRes1_σ)), (48, (coeF [.ld (.ints []), .ld (.ints []), .id] cResolve_σ)), (62, (coeF [.ld (.ints []), .id] eHas1_σ)), (44, eHas_σ), (47, (coeF [.ld (.intss []), .id] eWith_σ)), (42, (coeF [.ld (.intss [])] eOwn_σ)), (26, (coeF [.agg [.id, .ld (.intss [])], .id, .id] eOut_σ))]⟩
theorem cx_eOutF_ok : CxOk Try.prog cx_eOutF := cx_ok tyElim_ok ⟨cMay_sound, cOf_sound, (cTrue_sound.coe [.id, .ld (.bools [])] rfl), cHolds1_sound, ((ixHolds_sound.coe [.ld (.ints []), .id] rfl).or (ixCheck_sound.coe [.ld (.ints []), .id] rfl)), ((ctHolds_sound.coe [.ld (.ints []), .id] rfl).or (ctCheck_sound.coe [.ld (.ints []), .id] rfl)), (cHolds_sound.coe [.ld (.ints []), .ld (.bools [])] rfl), cCheck1_sound, (cCheck_sound.coe [.agg [.id, .ld (.intss [])]] rfl), (cValue1_sound.coe [.ld (.ints []), .id] rfl), (ixValue_sound.coe [.ld (.intss []), .id] rfl), (ctValue_sound.coe [.ld (.intss []), .id] rfl), (cValue_sound.coe [.agg [.id, .ld (.intss [])], .ld (.bools [])] rfl), (sIndex_sound.coe [.ld (.ints []), .id] rfl), (sContains_sound.coe [.ld (.ints []), .id] rfl), sClone_sound, (sDel1_sound.or sDel2_sound), sSortF_sound, sCompact_sound, sGrow_sound, (cNorm_sound.coe [.ld (.ints [])] rfl), (sConcat_sound.coe [.ld (.intss [])] rfl), (cRes1_sound.coe [.ld (.ints []), .id] rfl), (cResolve_sound.coe [.ld (.ints []), .ld (.ints []), .id] rfl), (eHas1_sound.coe [.ld (.ints []), .id] rfl), eHas_sound, (eWith_sound.coe [.ld (.intss []), .id] rfl), (eOwn_sound.coe [.ld (.intss [])] rfl), (eOut_sound.coe [.agg [.id, .ld (.intss [])], .id, .id] rfl), trivial⟩
def eOutF_σ : CtF
  | [.agg [.im (.val (.int .i64 N)), .im (.ls (.intss L))], .im (.val (.int .i64 v))], [] => some (L.length ≤ 10000 ∧ (∀ l ∈ L, l.length ≤ 1000), .tup [.agg [.int (Cn.ouN N L v), .row 0], .agg [.int (Cn.ouV N L v), .row 1], .int (Cn.ouE N L v)], [some (.row 43 (.intss (Cn.ouX N L v))), some (.row 43 (.intss (Cn.ouU N L v)))])
  | _, _ => none
theorem eOutF_sound : Sound Try.prog 12 eOutF_σ := by
 refine sound_mk (cx := cx_eOutF) (fn := Try.f12) Try.func12 (by kernel_rfl) rfl ?_
 intro w0 G0 args os p r outs hσ hp hm0 hd0
 have hcx : CxOk Try.prog cx_eOutF := cx_eOutF_ok
 have hmx : Try.prog.follows .mixedOrders = true := by kernel_rfl
 unfold eOutF_σ at hσ
 split at hσ
 ·
  rename_i N L v
  simp only [Option.some.injEq, Prod.mk.injEq] at hσ
  obtain ⟨rfl, rfl, rfl⟩ := hσ
  obtain ⟨wW, wO, wm, wβ, wd⟩ := w0
  replace hm0 : wm = 0 := hm0
  subst hm0
  replace hd0 : wd = [] := hd0
  subst hd0
  refine ⟨by kernel_rfl, ?_⟩
  change Tri ⟨_, _, _, _, _, _⟩ [(0, .agg [.int N, .intss L]), (1, .int v)] [] _ _
  obtain ⟨hm1, hm2⟩ := hp
  have hck : L.length ≤ maxLen ∧ ∀ l ∈ L, l.length ≤ maxLen := ⟨by unfold maxLen; omega, fun l hl => by have := hm2 l hl; unfold maxLen; omega⟩
  refine tri_seq ?_
  refine tri_regD hcx [(1001, .to 604), (1002, .to 605), (1000, .frz)] [2, 4, 5] [1] [] [] [(2, .pto [.int N, .ls (.intss L)]), (4, .loc 604 0), (5, .loc 605 0)] [(604, .box [.int 0, .im (.val (.slice none 0 0))]), (605, .box [.int 0, .im (.val (.slice none 0 0))])] (by kernel_rfl) ?_ ?_
  ·
   exact az
  refine fin_then ?_
  refine tri_seq ?_
  refine tri_seq ?_
  refine tri_regD hcx [] [6] [2, 4, 5, 1] [604, 605] [(L.length ≤ maxLen ∧ ∀ l ∈ L, l.length ≤ maxLen)] [(6, .int (Cn.chkV N L))] [] (by kernel_rfl) ?_ ?_
  ·
   refine (ap ?_ az)
   first | exact hck | (first | omega | exact id | exact vcNot | exact vcG | exact vcH | (intro _; omega) | exact (fun _ h => h) | (intro h; simp at h; omega) | (simp only [List.length_cons, List.length_nil, List.length_append, List.length_map, List.length_set, List.length_replicate]; omega) | (intro h; simp [h]; done)) | exact ⟨hm1, hm2, by omega, by omega, by omega, by omega⟩ | trivial
  refine fin_then ?_
  refine tri_seq ?_
  refine tri_regD hcx [] [13] [6, 2, 4, 5, 1] [604, 605] [] [(13, .bool ((Cn.chkV N L) != 0))] [] (by kernel_rfl) ?_ ?_
  ·
   exact az
  refine fin_then ?_
  refine tri_cond (b := ((Cn.chkV N L) != 0)) (by kernel_rfl) (fun hb0 => ?_) (fun hb0 => ?_)
  ·
   skip
   have h0 := bne_iff_ne.1 hb0
   obtain ⟨hA, hB, hC, hD, hE⟩ := Cn.ou_no (v := v) (Cn.ou_chk h0) h0
   refine tri_seq ?_
   refine tri_drawD [0, 0, 0, 1, 11, 31] hcx hmx [(604, .to 604), (605, .to 605)] [6] [4, 5] [] [] [(6, .int (Cn.chkV N L))] [(604, .box [.int 0, .im (.val (.slice none 0 0))]), (605, .box [.int 0, .im (.val (.slice none 0 0))])] (by kernel_rfl) ?_ ?_
   ·
    exact az
   refine fin_then ?_
   refine tri_ret ?_
   refine fin_then_ret ?_
   refine fin_rowB 604 1 700 43 (.intss []) (by kernel_rfl) (by kernel_rfl) (by kernel_rfl) (by kernel_rfl) (H' := [(604, .box [.int 0, .row 700]), (605, .box [.int 0, .im (.val (.slice none 0 0))])]) (by kernel_rfl) ?_
   refine fin_rowB 605 1 701 43 (.intss []) (by kernel_rfl) (by kernel_rfl) (by kernel_rfl) (by kernel_rfl) (H' := [(700, .row 43 (.intss [])), (604, .box [.int 0, .row 700]), (605, .box [.int 0, .row 701])]) (by kernel_rfl) ?_
   refine fin_ren (ρ := [(700, .to 0), (701, .to 1), (604, .to 990), (605, .to 991)]) (keys := [4, 5, 6]) (E' := [(4, .loc 990 0), (5, .loc 991 0), (6, .int (Cn.chkV N L))]) (H' := [(0, .row 43 (.intss [])), (1, .row 43 (.intss [])), (990, .box [.int 0, .row 0]), (991, .box [.int 0, .row 1])]) (by kernel_rfl) ?_
   exact fin_ret [] rfl rfl trivial hcx (avs := [.agg [.int 0, .row 0], .agg [.int 0, .row 1], .int (Cn.chkV N L)]) (by kernel_rfl) (congrArg AV.tup (consE (congrArg AV.agg (consE (congrArg AV.int (show 0 = (Cn.ouN N L v) from (by first | exact hA.symm | exact hC.symm | exact hE.symm))) rfl)) (consE (congrArg AV.agg (consE (congrArg AV.int (show 0 = (Cn.ouV N L v) from (by first | exact hA.symm | exact hC.symm | exact hE.symm))) rfl)) (consE (congrArg AV.int (show (Cn.chkV N L) = (Cn.ouE N L v) from (by first | exact hA.symm | exact hC.symm | exact hE.symm))) rfl)))) [true, true] (Eq.trans (show _ = [some (.row 43 (.intss [])), some (.row 43 (.intss []))] from by kernel_rfl) (consO (congrArg some (congrArg (fun x => AObj.row 43 (.intss x)) (show [] = (Cn.ouX N L v) from (by exact hB.symm)))) (consO (congrArg some (congrArg (fun x => AObj.row 43 (.intss x)) (show [] = (Cn.ouU N L v) from (by exact hD.symm)))) rfl)))
  ·
   skip
   have h0 := bneF hb0
   have hc0 : Cn.chkV N L = 0 := h0
   have hN := Cn.chkV_0.1 hc0
   refine tri_skip ?_
   refine fin_then ?_
   refine tri_seq ?_
   refine tri_seq ?_
   refine tri_regD hcx [] [24] [2, 4, 5, 1] [604, 605] [((!(decide (v < 1))) = true → ((!(decide (v < 1))) = true)), ((!(decide (v < 1))) = true → ((!(decide (v < 1))) = true)), ((!(decide (v < 1))) = true → ((!(decide (v < 1))) = true)), ((decide (v < 1)) = false → (!(decide (v < 1))) = true)] [(24, .bool ((decide (v < 1)) || (decide (v > N))))] [] (by kernel_rfl) ?_ ?_
   ·
    refine (ap ?_ (ap ?_ (ap ?_ (ap (by exact vcNot) az))))
    all_goals
     first | exact hck | (first | omega | exact id | exact vcNot | exact vcG | exact vcH | (intro _; omega) | exact (fun _ h => h) | (intro h; simp at h; omega) | (simp only [List.length_cons, List.length_nil, List.length_append, List.length_map, List.length_set, List.length_replicate]; omega) | (intro h; simp [h]; done)) | exact ⟨hm1, hm2, by omega, by omega, by omega, by omega⟩ | trivial
   refine fin_then ?_
   refine tri_cond (b := ((decide (v < 1)) || (decide (v > N)))) (by kernel_rfl) (fun hb1 => ?_) (fun hb1 => ?_)
   ·
    skip
    have h1 := hb1
    try simp only [Bool.or_eq_true, Bool.or_eq_false_iff, Bool.and_eq_true, Bool.and_eq_false_iff, Bool.not_eq_true', Bool.not_eq_false', decide_eq_true_eq, decide_eq_false_iff_not, bne_iff_ne, bne_eq_false_iff_eq, beq_iff_eq, beq_eq_false_iff_ne] at h1
    obtain ⟨hA, hB, hC, hD, hE⟩ := Cn.ou_no (Cn.ou_lit hc0 (by omega)) (by decide)
    refine tri_seq ?_
    refine tri_drawD [0, 0, 1, 7, 15] hcx hmx [(604, .to 604), (605, .to 605)] [6] [4, 5] [] [] [(6, .int 140)] [(604, .box [.int 0, .im (.val (.slice none 0 0))]), (605, .box [.int 0, .im (.val (.slice none 0 0))])] (by kernel_rfl) ?_ ?_
    ·
     exact az
    refine fin_then ?_
    refine tri_ret ?_
    refine fin_then_ret ?_
    refine fin_rowB 604 1 700 43 (.intss []) (by kernel_rfl) (by kernel_rfl) (by kernel_rfl) (by kernel_rfl) (H' := [(604, .box [.int 0, .row 700]), (605, .box [.int 0, .im (.val (.slice none 0 0))])]) (by kernel_rfl) ?_
    refine fin_rowB 605 1 701 43 (.intss []) (by kernel_rfl) (by kernel_rfl) (by kernel_rfl) (by kernel_rfl) (H' := [(700, .row 43 (.intss [])), (604, .box [.int 0, .row 700]), (605, .box [.int 0, .row 701])]) (by kernel_rfl) ?_
    refine fin_ren (ρ := [(700, .to 0), (701, .to 1), (604, .to 990), (605, .to 991)]) (keys := [4, 5, 6]) (E' := [(4, .loc 990 0), (5, .loc 991 0), (6, .int 140)]) (H' := [(0, .row 43 (.intss [])), (1, .row 43 (.intss [])), (990, .box [.int 0, .row 0]), (991, .box [.int 0, .row 1])]) (by kernel_rfl) ?_
    exact fin_ret [] rfl rfl trivial hcx (avs := [.agg [.int 0, .row 0], .agg [.int 0, .row 1], .int 140]) (by kernel_rfl) (congrArg AV.tup (consE (congrArg AV.agg (consE (congrArg AV.int (show 0 = (Cn.ouN N L v) from (by first | exact hA.symm | exact hC.symm | exact hE.symm))) rfl)) (consE (congrArg AV.agg (consE (congrArg AV.int (show 0 = (Cn.ouV N L v) from (by first | exact hA.symm | exact hC.symm | exact hE.symm))) rfl)) (consE (congrArg AV.int (show 140 = (Cn.ouE N L v) from (by first | exact hA.symm | exact hC.symm | exact hE.symm))) rfl)))) [true, true] (Eq.trans (show _ = [some (.row 43 (.intss [])), some (.row 43 (.intss []))] from by kernel_rfl) (consO (congrArg some (congrArg (fun x => AObj.row 43 (.intss x)) (show [] = (Cn.ouX N L v) from (by exact hB.symm)))) (consO (congrArg some (congrArg (fun x => AObj.row 43 (.intss x)) (show [] = (Cn.ouU N L v) from (by exact hD.symm)))) rfl)))
   ·
    skip
    have h1 := hb1
    try simp only [Bool.or_eq_true, Bool.or_eq_false_iff, Bool.and_eq_true, Bool.and_eq_false_iff, Bool.not_eq_true', Bool.not_eq_false', decide_eq_true_eq, decide_eq_false_iff_not, bne_iff_ne, bne_eq_false_iff_eq, beq_iff_eq, beq_eq_false_iff_ne] at h1
    have hv : ¬ (v < 1 ∨ N < v) := by omega
    refine tri_skip ?_
    refine fin_then ?_
    refine tri_seq ?_
    refine tri_regD hcx [(1002, .to 230), (1007, .to 607), (1008, .to 608), (2002, .to 900)] [7, 8, 9] [4, 5] [604, 605] [(L.length ≤ 10000 ∧ (∀ l ∈ L, l.length ≤ 1000) ∧ 1 ≤ v ∧ v ≤ 65536 ∧ 0 ≤ (65536 : Int) ∧ (65536 : Int) ≤ 65536)] [(7, .loc 607 0), (8, .loc 608 0), (9, .bool (decide (((Cn.outX L v (65536 : Int)).length : Int) ≤ (65536 : Int))))] [(230, .row 43 (.intss (Cn.outX L v (65536 : Int)))), (607, .box [.int N, .row 230]), (608, .box [.int v, .row 900]), (900, .row 43 (.intss (Cn.uOf L v)))] (by kernel_rfl) ?_ ?_
    ·
     refine (ap ?_ az)
     first | exact hck | (first | omega | exact id | exact vcNot | exact vcG | exact vcH | (intro _; omega) | exact (fun _ h => h) | (intro h; simp at h; omega) | (simp only [List.length_cons, List.length_nil, List.length_append, List.length_map, List.length_set, List.length_replicate]; omega) | (intro h; simp [h]; done)) | exact ⟨hm1, hm2, by omega, by omega, by omega, by omega⟩ | trivial
    refine fin_then ?_
    refine tri_seq ?_
    refine tri_seq ?_
    refine tri_regD hcx [] [35] [7, 8, 4, 5] [230, 607, 608, 900, 604, 605] [] [(35, .bool (!(decide (((Cn.outX L v (65536 : Int)).length : Int) ≤ (65536 : Int)))))] [] (by kernel_rfl) ?_ ?_
    ·
     exact az
    refine fin_then ?_
    refine tri_cond (b := (!(decide (((Cn.outX L v (65536 : Int)).length : Int) ≤ (65536 : Int))))) (by kernel_rfl) (fun hb2 => ?_) (fun hb2 => ?_)
    ·
     skip
     have h2 := hb2
     obtain ⟨hA, hB, hC, hD, hE⟩ := Cn.ou_no (Cn.ou_big hc0 hv (by simpa using h2)) (by decide)
     refine tri_seq ?_
     refine tri_drawD [0, 0, 1, 7, 15] hcx hmx [(604, .to 604), (605, .to 605)] [6] [4, 5] [] [] [(6, .int 2)] [(604, .box [.int 0, .im (.val (.slice none 0 0))]), (605, .box [.int 0, .im (.val (.slice none 0 0))])] (by kernel_rfl) ?_ ?_
     ·
      exact az
     refine fin_then ?_
     refine tri_ret ?_
     refine fin_then_ret ?_
     refine fin_rowB 604 1 700 43 (.intss []) (by kernel_rfl) (by kernel_rfl) (by kernel_rfl) (by kernel_rfl) (H' := [(604, .box [.int 0, .row 700]), (605, .box [.int 0, .im (.val (.slice none 0 0))])]) (by kernel_rfl) ?_
     refine fin_rowB 605 1 701 43 (.intss []) (by kernel_rfl) (by kernel_rfl) (by kernel_rfl) (by kernel_rfl) (H' := [(700, .row 43 (.intss [])), (604, .box [.int 0, .row 700]), (605, .box [.int 0, .row 701])]) (by kernel_rfl) ?_
     refine fin_ren (ρ := [(700, .to 0), (701, .to 1), (604, .to 990), (605, .to 991)]) (keys := [4, 5, 6]) (E' := [(4, .loc 990 0), (5, .loc 991 0), (6, .int 2)]) (H' := [(0, .row 43 (.intss [])), (1, .row 43 (.intss [])), (990, .box [.int 0, .row 0]), (991, .box [.int 0, .row 1])]) (by kernel_rfl) ?_
     exact fin_ret [] rfl rfl trivial hcx (avs := [.agg [.int 0, .row 0], .agg [.int 0, .row 1], .int 2]) (by kernel_rfl) (congrArg AV.tup (consE (congrArg AV.agg (consE (congrArg AV.int (show 0 = (Cn.ouN N L v) from (by first | exact hA.symm | exact hC.symm | exact hE.symm))) rfl)) (consE (congrArg AV.agg (consE (congrArg AV.int (show 0 = (Cn.ouV N L v) from (by first | exact hA.symm | exact hC.symm | exact hE.symm))) rfl)) (consE (congrArg AV.int (show 2 = (Cn.ouE N L v) from (by first | exact hA.symm | exact hC.symm | exact hE.symm))) rfl)))) [true, true] (Eq.trans (show _ = [some (.row 43 (.intss [])), some (.row 43 (.intss []))] from by kernel_rfl) (consO (congrArg some (congrArg (fun x => AObj.row 43 (.intss x)) (show [] = (Cn.ouX N L v) from (by exact hB.symm)))) (consO (congrArg some (congrArg (fun x => AObj.row 43 (.intss x)) (show [] = (Cn.ouU N L v) from (by exact hD.symm)))) rfl)))
    ·
     skip
     have h2 := hb2
     obtain ⟨hE, hA, hB, hC, hD⟩ := Cn.ou_ok hc0 hv (by simpa using h2)
     refine tri_skip ?_
     refine fin_then ?_
     refine tri_seq ?_
     refine tri_drawD [0, 0, 1, 7, 15] hcx hmx [(604, .to 604), (605, .to 605)] [6] [4, 5] [230, 900] [] [(6, .int 0)] [(604, .box [.int N, .row 230]), (605, .box [.int v, .row 900])] (by kernel_rfl) ?_ ?_
     ·
      exact az
     refine fin_then ?_
     refine tri_ret ?_
     refine fin_ren (ρ := [(230, .to 0), (900, .to 1), (604, .to 990), (605, .to 991)]) (keys := [4, 5, 6]) (E' := [(4, .loc 990 0), (5, .loc 991 0), (6, .int 0)]) (H' := [(0, .row 43 (.intss (Cn.outX L v (65536 : Int)))), (1, .row 43 (.intss (Cn.uOf L v))), (990, .box [.int N, .row 0]), (991, .box [.int v, .row 1])]) (by kernel_rfl) ?_
     exact fin_ret [] rfl rfl trivial hcx (avs := [.agg [.int N, .row 0], .agg [.int v, .row 1], .int 0]) (by kernel_rfl) (congrArg AV.tup (consE (congrArg AV.agg (consE (congrArg AV.int (show N = (Cn.ouN N L v) from (by first | exact hA.symm | exact hC.symm | exact hE.symm))) rfl)) (consE (congrArg AV.agg (consE (congrArg AV.int (show v = (Cn.ouV N L v) from (by first | exact hA.symm | exact hC.symm | exact hE.symm))) rfl)) (consE (congrArg AV.int (show 0 = (Cn.ouE N L v) from (by first | exact hA.symm | exact hC.symm | exact hE.symm))) rfl)))) [true, true] (Eq.trans (show _ = [some (.row 43 (.intss (Cn.outX L v (65536 : Int)))), some (.row 43 (.intss (Cn.uOf L v)))] from by kernel_rfl) (consO (congrArg some (congrArg (fun x => AObj.row 43 (.intss x)) (show (Cn.outX L v (65536 : Int)) = (Cn.ouX N L v) from (by exact hB.symm)))) (consO (congrArg some (congrArg (fun x => AObj.row 43 (.intss x)) (show (Cn.uOf L v) = (Cn.ouU N L v) from (by exact hD.symm)))) rfl)))
 ·
  cases hσ
end Go.Proofs.Ythhfdjcaafckbaa.En
