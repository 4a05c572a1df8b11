/- Small functions of the laws of layer 11, in the reader's words. -/
import Derived.Test.YtlhjliigfecihaaDoorFlatS
namespace Go.Proofs.YtlhjliigfecihaaDoor.En
open Go Go.RowKit
set_option linter.unusedVariables false
set_option linter.unusedSimpArgs false
set_option linter.unnecessarySimpa false
def tyL11a : List (Nat × TD) := [(3, ⟨1, false, [.int .i64 0], [], none, 8, false, 1, 1⟩),
  (22, ⟨1, false, [.slice none 0 0], [], some 24, 24, false, 0, 0⟩),
  (24, ⟨4, true, [.int .i64 0, .int .i64 0, .int .i64 0, .slice none 0 0], [(0, 3), (1, 3), (2, 3), (3, 22)], none, 48, false, 0, 4⟩)]
theorem tyL11a_ok : AllTy Tryd.prog tyL11a := ⟨⟨by kernel_rfl, by kernel_rfl⟩, ⟨by kernel_rfl, by kernel_rfl⟩, ⟨by kernel_rfl, by kernel_rfl⟩, trivial⟩
def cx_lV : Cx := ⟨tyL11a, []⟩
theorem cx_lV_ok : CxOk Tryd.prog cx_lV := cx_ok tyL11a_ok trivial
def lV_σ : CtF
  | [.im (.val (.int .i64 n))], [] => some (True, .agg [.int 2, .int n, .int 0, .trees []], [])
  | _, _ => none
theorem lV_sound : Sound Tryd.prog 25 lV_σ := by
 refine sound_mk (cx := cx_lV) (fn := Tryd.f25) Tryd.func25 (by kernel_rfl) rfl ?_
 intro w0 G0 args os p r outs hσ hp hm0 hd0
 have hcx : CxOk Tryd.prog cx_lV := cx_lV_ok
 unfold lV_σ at hσ
 split at hσ
 ·
  rename_i n
  simp only [Option.some.injEq, Prod.mk.injEq] at hσ
  obtain ⟨rfl, rfl, rfl⟩ := hσ
  obtain ⟨wW, wO, wm, wβ, wd⟩ := w0
  replace hm0 : wm = 0 := hm0
  subst hm0
  replace hd0 : wd = [] := hd0
  subst hd0
  refine ⟨by kernel_rfl, ?_⟩
  change Tri ⟨_, _, _, _, _, _⟩ [(0, .int n)] [] _ _
  refine tri_seq ?_
  refine tri_regD hcx [(1000, .to 602)] [2] [0] [] [] [(2, .loc 602 0)] [(602, .box [.int 0, .int 0, .int 0, .im (.val (.slice none 0 0))])] (by kernel_rfl) ?_ ?_
  ·
   exact az
  refine fin_then ?_
  refine tri_seq ?_
  refine tri_regD hcx [(602, .to 602)] [] [2] [] [] [] [(602, .box [.int 2, .int n, .int 0, .im (.val (.slice none 0 0))])] (by kernel_rfl) ?_ ?_
  ·
   exact az
  refine fin_then ?_
  refine tri_ret ?_
  refine fin_rowB 602 3 700 0 (.trees []) (by kernel_rfl) (by kernel_rfl) (by kernel_rfl) (by kernel_rfl) (H' := [(602, .box [.int 2, .int n, .int 0, .row 700])]) (by kernel_rfl) ?_
  refine fin_ren (ρ := [(602, .to 990), (700, .frz)]) (keys := [2]) (E' := [(2, .loc 990 0)]) (H' := [(990, .box [.int 2, .int n, .int 0, .trees []])]) (by kernel_rfl) ?_
  exact fin_ret [] rfl rfl trivial hcx (avs := [.agg [.int 2, .int n, .int 0, .trees []]]) (by kernel_rfl) rfl [] rfl
 ·
  cases hσ
def cx_lConst : Cx := ⟨tyL11a, [(25, lV_σ)]⟩
theorem cx_lConst_ok : CxOk Tryd.prog cx_lConst := cx_ok tyL11a_ok ⟨lV_sound, trivial⟩
def lConst_σ : CtF
  | [.im (.val (.int .i64 n))], [] => some (True, .agg [.int 1, .int n, .int 0, .trees []], [])
  | _, _ => none
theorem lConst_sound : Sound Tryd.prog 26 lConst_σ := by
 refine sound_mk (cx := cx_lConst) (fn := Tryd.f26) Tryd.func26 (by kernel_rfl) rfl ?_
 intro w0 G0 args os p r outs hσ hp hm0 hd0
 have hcx : CxOk Tryd.prog cx_lConst := cx_lConst_ok
 unfold lConst_σ at hσ
 split at hσ
 ·
  rename_i n
  simp only [Option.some.injEq, Prod.mk.injEq] at hσ
  obtain ⟨rfl, rfl, rfl⟩ := hσ
  obtain ⟨wW, wO, wm, wβ, wd⟩ := w0
  replace hm0 : wm = 0 := hm0
  subst hm0
  replace hd0 : wd = [] := hd0
  subst hd0
  refine ⟨by kernel_rfl, ?_⟩
  change Tri ⟨_, _, _, _, _, _⟩ [(0, .int n)] [] _ _
  refine tri_seq ?_
  refine tri_regD hcx [(1000, .to 602)] [2] [0] [] [] [(2, .loc 602 0)] [(602, .box [.int 0, .int 0, .int 0, .im (.val (.slice none 0 0))])] (by kernel_rfl) ?_ ?_
  ·
   exact az
  refine fin_then ?_
  refine tri_seq ?_
  refine tri_regD hcx [(602, .to 602)] [] [2] [] [] [] [(602, .box [.int 1, .int n, .int 0, .im (.val (.slice none 0 0))])] (by kernel_rfl) ?_ ?_
  ·
   exact az
  refine fin_then ?_
  refine tri_ret ?_
  refine fin_rowB 602 3 700 0 (.trees []) (by kernel_rfl) (by kernel_rfl) (by kernel_rfl) (by kernel_rfl) (H' := [(602, .box [.int 1, .int n, .int 0, .row 700])]) (by kernel_rfl) ?_
  refine fin_ren (ρ := [(602, .to 990), (700, .frz)]) (keys := [2]) (E' := [(2, .loc 990 0)]) (H' := [(990, .box [.int 1, .int n, .int 0, .trees []])]) (by kernel_rfl) ?_
  exact fin_ret [] rfl rfl trivial hcx (avs := [.agg [.int 1, .int n, .int 0, .trees []]]) (by kernel_rfl) rfl [] rfl
 ·
  cases hσ
def cx_lOf : Cx := ⟨tyL11a, [(25, lV_σ), (26, lConst_σ)]⟩
theorem cx_lOf_ok : CxOk Tryd.prog cx_lOf := cx_ok tyL11a_ok ⟨lV_sound, lConst_sound, trivial⟩
def lOf_σ : CtF
  | [.im (.val (.int .i64 q)), .im (.val (.int .i64 k)), .im (.ls (.trees l))], [] => some (True, .agg [.int q, .int 0, .int k, .trees l], [])
  | _, _ => none
theorem lOf_sound : Sound Tryd.prog 21 lOf_σ := by
 refine sound_mk (cx := cx_lOf) (fn := Tryd.f21) Tryd.func21 (by kernel_rfl) rfl ?_
 intro w0 G0 args os p r outs hσ hp hm0 hd0
 have hcx : CxOk Tryd.prog cx_lOf := cx_lOf_ok
 unfold lOf_σ at hσ
 split at hσ
 ·
  rename_i q k l
  simp only [Option.some.injEq, Prod.mk.injEq] at hσ
  obtain ⟨rfl, rfl, rfl⟩ := hσ
  obtain ⟨wW, wO, wm, wβ, wd⟩ := w0
  replace hm0 : wm = 0 := hm0
  subst hm0
  replace hd0 : wd = [] := hd0
  subst hd0
  refine ⟨by kernel_rfl, ?_⟩
  change Tri ⟨_, _, _, _, _, _⟩ [(0, .int q), (1, .int k), (2, .trees l)] [] _ _
  refine tri_seq ?_
  refine tri_regD hcx [(1000, .to 606)] [6] [0, 1, 2] [] [] [(6, .loc 606 0)] [(606, .box [.int 0, .int 0, .int 0, .im (.val (.slice none 0 0))])] (by kernel_rfl) ?_ ?_
  ·
   exact az
  refine fin_then ?_
  refine tri_seq ?_
  refine tri_regD hcx [(606, .to 606)] [] [6] [] [] [] [(606, .box [.int q, .int 0, .int k, .trees l])] (by kernel_rfl) ?_ ?_
  ·
   exact az
  refine fin_then ?_
  refine tri_ret ?_
  exact fin_ret [] rfl rfl trivial hcx (avs := [.agg [.int q, .int 0, .int k, .trees l]]) (by kernel_rfl) rfl [] rfl
 ·
  cases hσ
def cx_lNot : Cx := ⟨tyL11a, [(25, lV_σ), (26, lConst_σ), (21, (coeF [.id, .id, .ld (.trees [])] lOf_σ))]⟩
theorem cx_lNot_ok : CxOk Tryd.prog cx_lNot := cx_ok tyL11a_ok ⟨lV_sound, lConst_sound, (lOf_sound.coe [.id, .id, .ld (.trees [])] rfl), trivial⟩
def lNot_σ : CtF
  | [.agg [.im (.val (.int .i64 q)), .im (.val (.int .i64 v)), .im (.val (.int .i64 k)), .im (.ls (.trees l))]], [] => some (True, .agg [.int 3, .int 0, .int 0, .trees [Tree.node q v k l]], [])
  | _, _ => none
theorem lNot_sound : Sound Tryd.prog 20 lNot_σ := by
 refine sound_mk (cx := cx_lNot) (fn := Tryd.f20) Tryd.func20 (by kernel_rfl) rfl ?_
 intro w0 G0 args os p r outs hσ hp hm0 hd0
 have hcx : CxOk Tryd.prog cx_lNot := cx_lNot_ok
 unfold lNot_σ at hσ
 split at hσ
 ·
  rename_i q v k l
  simp only [Option.some.injEq, Prod.mk.injEq] at hσ
  obtain ⟨rfl, rfl, rfl⟩ := hσ
  obtain ⟨wW, wO, wm, wβ, wd⟩ := w0
  replace hm0 : wm = 0 := hm0
  subst hm0
  replace hd0 : wd = [] := hd0
  subst hd0
  refine ⟨by kernel_rfl, ?_⟩
  change Tri ⟨_, _, _, _, _, _⟩ [(0, .agg [.int q, .int v, .int k, .trees l])] [] _ _
  refine tri_seq ?_
  refine tri_regD hcx [(1001, .to 602), (1000, .frz)] [1, 2] [] [] [] [(1, .pto [.int q, .int v, .int k, .ls (.trees l)]), (2, .loc 602 0)] [(602, .box [.int 0, .int 0, .int 0, .im (.val (.slice none 0 0))])] (by kernel_rfl) ?_ ?_
  ·
   exact az
  refine fin_then ?_
  refine tri_seq ?_
  refine tri_regD hcx [(602, .to 602)] [] [2] [] [] [] [(602, .box [.int 3, .int 0, .int 0, .trees [(Tree.node q v k l)]])] (by kernel_rfl) ?_ ?_
  ·
   exact az
  refine fin_then ?_
  refine tri_ret ?_
  exact fin_ret [] rfl rfl trivial hcx (avs := [.agg [.int 3, .int 0, .int 0, .trees [(Tree.node q v k l)]]]) (by kernel_rfl) (congrArg AV.agg (consE rfl (consE rfl (consE rfl (consE (congrArg AV.trees (show [(Tree.node q v k l)] = [Tree.node q v k l] from (by rfl))) rfl))))) [] rfl
 ·
  cases hσ
end Go.Proofs.YtlhjliigfecihaaDoor.En
