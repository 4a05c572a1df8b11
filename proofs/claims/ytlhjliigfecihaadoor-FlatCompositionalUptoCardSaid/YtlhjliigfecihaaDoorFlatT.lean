/- Package flat: walks over all nodes, in the reader's words. -/
import Derived.Test.YtlhjliigfecihaaDoorFlatS
import Derived.Test.YtlhjliigfecihaaDoorPartsX
import Derived.Test.YtlhjliigfecihaaDoorTreeX
import Derived.Test.YtlhjliigfecihaaDoorTreeY
import Derived.Test.YtlhjliigfecihaaDoorSh11
namespace Go.Proofs.YtlhjliigfecihaaDoor.En
open Go Go.RowKit
set_option linter.unusedVariables false
set_option linter.unusedSimpArgs false
set_option linter.unnecessarySimpa false
def tyFlat2 : List (Nat × TD) := [(3, ⟨1, false, [.int .i64 0], [], none, 8, false, 1, 1⟩),
  (22, ⟨1, false, [.slice none 0 0], [], some 24, 24, false, 0, 0⟩),
  (24, ⟨4, true, [.int .i64 0, .int .i64 0, .int .i64 0, .slice none 0 0], [(0, 3), (1, 3), (2, 3), (3, 22)], none, 48, false, 0, 4⟩),
  (30, ⟨1, false, [.nilFunc], [], none, 8, false, 0, 0⟩),
  (31, ⟨1, false, [.int .i64 0], [], none, 8, false, 1, 1⟩),
  (36, ⟨1, false, [.slice none 0 0], [], some 3, 24, false, 0, 3⟩),
  (57, ⟨6, true, [.int .i64 0, .int .i64 0, .int .i64 0, .int .i64 0, .int .i64 0, .int .i64 0], [], some 3, 48, false, 26, 0⟩)]
theorem tyFlat2_ok : AllTy Tryd.prog tyFlat2 := ⟨⟨by kernel_rfl, by kernel_rfl⟩, ⟨by kernel_rfl, by kernel_rfl⟩, ⟨by kernel_rfl, by kernel_rfl⟩, ⟨by kernel_rfl, by kernel_rfl⟩, ⟨by kernel_rfl, by kernel_rfl⟩, ⟨by kernel_rfl, by kernel_rfl⟩, ⟨by kernel_rfl, by kernel_rfl⟩, trivial⟩
def cx_fParts : Cx := ⟨tyFlat2, [(37, sSortI), (38, sCompact)]⟩
theorem cx_fParts_ok : CxOk Tryd.prog cx_fParts := cx_ok tyFlat2_ok ⟨sSortI_sound, sCompact_sound, trivial⟩
def fParts_σ : CtF
  | [.agg [.im (.val (.int .i64 q)), .im (.val (.int .i64 v)), .im (.val (.int .i64 k)), .im (.ls (.trees l))]], [] => some (True, .clo 51 [.pto [.int q, .int v, .int k, .ls (.trees l)]], [])
  | _, _ => none
theorem fParts_sound : Sound Tryd.prog 34 fParts_σ := by
 refine sound_mk (cx := cx_fParts) (fn := Tryd.f34) Tryd.func34 (by kernel_rfl) rfl ?_
 intro w0 G0 args os p r outs hσ hp hm0 hd0
 have hcx : CxOk Tryd.prog cx_fParts := cx_fParts_ok
 unfold fParts_σ at hσ
 split at hσ
 ·
  rename_i q v k l
  simp only [Option.some.injEq, Prod.mk.injEq] at hσ
  obtain ⟨rfl, rfl, rfl⟩ := hσ
  obtain ⟨wW, wO, wm, wβ, wd⟩ := w0
  replace hm0 : wm = 0 := hm0
  subst hm0
  replace hd0 : wd = [] := hd0
  subst hd0
  refine ⟨by kernel_rfl, ?_⟩
  change Tri ⟨_, _, _, _, _, _⟩ [(0, .agg [.int q, .int v, .int k, .trees l])] [] _ _
  refine tri_seq ?_
  refine tri_regD hcx [(1000, .frz)] [1] [] [] [] [(1, .pto [.int q, .int v, .int k, .ls (.trees l)])] [] (by kernel_rfl) ?_ ?_
  ·
   exact az
  refine fin_then ?_
  refine tri_seq ?_
  refine tri_regD hcx [] [2] [] [] [] [(2, .clo 51 [.pto [.int q, .int v, .int k, .ls (.trees l)]])] [] (by kernel_rfl) ?_ ?_
  ·
   exact az
  refine fin_then ?_
  refine tri_ret ?_
  exact fin_ret [] rfl rfl trivial hcx (avs := [.clo 51 [.pto [.int q, .int v, .int k, .ls (.trees l)]]]) (by kernel_rfl) rfl [] rfl
 ·
  cases hσ
def cx_fSize : Cx := ⟨tyFlat2, [(37, sSortI), (38, sCompact), (34, (coeF [.agg [.id, .id, .id, .ld (.trees [])]] fParts_σ)), (35, fFormed_σ)]⟩
theorem cx_fSize_ok : CxOk Tryd.prog cx_fSize := cx_ok tyFlat2_ok ⟨sSortI_sound, sCompact_sound, (fParts_sound.coe [.agg [.id, .id, .id, .ld (.trees [])]] rfl), fFormed_sound, trivial⟩
def fSize_σ : CtF
  | [.agg [.im (.val (.int .i64 q)), .im (.val (.int .i64 v)), .im (.val (.int .i64 k)), .im (.ls (.trees l))]], [] => some (Fl.sizeT (.node q v k l) ≤ 1000000000000000, .int ((Fl.sizeT (.node q v k l) : Nat) : Int), [])
  | _, _ => none
theorem fSize_sound : Sound Tryd.prog 24 fSize_σ := by
 refine sound_mk (cx := cx_fSize) (fn := Tryd.f24) Tryd.func24 (by kernel_rfl) rfl ?_
 intro w0 G0 args os p r outs hσ hp hm0 hd0
 have hcx : CxOk Tryd.prog cx_fSize := cx_fSize_ok
 unfold fSize_σ at hσ
 split at hσ
 ·
  rename_i q v k l
  simp only [Option.some.injEq, Prod.mk.injEq] at hσ
  obtain ⟨rfl, rfl, rfl⟩ := hσ
  obtain ⟨wW, wO, wm, wβ, wd⟩ := w0
  replace hm0 : wm = 0 := hm0
  subst hm0
  replace hd0 : wd = [] := hd0
  subst hd0
  refine ⟨by kernel_rfl, ?_⟩
  change Tri ⟨_, _, _, _, _, _⟩ [(0, .agg [.int q, .int v, .int k, .trees l])] [] _ _
  have hm1 := hp
  refine tri_seq ?_
  refine tri_regD hcx [(1001, .to 602), (1000, .frz)] [1, 2] [] [] [] [(1, .pto [.int q, .int v, .int k, .ls (.trees l)]), (2, .loc 602 0)] [(602, .box [.int 0])] (by kernel_rfl) ?_ ?_
  ·
   exact az
  refine fin_then ?_
  refine tri_seq ?_
  refine tri_seq ?_
  refine tri_regD hcx [] [4] [2] [602] [(True)] [(4, .clo 51 [.pto [.int q, .int v, .int k, .ls (.trees l)]])] [] (by kernel_rfl) ?_ ?_
  ·
   refine (ap ?_ az)
   first | omega | exact id | exact vcNot | exact vcG | exact vcH | (intro _; omega) | exact (fun _ h => h) | (intro h; simp at h; omega) | (simp only [List.length_cons, List.length_nil, List.length_append, List.length_map, List.length_set, List.length_replicate]; omega) | (intro h; simp [h]; done) | exact True.intro | (simp only [List.length_cons, List.length_nil]; omega) | done
  refine fin_then ?_
  refine tri_block ?_
  refine tri_ren (ρ := [(602, .to 0)]) (keys := [4, 2]) (E' := [(4, .clo 51 [.pto [.int q, .int v, .int k, .ls (.trees l)]]), (2, .loc 0 0)]) (H' := [(0, .box [.int 0])]) (by kernel_rfl) ?_
  refine tri_range (X := Unit) rfl parts_seq (caps := [.pto [.int q, .int v, .int k, .ls (.trees l)]]) (by kernel_rfl) (N := Fl.sizeT (.node q v k l)) (el := fun i => [.agg [.int (((Fl.nodesT (.node q v k l)).getD i tree0).kind), .int (((Fl.nodesT (.node q v k l)).getD i tree0).v), .int (((Fl.nodesT (.node q v k l)).getD i tree0).k), .trees (((Fl.nodesT (.node q v k l)).getD i tree0).l)]]) rfl (by kernel_rfl) ?_ 1 970 989 (by kernel_rfl) (fun i x0 => True) (fun i x0 => [(0, .box [.int (i : Int)])]) (fun i x0 => [(4, .clo 51 [.pto [.int q, .int v, .int k, .ls (.trees l)]]), (2, .loc 0 0)]) (fun i x0 => [(0, .box [.int (i : Int)])]) (()) ?_ ?_ (fun _ _ => rfl) (fun _ _ _ => by kernel_rfl) (fun _ _ => by kernel_rfl) ?_ ?_ ?_
  ·
   exact True.intro
  ·
   show True
   exact True.intro
  ·
   exact Eq.trans (show _ = [(0, .box [.int 0])] from by kernel_rfl) (consH (congrArg (fun x => ((0 : Nat), x)) (congrArg AObj.box (consE (congrArg AV.int (show 0 = (0 : Int) from (by rfl))) rfl))) rfl)
  ·
   intro Wr Or βr Gr l0 r0 i un hi0 hI0
   replace hI0 : True := hI0
   change Tri _ [(5, .agg [.int (((Fl.nodesT (.node q v k l)).getD i tree0).kind), .int (((Fl.nodesT (.node q v k l)).getD i tree0).v), .int (((Fl.nodesT (.node q v k l)).getD i tree0).k), .trees (((Fl.nodesT (.node q v k l)).getD i tree0).l)]), (4, .clo 51 [.pto [.int q, .int v, .int k, .ls (.trees l)]]), (2, .loc 0 0)] [(970, .other l0 (.loop r0)), (0, .box [.int (i : Int)])] _ _
   refine tri_skip ?_
   refine fin_assign ?_ ?_
   ·
    exact subE_mk (l := [.clo 51 [.pto [.int q, .int v, .int k, .ls (.trees l)]], .loc 0 0]) (m := [.clo 51 [.pto [.int q, .int v, .int k, .ls (.trees l)]], .loc 0 0]) (by kernel_rfl) (by kernel_rfl) rfl
   ·
    kernel_rfl
  ·
   intro Wr Or βr Gr l0 r0 i un hi0 hI0
   replace hI0 : True := hI0
   change Tri _ [(4, .clo 51 [.pto [.int q, .int v, .int k, .ls (.trees l)]]), (2, .loc 0 0)] [(970, .other l0 (.loop r0)), (0, .box [.int (i : Int)])] _ _
   refine tri_block ?_
   refine tri_regD hcx [(0, .to 0)] [] [] [970] [Fit ((i : Int) + 1)] [] [(0, .box [.int ((i : Int) + 1)])] (by kernel_rfl) ?_ ?_
   ·
    refine (ap ?_ az)
    first | omega | exact id | exact vcNot | exact vcG | exact vcH | (intro _; omega) | exact (fun _ h => h) | (intro h; simp at h; omega) | (simp only [List.length_cons, List.length_nil, List.length_append, List.length_map, List.length_set, List.length_replicate]; omega) | (intro h; simp [h]; done) | exact True.intro | (simp only [List.length_cons, List.length_nil]; omega) | done
   refine fin_block ?_
   refine fin_ren (ρ := [(970, .to 970), (0, .to 0)]) (keys := []) (E' := []) (H' := [(970, .other l0 (.loop r0)), (0, .box [.int ((i : Int) + 1)])]) (by kernel_rfl) ?_
   refine fin_rnext (()) ?_ ?_
   ·
    show True
    exact True.intro
   ·
    exact Eq.trans (show _ = [(970, .other l0 (.loop r0)), (0, .box [.int ((i : Int) + 1)])] from by kernel_rfl) (consH rfl (consH (congrArg (fun x => ((0 : Nat), x)) (congrArg AObj.box (consE (congrArg AV.int (show ((i : Int) + 1) = ((i + 1) : Int) from (by first | rfl | omega))) rfl))) rfl))
  ·
   intro D0 un hI0
   replace hI0 : True := hI0
   change Fin _ [(4, .clo 51 [.pto [.int q, .int v, .int k, .ls (.trees l)]]), (2, .loc 0 0)] [(989, .other D0 dfr), (0, .box [.int ((Fl.sizeT (.node q v k l)) : Int)])] _ _
   refine fin_block ?_
   refine fin_then ?_
   refine tri_seq ?_
   refine tri_regD hcx [(0, .to 0)] [] [2] [989] [] [] [(0, .box [.int ((Fl.sizeT (.node q v k l)) : Int)])] (by kernel_rfl) ?_ ?_
   ·
    exact az
   refine fin_then ?_
   refine tri_ret ?_
   refine fin_ren (ρ := [(989, .to 989), (0, .to 990)]) (keys := [2]) (E' := [(2, .loc 990 0)]) (H' := [(989, .other D0 dfr), (990, .box [.int ((Fl.sizeT (.node q v k l)) : Int)])]) (by kernel_rfl) ?_
   exact fin_retM _ rfl [(989, D0)] rfl rfl ⟨rfl, trivial⟩ hcx (avs := [.int ((Fl.sizeT (.node q v k l)) : Int)]) (by kernel_rfl) (congrArg AV.int (show ((Fl.sizeT (.node q v k l)) : Int) = ((Fl.sizeT (.node q v k l) : Nat) : Int) from (by rfl))) [] rfl
 ·
  cases hσ
def cx_fChk : Cx := ⟨tyFlat2, [(37, sSortI), (38, sCompact), (34, (coeF [.agg [.id, .id, .id, .ld (.trees [])]] fParts_σ)), (35, fFormed_σ), (24, (coeF [.agg [.id, .id, .id, .ld (.trees [])]] fSize_σ))]⟩
theorem cx_fChk_ok : CxOk Tryd.prog cx_fChk := cx_ok tyFlat2_ok ⟨sSortI_sound, sCompact_sound, (fParts_sound.coe [.agg [.id, .id, .id, .ld (.trees [])]] rfl), fFormed_sound, (fSize_sound.coe [.agg [.id, .id, .id, .ld (.trees [])]] rfl), trivial⟩
def fChk_σ : CtF
  | [.agg [.im (.val (.int .i64 q)), .im (.val (.int .i64 v)), .im (.val (.int .i64 k)), .im (.ls (.trees l))], .im (.val (.int .i64 n))], [] => some (Fl.sizeT (.node q v k l) ≤ 1000000000000000, .int (Fl.chkN n q v k l), [])
  | _, _ => none
theorem fChk_sound : Sound Tryd.prog 17 fChk_σ := by
 refine sound_mk (cx := cx_fChk) (fn := Tryd.f17) Tryd.func17 (by kernel_rfl) rfl ?_
 intro w0 G0 args os p r outs hσ hp hm0 hd0
 have hcx : CxOk Tryd.prog cx_fChk := cx_fChk_ok
 unfold fChk_σ at hσ
 split at hσ
 ·
  rename_i q v k l n
  simp only [Option.some.injEq, Prod.mk.injEq] at hσ
  obtain ⟨rfl, rfl, rfl⟩ := hσ
  obtain ⟨wW, wO, wm, wβ, wd⟩ := w0
  replace hm0 : wm = 0 := hm0
  subst hm0
  replace hd0 : wd = [] := hd0
  subst hd0
  refine ⟨by kernel_rfl, ?_⟩
  change Tri ⟨_, _, _, _, _, _⟩ [(0, .agg [.int q, .int v, .int k, .trees l]), (1, .int n)] [] _ _
  have hm1 := hp
  refine tri_seq ?_
  refine tri_regD hcx [(1002, .to 604), (1000, .frz), (1001, .frz)] [2, 3, 4] [] [] [] [(2, .pto [.int q, .int v, .int k, .ls (.trees l)]), (3, .pto [.int n]), (4, .loc 604 0)] [(604, .box [.int 0])] (by kernel_rfl) ?_ ?_
  ·
   exact az
  refine fin_then ?_
  refine tri_seq ?_
  refine tri_seq ?_
  refine tri_regD hcx [] [12] [2, 3, 4] [604] [((!(decide (n < 0))) = true → ((!(decide (n < 0))) = true)), ((decide (n < 0)) = false → (!(decide (n < 0))) = true)] [(12, .bool ((decide (n < 0)) || (decide (n > 65536))))] [] (by kernel_rfl) ?_ ?_
  ·
   refine (ap ?_ (ap (by exact vcNot) az))
   first | omega | exact id | exact vcNot | exact vcG | exact vcH | (intro _; omega) | exact (fun _ h => h) | (intro h; simp at h; omega) | (simp only [List.length_cons, List.length_nil, List.length_append, List.length_map, List.length_set, List.length_replicate]; omega) | (intro h; simp [h]; done) | exact True.intro | (simp only [List.length_cons, List.length_nil]; omega) | (have hmx := Fl.node_max hi0; unfold maxLen; omega) | done
  refine fin_then ?_
  refine tri_cond (b := ((decide (n < 0)) || (decide (n > 65536)))) (by kernel_rfl) (fun hb0 => ?_) (fun hb0 => ?_)
  ·
   skip
   have h0 := hb0
   have hb := h0
   refine tri_seq ?_
   refine tri_regD hcx [(604, .to 604)] [] [4] [] [] [] [(604, .box [.int 1])] (by kernel_rfl) ?_ ?_
   ·
    exact az
   refine fin_then ?_
   refine tri_ret ?_
   refine fin_then_ret ?_
   exact fin_ret [] rfl rfl trivial hcx (avs := [.int 1]) (by kernel_rfl) (congrArg AV.int (show 1 = (Fl.chkN n q v k l) from (by exact Fl.chk_out hb))) [] rfl
  ·
   skip
   have h0 := hb0
   have hb := h0
   refine tri_skip ?_
   refine fin_then ?_
   refine tri_seq ?_
   refine tri_regD hcx [(1000, .to 605)] [5] [2, 3, 4] [604] [] [(5, .loc 605 0)] [(605, .box [.int 0])] (by kernel_rfl) ?_ ?_
   ·
    exact az
   refine fin_then ?_
   refine tri_seq ?_
   refine tri_seq ?_
   refine tri_regD hcx [] [14] [5, 3, 4] [605, 604] [(True)] [(14, .clo 51 [.pto [.int q, .int v, .int k, .ls (.trees l)]])] [] (by kernel_rfl) ?_ ?_
   ·
    refine (ap ?_ az)
    first | omega | exact id | exact vcNot | exact vcG | exact vcH | (intro _; omega) | exact (fun _ h => h) | (intro h; simp at h; omega) | (simp only [List.length_cons, List.length_nil, List.length_append, List.length_map, List.length_set, List.length_replicate]; omega) | (intro h; simp [h]; done) | exact True.intro | (simp only [List.length_cons, List.length_nil]; omega) | (have hmx := Fl.node_max hi0; unfold maxLen; omega) | done
   refine fin_then ?_
   refine tri_block ?_
   refine tri_ren (ρ := [(605, .to 0), (604, .to 1)]) (keys := [14, 5, 3, 4]) (E' := [(14, .clo 51 [.pto [.int q, .int v, .int k, .ls (.trees l)]]), (5, .loc 0 0), (3, .pto [.int n]), (4, .loc 1 0)]) (H' := [(0, .box [.int 0]), (1, .box [.int 0])]) (by kernel_rfl) ?_
   refine tri_range (X := Unit) rfl parts_seq (caps := [.pto [.int q, .int v, .int k, .ls (.trees l)]]) (by kernel_rfl) (N := Fl.sizeT (.node q v k l)) (el := fun i => [.agg [.int (((Fl.nodesT (.node q v k l)).getD i tree0).kind), .int (((Fl.nodesT (.node q v k l)).getD i tree0).v), .int (((Fl.nodesT (.node q v k l)).getD i tree0).k), .trees (((Fl.nodesT (.node q v k l)).getD i tree0).l)]]) rfl (by kernel_rfl) ?_ 2 970 989 (by kernel_rfl) (fun i x0 => ∀ j, j < i → Fl.headB n ((Fl.nodesT (.node q v k l)).getD j tree0) = true) (fun i x0 => [(0, .box [.int (i : Int)]), (1, .box [.int 0])]) (fun i x0 => [(14, .clo 51 [.pto [.int q, .int v, .int k, .ls (.trees l)]]), (5, .loc 0 0), (3, .pto [.int n]), (4, .loc 1 0), (6, .loc 606 0)]) (fun i x0 => [(0, .box [.int (i : Int)]), (1, .box [.int 0]), (606, .box [.int (((Fl.nodesT (.node q v k l)).getD i tree0).kind), .int (((Fl.nodesT (.node q v k l)).getD i tree0).v), .int (((Fl.nodesT (.node q v k l)).getD i tree0).k), .trees (((Fl.nodesT (.node q v k l)).getD i tree0).l)])]) (()) ?_ ?_ (fun _ _ => rfl) (fun _ _ _ => by kernel_rfl) (fun _ _ => by kernel_rfl) ?_ ?_ ?_
   ·
    exact True.intro
   ·
    show ∀ j, j < 0 → Fl.headB n ((Fl.nodesT (.node q v k l)).getD j tree0) = true
    exact fun j hj => by omega
   ·
    exact Eq.trans (show _ = [(0, .box [.int 0]), (1, .box [.int 0])] from by kernel_rfl) (consH (congrArg (fun x => ((0 : Nat), x)) (congrArg AObj.box (consE (congrArg AV.int (show 0 = (0 : Int) from (by rfl))) rfl))) (consH rfl rfl))
   ·
    intro Wr Or βr Gr l0 r0 i un hi0 hI0
    replace hI0 : ∀ j, j < i → Fl.headB n ((Fl.nodesT (.node q v k l)).getD j tree0) = true := hI0
    have hmx := Fl.node_max hi0
    change Tri _ [(15, .agg [.int (((Fl.nodesT (.node q v k l)).getD i tree0).kind), .int (((Fl.nodesT (.node q v k l)).getD i tree0).v), .int (((Fl.nodesT (.node q v k l)).getD i tree0).k), .trees (((Fl.nodesT (.node q v k l)).getD i tree0).l)]), (14, .clo 51 [.pto [.int q, .int v, .int k, .ls (.trees l)]]), (5, .loc 0 0), (3, .pto [.int n]), (4, .loc 1 0)] [(970, .other l0 (.loop r0)), (0, .box [.int (i : Int)]), (1, .box [.int 0])] _ _
    refine tri_regD hcx [(1000, .to 606)] [6] [14, 5, 3, 4] [970, 0, 1] [] [(6, .loc 606 0)] [(606, .box [.int (((Fl.nodesT (.node q v k l)).getD i tree0).kind), .int (((Fl.nodesT (.node q v k l)).getD i tree0).v), .int (((Fl.nodesT (.node q v k l)).getD i tree0).k), .trees (((Fl.nodesT (.node q v k l)).getD i tree0).l)])] (by kernel_rfl) ?_ ?_
    ·
     exact az
    refine fin_ren (ρ := [(970, .to 970), (0, .to 0), (1, .to 1), (606, .to 606)]) (keys := [3, 4, 5, 6, 14]) (E' := [(3, .pto [.int n]), (4, .loc 1 0), (5, .loc 0 0), (6, .loc 606 0), (14, .clo 51 [.pto [.int q, .int v, .int k, .ls (.trees l)]])]) (H' := [(970, .other l0 (.loop r0)), (0, .box [.int (i : Int)]), (1, .box [.int 0]), (606, .box [.int (((Fl.nodesT (.node q v k l)).getD i tree0).kind), .int (((Fl.nodesT (.node q v k l)).getD i tree0).v), .int (((Fl.nodesT (.node q v k l)).getD i tree0).k), .trees (((Fl.nodesT (.node q v k l)).getD i tree0).l)])]) (by kernel_rfl) ?_
    refine fin_assign ?_ ?_
    ·
     exact subE_mk (l := [.clo 51 [.pto [.int q, .int v, .int k, .ls (.trees l)]], .loc 0 0, .pto [.int n], .loc 1 0, .loc 606 0]) (m := [.clo 51 [.pto [.int q, .int v, .int k, .ls (.trees l)]], .loc 0 0, .pto [.int n], .loc 1 0, .loc 606 0]) (by kernel_rfl) (by kernel_rfl) rfl
    ·
     kernel_rfl
   ·
    intro Wr Or βr Gr l0 r0 i un hi0 hI0
    replace hI0 : ∀ j, j < i → Fl.headB n ((Fl.nodesT (.node q v k l)).getD j tree0) = true := hI0
    have hmx := Fl.node_max hi0
    change Tri _ [(14, .clo 51 [.pto [.int q, .int v, .int k, .ls (.trees l)]]), (5, .loc 0 0), (3, .pto [.int n]), (4, .loc 1 0), (6, .loc 606 0)] [(970, .other l0 (.loop r0)), (0, .box [.int (i : Int)]), (1, .box [.int 0]), (606, .box [.int (((Fl.nodesT (.node q v k l)).getD i tree0).kind), .int (((Fl.nodesT (.node q v k l)).getD i tree0).v), .int (((Fl.nodesT (.node q v k l)).getD i tree0).k), .trees (((Fl.nodesT (.node q v k l)).getD i tree0).l)])] _ _
    refine tri_block ?_
    refine tri_seq ?_
    refine tri_seq ?_
    refine tri_regD hcx [] [19] [5, 4] [970, 0, 1] [((((Fl.nodesT (.node q v k l)).getD i tree0).l).length ≤ maxLen)] [(19, .bool (!(Fl.mayH n (((Fl.nodesT (.node q v k l)).getD i tree0).kind) (((Fl.nodesT (.node q v k l)).getD i tree0).v) (((Fl.nodesT (.node q v k l)).getD i tree0).k) (((Fl.nodesT (.node q v k l)).getD i tree0).l).length)))] [] (by kernel_rfl) ?_ ?_
    ·
     refine (ap ?_ az)
     first | omega | exact id | exact vcNot | exact vcG | exact vcH | (intro _; omega) | exact (fun _ h => h) | (intro h; simp at h; omega) | (simp only [List.length_cons, List.length_nil, List.length_append, List.length_map, List.length_set, List.length_replicate]; omega) | (intro h; simp [h]; done) | exact True.intro | (simp only [List.length_cons, List.length_nil]; omega) | (have hmx := Fl.node_max hi0; unfold maxLen; omega) | done
    refine fin_then ?_
    refine tri_cond (b := (!(Fl.mayH n (((Fl.nodesT (.node q v k l)).getD i tree0).kind) (((Fl.nodesT (.node q v k l)).getD i tree0).v) (((Fl.nodesT (.node q v k l)).getD i tree0).k) (((Fl.nodesT (.node q v k l)).getD i tree0).l).length))) (by kernel_rfl) (fun hb1 => ?_) (fun hb1 => ?_)
    ·
     skip
     have h1 := hb1
     have hq := h1
     refine tri_seq ?_
     refine tri_regD hcx [(1, .to 1)] [] [4] [970, 0] [] [] [(1, .box [.int 1])] (by kernel_rfl) ?_ ?_
     ·
      exact az
     refine fin_then ?_
     refine tri_ret ?_
     refine fin_then_ret ?_
     refine fin_block_ret ?_
     refine fin_ren (ρ := [(970, .to 970), (0, .to 0), (1, .to 1)]) (keys := []) (E' := []) (H' := [(970, .other l0 (.loop r0)), (0, .box [.int (i : Int)]), (1, .box [.int 1])]) (by kernel_rfl) ?_
     refine fin_rret [(0, .box [.int (i : Int)]), (1, .box [.int 1])] rfl (by kernel_rfl) ⟨by kernel_rfl, fun D0 => ?_⟩
     change Fin _ [(14, .clo 51 [.pto [.int q, .int v, .int k, .ls (.trees l)]]), (5, .loc 0 0), (3, .pto [.int n]), (4, .loc 1 0)] [(989, .other D0 dfr), (0, .box [.int (i : Int)]), (1, .box [.int 1])] _ _
     refine fin_block_ret ?_
     refine fin_then_ret ?_
     refine fin_ren (ρ := [(989, .to 989), (1, .to 990)]) (keys := [4]) (E' := [(4, .loc 990 0)]) (H' := [(989, .other D0 dfr), (990, .box [.int 1])]) (by kernel_rfl) ?_
     exact fin_retM _ rfl [(989, D0)] rfl rfl ⟨rfl, trivial⟩ hcx (avs := [.int 1]) (by kernel_rfl) (congrArg AV.int (show 1 = (Fl.chkN n q v k l) from (by exact Fl.head_no hi0 hq))) [] rfl
    ·
     skip
     have h1 := hb1
     have hq := h1
     refine tri_skip ?_
     refine fin_then ?_
     refine tri_regD hcx [(0, .to 0)] [] [] [970, 1] [Fit ((i : Int) + 1)] [] [(0, .box [.int ((i : Int) + 1)])] (by kernel_rfl) ?_ ?_
     ·
      refine (ap ?_ az)
      first | omega | exact id | exact vcNot | exact vcG | exact vcH | (intro _; omega) | exact (fun _ h => h) | (intro h; simp at h; omega) | (simp only [List.length_cons, List.length_nil, List.length_append, List.length_map, List.length_set, List.length_replicate]; omega) | (intro h; simp [h]; done) | exact True.intro | (simp only [List.length_cons, List.length_nil]; omega) | (have hmx := Fl.node_max hi0; unfold maxLen; omega) | done
     refine fin_block ?_
     refine fin_ren (ρ := [(970, .to 970), (0, .to 0), (1, .to 1)]) (keys := []) (E' := []) (H' := [(970, .other l0 (.loop r0)), (0, .box [.int ((i : Int) + 1)]), (1, .box [.int 0])]) (by kernel_rfl) ?_
     refine fin_rnext (()) ?_ ?_
     ·
      show ∀ j, j < (i + 1) → Fl.headB n ((Fl.nodesT (.node q v k l)).getD j tree0) = true
      exact fun j hj => by rcases (by omega : j < i ∨ j = i) with h | rfl; exact hI0 j h; exact Fl.head_yes hq
     ·
      exact Eq.trans (show _ = [(970, .other l0 (.loop r0)), (0, .box [.int ((i : Int) + 1)]), (1, .box [.int 0])] from by kernel_rfl) (consH rfl (consH (congrArg (fun x => ((0 : Nat), x)) (congrArg AObj.box (consE (congrArg AV.int (show ((i : Int) + 1) = ((i + 1) : Int) from (by first | rfl | omega))) rfl))) (consH rfl rfl)))
   ·
    intro D0 un hI0
    replace hI0 : ∀ j, j < (Fl.sizeT (.node q v k l)) → Fl.headB n ((Fl.nodesT (.node q v k l)).getD j tree0) = true := hI0
    change Fin _ [(14, .clo 51 [.pto [.int q, .int v, .int k, .ls (.trees l)]]), (5, .loc 0 0), (3, .pto [.int n]), (4, .loc 1 0)] [(989, .other D0 dfr), (0, .box [.int ((Fl.sizeT (.node q v k l)) : Int)]), (1, .box [.int 0])] _ _
    refine fin_block ?_
    refine fin_then ?_
    refine tri_seq ?_
    refine tri_seq ?_
    refine tri_regD hcx [] [23] [4] [989, 1] [] [(23, .bool (decide (((Fl.sizeT (.node q v k l)) : Int) > 65536)))] [] (by kernel_rfl) ?_ ?_
    ·
     exact az
    refine fin_then ?_
    refine tri_cond (b := (decide (((Fl.sizeT (.node q v k l)) : Int) > 65536))) (by kernel_rfl) (fun hb2 => ?_) (fun hb2 => ?_)
    ·
     skip
     have h2 := hb2
     have hc := h2
     refine tri_seq ?_
     refine tri_regD hcx [(1, .to 1)] [] [4] [989] [] [] [(1, .box [.int 2])] (by kernel_rfl) ?_ ?_
     ·
      exact az
     refine fin_then ?_
     refine tri_ret ?_
     refine fin_then_ret ?_
     refine fin_ren (ρ := [(989, .to 989), (1, .to 990)]) (keys := [4]) (E' := [(4, .loc 990 0)]) (H' := [(989, .other D0 dfr), (990, .box [.int 2])]) (by kernel_rfl) ?_
     exact fin_retM _ rfl [(989, D0)] rfl rfl ⟨rfl, trivial⟩ hcx (avs := [.int 2]) (by kernel_rfl) (congrArg AV.int (show 2 = (Fl.chkN n q v k l) from (by (rw [Fl.chk_end hb rfl rfl hI0, hc]; rfl)))) [] rfl
    ·
     skip
     have h2 := hb2
     have hc := h2
     refine tri_skip ?_
     refine fin_then ?_
     refine tri_seq ?_
     refine tri_regD hcx [(1, .to 1)] [] [4] [989] [] [] [(1, .box [.int 0])] (by kernel_rfl) ?_ ?_
     ·
      exact az
     refine fin_then ?_
     refine tri_ret ?_
     refine fin_ren (ρ := [(989, .to 989), (1, .to 990)]) (keys := [4]) (E' := [(4, .loc 990 0)]) (H' := [(989, .other D0 dfr), (990, .box [.int 0])]) (by kernel_rfl) ?_
     exact fin_retM _ rfl [(989, D0)] rfl rfl ⟨rfl, trivial⟩ hcx (avs := [.int 0]) (by kernel_rfl) (congrArg AV.int (show 0 = (Fl.chkN n q v k l) from (by (rw [Fl.chk_end hb rfl rfl hI0, hc]; rfl)))) [] rfl
 ·
  cases hσ
def cx_fVars : Cx := ⟨tyFlat2, [(37, sSortI), (38, sCompact), (34, (coeF [.agg [.id, .id, .id, .ld (.trees [])]] fParts_σ)), (35, fFormed_σ), (24, (coeF [.agg [.id, .id, .id, .ld (.trees [])]] fSize_σ)), (17, (coeF [.agg [.id, .id, .id, .ld (.trees [])], .id] fChk_σ))]⟩
theorem cx_fVars_ok : CxOk Tryd.prog cx_fVars := cx_ok tyFlat2_ok ⟨sSortI_sound, sCompact_sound, (fParts_sound.coe [.agg [.id, .id, .id, .ld (.trees [])]] rfl), fFormed_sound, (fSize_sound.coe [.agg [.id, .id, .id, .ld (.trees [])]] rfl), (fChk_sound.coe [.agg [.id, .id, .id, .ld (.trees [])], .id] rfl), trivial⟩
def fVars_σ : CtF
  | [.agg [.im (.val (.int .i64 q)), .im (.val (.int .i64 v)), .im (.val (.int .i64 k)), .im (.ls (.trees l))]], [] => some (Fl.sizeT (.node q v k l) ≤ 1000000000000, .row 0, [some (.row 3 (.ints (Fl.setI (Fl.varsT (.node q v k l)))))])
  | _, _ => none
theorem fVars_sound : Sound Tryd.prog 23 fVars_σ := by
 refine sound_mk (cx := cx_fVars) (fn := Tryd.f23) Tryd.func23 (by kernel_rfl) rfl ?_
 intro w0 G0 args os p r outs hσ hp hm0 hd0
 have hcx : CxOk Tryd.prog cx_fVars := cx_fVars_ok
 unfold fVars_σ at hσ
 split at hσ
 ·
  rename_i q v k l
  simp only [Option.some.injEq, Prod.mk.injEq] at hσ
  obtain ⟨rfl, rfl, rfl⟩ := hσ
  obtain ⟨wW, wO, wm, wβ, wd⟩ := w0
  replace hm0 : wm = 0 := hm0
  subst hm0
  replace hd0 : wd = [] := hd0
  subst hd0
  refine ⟨by kernel_rfl, ?_⟩
  change Tri ⟨_, _, _, _, _, _⟩ [(0, .agg [.int q, .int v, .int k, .trees l])] [] _ _
  have hm1 := hp
  refine tri_seq ?_
  refine tri_regD hcx [(1001, .to 602), (1000, .frz)] [1, 2] [] [] [] [(1, .pto [.int q, .int v, .int k, .ls (.trees l)]), (2, .loc 602 0)] [(602, .box [.im (.val (.slice none 0 0))])] (by kernel_rfl) ?_ ?_
  ·
   exact az
  refine fin_then ?_
  refine tri_seq ?_
  refine tri_seq ?_
  refine tri_rowB 602 0 10 3 (.ints []) (by kernel_rfl) (by kernel_rfl) (by kernel_rfl) (by kernel_rfl) (H' := [(602, .box [.row 10])]) (by kernel_rfl) ?_
  refine tri_regD hcx [] [5] [2] [10, 602] [(True)] [(5, .clo 51 [.pto [.int q, .int v, .int k, .ls (.trees l)]])] [] (by kernel_rfl) ?_ ?_
  ·
   refine (ap ?_ az)
   first | omega | exact id | exact vcNot | exact vcG | exact vcH | (intro _; omega) | exact (fun _ h => h) | (intro h; simp at h; omega) | (simp only [List.length_cons, List.length_nil, List.length_append, List.length_map, List.length_set, List.length_replicate]; omega) | (intro h; simp [h]; done) | exact True.intro | (simp only [List.length_cons, List.length_nil]; omega) | (rw [Fl.sortI_len]; omega) | done
  refine fin_then ?_
  refine tri_block ?_
  refine tri_ren (ρ := [(602, .to 0), (10, .to 10)]) (keys := [5, 2]) (E' := [(5, .clo 51 [.pto [.int q, .int v, .int k, .ls (.trees l)]]), (2, .loc 0 0)]) (H' := [(0, .box [.row 10]), (10, .row 3 (.ints []))]) (by kernel_rfl) ?_
  refine tri_range (X := Unit) rfl parts_seq (caps := [.pto [.int q, .int v, .int k, .ls (.trees l)]]) (by kernel_rfl) (N := Fl.sizeT (.node q v k l)) (el := fun i => [.agg [.int (((Fl.nodesT (.node q v k l)).getD i tree0).kind), .int (((Fl.nodesT (.node q v k l)).getD i tree0).v), .int (((Fl.nodesT (.node q v k l)).getD i tree0).k), .trees (((Fl.nodesT (.node q v k l)).getD i tree0).l)]]) rfl (by kernel_rfl) ?_ 1 970 989 (by kernel_rfl) (fun i x0 => True) (fun i x0 => [(0, .box [.row 10]), (10, .row 3 (.ints (Fl.vOf ((Fl.nodesT (.node q v k l)).take i))))]) (fun i x0 => [(5, .clo 51 [.pto [.int q, .int v, .int k, .ls (.trees l)]]), (2, .loc 0 0), (3, .loc 603 0)]) (fun i x0 => [(0, .box [.row 10]), (10, .row 3 (.ints (Fl.vOf ((Fl.nodesT (.node q v k l)).take i)))), (603, .box [.int (((Fl.nodesT (.node q v k l)).getD i tree0).kind), .int (((Fl.nodesT (.node q v k l)).getD i tree0).v), .int (((Fl.nodesT (.node q v k l)).getD i tree0).k), .trees (((Fl.nodesT (.node q v k l)).getD i tree0).l)])]) (()) ?_ ?_ (fun _ _ => rfl) (fun _ _ _ => by kernel_rfl) (fun _ _ => by kernel_rfl) ?_ ?_ ?_
  ·
   exact True.intro
  ·
   show True
   exact True.intro
  ·
   exact Eq.trans (show _ = [(0, .box [.row 10]), (10, .row 3 (.ints []))] from by kernel_rfl) (consH rfl (consH (congrArg (fun x => ((10 : Nat), x)) (congrArg (fun x => AObj.row 3 (.ints x)) (show [] = (Fl.vOf ((Fl.nodesT (.node q v k l)).take 0)) from (by rfl)))) rfl))
  ·
   intro Wr Or βr Gr l0 r0 i un hi0 hI0
   replace hI0 : True := hI0
   have hvl := Fl.vOf_len (t := .node q v k l) i
   change Tri _ [(6, .agg [.int (((Fl.nodesT (.node q v k l)).getD i tree0).kind), .int (((Fl.nodesT (.node q v k l)).getD i tree0).v), .int (((Fl.nodesT (.node q v k l)).getD i tree0).k), .trees (((Fl.nodesT (.node q v k l)).getD i tree0).l)]), (5, .clo 51 [.pto [.int q, .int v, .int k, .ls (.trees l)]]), (2, .loc 0 0)] [(970, .other l0 (.loop r0)), (0, .box [.row 10]), (10, .row 3 (.ints (Fl.vOf ((Fl.nodesT (.node q v k l)).take i))))] _ _
   refine tri_regD hcx [(1000, .to 603)] [3] [5, 2] [970, 0, 10] [] [(3, .loc 603 0)] [(603, .box [.int (((Fl.nodesT (.node q v k l)).getD i tree0).kind), .int (((Fl.nodesT (.node q v k l)).getD i tree0).v), .int (((Fl.nodesT (.node q v k l)).getD i tree0).k), .trees (((Fl.nodesT (.node q v k l)).getD i tree0).l)])] (by kernel_rfl) ?_ ?_
   ·
    exact az
   refine fin_ren (ρ := [(970, .to 970), (0, .to 0), (10, .to 10), (603, .to 603)]) (keys := [2, 3, 5]) (E' := [(2, .loc 0 0), (3, .loc 603 0), (5, .clo 51 [.pto [.int q, .int v, .int k, .ls (.trees l)]])]) (H' := [(970, .other l0 (.loop r0)), (0, .box [.row 10]), (10, .row 3 (.ints (Fl.vOf ((Fl.nodesT (.node q v k l)).take i)))), (603, .box [.int (((Fl.nodesT (.node q v k l)).getD i tree0).kind), .int (((Fl.nodesT (.node q v k l)).getD i tree0).v), .int (((Fl.nodesT (.node q v k l)).getD i tree0).k), .trees (((Fl.nodesT (.node q v k l)).getD i tree0).l)])]) (by kernel_rfl) ?_
   refine fin_assign ?_ ?_
   ·
    exact subE_mk (l := [.clo 51 [.pto [.int q, .int v, .int k, .ls (.trees l)]], .loc 0 0, .loc 603 0]) (m := [.clo 51 [.pto [.int q, .int v, .int k, .ls (.trees l)]], .loc 0 0, .loc 603 0]) (by kernel_rfl) (by kernel_rfl) rfl
   ·
    kernel_rfl
  ·
   intro Wr Or βr Gr l0 r0 i un hi0 hI0
   replace hI0 : True := hI0
   have hvl := Fl.vOf_len (t := .node q v k l) i
   change Tri _ [(5, .clo 51 [.pto [.int q, .int v, .int k, .ls (.trees l)]]), (2, .loc 0 0), (3, .loc 603 0)] [(970, .other l0 (.loop r0)), (0, .box [.row 10]), (10, .row 3 (.ints (Fl.vOf ((Fl.nodesT (.node q v k l)).take i)))), (603, .box [.int (((Fl.nodesT (.node q v k l)).getD i tree0).kind), .int (((Fl.nodesT (.node q v k l)).getD i tree0).v), .int (((Fl.nodesT (.node q v k l)).getD i tree0).k), .trees (((Fl.nodesT (.node q v k l)).getD i tree0).l)])] _ _
   refine tri_block ?_
   refine tri_seq ?_
   refine tri_regD hcx [] [9] [2, 3] [970, 0, 10, 603] [] [(9, .bool ((((Fl.nodesT (.node q v k l)).getD i tree0).kind) == 2))] [] (by kernel_rfl) ?_ ?_
   ·
    exact az
   refine fin_then ?_
   refine tri_cond (b := ((((Fl.nodesT (.node q v k l)).getD i tree0).kind) == 2)) (by kernel_rfl) (fun hb0 => ?_) (fun hb0 => ?_)
   ·
    skip
    have h0 := eq_of_beq hb0
    refine tri_regD hcx [(0, .to 0), (1004, .to 10)] [] [] [970] [(((Fl.vOf ((Fl.nodesT (.node q v k l)).take i)).length + [((Fl.nodesT (.node q v k l)).getD i tree0).v].length) * 8 ≤ 140737488355328)] [] [(0, .box [.row 10]), (10, .row 3 (.ints ((Fl.vOf ((Fl.nodesT (.node q v k l)).take i)) ++ [((Fl.nodesT (.node q v k l)).getD i tree0).v])))] (by kernel_rfl) ?_ ?_
    ·
     refine (ap ?_ az)
     first | omega | exact id | exact vcNot | exact vcG | exact vcH | (intro _; omega) | exact (fun _ h => h) | (intro h; simp at h; omega) | (simp only [List.length_cons, List.length_nil, List.length_append, List.length_map, List.length_set, List.length_replicate]; omega) | (intro h; simp [h]; done) | exact True.intro | (simp only [List.length_cons, List.length_nil]; omega) | (rw [Fl.sortI_len]; omega) | done
    refine fin_block ?_
    refine fin_ren (ρ := [(970, .to 970), (0, .to 0), (10, .to 10)]) (keys := []) (E' := []) (H' := [(970, .other l0 (.loop r0)), (0, .box [.row 10]), (10, .row 3 (.ints ((Fl.vOf ((Fl.nodesT (.node q v k l)).take i)) ++ [((Fl.nodesT (.node q v k l)).getD i tree0).v])))]) (by kernel_rfl) ?_
    refine fin_rnext (()) ?_ ?_
    ·
     show True
     exact True.intro
    ·
     exact Eq.trans (show _ = [(970, .other l0 (.loop r0)), (0, .box [.row 10]), (10, .row 3 (.ints ((Fl.vOf ((Fl.nodesT (.node q v k l)).take i)) ++ [((Fl.nodesT (.node q v k l)).getD i tree0).v])))] from by kernel_rfl) (consH rfl (consH rfl (consH (congrArg (fun x => ((10 : Nat), x)) (congrArg (fun x => AObj.row 3 (.ints x)) (show ((Fl.vOf ((Fl.nodesT (.node q v k l)).take i)) ++ [((Fl.nodesT (.node q v k l)).getD i tree0).v]) = (Fl.vOf ((Fl.nodesT (.node q v k l)).take (i + 1))) from (by first | exact Fl.vOf_yes hi0 (by omega) | exact Fl.vOf_no hi0 (by omega))))) rfl)))
   ·
    skip
    have h0 := neB hb0
    refine tri_skip ?_
    refine fin_block ?_
    refine fin_ren (ρ := [(970, .to 970), (0, .to 0), (10, .to 10)]) (keys := []) (E' := []) (H' := [(970, .other l0 (.loop r0)), (0, .box [.row 10]), (10, .row 3 (.ints (Fl.vOf ((Fl.nodesT (.node q v k l)).take i))))]) (by kernel_rfl) ?_
    refine fin_rnext (()) ?_ ?_
    ·
     show True
     exact True.intro
    ·
     exact Eq.trans (show _ = [(970, .other l0 (.loop r0)), (0, .box [.row 10]), (10, .row 3 (.ints (Fl.vOf ((Fl.nodesT (.node q v k l)).take i))))] from by kernel_rfl) (consH rfl (consH rfl (consH (congrArg (fun x => ((10 : Nat), x)) (congrArg (fun x => AObj.row 3 (.ints x)) (show (Fl.vOf ((Fl.nodesT (.node q v k l)).take i)) = (Fl.vOf ((Fl.nodesT (.node q v k l)).take (i + 1))) from (by first | exact Fl.vOf_yes hi0 (by omega) | exact Fl.vOf_no hi0 (by omega))))) rfl)))
  ·
   intro D0 un hI0
   replace hI0 : True := hI0
   have hva := Fl.vOf_all (t := .node q v k l)
   have hvl := Fl.vOf_len (t := .node q v k l) (Fl.sizeT (.node q v k l))
   change Fin _ [(5, .clo 51 [.pto [.int q, .int v, .int k, .ls (.trees l)]]), (2, .loc 0 0)] [(989, .other D0 dfr), (0, .box [.row 10]), (10, .row 3 (.ints (Fl.vOf ((Fl.nodesT (.node q v k l)).take (Fl.sizeT (.node q v k l))))))] _ _
   refine fin_block ?_
   refine fin_then ?_
   refine tri_seq ?_
   refine tri_regD hcx [(10, .to 10)] [] [2] [989, 0] [((Fl.vOf ((Fl.nodesT (.node q v k l)).take (Fl.sizeT (.node q v k l)))).length ≤ 1000000000000)] [] [(10, .row 3 (.ints (Fl.sortI (Fl.vOf ((Fl.nodesT (.node q v k l)).take (Fl.sizeT (.node q v k l)))))))] (by kernel_rfl) ?_ ?_
   ·
    refine (ap ?_ az)
    first | omega | exact id | exact vcNot | exact vcG | exact vcH | (intro _; omega) | exact (fun _ h => h) | (intro h; simp at h; omega) | (simp only [List.length_cons, List.length_nil, List.length_append, List.length_map, List.length_set, List.length_replicate]; omega) | (intro h; simp [h]; done) | exact True.intro | (simp only [List.length_cons, List.length_nil]; omega) | (rw [Fl.sortI_len]; omega) | done
   refine fin_then ?_
   refine tri_seq ?_
   refine tri_regD hcx [(0, .to 0), (1001, .to 10)] [] [2] [989] [((Fl.sortI (Fl.vOf ((Fl.nodesT (.node q v k l)).take (Fl.sizeT (.node q v k l))))).length ≤ 1000000000000)] [] [(0, .box [.row 10]), (10, .row 3 (.ints (Lib.compact (Fl.sortI (Fl.vOf ((Fl.nodesT (.node q v k l)).take (Fl.sizeT (.node q v k l))))))))] (by kernel_rfl) ?_ ?_
   ·
    refine (ap ?_ az)
    first | omega | exact id | exact vcNot | exact vcG | exact vcH | (intro _; omega) | exact (fun _ h => h) | (intro h; simp at h; omega) | (simp only [List.length_cons, List.length_nil, List.length_append, List.length_map, List.length_set, List.length_replicate]; omega) | (intro h; simp [h]; done) | exact True.intro | (simp only [List.length_cons, List.length_nil]; omega) | (rw [Fl.sortI_len]; omega) | done
   refine fin_then ?_
   refine tri_ret ?_
   refine fin_ren (ρ := [(10, .to 0), (989, .to 989), (0, .to 990)]) (keys := [2]) (E' := [(2, .loc 990 0)]) (H' := [(0, .row 3 (.ints (Lib.compact (Fl.sortI (Fl.vOf ((Fl.nodesT (.node q v k l)).take (Fl.sizeT (.node q v k l)))))))), (989, .other D0 dfr), (990, .box [.row 0])]) (by kernel_rfl) ?_
   exact fin_retM _ rfl [(989, D0)] rfl rfl ⟨rfl, trivial⟩ hcx (avs := [.row 0]) (by kernel_rfl) rfl [true] (Eq.trans (show _ = [some (.row 3 (.ints (Lib.compact (Fl.sortI (Fl.vOf ((Fl.nodesT (.node q v k l)).take (Fl.sizeT (.node q v k l))))))))] from by kernel_rfl) (consO (congrArg some (congrArg (fun x => AObj.row 3 (.ints x)) (show (Lib.compact (Fl.sortI (Fl.vOf ((Fl.nodesT (.node q v k l)).take (Fl.sizeT (.node q v k l)))))) = (Fl.setI (Fl.varsT (.node q v k l))) from (by (rw [hva]; rfl))))) rfl))
 ·
  cases hσ
def cx_fJ14 : Cx := ⟨tyFlat2, [(37, sSortI), (38, sCompact), (34, (coeF [.agg [.id, .id, .id, .ld (.trees [])]] fParts_σ)), (35, fFormed_σ), (24, (coeF [.agg [.id, .id, .id, .ld (.trees [])]] fSize_σ)), (17, (coeF [.agg [.id, .id, .id, .ld (.trees [])], .id] fChk_σ)), (23, (coeF [.agg [.id, .id, .id, .ld (.trees [])]] fVars_σ)), (41, fConst_σ), (44, fKnown_σ), (30, fKpOpen_σ)]⟩
theorem cx_fJ14_ok : CxOk Tryd.prog cx_fJ14 := cx_ok tyFlat2_ok ⟨sSortI_sound, sCompact_sound, (fParts_sound.coe [.agg [.id, .id, .id, .ld (.trees [])]] rfl), fFormed_sound, (fSize_sound.coe [.agg [.id, .id, .id, .ld (.trees [])]] rfl), (fChk_sound.coe [.agg [.id, .id, .id, .ld (.trees [])], .id] rfl), (fVars_sound.coe [.agg [.id, .id, .id, .ld (.trees [])]] rfl), fConst_sound, fKnown_sound, fKpOpen_sound, trivial⟩
def fJ14_σ : CtF
  | [.agg [.im (.val (.int .i64 q)), .im (.val (.int .i64 v)), .im (.val (.int .i64 k)), .im (.ls (.trees l))], .pto [.val (.int .i64 4)]], [] => some (True, .bool ((q == 1) && (v != 1)), [])
  | _, _ => none
theorem fJ14_sound : Sound Tryd.prog 54 fJ14_σ := by
 refine sound_mk (cx := cx_fJ14) (fn := Tryd.f54) Tryd.func54 (by kernel_rfl) rfl ?_
 intro w0 G0 args os p r outs hσ hp hm0 hd0
 have hcx : CxOk Tryd.prog cx_fJ14 := cx_fJ14_ok
 have hmx : Tryd.prog.follows .mixedOrders = true := by kernel_rfl
 unfold fJ14_σ at hσ
 split at hσ
 ·
  rename_i q v k l
  simp only [Option.some.injEq, Prod.mk.injEq] at hσ
  obtain ⟨rfl, rfl, rfl⟩ := hσ
  obtain ⟨wW, wO, wm, wβ, wd⟩ := w0
  replace hm0 : wm = 0 := hm0
  subst hm0
  replace hd0 : wd = [] := hd0
  subst hd0
  refine ⟨by kernel_rfl, ?_⟩
  change Tri ⟨_, _, _, _, _, _⟩ [(0, .agg [.int q, .int v, .int k, .trees l]), (1, .pto [.int 4])] [] _ _
  refine tri_seq ?_
  refine tri_regD hcx [(1000, .frz)] [2] [1] [] [] [(2, .pto [.int q, .int v, .int k, .ls (.trees l)])] [] (by kernel_rfl) ?_ ?_
  ·
   exact az
  refine fin_then ?_
  refine tri_seq ?_
  refine tri_drawD [0, 1, 3, 7, 15, 7, 39, 103, 255, 511, 1023] hcx hmx [] [3] [] [] [(True), ((q == 1) = true → ((q == 1) = true)), ((q == 1) = true → ((q == 1) = true)), ((q == 1) = true → ((0 : Int) ≤ 4 ∧ 4 < (6 : Int))), ((q == 1) = true → ((q == 1) = true)), ((q == 1) = true → ((q == 1) = true)), ((q == 1) = true → ((q == 1) = true)), ((q == 1) = true → (q == 1) = true)] [(3, .bool ((q == 1) && (v != 1)))] [] (by kernel_rfl) ?_ ?_
  ·
   refine (ap ?_ (ap ?_ (ap ?_ (ap ?_ (ap ?_ (ap ?_ (ap ?_ (ap (by exact id) az))))))))
   all_goals
    first | exact True.intro | exact id | exact (fun _ => True.intro) | (intro _; constructor <;> decide) | (constructor <;> decide) | omega
  refine fin_then ?_
  refine tri_ret ?_
  exact fin_ret [] rfl rfl trivial hcx (avs := [.bool ((q == 1) && (v != 1))]) (by kernel_rfl) rfl [] rfl
 ·
  cases hσ
def cx_fIxJ4 : Cx := ⟨tyFlat2, [(37, sSortI), (38, sCompact), (34, (coeF [.agg [.id, .id, .id, .ld (.trees [])]] fParts_σ)), (35, fFormed_σ), (24, (coeF [.agg [.id, .id, .id, .ld (.trees [])]] fSize_σ)), (17, (coeF [.agg [.id, .id, .id, .ld (.trees [])], .id] fChk_σ)), (23, (coeF [.agg [.id, .id, .id, .ld (.trees [])]] fVars_σ)), (41, fConst_σ), (44, fKnown_σ), (30, fKpOpen_σ), (54, (coeF [.agg [.id, .id, .id, .ld (.trees [])], .id] fJ14_σ))]⟩
theorem cx_fIxJ4_ok : CxOk Tryd.prog cx_fIxJ4 := cx_ok tyFlat2_ok ⟨sSortI_sound, sCompact_sound, (fParts_sound.coe [.agg [.id, .id, .id, .ld (.trees [])]] rfl), fFormed_sound, (fSize_sound.coe [.agg [.id, .id, .id, .ld (.trees [])]] rfl), (fChk_sound.coe [.agg [.id, .id, .id, .ld (.trees [])], .id] rfl), (fVars_sound.coe [.agg [.id, .id, .id, .ld (.trees [])]] rfl), fConst_sound, fKnown_sound, fKpOpen_sound, (fJ14_sound.coe [.agg [.id, .id, .id, .ld (.trees [])], .id] rfl), trivial⟩
def fIxJ4_σ : CtF
  | [.im (.ls (.trees s)), .clo 54 [.pto [.val (.int .i64 4)]]], [] => some (s.length ≤ maxLen, .int (Cn.idxF (fun x : Tree => (x.kind == 1) && (x.v != 1)) s), [])
  | _, _ => none
theorem fIxJ4_sound : Sound Tryd.prog 40 fIxJ4_σ := by
 refine sound_mk (cx := cx_fIxJ4) (fn := Tryd.f40) Tryd.func40 (by kernel_rfl) rfl ?_
 intro w0 G0 args os p r outs hσ hp hm0 hd0
 have hcx : CxOk Tryd.prog cx_fIxJ4 := cx_fIxJ4_ok
 unfold fIxJ4_σ at hσ
 split at hσ
 ·
  rename_i s
  simp only [Option.some.injEq, Prod.mk.injEq] at hσ
  obtain ⟨rfl, rfl, rfl⟩ := hσ
  obtain ⟨wW, wO, wm, wβ, wd⟩ := w0
  replace hm0 : wm = 0 := hm0
  subst hm0
  replace hd0 : wd = [] := hd0
  subst hd0
  refine ⟨by kernel_rfl, ?_⟩
  change Tri ⟨_, _, _, _, _, _⟩ [(0, .trees s), (1, .clo 54 [.pto [.int 4]])] [] _ _
  have hm9 := hp
  unfold maxLen at hm9
  refine tri_seq ?_
  refine tri_regD hcx [] [] [0, 1] [] [] [] [] (by kernel_rfl) ?_ ?_
  ·
   exact az
  refine fin_then ?_
  refine tri_seq ?_
  refine tri_seq ?_
  refine tri_regD hcx [] [7, 8] [0, 1] [] [] [(7, .int (s.length : Int)), (8, .int 0)] [] (by kernel_rfl) ?_ ?_
  ·
   exact az
  refine fin_then ?_
  refine tri_block ?_
  refine tri_loop (X := Nat) (fun x0 => x0 ≤ s.length ∧ ∀ j, j < x0 → (fun x : Tree => (x.kind == 1) && (x.v != 1)) (s.getD j tree0) = false) (fun x0 => [(0, .trees s), (1, .clo 54 [.pto [.int 4]]), (7, .int (s.length : Int)), (8, .int (x0 : Int))]) (fun x0 => []) (fun x0 => s.length - x0) (0) ?_ ?_ ?_ ?_
  ·
   show 0 ≤ s.length ∧ ∀ j, j < 0 → (fun x : Tree => (x.kind == 1) && (x.v != 1)) (s.getD j tree0) = false
   exact ⟨Nat.zero_le _, fun j hj => by omega⟩
  ·
   exact subE_mk (l := [.trees s, .clo 54 [.pto [.int 4]], .int (s.length : Int), .int 0]) (m := [.trees s, .clo 54 [.pto [.int 4]], .int (s.length : Int), .int (0 : Int)]) (by kernel_rfl) (by kernel_rfl) (consE rfl (consE rfl (consE rfl (consE (congrArg AV.int (show 0 = (0 : Int) from (by first | rfl | omega | (simp; done)))) rfl))))
  ·
   kernel_rfl
  ·
   intro i hI
   replace hI : i ≤ s.length ∧ ∀ j, j < i → (fun x : Tree => (x.kind == 1) && (x.v != 1)) (s.getD j tree0) = false := hI
   change Tri _ [(0, .trees s), (1, .clo 54 [.pto [.int 4]]), (7, .int (s.length : Int)), (8, .int (i : Int))] [] _ _
   obtain ⟨hk, hok⟩ := hI
   refine tri_seq ?_
   refine tri_regD hcx [] [9] [0, 1, 7, 8] [] [] [(9, .bool (decide ((i : Int) < (s.length : Int))))] [] (by kernel_rfl) ?_ ?_
   ·
    exact az
   refine fin_then ?_
   refine tri_seq ?_
   refine tri_cond (b := (decide ((i : Int) < (s.length : Int)))) (by kernel_rfl) (fun hb0 => ?_) (fun hb0 => ?_)
   ·
    skip
    have h0 := of_decide_eq_true hb0
    refine tri_skip ?_
    refine fin_then ?_
    refine tri_seq ?_
    refine tri_block ?_
    refine tri_seq ?_
    refine tri_regD hcx [] [5] [0, 1, 7, 8] [] [] [(5, .int (i : Int))] [] (by kernel_rfl) ?_ ?_
    ·
     exact az
    refine fin_then ?_
    refine tri_seq ?_
    refine tri_regD hcx [] [16] [5, 0, 1, 7, 8] [] [((0 : Int) ≤ (i : Int) ∧ (i : Int) < (s.length : Int)), (True)] [(16, .bool ((((s.getD i tree0).kind) == 1) && (((s.getD i tree0).v) != 1)))] [] (by kernel_rfl) ?_ ?_
    ·
     refine (ap ?_ (ap ?_ az))
     all_goals
      first | omega | exact id | exact vcNot | exact vcG | exact vcH | (intro _; omega) | exact (fun _ h => h) | (intro h; simp at h; omega) | (simp only [List.length_cons, List.length_nil, List.length_append, List.length_map, List.length_set, List.length_replicate]; omega) | (intro h; simp [h]; done) | exact True.intro | (constructor <;> omega) | done
    refine fin_then ?_
    refine tri_cond (b := ((((s.getD i tree0).kind) == 1) && (((s.getD i tree0).v) != 1))) (by kernel_rfl) (fun hb1 => ?_) (fun hb1 => ?_)
    ·
     skip
     have h1 := hb1
     have hq : (fun x : Tree => (x.kind == 1) && (x.v != 1)) (s.getD i tree0) = true := h1
     refine tri_seq ?_
     refine tri_regD hcx [] [4] [] [] [] [(4, .int (i : Int))] [] (by kernel_rfl) ?_ ?_
     ·
      exact az
     refine fin_then ?_
     refine tri_ret ?_
     refine fin_block_ret ?_
     refine fin_then_ret ?_
     refine fin_then_ret ?_
     refine fin_block_ret ?_
     refine fin_then_ret ?_
     exact fin_ret [] rfl rfl trivial hcx (avs := [.int (i : Int)]) (by kernel_rfl) (congrArg AV.int (show (i : Int) = (Cn.idxF (fun x : Tree => (x.kind == 1) && (x.v != 1)) s) from (by exact (Cn.idxF_yes (p := (fun x : Tree => (x.kind == 1) && (x.v != 1))) (by omega) hok hq).symm))) [] rfl
    ·
     skip
     have h1 := hb1
     have hq : (fun x : Tree => (x.kind == 1) && (x.v != 1)) (s.getD i tree0) = false := h1
     refine tri_skip ?_
     refine fin_block ?_
     refine fin_then ?_
     refine tri_regD hcx [] [8] [0, 1, 7] [] [Fit ((i : Int) + 1)] [(8, .int ((i : Int) + 1))] [] (by kernel_rfl) ?_ ?_
     ·
      refine (ap ?_ az)
      first | omega | exact id | exact vcNot | exact vcG | exact vcH | (intro _; omega) | exact (fun _ h => h) | (intro h; simp at h; omega) | (simp only [List.length_cons, List.length_nil, List.length_append, List.length_map, List.length_set, List.length_replicate]; omega) | (intro h; simp [h]; done) | exact True.intro | (constructor <;> omega) | done
     refine fin_round (i + 1) ?_ ?_ ?_ ?_
     ·
      show (i + 1) ≤ s.length ∧ ∀ j, j < (i + 1) → (fun x : Tree => (x.kind == 1) && (x.v != 1)) (s.getD j tree0) = false
      exact ⟨by omega, fun j hj => by rcases (by omega : j < i ∨ j = i) with h | rfl; exact hok j h; exact hq⟩
     ·
      show s.length - (i + 1) < s.length - i
      omega
     ·
      exact subE_mk (l := [.trees s, .clo 54 [.pto [.int 4]], .int (s.length : Int), .int ((i : Int) + 1)]) (m := [.trees s, .clo 54 [.pto [.int 4]], .int (s.length : Int), .int ((i + 1) : Int)]) (by kernel_rfl) (by kernel_rfl) (consE rfl (consE rfl (consE rfl (consE (congrArg AV.int (show ((i : Int) + 1) = ((i + 1) : Int) from (by first | rfl | omega | (simp; done)))) rfl))))
     ·
      kernel_rfl
   ·
    skip
    have h0 := of_decide_eq_false hb0
    refine tri_exit ?_
    refine fin_then_exit ?_
    refine fin_then_exit ?_
    refine fin_block_same ?_
    refine fin_then ?_
    refine tri_seq ?_
    refine tri_regD hcx [] [4] [] [] [] [(4, .int (-1))] [] (by kernel_rfl) ?_ ?_
    ·
     exact az
    refine fin_then ?_
    refine tri_ret ?_
    exact fin_ret [] rfl rfl trivial hcx (avs := [.int (-1)]) (by kernel_rfl) (congrArg AV.int (show (-1) = (Cn.idxF (fun x : Tree => (x.kind == 1) && (x.v != 1)) s) from (by exact (Cn.idxF_no (p := (fun x : Tree => (x.kind == 1) && (x.v != 1))) (Cn.all_mem (d := tree0) (fun j hj => hok j (by omega)))).symm))) [] rfl
 ·
  cases hσ
def cx_fCtJ4 : Cx := ⟨tyFlat2, [(37, sSortI), (38, sCompact), (34, (coeF [.agg [.id, .id, .id, .ld (.trees [])]] fParts_σ)), (35, fFormed_σ), (24, (coeF [.agg [.id, .id, .id, .ld (.trees [])]] fSize_σ)), (17, (coeF [.agg [.id, .id, .id, .ld (.trees [])], .id] fChk_σ)), (23, (coeF [.agg [.id, .id, .id, .ld (.trees [])]] fVars_σ)), (41, fConst_σ), (44, fKnown_σ), (30, fKpOpen_σ), (54, (coeF [.agg [.id, .id, .id, .ld (.trees [])], .id] fJ14_σ)), (40, (coeF [.ld (.trees []), .id] fIxJ4_σ))]⟩
theorem cx_fCtJ4_ok : CxOk Tryd.prog cx_fCtJ4 := cx_ok tyFlat2_ok ⟨sSortI_sound, sCompact_sound, (fParts_sound.coe [.agg [.id, .id, .id, .ld (.trees [])]] rfl), fFormed_sound, (fSize_sound.coe [.agg [.id, .id, .id, .ld (.trees [])]] rfl), (fChk_sound.coe [.agg [.id, .id, .id, .ld (.trees [])], .id] rfl), (fVars_sound.coe [.agg [.id, .id, .id, .ld (.trees [])]] rfl), fConst_sound, fKnown_sound, fKpOpen_sound, (fJ14_sound.coe [.agg [.id, .id, .id, .ld (.trees [])], .id] rfl), (fIxJ4_sound.coe [.ld (.trees []), .id] rfl), trivial⟩
def fCtJ4_σ : CtF
  | [.im (.ls (.trees s)), .clo 54 [.pto [.val (.int .i64 4)]]], [] => some (s.length ≤ maxLen, .bool (s.any (fun x : Tree => (x.kind == 1) && (x.v != 1))), [])
  | _, _ => none
theorem fCtJ4_sound : Sound Tryd.prog 29 fCtJ4_σ := by
 refine sound_mk (cx := cx_fCtJ4) (fn := Tryd.f29) Tryd.func29 (by kernel_rfl) rfl ?_
 intro w0 G0 args os p r outs hσ hp hm0 hd0
 have hcx : CxOk Tryd.prog cx_fCtJ4 := cx_fCtJ4_ok
 unfold fCtJ4_σ at hσ
 split at hσ
 ·
  rename_i s
  simp only [Option.some.injEq, Prod.mk.injEq] at hσ
  obtain ⟨rfl, rfl, rfl⟩ := hσ
  obtain ⟨wW, wO, wm, wβ, wd⟩ := w0
  replace hm0 : wm = 0 := hm0
  subst hm0
  replace hd0 : wd = [] := hd0
  subst hd0
  refine ⟨by kernel_rfl, ?_⟩
  change Tri ⟨_, _, _, _, _, _⟩ [(0, .trees s), (1, .clo 54 [.pto [.int 4]])] [] _ _
  refine tri_seq ?_
  refine tri_regD hcx [] [] [0, 1] [] [] [] [] (by kernel_rfl) ?_ ?_
  ·
   exact az
  refine fin_then ?_
  refine tri_seq ?_
  refine tri_regD hcx [] [4] [] [] [(s.length ≤ maxLen)] [(4, .bool (decide ((Cn.idxF (fun x : Tree => (x.kind == 1) && (x.v != 1)) s) ≥ 0)))] [] (by kernel_rfl) ?_ ?_
  ·
   refine (ap ?_ az)
   first | exact hp | (intro h; exact h) | omega
  refine fin_then ?_
  refine tri_ret ?_
  exact fin_ret [] rfl rfl trivial hcx (avs := [.bool (decide ((Cn.idxF (fun x : Tree => (x.kind == 1) && (x.v != 1)) s) ≥ 0))]) (by kernel_rfl) (congrArg AV.bool (show (decide ((Cn.idxF (fun x : Tree => (x.kind == 1) && (x.v != 1)) s) ≥ 0)) = (s.any (fun x : Tree => (x.kind == 1) && (x.v != 1))) from (by exact Cn.idxF_any (p := (fun x : Tree => (x.kind == 1) && (x.v != 1))) s))) [] rfl
 ·
  cases hσ
def cx_fJoin4 : Cx := ⟨tyFlat2, [(37, sSortI), (38, sCompact), (34, (coeF [.agg [.id, .id, .id, .ld (.trees [])]] fParts_σ)), (35, fFormed_σ), (24, (coeF [.agg [.id, .id, .id, .ld (.trees [])]] fSize_σ)), (17, (coeF [.agg [.id, .id, .id, .ld (.trees [])], .id] fChk_σ)), (23, (coeF [.agg [.id, .id, .id, .ld (.trees [])]] fVars_σ)), (41, fConst_σ), (44, fKnown_σ), (30, fKpOpen_σ), (54, (coeF [.agg [.id, .id, .id, .ld (.trees [])], .id] fJ14_σ)), (40, (coeF [.ld (.trees []), .id] fIxJ4_σ)), (29, (coeF [.ld (.trees []), .id] fCtJ4_σ))]⟩
theorem cx_fJoin4_ok : CxOk Tryd.prog cx_fJoin4 := cx_ok tyFlat2_ok ⟨sSortI_sound, sCompact_sound, (fParts_sound.coe [.agg [.id, .id, .id, .ld (.trees [])]] rfl), fFormed_sound, (fSize_sound.coe [.agg [.id, .id, .id, .ld (.trees [])]] rfl), (fChk_sound.coe [.agg [.id, .id, .id, .ld (.trees [])], .id] rfl), (fVars_sound.coe [.agg [.id, .id, .id, .ld (.trees [])]] rfl), fConst_sound, fKnown_sound, fKpOpen_sound, (fJ14_sound.coe [.agg [.id, .id, .id, .ld (.trees [])], .id] rfl), (fIxJ4_sound.coe [.ld (.trees []), .id] rfl), (fCtJ4_sound.coe [.ld (.trees []), .id] rfl), trivial⟩
def fJoin4_σ : CtF
  | [.im (.val (.int .i64 4)), .im (.ls (.trees l))], [] => some (l.length ≤ 2932031007317 ∧ Fl.sizeL l ≤ 1000000, .agg [.int ((Fl.joinT 4 1 l).kind), .int ((Fl.joinT 4 1 l).v), .int ((Fl.joinT 4 1 l).k), .trees ((Fl.joinT 4 1 l).l)], [])
  | _, _ => none
theorem fJoin4_sound : Sound Tryd.prog 42 fJoin4_σ := by
 refine sound_mk (cx := cx_fJoin4) (fn := Tryd.f42) Tryd.func42 (by kernel_rfl) rfl ?_
 intro w0 G0 args os p r outs hσ hp hm0 hd0
 have hcx : CxOk Tryd.prog cx_fJoin4 := cx_fJoin4_ok
 unfold fJoin4_σ at hσ
 split at hσ
 ·
  rename_i l
  simp only [Option.some.injEq, Prod.mk.injEq] at hσ
  obtain ⟨rfl, rfl, rfl⟩ := hσ
  obtain ⟨wW, wO, wm, wβ, wd⟩ := w0
  replace hm0 : wm = 0 := hm0
  subst hm0
  replace hd0 : wd = [] := hd0
  subst hd0
  refine ⟨by kernel_rfl, ?_⟩
  change Tri ⟨_, _, _, _, _, _⟩ [(0, .int 4), (1, .trees l)] [] _ _
  obtain ⟨hm1, hm2⟩ := hp
  have hm9 := hm1
  refine tri_seq ?_
  refine tri_regD hcx [(1001, .to 604), (1000, .frz)] [2, 4] [1] [] [] [(2, .pto [.int 4]), (4, .loc 604 0)] [(604, .box [.int 0, .int 0, .int 0, .im (.val (.slice none 0 0))])] (by kernel_rfl) ?_ ?_
  ·
   exact az
  refine fin_then ?_
  refine tri_seq ?_
  refine tri_seq ?_
  refine tri_regD hcx [] [10] [2, 4, 1] [604] [(l.length ≤ maxLen)] [(10, .bool (l.any (fun x : Tree => (x.kind == 1) && (x.v != 1))))] [] (by kernel_rfl) ?_ ?_
  ·
   refine (ap ?_ az)
   first | omega | exact id | exact vcNot | exact vcG | exact vcH | (intro _; omega) | exact (fun _ h => h) | (intro h; simp at h; omega) | (simp only [List.length_cons, List.length_nil, List.length_append, List.length_map, List.length_set, List.length_replicate]; omega) | (intro h; simp [h]; done) | exact True.intro | (constructor <;> decide) | (constructor <;> omega) | (simp only [List.length_cons, List.length_nil]; omega) | (have h8 := hsub (by omega); constructor <;> omega) | (have h8 := hsub (by omega); omega) | (unfold maxLen; omega) | done
  refine fin_then ?_
  refine tri_cond (b := (l.any (fun x : Tree => (x.kind == 1) && (x.v != 1)))) (by kernel_rfl) (fun hb0 => ?_) (fun hb0 => ?_)
  ·
   skip
   have h0 := hb0
   have hb := h0
   refine tri_seq ?_
   refine tri_regD hcx [(604, .to 604)] [] [4] [] [((0 : Int) ≤ 4 ∧ 4 < (6 : Int)), Fit (1 - 1), (True)] [] [(604, .box [.int 1, .int (1 - 1), .int 0, .trees []])] (by kernel_rfl) ?_ ?_
   ·
    refine (ap ?_ (ap ?_ (ap ?_ az)))
    all_goals
     first | omega | exact id | exact vcNot | exact vcG | exact vcH | (intro _; omega) | exact (fun _ h => h) | (intro h; simp at h; omega) | (simp only [List.length_cons, List.length_nil, List.length_append, List.length_map, List.length_set, List.length_replicate]; omega) | (intro h; simp [h]; done) | exact True.intro | (constructor <;> decide) | (constructor <;> omega) | (simp only [List.length_cons, List.length_nil]; omega) | (have h8 := hsub (by omega); constructor <;> omega) | (have h8 := hsub (by omega); omega) | (unfold maxLen; omega) | done
   refine fin_then ?_
   refine tri_ret ?_
   refine fin_then_ret ?_
   exact fin_ret [] rfl rfl trivial hcx (avs := [.agg [.int 1, .int (1 - 1), .int 0, .trees []]]) (by kernel_rfl) (congrArg AV.agg (consE (congrArg AV.int (show 1 = (Fl.joinT 4 1 l).kind from (by first | (rw [Fl.jn_bad (by decide) hb]; rfl) | (rw [Fl.jn_0 (i := i) (by decide) hb (by omega) (by omega)]; rfl) | (rw [Fl.jn_1 (i := i) (by decide) hb (by omega) (by omega)]; done) | (rw [Fl.jn_2 (i := i) (by decide) hb (by omega) (by omega) (by omega)]; rfl) | done))) (consE (congrArg AV.int (show (1 - 1) = (Fl.joinT 4 1 l).v from (by first | (rw [Fl.jn_bad (by decide) hb]; rfl) | (rw [Fl.jn_0 (i := i) (by decide) hb (by omega) (by omega)]; rfl) | (rw [Fl.jn_1 (i := i) (by decide) hb (by omega) (by omega)]; done) | (rw [Fl.jn_2 (i := i) (by decide) hb (by omega) (by omega) (by omega)]; rfl) | done))) (consE (congrArg AV.int (show 0 = (Fl.joinT 4 1 l).k from (by first | (rw [Fl.jn_bad (by decide) hb]; rfl) | (rw [Fl.jn_0 (i := i) (by decide) hb (by omega) (by omega)]; rfl) | (rw [Fl.jn_1 (i := i) (by decide) hb (by omega) (by omega)]; done) | (rw [Fl.jn_2 (i := i) (by decide) hb (by omega) (by omega) (by omega)]; rfl) | done))) (consE (congrArg AV.trees (show [] = (Fl.joinT 4 1 l).l from (by first | (rw [Fl.jn_bad (by decide) hb]; rfl) | (rw [Fl.jn_0 (i := i) (by decide) hb (by omega) (by omega)]; rfl) | (rw [Fl.jn_1 (i := i) (by decide) hb (by omega) (by omega)]; done) | (rw [Fl.jn_2 (i := i) (by decide) hb (by omega) (by omega) (by omega)]; rfl) | done))) rfl))))) [] rfl
  ·
   skip
   have h0 := hb0
   have hb := h0
   refine tri_skip ?_
   refine fin_then ?_
   refine tri_seq ?_
   refine tri_regD hcx [] [5] [2, 4, 1] [604] [] [(5, .im (.val (.slice none 0 0)))] [] (by kernel_rfl) ?_ ?_
   ·
    exact az
   refine fin_then ?_
   refine tri_seq ?_
   refine tri_seq ?_
   refine tri_regD hcx [(1001, .frz)] [17, 18, 19] [5, 2, 4] [604] [(l.length ≤ 2932031007317)] [(17, .trees (Fl.restL l)), (18, .int ((Fl.restL l).length : Int)), (19, .int 0)] [] (by kernel_rfl) ?_ ?_
   ·
    refine (ap ?_ az)
    first | omega | exact id | exact vcNot | exact vcG | exact vcH | (intro _; omega) | exact (fun _ h => h) | (intro h; simp at h; omega) | (simp only [List.length_cons, List.length_nil, List.length_append, List.length_map, List.length_set, List.length_replicate]; omega) | (intro h; simp [h]; done) | exact True.intro | (constructor <;> decide) | (constructor <;> omega) | (simp only [List.length_cons, List.length_nil]; omega) | (have h8 := hsub (by omega); constructor <;> omega) | (have h8 := hsub (by omega); omega) | (unfold maxLen; omega) | done
   refine fin_then ?_
   refine tri_block ?_
   refine tri_row 5 700 24 (.trees []) (by kernel_rfl) (by kernel_rfl) (by kernel_rfl) (by kernel_rfl) (E' := [(17, .trees (Fl.restL l)), (18, .int ((Fl.restL l).length : Int)), (19, .int 0), (5, .row 700), (2, .pto [.int 4]), (4, .loc 604 0)]) (by kernel_rfl) ?_
   refine tri_ren (ρ := [(604, .to 604), (700, .to 700)]) (keys := [2, 4, 5, 17, 18, 19]) (E' := [(2, .pto [.int 4]), (4, .loc 604 0), (5, .row 700), (17, .trees (Fl.restL l)), (18, .int ((Fl.restL l).length : Int)), (19, .int 0)]) (H' := [(604, .box [.int 0, .int 0, .int 0, .im (.val (.slice none 0 0))]), (700, .row 24 (.trees []))]) (by kernel_rfl) ?_
   refine tri_loop (X := Nat) (fun x0 => x0 ≤ (Fl.restL l).length) (fun x0 => [(2, .pto [.int 4]), (4, .loc 604 0), (5, .row 700), (17, .trees (Fl.restL l)), (18, .int ((Fl.restL l).length : Int)), (19, .int (x0 : Int))]) (fun x0 => [(604, .box [.int 0, .int 0, .int 0, .im (.val (.slice none 0 0))]), (700, .row 24 (.trees (Fl.outJ 4 ((Fl.restL l).take x0))))]) (fun x0 => (Fl.restL l).length - x0) (0) ?_ ?_ ?_ ?_
   ·
    show 0 ≤ (Fl.restL l).length
    omega
   ·
    exact subE_mk (l := [.pto [.int 4], .loc 604 0, .row 700, .trees (Fl.restL l), .int ((Fl.restL l).length : Int), .int 0]) (m := [.pto [.int 4], .loc 604 0, .row 700, .trees (Fl.restL l), .int ((Fl.restL l).length : Int), .int (0 : Int)]) (by kernel_rfl) (by kernel_rfl) (consE rfl (consE rfl (consE rfl (consE rfl (consE rfl (consE (congrArg AV.int (show 0 = (0 : Int) from (by first | rfl | omega | (simp; done)))) rfl))))))
   ·
    exact Eq.trans (show _ = [(604, .box [.int 0, .int 0, .int 0, .im (.val (.slice none 0 0))]), (700, .row 24 (.trees []))] from by kernel_rfl) (consH rfl (consH (congrArg (fun x => ((700 : Nat), x)) (congrArg (fun x => AObj.row 24 (.trees x)) (show [] = (Fl.outJ 4 ((Fl.restL l).take 0)) from (by rfl)))) rfl))
   ·
    intro i hI
    replace hI : i ≤ (Fl.restL l).length := hI
    change Tri _ [(2, .pto [.int 4]), (4, .loc 604 0), (5, .row 700), (17, .trees (Fl.restL l)), (18, .int ((Fl.restL l).length : Int)), (19, .int (i : Int))] [(604, .box [.int 0, .int 0, .int 0, .im (.val (.slice none 0 0))]), (700, .row 24 (.trees (Fl.outJ 4 ((Fl.restL l).take i))))] _ _
    have hrs := Fl.size_rest l
    have hrl := Fl.len_size (Fl.restL l)
    have hol : (Fl.outJ 4 ((Fl.restL l).take i)).length ≤ Fl.sizeL (Fl.restL l) := Fl.out_len_take i
    have hsub : i < (Fl.restL l).length → Fl.sizeL ((Fl.restL l).getD i tree0).l < Fl.sizeL (Fl.restL l) := fun h => Fl.size_sub h
    have hll := Fl.len_size ((Fl.restL l).getD i tree0).l
    refine tri_seq ?_
    refine tri_regD hcx [] [20] [2, 4, 5, 17, 18, 19] [604, 700] [] [(20, .bool (decide ((i : Int) < ((Fl.restL l).length : Int))))] [] (by kernel_rfl) ?_ ?_
    ·
     exact az
    refine fin_then ?_
    refine tri_seq ?_
    refine tri_cond (b := (decide ((i : Int) < ((Fl.restL l).length : Int)))) (by kernel_rfl) (fun hb1 => ?_) (fun hb1 => ?_)
    ·
     skip
     have h1 := of_decide_eq_true hb1
     refine tri_skip ?_
     refine fin_then ?_
     refine tri_seq ?_
     refine tri_block ?_
     refine tri_seq ?_
     refine tri_regD hcx [(1002, .to 607)] [7] [2, 4, 5, 17, 18, 19] [604, 700] [((0 : Int) ≤ (i : Int) ∧ (i : Int) < ((Fl.restL l).length : Int))] [(7, .loc 607 0)] [(607, .box [.int (((Fl.restL l).getD i tree0).kind), .int (((Fl.restL l).getD i tree0).v), .int (((Fl.restL l).getD i tree0).k), .trees (((Fl.restL l).getD i tree0).l)])] (by kernel_rfl) ?_ ?_
     ·
      refine (ap ?_ az)
      first | omega | exact id | exact vcNot | exact vcG | exact vcH | (intro _; omega) | exact (fun _ h => h) | (intro h; simp at h; omega) | (simp only [List.length_cons, List.length_nil, List.length_append, List.length_map, List.length_set, List.length_replicate]; omega) | (intro h; simp [h]; done) | exact True.intro | (constructor <;> decide) | (constructor <;> omega) | (simp only [List.length_cons, List.length_nil]; omega) | (have h8 := hsub (by omega); constructor <;> omega) | (have h8 := hsub (by omega); omega) | (unfold maxLen; omega) | done
     refine fin_then ?_
     refine tri_seq ?_
     refine tri_regD hcx [] [26] [7, 2, 4, 5, 17, 18, 19] [607, 604, 700] [] [(26, .bool ((((Fl.restL l).getD i tree0).kind) == 4))] [] (by kernel_rfl) ?_ ?_
     ·
      exact az
     refine fin_then ?_
     refine tri_cond (b := ((((Fl.restL l).getD i tree0).kind) == 4)) (by kernel_rfl) (fun hb2 => ?_) (fun hb2 => ?_)
     ·
      skip
      have h2 := eq_of_beq hb2
      refine tri_regD hcx [(1003, .to 700)] [5] [2, 4, 17, 18, 19] [604] [(((Fl.outJ 4 ((Fl.restL l).take i)).length + (((Fl.restL l).getD i tree0).l).length) * 48 ≤ 140737488355328)] [(5, .row 700)] [(700, .row 24 (.trees ((Fl.outJ 4 ((Fl.restL l).take i)) ++ (((Fl.restL l).getD i tree0).l))))] (by kernel_rfl) ?_ ?_
      ·
       refine (ap ?_ az)
       first | omega | exact id | exact vcNot | exact vcG | exact vcH | (intro _; omega) | exact (fun _ h => h) | (intro h; simp at h; omega) | (simp only [List.length_cons, List.length_nil, List.length_append, List.length_map, List.length_set, List.length_replicate]; omega) | (intro h; simp [h]; done) | exact True.intro | (constructor <;> decide) | (constructor <;> omega) | (simp only [List.length_cons, List.length_nil]; omega) | (have h8 := hsub (by omega); constructor <;> omega) | (have h8 := hsub (by omega); omega) | (unfold maxLen; omega) | done
      refine fin_block ?_
      refine fin_then ?_
      refine tri_regD hcx [] [19] [5, 2, 4, 17, 18] [700, 604] [Fit ((i : Int) + 1)] [(19, .int ((i : Int) + 1))] [] (by kernel_rfl) ?_ ?_
      ·
       refine (ap ?_ az)
       first | omega | exact id | exact vcNot | exact vcG | exact vcH | (intro _; omega) | exact (fun _ h => h) | (intro h; simp at h; omega) | (simp only [List.length_cons, List.length_nil, List.length_append, List.length_map, List.length_set, List.length_replicate]; omega) | (intro h; simp [h]; done) | exact True.intro | (constructor <;> decide) | (constructor <;> omega) | (simp only [List.length_cons, List.length_nil]; omega) | (have h8 := hsub (by omega); constructor <;> omega) | (have h8 := hsub (by omega); omega) | (unfold maxLen; omega) | done
      refine fin_ren (ρ := [(604, .to 604), (700, .to 700)]) (keys := [2, 4, 5, 17, 18, 19]) (E' := [(2, .pto [.int 4]), (4, .loc 604 0), (5, .row 700), (17, .trees (Fl.restL l)), (18, .int ((Fl.restL l).length : Int)), (19, .int ((i : Int) + 1))]) (H' := [(604, .box [.int 0, .int 0, .int 0, .im (.val (.slice none 0 0))]), (700, .row 24 (.trees ((Fl.outJ 4 ((Fl.restL l).take i)) ++ (((Fl.restL l).getD i tree0).l))))]) (by kernel_rfl) ?_
      refine fin_round (i + 1) ?_ ?_ ?_ ?_
      ·
       show (i + 1) ≤ (Fl.restL l).length
       omega
      ·
       show (Fl.restL l).length - (i + 1) < (Fl.restL l).length - i
       omega
      ·
       exact subE_mk (l := [.pto [.int 4], .loc 604 0, .row 700, .trees (Fl.restL l), .int ((Fl.restL l).length : Int), .int ((i : Int) + 1)]) (m := [.pto [.int 4], .loc 604 0, .row 700, .trees (Fl.restL l), .int ((Fl.restL l).length : Int), .int ((i + 1) : Int)]) (by kernel_rfl) (by kernel_rfl) (consE rfl (consE rfl (consE rfl (consE rfl (consE rfl (consE (congrArg AV.int (show ((i : Int) + 1) = ((i + 1) : Int) from (by first | rfl | omega | (simp; done)))) rfl))))))
      ·
       exact Eq.trans (show _ = [(604, .box [.int 0, .int 0, .int 0, .im (.val (.slice none 0 0))]), (700, .row 24 (.trees ((Fl.outJ 4 ((Fl.restL l).take i)) ++ (((Fl.restL l).getD i tree0).l))))] from by kernel_rfl) (consH rfl (consH (congrArg (fun x => ((700 : Nat), x)) (congrArg (fun x => AObj.row 24 (.trees x)) (show ((Fl.outJ 4 ((Fl.restL l).take i)) ++ (((Fl.restL l).getD i tree0).l)) = (Fl.outJ 4 ((Fl.restL l).take (i + 1))) from (by first | exact Fl.out_same (by omega) (by omega) | (rw [Fl.node_eta]; exact Fl.outR_open (by omega) (by omega)))))) rfl))
     ·
      skip
      have h2 := neB hb2
      refine tri_regD hcx [(1003, .to 700)] [5] [2, 4, 17, 18, 19] [604] [(((Fl.outJ 4 ((Fl.restL l).take i)).length + [(Tree.node (((Fl.restL l).getD i tree0).kind) (((Fl.restL l).getD i tree0).v) (((Fl.restL l).getD i tree0).k) (((Fl.restL l).getD i tree0).l))].length) * 48 ≤ 140737488355328)] [(5, .row 700)] [(700, .row 24 (.trees ((Fl.outJ 4 ((Fl.restL l).take i)) ++ [(Tree.node (((Fl.restL l).getD i tree0).kind) (((Fl.restL l).getD i tree0).v) (((Fl.restL l).getD i tree0).k) (((Fl.restL l).getD i tree0).l))])))] (by kernel_rfl) ?_ ?_
      ·
       refine (ap ?_ az)
       first | omega | exact id | exact vcNot | exact vcG | exact vcH | (intro _; omega) | exact (fun _ h => h) | (intro h; simp at h; omega) | (simp only [List.length_cons, List.length_nil, List.length_append, List.length_map, List.length_set, List.length_replicate]; omega) | (intro h; simp [h]; done) | exact True.intro | (constructor <;> decide) | (constructor <;> omega) | (simp only [List.length_cons, List.length_nil]; omega) | (have h8 := hsub (by omega); constructor <;> omega) | (have h8 := hsub (by omega); omega) | (unfold maxLen; omega) | done
      refine fin_block ?_
      refine fin_then ?_
      refine tri_regD hcx [] [19] [5, 2, 4, 17, 18] [700, 604] [Fit ((i : Int) + 1)] [(19, .int ((i : Int) + 1))] [] (by kernel_rfl) ?_ ?_
      ·
       refine (ap ?_ az)
       first | omega | exact id | exact vcNot | exact vcG | exact vcH | (intro _; omega) | exact (fun _ h => h) | (intro h; simp at h; omega) | (simp only [List.length_cons, List.length_nil, List.length_append, List.length_map, List.length_set, List.length_replicate]; omega) | (intro h; simp [h]; done) | exact True.intro | (constructor <;> decide) | (constructor <;> omega) | (simp only [List.length_cons, List.length_nil]; omega) | (have h8 := hsub (by omega); constructor <;> omega) | (have h8 := hsub (by omega); omega) | (unfold maxLen; omega) | done
      refine fin_ren (ρ := [(604, .to 604), (700, .to 700)]) (keys := [2, 4, 5, 17, 18, 19]) (E' := [(2, .pto [.int 4]), (4, .loc 604 0), (5, .row 700), (17, .trees (Fl.restL l)), (18, .int ((Fl.restL l).length : Int)), (19, .int ((i : Int) + 1))]) (H' := [(604, .box [.int 0, .int 0, .int 0, .im (.val (.slice none 0 0))]), (700, .row 24 (.trees ((Fl.outJ 4 ((Fl.restL l).take i)) ++ [(Tree.node (((Fl.restL l).getD i tree0).kind) (((Fl.restL l).getD i tree0).v) (((Fl.restL l).getD i tree0).k) (((Fl.restL l).getD i tree0).l))])))]) (by kernel_rfl) ?_
      refine fin_round (i + 1) ?_ ?_ ?_ ?_
      ·
       show (i + 1) ≤ (Fl.restL l).length
       omega
      ·
       show (Fl.restL l).length - (i + 1) < (Fl.restL l).length - i
       omega
      ·
       exact subE_mk (l := [.pto [.int 4], .loc 604 0, .row 700, .trees (Fl.restL l), .int ((Fl.restL l).length : Int), .int ((i : Int) + 1)]) (m := [.pto [.int 4], .loc 604 0, .row 700, .trees (Fl.restL l), .int ((Fl.restL l).length : Int), .int ((i + 1) : Int)]) (by kernel_rfl) (by kernel_rfl) (consE rfl (consE rfl (consE rfl (consE rfl (consE rfl (consE (congrArg AV.int (show ((i : Int) + 1) = ((i + 1) : Int) from (by first | rfl | omega | (simp; done)))) rfl))))))
      ·
       exact Eq.trans (show _ = [(604, .box [.int 0, .int 0, .int 0, .im (.val (.slice none 0 0))]), (700, .row 24 (.trees ((Fl.outJ 4 ((Fl.restL l).take i)) ++ [(Tree.node (((Fl.restL l).getD i tree0).kind) (((Fl.restL l).getD i tree0).v) (((Fl.restL l).getD i tree0).k) (((Fl.restL l).getD i tree0).l))])))] from by kernel_rfl) (consH rfl (consH (congrArg (fun x => ((700 : Nat), x)) (congrArg (fun x => AObj.row 24 (.trees x)) (show ((Fl.outJ 4 ((Fl.restL l).take i)) ++ [(Tree.node (((Fl.restL l).getD i tree0).kind) (((Fl.restL l).getD i tree0).v) (((Fl.restL l).getD i tree0).k) (((Fl.restL l).getD i tree0).l))]) = (Fl.outJ 4 ((Fl.restL l).take (i + 1))) from (by first | exact Fl.out_same (by omega) (by omega) | (rw [Fl.node_eta]; exact Fl.outR_open (by omega) (by omega)))))) rfl))
    ·
     skip
     have h1 := of_decide_eq_false hb1
     refine tri_exit ?_
     refine fin_then_exit ?_
     refine fin_then_exit ?_
     refine fin_block_same ?_
     refine fin_then ?_
     refine tri_seq ?_
     refine tri_seq ?_
     refine tri_ren (ρ := [(604, .to 604), (700, .frz)]) (keys := [20, 2, 4, 5, 17, 18, 19]) (E' := [(20, .bool (decide ((i : Int) < ((Fl.restL l).length : Int)))), (2, .pto [.int 4]), (4, .loc 604 0), (5, .trees (Fl.outJ 4 ((Fl.restL l).take i))), (17, .trees (Fl.restL l)), (18, .int ((Fl.restL l).length : Int)), (19, .int (i : Int))]) (H' := [(604, .box [.int 0, .int 0, .int 0, .im (.val (.slice none 0 0))])]) (by kernel_rfl) ?_
     refine tri_regD hcx [] [37] [2, 4, 5] [604] [] [(37, .int ((Fl.outJ 4 ((Fl.restL l).take i)).length : Int))] [] (by kernel_rfl) ?_ ?_
     ·
      exact az
     refine fin_then ?_
     refine tri_block ?_
     refine tri_seq ?_
     refine tri_regD hcx [] [38] [37, 2, 4, 5] [604] [] [(38, .bool (((Fl.outJ 4 ((Fl.restL l).take i)).length : Int) == 0))] [] (by kernel_rfl) ?_ ?_
     ·
      exact az
     refine fin_then ?_
     refine tri_cond (b := (((Fl.outJ 4 ((Fl.restL l).take i)).length : Int) == 0)) (by kernel_rfl) (fun hb3 => ?_) (fun hb3 => ?_)
     ·
      skip
      have h3 := eq_of_beq hb3
      refine tri_seq ?_
      refine tri_regD hcx [(604, .to 604)] [] [4] [] [((0 : Int) ≤ 4 ∧ 4 < (6 : Int)), (True)] [] [(604, .box [.int 1, .int (1 : Int), .int 0, .trees []])] (by kernel_rfl) ?_ ?_
      ·
       refine (ap ?_ (ap ?_ az))
       all_goals
        first | omega | exact id | exact vcNot | exact vcG | exact vcH | (intro _; omega) | exact (fun _ h => h) | (intro h; simp at h; omega) | (simp only [List.length_cons, List.length_nil, List.length_append, List.length_map, List.length_set, List.length_replicate]; omega) | (intro h; simp [h]; done) | exact True.intro | (constructor <;> decide) | (constructor <;> omega) | (simp only [List.length_cons, List.length_nil]; omega) | (have h8 := hsub (by omega); constructor <;> omega) | (have h8 := hsub (by omega); omega) | (unfold maxLen; omega) | done
      refine fin_then ?_
      refine tri_ret ?_
      refine fin_block_ret ?_
      refine fin_then_ret ?_
      exact fin_ret [] rfl rfl trivial hcx (avs := [.agg [.int 1, .int (1 : Int), .int 0, .trees []]]) (by kernel_rfl) (congrArg AV.agg (consE (congrArg AV.int (show 1 = (Fl.joinT 4 1 l).kind from (by first | (rw [Fl.jn_bad (by decide) hb]; rfl) | (rw [Fl.jn_0 (i := i) (by decide) hb (by omega) (by omega)]; rfl) | (rw [Fl.jn_1 (i := i) (by decide) hb (by omega) (by omega)]; done) | (rw [Fl.jn_2 (i := i) (by decide) hb (by omega) (by omega) (by omega)]; rfl) | done))) (consE (congrArg AV.int (show (1 : Int) = (Fl.joinT 4 1 l).v from (by first | (rw [Fl.jn_bad (by decide) hb]; rfl) | (rw [Fl.jn_0 (i := i) (by decide) hb (by omega) (by omega)]; rfl) | (rw [Fl.jn_1 (i := i) (by decide) hb (by omega) (by omega)]; done) | (rw [Fl.jn_2 (i := i) (by decide) hb (by omega) (by omega) (by omega)]; rfl) | done))) (consE (congrArg AV.int (show 0 = (Fl.joinT 4 1 l).k from (by first | (rw [Fl.jn_bad (by decide) hb]; rfl) | (rw [Fl.jn_0 (i := i) (by decide) hb (by omega) (by omega)]; rfl) | (rw [Fl.jn_1 (i := i) (by decide) hb (by omega) (by omega)]; done) | (rw [Fl.jn_2 (i := i) (by decide) hb (by omega) (by omega) (by omega)]; rfl) | done))) (consE (congrArg AV.trees (show [] = (Fl.joinT 4 1 l).l from (by first | (rw [Fl.jn_bad (by decide) hb]; rfl) | (rw [Fl.jn_0 (i := i) (by decide) hb (by omega) (by omega)]; rfl) | (rw [Fl.jn_1 (i := i) (by decide) hb (by omega) (by omega)]; done) | (rw [Fl.jn_2 (i := i) (by decide) hb (by omega) (by omega) (by omega)]; rfl) | done))) rfl))))) [] rfl
     ·
      skip
      have h3 := neB hb3
      refine tri_seq ?_
      refine tri_regD hcx [] [44] [2, 4, 5] [604] [] [(44, .bool (((Fl.outJ 4 ((Fl.restL l).take i)).length : Int) == 1))] [] (by kernel_rfl) ?_ ?_
      ·
       exact az
      refine fin_then ?_
      refine tri_cond (b := (((Fl.outJ 4 ((Fl.restL l).take i)).length : Int) == 1)) (by kernel_rfl) (fun hb4 => ?_) (fun hb4 => ?_)
      ·
       skip
       have h4 := eq_of_beq hb4
       refine tri_seq ?_
       refine tri_regD hcx [(604, .to 604)] [] [4] [] [((0 : Int) ≤ 0 ∧ 0 < ((Fl.outJ 4 ((Fl.restL l).take i)).length : Int))] [] [(604, .box [.int (((Fl.outJ 4 ((Fl.restL l).take i)).getD 0 tree0).kind), .int (((Fl.outJ 4 ((Fl.restL l).take i)).getD 0 tree0).v), .int (((Fl.outJ 4 ((Fl.restL l).take i)).getD 0 tree0).k), .trees (((Fl.outJ 4 ((Fl.restL l).take i)).getD 0 tree0).l)])] (by kernel_rfl) ?_ ?_
       ·
        refine (ap ?_ az)
        first | omega | exact id | exact vcNot | exact vcG | exact vcH | (intro _; omega) | exact (fun _ h => h) | (intro h; simp at h; omega) | (simp only [List.length_cons, List.length_nil, List.length_append, List.length_map, List.length_set, List.length_replicate]; omega) | (intro h; simp [h]; done) | exact True.intro | (constructor <;> decide) | (constructor <;> omega) | (simp only [List.length_cons, List.length_nil]; omega) | (have h8 := hsub (by omega); constructor <;> omega) | (have h8 := hsub (by omega); omega) | (unfold maxLen; omega) | done
       refine fin_then ?_
       refine tri_ret ?_
       refine fin_block_ret ?_
       refine fin_then_ret ?_
       exact fin_ret [] rfl rfl trivial hcx (avs := [.agg [.int (((Fl.outJ 4 ((Fl.restL l).take i)).getD 0 tree0).kind), .int (((Fl.outJ 4 ((Fl.restL l).take i)).getD 0 tree0).v), .int (((Fl.outJ 4 ((Fl.restL l).take i)).getD 0 tree0).k), .trees (((Fl.outJ 4 ((Fl.restL l).take i)).getD 0 tree0).l)]]) (by kernel_rfl) (congrArg AV.agg (consE (congrArg AV.int (show ((Fl.outJ 4 ((Fl.restL l).take i)).getD 0 tree0).kind = (Fl.joinT 4 1 l).kind from (by first | (rw [Fl.jn_bad (by decide) hb]; rfl) | (rw [Fl.jn_0 (i := i) (by decide) hb (by omega) (by omega)]; rfl) | (rw [Fl.jn_1 (i := i) (by decide) hb (by omega) (by omega)]; done) | (rw [Fl.jn_2 (i := i) (by decide) hb (by omega) (by omega) (by omega)]; rfl) | done))) (consE (congrArg AV.int (show ((Fl.outJ 4 ((Fl.restL l).take i)).getD 0 tree0).v = (Fl.joinT 4 1 l).v from (by first | (rw [Fl.jn_bad (by decide) hb]; rfl) | (rw [Fl.jn_0 (i := i) (by decide) hb (by omega) (by omega)]; rfl) | (rw [Fl.jn_1 (i := i) (by decide) hb (by omega) (by omega)]; done) | (rw [Fl.jn_2 (i := i) (by decide) hb (by omega) (by omega) (by omega)]; rfl) | done))) (consE (congrArg AV.int (show ((Fl.outJ 4 ((Fl.restL l).take i)).getD 0 tree0).k = (Fl.joinT 4 1 l).k from (by first | (rw [Fl.jn_bad (by decide) hb]; rfl) | (rw [Fl.jn_0 (i := i) (by decide) hb (by omega) (by omega)]; rfl) | (rw [Fl.jn_1 (i := i) (by decide) hb (by omega) (by omega)]; done) | (rw [Fl.jn_2 (i := i) (by decide) hb (by omega) (by omega) (by omega)]; rfl) | done))) (consE (congrArg AV.trees (show ((Fl.outJ 4 ((Fl.restL l).take i)).getD 0 tree0).l = (Fl.joinT 4 1 l).l from (by first | (rw [Fl.jn_bad (by decide) hb]; rfl) | (rw [Fl.jn_0 (i := i) (by decide) hb (by omega) (by omega)]; rfl) | (rw [Fl.jn_1 (i := i) (by decide) hb (by omega) (by omega)]; done) | (rw [Fl.jn_2 (i := i) (by decide) hb (by omega) (by omega) (by omega)]; rfl) | done))) rfl))))) [] rfl
      ·
       skip
       have h4 := neB hb4
       refine tri_skip ?_
       refine fin_block ?_
       refine fin_then ?_
       refine tri_seq ?_
       refine tri_regD hcx [(604, .to 604)] [] [4] [] [] [] [(604, .box [.int 4, .int 0, .int 0, .trees (Fl.outJ 4 ((Fl.restL l).take i))])] (by kernel_rfl) ?_ ?_
       ·
        exact az
       refine fin_then ?_
       refine tri_ret ?_
       exact fin_ret [] rfl rfl trivial hcx (avs := [.agg [.int 4, .int 0, .int 0, .trees (Fl.outJ 4 ((Fl.restL l).take i))]]) (by kernel_rfl) (congrArg AV.agg (consE (congrArg AV.int (show 4 = (Fl.joinT 4 1 l).kind from (by first | (rw [Fl.jn_bad (by decide) hb]; rfl) | (rw [Fl.jn_0 (i := i) (by decide) hb (by omega) (by omega)]; rfl) | (rw [Fl.jn_1 (i := i) (by decide) hb (by omega) (by omega)]; done) | (rw [Fl.jn_2 (i := i) (by decide) hb (by omega) (by omega) (by omega)]; rfl) | done))) (consE (congrArg AV.int (show 0 = (Fl.joinT 4 1 l).v from (by first | (rw [Fl.jn_bad (by decide) hb]; rfl) | (rw [Fl.jn_0 (i := i) (by decide) hb (by omega) (by omega)]; rfl) | (rw [Fl.jn_1 (i := i) (by decide) hb (by omega) (by omega)]; done) | (rw [Fl.jn_2 (i := i) (by decide) hb (by omega) (by omega) (by omega)]; rfl) | done))) (consE (congrArg AV.int (show 0 = (Fl.joinT 4 1 l).k from (by first | (rw [Fl.jn_bad (by decide) hb]; rfl) | (rw [Fl.jn_0 (i := i) (by decide) hb (by omega) (by omega)]; rfl) | (rw [Fl.jn_1 (i := i) (by decide) hb (by omega) (by omega)]; done) | (rw [Fl.jn_2 (i := i) (by decide) hb (by omega) (by omega) (by omega)]; rfl) | done))) (consE (congrArg AV.trees (show (Fl.outJ 4 ((Fl.restL l).take i)) = (Fl.joinT 4 1 l).l from (by first | (rw [Fl.jn_bad (by decide) hb]; rfl) | (rw [Fl.jn_0 (i := i) (by decide) hb (by omega) (by omega)]; rfl) | (rw [Fl.jn_1 (i := i) (by decide) hb (by omega) (by omega)]; done) | (rw [Fl.jn_2 (i := i) (by decide) hb (by omega) (by omega) (by omega)]; rfl) | done))) rfl))))) [] rfl
 ·
  cases hσ
def cx_fJ15 : Cx := ⟨tyFlat2, [(37, sSortI), (38, sCompact), (34, (coeF [.agg [.id, .id, .id, .ld (.trees [])]] fParts_σ)), (35, fFormed_σ), (24, (coeF [.agg [.id, .id, .id, .ld (.trees [])]] fSize_σ)), (17, (coeF [.agg [.id, .id, .id, .ld (.trees [])], .id] fChk_σ)), (23, (coeF [.agg [.id, .id, .id, .ld (.trees [])]] fVars_σ)), (41, fConst_σ), (44, fKnown_σ), (30, fKpOpen_σ), (54, (coeF [.agg [.id, .id, .id, .ld (.trees [])], .id] fJ14_σ)), (40, (coeF [.ld (.trees []), .id] fIxJ4_σ)), (29, (coeF [.ld (.trees []), .id] fCtJ4_σ)), (42, (coeF [.id, .ld (.trees [])] fJoin4_σ))]⟩
theorem cx_fJ15_ok : CxOk Tryd.prog cx_fJ15 := cx_ok tyFlat2_ok ⟨sSortI_sound, sCompact_sound, (fParts_sound.coe [.agg [.id, .id, .id, .ld (.trees [])]] rfl), fFormed_sound, (fSize_sound.coe [.agg [.id, .id, .id, .ld (.trees [])]] rfl), (fChk_sound.coe [.agg [.id, .id, .id, .ld (.trees [])], .id] rfl), (fVars_sound.coe [.agg [.id, .id, .id, .ld (.trees [])]] rfl), fConst_sound, fKnown_sound, fKpOpen_sound, (fJ14_sound.coe [.agg [.id, .id, .id, .ld (.trees [])], .id] rfl), (fIxJ4_sound.coe [.ld (.trees []), .id] rfl), (fCtJ4_sound.coe [.ld (.trees []), .id] rfl), (fJoin4_sound.coe [.id, .ld (.trees [])] rfl), trivial⟩
def fJ15_σ : CtF
  | [.agg [.im (.val (.int .i64 q)), .im (.val (.int .i64 v)), .im (.val (.int .i64 k)), .im (.ls (.trees l))], .pto [.val (.int .i64 5)]], [] => some (True, .bool ((q == 1) && (v != 0)), [])
  | _, _ => none
theorem fJ15_sound : Sound Tryd.prog 54 fJ15_σ := by
 refine sound_mk (cx := cx_fJ15) (fn := Tryd.f54) Tryd.func54 (by kernel_rfl) rfl ?_
 intro w0 G0 args os p r outs hσ hp hm0 hd0
 have hcx : CxOk Tryd.prog cx_fJ15 := cx_fJ15_ok
 have hmx : Tryd.prog.follows .mixedOrders = true := by kernel_rfl
 unfold fJ15_σ at hσ
 split at hσ
 ·
  rename_i q v k l
  simp only [Option.some.injEq, Prod.mk.injEq] at hσ
  obtain ⟨rfl, rfl, rfl⟩ := hσ
  obtain ⟨wW, wO, wm, wβ, wd⟩ := w0
  replace hm0 : wm = 0 := hm0
  subst hm0
  replace hd0 : wd = [] := hd0
  subst hd0
  refine ⟨by kernel_rfl, ?_⟩
  change Tri ⟨_, _, _, _, _, _⟩ [(0, .agg [.int q, .int v, .int k, .trees l]), (1, .pto [.int 5])] [] _ _
  refine tri_seq ?_
  refine tri_regD hcx [(1000, .frz)] [2] [1] [] [] [(2, .pto [.int q, .int v, .int k, .ls (.trees l)])] [] (by kernel_rfl) ?_ ?_
  ·
   exact az
  refine fin_then ?_
  refine tri_seq ?_
  refine tri_drawD [0, 1, 3, 7, 15, 7, 39, 103, 255, 511, 1023] hcx hmx [] [3] [] [] [(True), ((q == 1) = true → ((q == 1) = true)), ((q == 1) = true → ((q == 1) = true)), ((q == 1) = true → ((0 : Int) ≤ 5 ∧ 5 < (6 : Int))), ((q == 1) = true → ((q == 1) = true)), ((q == 1) = true → ((q == 1) = true)), ((q == 1) = true → ((q == 1) = true)), ((q == 1) = true → (q == 1) = true)] [(3, .bool ((q == 1) && (v != 0)))] [] (by kernel_rfl) ?_ ?_
  ·
   refine (ap ?_ (ap ?_ (ap ?_ (ap ?_ (ap ?_ (ap ?_ (ap ?_ (ap (by exact id) az))))))))
   all_goals
    first | exact True.intro | exact id | exact (fun _ => True.intro) | (intro _; constructor <;> decide) | (constructor <;> decide) | omega
  refine fin_then ?_
  refine tri_ret ?_
  exact fin_ret [] rfl rfl trivial hcx (avs := [.bool ((q == 1) && (v != 0))]) (by kernel_rfl) rfl [] rfl
 ·
  cases hσ
def cx_fIxJ5 : Cx := ⟨tyFlat2, [(37, sSortI), (38, sCompact), (34, (coeF [.agg [.id, .id, .id, .ld (.trees [])]] fParts_σ)), (35, fFormed_σ), (24, (coeF [.agg [.id, .id, .id, .ld (.trees [])]] fSize_σ)), (17, (coeF [.agg [.id, .id, .id, .ld (.trees [])], .id] fChk_σ)), (23, (coeF [.agg [.id, .id, .id, .ld (.trees [])]] fVars_σ)), (41, fConst_σ), (44, fKnown_σ), (30, fKpOpen_σ), (54, (orF (coeF [.agg [.id, .id, .id, .ld (.trees [])], .id] fJ14_σ) (coeF [.agg [.id, .id, .id, .ld (.trees [])], .id] fJ15_σ))), (40, (coeF [.ld (.trees []), .id] fIxJ4_σ)), (29, (coeF [.ld (.trees []), .id] fCtJ4_σ)), (42, (coeF [.id, .ld (.trees [])] fJoin4_σ))]⟩
theorem cx_fIxJ5_ok : CxOk Tryd.prog cx_fIxJ5 := cx_ok tyFlat2_ok ⟨sSortI_sound, sCompact_sound, (fParts_sound.coe [.agg [.id, .id, .id, .ld (.trees [])]] rfl), fFormed_sound, (fSize_sound.coe [.agg [.id, .id, .id, .ld (.trees [])]] rfl), (fChk_sound.coe [.agg [.id, .id, .id, .ld (.trees [])], .id] rfl), (fVars_sound.coe [.agg [.id, .id, .id, .ld (.trees [])]] rfl), fConst_sound, fKnown_sound, fKpOpen_sound, ((fJ14_sound.coe [.agg [.id, .id, .id, .ld (.trees [])], .id] rfl).or (fJ15_sound.coe [.agg [.id, .id, .id, .ld (.trees [])], .id] rfl)), (fIxJ4_sound.coe [.ld (.trees []), .id] rfl), (fCtJ4_sound.coe [.ld (.trees []), .id] rfl), (fJoin4_sound.coe [.id, .ld (.trees [])] rfl), trivial⟩
def fIxJ5_σ : CtF
  | [.im (.ls (.trees s)), .clo 54 [.pto [.val (.int .i64 5)]]], [] => some (s.length ≤ maxLen, .int (Cn.idxF (fun x : Tree => (x.kind == 1) && (x.v != 0)) s), [])
  | _, _ => none
theorem fIxJ5_sound : Sound Tryd.prog 40 fIxJ5_σ := by
 refine sound_mk (cx := cx_fIxJ5) (fn := Tryd.f40) Tryd.func40 (by kernel_rfl) rfl ?_
 intro w0 G0 args os p r outs hσ hp hm0 hd0
 have hcx : CxOk Tryd.prog cx_fIxJ5 := cx_fIxJ5_ok
 unfold fIxJ5_σ at hσ
 split at hσ
 ·
  rename_i s
  simp only [Option.some.injEq, Prod.mk.injEq] at hσ
  obtain ⟨rfl, rfl, rfl⟩ := hσ
  obtain ⟨wW, wO, wm, wβ, wd⟩ := w0
  replace hm0 : wm = 0 := hm0
  subst hm0
  replace hd0 : wd = [] := hd0
  subst hd0
  refine ⟨by kernel_rfl, ?_⟩
  change Tri ⟨_, _, _, _, _, _⟩ [(0, .trees s), (1, .clo 54 [.pto [.int 5]])] [] _ _
  have hm9 := hp
  unfold maxLen at hm9
  refine tri_seq ?_
  refine tri_regD hcx [] [] [0, 1] [] [] [] [] (by kernel_rfl) ?_ ?_
  ·
   exact az
  refine fin_then ?_
  refine tri_seq ?_
  refine tri_seq ?_
  refine tri_regD hcx [] [7, 8] [0, 1] [] [] [(7, .int (s.length : Int)), (8, .int 0)] [] (by kernel_rfl) ?_ ?_
  ·
   exact az
  refine fin_then ?_
  refine tri_block ?_
  refine tri_loop (X := Nat) (fun x0 => x0 ≤ s.length ∧ ∀ j, j < x0 → (fun x : Tree => (x.kind == 1) && (x.v != 0)) (s.getD j tree0) = false) (fun x0 => [(0, .trees s), (1, .clo 54 [.pto [.int 5]]), (7, .int (s.length : Int)), (8, .int (x0 : Int))]) (fun x0 => []) (fun x0 => s.length - x0) (0) ?_ ?_ ?_ ?_
  ·
   show 0 ≤ s.length ∧ ∀ j, j < 0 → (fun x : Tree => (x.kind == 1) && (x.v != 0)) (s.getD j tree0) = false
   exact ⟨Nat.zero_le _, fun j hj => by omega⟩
  ·
   exact subE_mk (l := [.trees s, .clo 54 [.pto [.int 5]], .int (s.length : Int), .int 0]) (m := [.trees s, .clo 54 [.pto [.int 5]], .int (s.length : Int), .int (0 : Int)]) (by kernel_rfl) (by kernel_rfl) (consE rfl (consE rfl (consE rfl (consE (congrArg AV.int (show 0 = (0 : Int) from (by first | rfl | omega | (simp; done)))) rfl))))
  ·
   kernel_rfl
  ·
   intro i hI
   replace hI : i ≤ s.length ∧ ∀ j, j < i → (fun x : Tree => (x.kind == 1) && (x.v != 0)) (s.getD j tree0) = false := hI
   change Tri _ [(0, .trees s), (1, .clo 54 [.pto [.int 5]]), (7, .int (s.length : Int)), (8, .int (i : Int))] [] _ _
   obtain ⟨hk, hok⟩ := hI
   refine tri_seq ?_
   refine tri_regD hcx [] [9] [0, 1, 7, 8] [] [] [(9, .bool (decide ((i : Int) < (s.length : Int))))] [] (by kernel_rfl) ?_ ?_
   ·
    exact az
   refine fin_then ?_
   refine tri_seq ?_
   refine tri_cond (b := (decide ((i : Int) < (s.length : Int)))) (by kernel_rfl) (fun hb0 => ?_) (fun hb0 => ?_)
   ·
    skip
    have h0 := of_decide_eq_true hb0
    refine tri_skip ?_
    refine fin_then ?_
    refine tri_seq ?_
    refine tri_block ?_
    refine tri_seq ?_
    refine tri_regD hcx [] [5] [0, 1, 7, 8] [] [] [(5, .int (i : Int))] [] (by kernel_rfl) ?_ ?_
    ·
     exact az
    refine fin_then ?_
    refine tri_seq ?_
    refine tri_regD hcx [] [16] [5, 0, 1, 7, 8] [] [((0 : Int) ≤ (i : Int) ∧ (i : Int) < (s.length : Int)), (True)] [(16, .bool ((((s.getD i tree0).kind) == 1) && (((s.getD i tree0).v) != 0)))] [] (by kernel_rfl) ?_ ?_
    ·
     refine (ap ?_ (ap ?_ az))
     all_goals
      first | omega | exact id | exact vcNot | exact vcG | exact vcH | (intro _; omega) | exact (fun _ h => h) | (intro h; simp at h; omega) | (simp only [List.length_cons, List.length_nil, List.length_append, List.length_map, List.length_set, List.length_replicate]; omega) | (intro h; simp [h]; done) | exact True.intro | (constructor <;> omega) | done
    refine fin_then ?_
    refine tri_cond (b := ((((s.getD i tree0).kind) == 1) && (((s.getD i tree0).v) != 0))) (by kernel_rfl) (fun hb1 => ?_) (fun hb1 => ?_)
    ·
     skip
     have h1 := hb1
     have hq : (fun x : Tree => (x.kind == 1) && (x.v != 0)) (s.getD i tree0) = true := h1
     refine tri_seq ?_
     refine tri_regD hcx [] [4] [] [] [] [(4, .int (i : Int))] [] (by kernel_rfl) ?_ ?_
     ·
      exact az
     refine fin_then ?_
     refine tri_ret ?_
     refine fin_block_ret ?_
     refine fin_then_ret ?_
     refine fin_then_ret ?_
     refine fin_block_ret ?_
     refine fin_then_ret ?_
     exact fin_ret [] rfl rfl trivial hcx (avs := [.int (i : Int)]) (by kernel_rfl) (congrArg AV.int (show (i : Int) = (Cn.idxF (fun x : Tree => (x.kind == 1) && (x.v != 0)) s) from (by exact (Cn.idxF_yes (p := (fun x : Tree => (x.kind == 1) && (x.v != 0))) (by omega) hok hq).symm))) [] rfl
    ·
     skip
     have h1 := hb1
     have hq : (fun x : Tree => (x.kind == 1) && (x.v != 0)) (s.getD i tree0) = false := h1
     refine tri_skip ?_
     refine fin_block ?_
     refine fin_then ?_
     refine tri_regD hcx [] [8] [0, 1, 7] [] [Fit ((i : Int) + 1)] [(8, .int ((i : Int) + 1))] [] (by kernel_rfl) ?_ ?_
     ·
      refine (ap ?_ az)
      first | omega | exact id | exact vcNot | exact vcG | exact vcH | (intro _; omega) | exact (fun _ h => h) | (intro h; simp at h; omega) | (simp only [List.length_cons, List.length_nil, List.length_append, List.length_map, List.length_set, List.length_replicate]; omega) | (intro h; simp [h]; done) | exact True.intro | (constructor <;> omega) | done
     refine fin_round (i + 1) ?_ ?_ ?_ ?_
     ·
      show (i + 1) ≤ s.length ∧ ∀ j, j < (i + 1) → (fun x : Tree => (x.kind == 1) && (x.v != 0)) (s.getD j tree0) = false
      exact ⟨by omega, fun j hj => by rcases (by omega : j < i ∨ j = i) with h | rfl; exact hok j h; exact hq⟩
     ·
      show s.length - (i + 1) < s.length - i
      omega
     ·
      exact subE_mk (l := [.trees s, .clo 54 [.pto [.int 5]], .int (s.length : Int), .int ((i : Int) + 1)]) (m := [.trees s, .clo 54 [.pto [.int 5]], .int (s.length : Int), .int ((i + 1) : Int)]) (by kernel_rfl) (by kernel_rfl) (consE rfl (consE rfl (consE rfl (consE (congrArg AV.int (show ((i : Int) + 1) = ((i + 1) : Int) from (by first | rfl | omega | (simp; done)))) rfl))))
     ·
      kernel_rfl
   ·
    skip
    have h0 := of_decide_eq_false hb0
    refine tri_exit ?_
    refine fin_then_exit ?_
    refine fin_then_exit ?_
    refine fin_block_same ?_
    refine fin_then ?_
    refine tri_seq ?_
    refine tri_regD hcx [] [4] [] [] [] [(4, .int (-1))] [] (by kernel_rfl) ?_ ?_
    ·
     exact az
    refine fin_then ?_
    refine tri_ret ?_
    exact fin_ret [] rfl rfl trivial hcx (avs := [.int (-1)]) (by kernel_rfl) (congrArg AV.int (show (-1) = (Cn.idxF (fun x : Tree => (x.kind == 1) && (x.v != 0)) s) from (by exact (Cn.idxF_no (p := (fun x : Tree => (x.kind == 1) && (x.v != 0))) (Cn.all_mem (d := tree0) (fun j hj => hok j (by omega)))).symm))) [] rfl
 ·
  cases hσ
def cx_fCtJ5 : Cx := ⟨tyFlat2, [(37, sSortI), (38, sCompact), (34, (coeF [.agg [.id, .id, .id, .ld (.trees [])]] fParts_σ)), (35, fFormed_σ), (24, (coeF [.agg [.id, .id, .id, .ld (.trees [])]] fSize_σ)), (17, (coeF [.agg [.id, .id, .id, .ld (.trees [])], .id] fChk_σ)), (23, (coeF [.agg [.id, .id, .id, .ld (.trees [])]] fVars_σ)), (41, fConst_σ), (44, fKnown_σ), (30, fKpOpen_σ), (54, (orF (coeF [.agg [.id, .id, .id, .ld (.trees [])], .id] fJ14_σ) (coeF [.agg [.id, .id, .id, .ld (.trees [])], .id] fJ15_σ))), (40, (orF (coeF [.ld (.trees []), .id] fIxJ4_σ) (coeF [.ld (.trees []), .id] fIxJ5_σ))), (29, (coeF [.ld (.trees []), .id] fCtJ4_σ)), (42, (coeF [.id, .ld (.trees [])] fJoin4_σ))]⟩
theorem cx_fCtJ5_ok : CxOk Tryd.prog cx_fCtJ5 := cx_ok tyFlat2_ok ⟨sSortI_sound, sCompact_sound, (fParts_sound.coe [.agg [.id, .id, .id, .ld (.trees [])]] rfl), fFormed_sound, (fSize_sound.coe [.agg [.id, .id, .id, .ld (.trees [])]] rfl), (fChk_sound.coe [.agg [.id, .id, .id, .ld (.trees [])], .id] rfl), (fVars_sound.coe [.agg [.id, .id, .id, .ld (.trees [])]] rfl), fConst_sound, fKnown_sound, fKpOpen_sound, ((fJ14_sound.coe [.agg [.id, .id, .id, .ld (.trees [])], .id] rfl).or (fJ15_sound.coe [.agg [.id, .id, .id, .ld (.trees [])], .id] rfl)), ((fIxJ4_sound.coe [.ld (.trees []), .id] rfl).or (fIxJ5_sound.coe [.ld (.trees []), .id] rfl)), (fCtJ4_sound.coe [.ld (.trees []), .id] rfl), (fJoin4_sound.coe [.id, .ld (.trees [])] rfl), trivial⟩
def fCtJ5_σ : CtF
  | [.im (.ls (.trees s)), .clo 54 [.pto [.val (.int .i64 5)]]], [] => some (s.length ≤ maxLen, .bool (s.any (fun x : Tree => (x.kind == 1) && (x.v != 0))), [])
  | _, _ => none
theorem fCtJ5_sound : Sound Tryd.prog 29 fCtJ5_σ := by
 refine sound_mk (cx := cx_fCtJ5) (fn := Tryd.f29) Tryd.func29 (by kernel_rfl) rfl ?_
 intro w0 G0 args os p r outs hσ hp hm0 hd0
 have hcx : CxOk Tryd.prog cx_fCtJ5 := cx_fCtJ5_ok
 unfold fCtJ5_σ at hσ
 split at hσ
 ·
  rename_i s
  simp only [Option.some.injEq, Prod.mk.injEq] at hσ
  obtain ⟨rfl, rfl, rfl⟩ := hσ
  obtain ⟨wW, wO, wm, wβ, wd⟩ := w0
  replace hm0 : wm = 0 := hm0
  subst hm0
  replace hd0 : wd = [] := hd0
  subst hd0
  refine ⟨by kernel_rfl, ?_⟩
  change Tri ⟨_, _, _, _, _, _⟩ [(0, .trees s), (1, .clo 54 [.pto [.int 5]])] [] _ _
  refine tri_seq ?_
  refine tri_regD hcx [] [] [0, 1] [] [] [] [] (by kernel_rfl) ?_ ?_
  ·
   exact az
  refine fin_then ?_
  refine tri_seq ?_
  refine tri_regD hcx [] [4] [] [] [(s.length ≤ maxLen)] [(4, .bool (decide ((Cn.idxF (fun x : Tree => (x.kind == 1) && (x.v != 0)) s) ≥ 0)))] [] (by kernel_rfl) ?_ ?_
  ·
   refine (ap ?_ az)
   first | exact hp | (intro h; exact h) | omega
  refine fin_then ?_
  refine tri_ret ?_
  exact fin_ret [] rfl rfl trivial hcx (avs := [.bool (decide ((Cn.idxF (fun x : Tree => (x.kind == 1) && (x.v != 0)) s) ≥ 0))]) (by kernel_rfl) (congrArg AV.bool (show (decide ((Cn.idxF (fun x : Tree => (x.kind == 1) && (x.v != 0)) s) ≥ 0)) = (s.any (fun x : Tree => (x.kind == 1) && (x.v != 0))) from (by exact Cn.idxF_any (p := (fun x : Tree => (x.kind == 1) && (x.v != 0))) s))) [] rfl
 ·
  cases hσ
def cx_fJoin5 : Cx := ⟨tyFlat2, [(37, sSortI), (38, sCompact), (34, (coeF [.agg [.id, .id, .id, .ld (.trees [])]] fParts_σ)), (35, fFormed_σ), (24, (coeF [.agg [.id, .id, .id, .ld (.trees [])]] fSize_σ)), (17, (coeF [.agg [.id, .id, .id, .ld (.trees [])], .id] fChk_σ)), (23, (coeF [.agg [.id, .id, .id, .ld (.trees [])]] fVars_σ)), (41, fConst_σ), (44, fKnown_σ), (30, fKpOpen_σ), (54, (orF (coeF [.agg [.id, .id, .id, .ld (.trees [])], .id] fJ14_σ) (coeF [.agg [.id, .id, .id, .ld (.trees [])], .id] fJ15_σ))), (40, (orF (coeF [.ld (.trees []), .id] fIxJ4_σ) (coeF [.ld (.trees []), .id] fIxJ5_σ))), (29, (orF (coeF [.ld (.trees []), .id] fCtJ4_σ) (coeF [.ld (.trees []), .id] fCtJ5_σ))), (42, (coeF [.id, .ld (.trees [])] fJoin4_σ))]⟩
theorem cx_fJoin5_ok : CxOk Tryd.prog cx_fJoin5 := cx_ok tyFlat2_ok ⟨sSortI_sound, sCompact_sound, (fParts_sound.coe [.agg [.id, .id, .id, .ld (.trees [])]] rfl), fFormed_sound, (fSize_sound.coe [.agg [.id, .id, .id, .ld (.trees [])]] rfl), (fChk_sound.coe [.agg [.id, .id, .id, .ld (.trees [])], .id] rfl), (fVars_sound.coe [.agg [.id, .id, .id, .ld (.trees [])]] rfl), fConst_sound, fKnown_sound, fKpOpen_sound, ((fJ14_sound.coe [.agg [.id, .id, .id, .ld (.trees [])], .id] rfl).or (fJ15_sound.coe [.agg [.id, .id, .id, .ld (.trees [])], .id] rfl)), ((fIxJ4_sound.coe [.ld (.trees []), .id] rfl).or (fIxJ5_sound.coe [.ld (.trees []), .id] rfl)), ((fCtJ4_sound.coe [.ld (.trees []), .id] rfl).or (fCtJ5_sound.coe [.ld (.trees []), .id] rfl)), (fJoin4_sound.coe [.id, .ld (.trees [])] rfl), trivial⟩
def fJoin5_σ : CtF
  | [.im (.val (.int .i64 5)), .im (.ls (.trees l))], [] => some (l.length ≤ 2932031007317 ∧ Fl.sizeL l ≤ 1000000, .agg [.int ((Fl.joinT 5 0 l).kind), .int ((Fl.joinT 5 0 l).v), .int ((Fl.joinT 5 0 l).k), .trees ((Fl.joinT 5 0 l).l)], [])
  | _, _ => none
theorem fJoin5_sound : Sound Tryd.prog 42 fJoin5_σ := by
 refine sound_mk (cx := cx_fJoin5) (fn := Tryd.f42) Tryd.func42 (by kernel_rfl) rfl ?_
 intro w0 G0 args os p r outs hσ hp hm0 hd0
 have hcx : CxOk Tryd.prog cx_fJoin5 := cx_fJoin5_ok
 unfold fJoin5_σ at hσ
 split at hσ
 ·
  rename_i l
  simp only [Option.some.injEq, Prod.mk.injEq] at hσ
  obtain ⟨rfl, rfl, rfl⟩ := hσ
  obtain ⟨wW, wO, wm, wβ, wd⟩ := w0
  replace hm0 : wm = 0 := hm0
  subst hm0
  replace hd0 : wd = [] := hd0
  subst hd0
  refine ⟨by kernel_rfl, ?_⟩
  change Tri ⟨_, _, _, _, _, _⟩ [(0, .int 5), (1, .trees l)] [] _ _
  obtain ⟨hm1, hm2⟩ := hp
  have hm9 := hm1
  refine tri_seq ?_
  refine tri_regD hcx [(1001, .to 604), (1000, .frz)] [2, 4] [1] [] [] [(2, .pto [.int 5]), (4, .loc 604 0)] [(604, .box [.int 0, .int 0, .int 0, .im (.val (.slice none 0 0))])] (by kernel_rfl) ?_ ?_
  ·
   exact az
  refine fin_then ?_
  refine tri_seq ?_
  refine tri_seq ?_
  refine tri_regD hcx [] [10] [2, 4, 1] [604] [(l.length ≤ maxLen)] [(10, .bool (l.any (fun x : Tree => (x.kind == 1) && (x.v != 0))))] [] (by kernel_rfl) ?_ ?_
  ·
   refine (ap ?_ az)
   first | omega | exact id | exact vcNot | exact vcG | exact vcH | (intro _; omega) | exact (fun _ h => h) | (intro h; simp at h; omega) | (simp only [List.length_cons, List.length_nil, List.length_append, List.length_map, List.length_set, List.length_replicate]; omega) | (intro h; simp [h]; done) | exact True.intro | (constructor <;> decide) | (constructor <;> omega) | (simp only [List.length_cons, List.length_nil]; omega) | (have h8 := hsub (by omega); constructor <;> omega) | (have h8 := hsub (by omega); omega) | (unfold maxLen; omega) | done
  refine fin_then ?_
  refine tri_cond (b := (l.any (fun x : Tree => (x.kind == 1) && (x.v != 0)))) (by kernel_rfl) (fun hb0 => ?_) (fun hb0 => ?_)
  ·
   skip
   have h0 := hb0
   have hb := h0
   refine tri_seq ?_
   refine tri_regD hcx [(604, .to 604)] [] [4] [] [((0 : Int) ≤ 5 ∧ 5 < (6 : Int)), Fit (1 - 0), (True)] [] [(604, .box [.int 1, .int (1 - 0), .int 0, .trees []])] (by kernel_rfl) ?_ ?_
   ·
    refine (ap ?_ (ap ?_ (ap ?_ az)))
    all_goals
     first | omega | exact id | exact vcNot | exact vcG | exact vcH | (intro _; omega) | exact (fun _ h => h) | (intro h; simp at h; omega) | (simp only [List.length_cons, List.length_nil, List.length_append, List.length_map, List.length_set, List.length_replicate]; omega) | (intro h; simp [h]; done) | exact True.intro | (constructor <;> decide) | (constructor <;> omega) | (simp only [List.length_cons, List.length_nil]; omega) | (have h8 := hsub (by omega); constructor <;> omega) | (have h8 := hsub (by omega); omega) | (unfold maxLen; omega) | done
   refine fin_then ?_
   refine tri_ret ?_
   refine fin_then_ret ?_
   exact fin_ret [] rfl rfl trivial hcx (avs := [.agg [.int 1, .int (1 - 0), .int 0, .trees []]]) (by kernel_rfl) (congrArg AV.agg (consE (congrArg AV.int (show 1 = (Fl.joinT 5 0 l).kind from (by first | (rw [Fl.jn_bad (by decide) hb]; rfl) | (rw [Fl.jn_0 (i := i) (by decide) hb (by omega) (by omega)]; rfl) | (rw [Fl.jn_1 (i := i) (by decide) hb (by omega) (by omega)]; done) | (rw [Fl.jn_2 (i := i) (by decide) hb (by omega) (by omega) (by omega)]; rfl) | done))) (consE (congrArg AV.int (show (1 - 0) = (Fl.joinT 5 0 l).v from (by first | (rw [Fl.jn_bad (by decide) hb]; rfl) | (rw [Fl.jn_0 (i := i) (by decide) hb (by omega) (by omega)]; rfl) | (rw [Fl.jn_1 (i := i) (by decide) hb (by omega) (by omega)]; done) | (rw [Fl.jn_2 (i := i) (by decide) hb (by omega) (by omega) (by omega)]; rfl) | done))) (consE (congrArg AV.int (show 0 = (Fl.joinT 5 0 l).k from (by first | (rw [Fl.jn_bad (by decide) hb]; rfl) | (rw [Fl.jn_0 (i := i) (by decide) hb (by omega) (by omega)]; rfl) | (rw [Fl.jn_1 (i := i) (by decide) hb (by omega) (by omega)]; done) | (rw [Fl.jn_2 (i := i) (by decide) hb (by omega) (by omega) (by omega)]; rfl) | done))) (consE (congrArg AV.trees (show [] = (Fl.joinT 5 0 l).l from (by first | (rw [Fl.jn_bad (by decide) hb]; rfl) | (rw [Fl.jn_0 (i := i) (by decide) hb (by omega) (by omega)]; rfl) | (rw [Fl.jn_1 (i := i) (by decide) hb (by omega) (by omega)]; done) | (rw [Fl.jn_2 (i := i) (by decide) hb (by omega) (by omega) (by omega)]; rfl) | done))) rfl))))) [] rfl
  ·
   skip
   have h0 := hb0
   have hb := h0
   refine tri_skip ?_
   refine fin_then ?_
   refine tri_seq ?_
   refine tri_regD hcx [] [5] [2, 4, 1] [604] [] [(5, .im (.val (.slice none 0 0)))] [] (by kernel_rfl) ?_ ?_
   ·
    exact az
   refine fin_then ?_
   refine tri_seq ?_
   refine tri_seq ?_
   refine tri_regD hcx [(1001, .frz)] [17, 18, 19] [5, 2, 4] [604] [(l.length ≤ 2932031007317)] [(17, .trees (Fl.restL l)), (18, .int ((Fl.restL l).length : Int)), (19, .int 0)] [] (by kernel_rfl) ?_ ?_
   ·
    refine (ap ?_ az)
    first | omega | exact id | exact vcNot | exact vcG | exact vcH | (intro _; omega) | exact (fun _ h => h) | (intro h; simp at h; omega) | (simp only [List.length_cons, List.length_nil, List.length_append, List.length_map, List.length_set, List.length_replicate]; omega) | (intro h; simp [h]; done) | exact True.intro | (constructor <;> decide) | (constructor <;> omega) | (simp only [List.length_cons, List.length_nil]; omega) | (have h8 := hsub (by omega); constructor <;> omega) | (have h8 := hsub (by omega); omega) | (unfold maxLen; omega) | done
   refine fin_then ?_
   refine tri_block ?_
   refine tri_row 5 700 24 (.trees []) (by kernel_rfl) (by kernel_rfl) (by kernel_rfl) (by kernel_rfl) (E' := [(17, .trees (Fl.restL l)), (18, .int ((Fl.restL l).length : Int)), (19, .int 0), (5, .row 700), (2, .pto [.int 5]), (4, .loc 604 0)]) (by kernel_rfl) ?_
   refine tri_ren (ρ := [(604, .to 604), (700, .to 700)]) (keys := [2, 4, 5, 17, 18, 19]) (E' := [(2, .pto [.int 5]), (4, .loc 604 0), (5, .row 700), (17, .trees (Fl.restL l)), (18, .int ((Fl.restL l).length : Int)), (19, .int 0)]) (H' := [(604, .box [.int 0, .int 0, .int 0, .im (.val (.slice none 0 0))]), (700, .row 24 (.trees []))]) (by kernel_rfl) ?_
   refine tri_loop (X := Nat) (fun x0 => x0 ≤ (Fl.restL l).length) (fun x0 => [(2, .pto [.int 5]), (4, .loc 604 0), (5, .row 700), (17, .trees (Fl.restL l)), (18, .int ((Fl.restL l).length : Int)), (19, .int (x0 : Int))]) (fun x0 => [(604, .box [.int 0, .int 0, .int 0, .im (.val (.slice none 0 0))]), (700, .row 24 (.trees (Fl.outJ 5 ((Fl.restL l).take x0))))]) (fun x0 => (Fl.restL l).length - x0) (0) ?_ ?_ ?_ ?_
   ·
    show 0 ≤ (Fl.restL l).length
    omega
   ·
    exact subE_mk (l := [.pto [.int 5], .loc 604 0, .row 700, .trees (Fl.restL l), .int ((Fl.restL l).length : Int), .int 0]) (m := [.pto [.int 5], .loc 604 0, .row 700, .trees (Fl.restL l), .int ((Fl.restL l).length : Int), .int (0 : Int)]) (by kernel_rfl) (by kernel_rfl) (consE rfl (consE rfl (consE rfl (consE rfl (consE rfl (consE (congrArg AV.int (show 0 = (0 : Int) from (by first | rfl | omega | (simp; done)))) rfl))))))
   ·
    exact Eq.trans (show _ = [(604, .box [.int 0, .int 0, .int 0, .im (.val (.slice none 0 0))]), (700, .row 24 (.trees []))] from by kernel_rfl) (consH rfl (consH (congrArg (fun x => ((700 : Nat), x)) (congrArg (fun x => AObj.row 24 (.trees x)) (show [] = (Fl.outJ 5 ((Fl.restL l).take 0)) from (by rfl)))) rfl))
   ·
    intro i hI
    replace hI : i ≤ (Fl.restL l).length := hI
    change Tri _ [(2, .pto [.int 5]), (4, .loc 604 0), (5, .row 700), (17, .trees (Fl.restL l)), (18, .int ((Fl.restL l).length : Int)), (19, .int (i : Int))] [(604, .box [.int 0, .int 0, .int 0, .im (.val (.slice none 0 0))]), (700, .row 24 (.trees (Fl.outJ 5 ((Fl.restL l).take i))))] _ _
    have hrs := Fl.size_rest l
    have hrl := Fl.len_size (Fl.restL l)
    have hol : (Fl.outJ 5 ((Fl.restL l).take i)).length ≤ Fl.sizeL (Fl.restL l) := Fl.out_len_take i
    have hsub : i < (Fl.restL l).length → Fl.sizeL ((Fl.restL l).getD i tree0).l < Fl.sizeL (Fl.restL l) := fun h => Fl.size_sub h
    have hll := Fl.len_size ((Fl.restL l).getD i tree0).l
    refine tri_seq ?_
    refine tri_regD hcx [] [20] [2, 4, 5, 17, 18, 19] [604, 700] [] [(20, .bool (decide ((i : Int) < ((Fl.restL l).length : Int))))] [] (by kernel_rfl) ?_ ?_
    ·
     exact az
    refine fin_then ?_
    refine tri_seq ?_
    refine tri_cond (b := (decide ((i : Int) < ((Fl.restL l).length : Int)))) (by kernel_rfl) (fun hb1 => ?_) (fun hb1 => ?_)
    ·
     skip
     have h1 := of_decide_eq_true hb1
     refine tri_skip ?_
     refine fin_then ?_
     refine tri_seq ?_
     refine tri_block ?_
     refine tri_seq ?_
     refine tri_regD hcx [(1002, .to 607)] [7] [2, 4, 5, 17, 18, 19] [604, 700] [((0 : Int) ≤ (i : Int) ∧ (i : Int) < ((Fl.restL l).length : Int))] [(7, .loc 607 0)] [(607, .box [.int (((Fl.restL l).getD i tree0).kind), .int (((Fl.restL l).getD i tree0).v), .int (((Fl.restL l).getD i tree0).k), .trees (((Fl.restL l).getD i tree0).l)])] (by kernel_rfl) ?_ ?_
     ·
      refine (ap ?_ az)
      first | omega | exact id | exact vcNot | exact vcG | exact vcH | (intro _; omega) | exact (fun _ h => h) | (intro h; simp at h; omega) | (simp only [List.length_cons, List.length_nil, List.length_append, List.length_map, List.length_set, List.length_replicate]; omega) | (intro h; simp [h]; done) | exact True.intro | (constructor <;> decide) | (constructor <;> omega) | (simp only [List.length_cons, List.length_nil]; omega) | (have h8 := hsub (by omega); constructor <;> omega) | (have h8 := hsub (by omega); omega) | (unfold maxLen; omega) | done
     refine fin_then ?_
     refine tri_seq ?_
     refine tri_regD hcx [] [26] [7, 2, 4, 5, 17, 18, 19] [607, 604, 700] [] [(26, .bool ((((Fl.restL l).getD i tree0).kind) == 5))] [] (by kernel_rfl) ?_ ?_
     ·
      exact az
     refine fin_then ?_
     refine tri_cond (b := ((((Fl.restL l).getD i tree0).kind) == 5)) (by kernel_rfl) (fun hb2 => ?_) (fun hb2 => ?_)
     ·
      skip
      have h2 := eq_of_beq hb2
      refine tri_regD hcx [(1003, .to 700)] [5] [2, 4, 17, 18, 19] [604] [(((Fl.outJ 5 ((Fl.restL l).take i)).length + (((Fl.restL l).getD i tree0).l).length) * 48 ≤ 140737488355328)] [(5, .row 700)] [(700, .row 24 (.trees ((Fl.outJ 5 ((Fl.restL l).take i)) ++ (((Fl.restL l).getD i tree0).l))))] (by kernel_rfl) ?_ ?_
      ·
       refine (ap ?_ az)
       first | omega | exact id | exact vcNot | exact vcG | exact vcH | (intro _; omega) | exact (fun _ h => h) | (intro h; simp at h; omega) | (simp only [List.length_cons, List.length_nil, List.length_append, List.length_map, List.length_set, List.length_replicate]; omega) | (intro h; simp [h]; done) | exact True.intro | (constructor <;> decide) | (constructor <;> omega) | (simp only [List.length_cons, List.length_nil]; omega) | (have h8 := hsub (by omega); constructor <;> omega) | (have h8 := hsub (by omega); omega) | (unfold maxLen; omega) | done
      refine fin_block ?_
      refine fin_then ?_
      refine tri_regD hcx [] [19] [5, 2, 4, 17, 18] [700, 604] [Fit ((i : Int) + 1)] [(19, .int ((i : Int) + 1))] [] (by kernel_rfl) ?_ ?_
      ·
       refine (ap ?_ az)
       first | omega | exact id | exact vcNot | exact vcG | exact vcH | (intro _; omega) | exact (fun _ h => h) | (intro h; simp at h; omega) | (simp only [List.length_cons, List.length_nil, List.length_append, List.length_map, List.length_set, List.length_replicate]; omega) | (intro h; simp [h]; done) | exact True.intro | (constructor <;> decide) | (constructor <;> omega) | (simp only [List.length_cons, List.length_nil]; omega) | (have h8 := hsub (by omega); constructor <;> omega) | (have h8 := hsub (by omega); omega) | (unfold maxLen; omega) | done
      refine fin_ren (ρ := [(604, .to 604), (700, .to 700)]) (keys := [2, 4, 5, 17, 18, 19]) (E' := [(2, .pto [.int 5]), (4, .loc 604 0), (5, .row 700), (17, .trees (Fl.restL l)), (18, .int ((Fl.restL l).length : Int)), (19, .int ((i : Int) + 1))]) (H' := [(604, .box [.int 0, .int 0, .int 0, .im (.val (.slice none 0 0))]), (700, .row 24 (.trees ((Fl.outJ 5 ((Fl.restL l).take i)) ++ (((Fl.restL l).getD i tree0).l))))]) (by kernel_rfl) ?_
      refine fin_round (i + 1) ?_ ?_ ?_ ?_
      ·
       show (i + 1) ≤ (Fl.restL l).length
       omega
      ·
       show (Fl.restL l).length - (i + 1) < (Fl.restL l).length - i
       omega
      ·
       exact subE_mk (l := [.pto [.int 5], .loc 604 0, .row 700, .trees (Fl.restL l), .int ((Fl.restL l).length : Int), .int ((i : Int) + 1)]) (m := [.pto [.int 5], .loc 604 0, .row 700, .trees (Fl.restL l), .int ((Fl.restL l).length : Int), .int ((i + 1) : Int)]) (by kernel_rfl) (by kernel_rfl) (consE rfl (consE rfl (consE rfl (consE rfl (consE rfl (consE (congrArg AV.int (show ((i : Int) + 1) = ((i + 1) : Int) from (by first | rfl | omega | (simp; done)))) rfl))))))
      ·
       exact Eq.trans (show _ = [(604, .box [.int 0, .int 0, .int 0, .im (.val (.slice none 0 0))]), (700, .row 24 (.trees ((Fl.outJ 5 ((Fl.restL l).take i)) ++ (((Fl.restL l).getD i tree0).l))))] from by kernel_rfl) (consH rfl (consH (congrArg (fun x => ((700 : Nat), x)) (congrArg (fun x => AObj.row 24 (.trees x)) (show ((Fl.outJ 5 ((Fl.restL l).take i)) ++ (((Fl.restL l).getD i tree0).l)) = (Fl.outJ 5 ((Fl.restL l).take (i + 1))) from (by first | exact Fl.out_same (by omega) (by omega) | (rw [Fl.node_eta]; exact Fl.outR_open (by omega) (by omega)))))) rfl))
     ·
      skip
      have h2 := neB hb2
      refine tri_regD hcx [(1003, .to 700)] [5] [2, 4, 17, 18, 19] [604] [(((Fl.outJ 5 ((Fl.restL l).take i)).length + [(Tree.node (((Fl.restL l).getD i tree0).kind) (((Fl.restL l).getD i tree0).v) (((Fl.restL l).getD i tree0).k) (((Fl.restL l).getD i tree0).l))].length) * 48 ≤ 140737488355328)] [(5, .row 700)] [(700, .row 24 (.trees ((Fl.outJ 5 ((Fl.restL l).take i)) ++ [(Tree.node (((Fl.restL l).getD i tree0).kind) (((Fl.restL l).getD i tree0).v) (((Fl.restL l).getD i tree0).k) (((Fl.restL l).getD i tree0).l))])))] (by kernel_rfl) ?_ ?_
      ·
       refine (ap ?_ az)
       first | omega | exact id | exact vcNot | exact vcG | exact vcH | (intro _; omega) | exact (fun _ h => h) | (intro h; simp at h; omega) | (simp only [List.length_cons, List.length_nil, List.length_append, List.length_map, List.length_set, List.length_replicate]; omega) | (intro h; simp [h]; done) | exact True.intro | (constructor <;> decide) | (constructor <;> omega) | (simp only [List.length_cons, List.length_nil]; omega) | (have h8 := hsub (by omega); constructor <;> omega) | (have h8 := hsub (by omega); omega) | (unfold maxLen; omega) | done
      refine fin_block ?_
      refine fin_then ?_
      refine tri_regD hcx [] [19] [5, 2, 4, 17, 18] [700, 604] [Fit ((i : Int) + 1)] [(19, .int ((i : Int) + 1))] [] (by kernel_rfl) ?_ ?_
      ·
       refine (ap ?_ az)
       first | omega | exact id | exact vcNot | exact vcG | exact vcH | (intro _; omega) | exact (fun _ h => h) | (intro h; simp at h; omega) | (simp only [List.length_cons, List.length_nil, List.length_append, List.length_map, List.length_set, List.length_replicate]; omega) | (intro h; simp [h]; done) | exact True.intro | (constructor <;> decide) | (constructor <;> omega) | (simp only [List.length_cons, List.length_nil]; omega) | (have h8 := hsub (by omega); constructor <;> omega) | (have h8 := hsub (by omega); omega) | (unfold maxLen; omega) | done
      refine fin_ren (ρ := [(604, .to 604), (700, .to 700)]) (keys := [2, 4, 5, 17, 18, 19]) (E' := [(2, .pto [.int 5]), (4, .loc 604 0), (5, .row 700), (17, .trees (Fl.restL l)), (18, .int ((Fl.restL l).length : Int)), (19, .int ((i : Int) + 1))]) (H' := [(604, .box [.int 0, .int 0, .int 0, .im (.val (.slice none 0 0))]), (700, .row 24 (.trees ((Fl.outJ 5 ((Fl.restL l).take i)) ++ [(Tree.node (((Fl.restL l).getD i tree0).kind) (((Fl.restL l).getD i tree0).v) (((Fl.restL l).getD i tree0).k) (((Fl.restL l).getD i tree0).l))])))]) (by kernel_rfl) ?_
      refine fin_round (i + 1) ?_ ?_ ?_ ?_
      ·
       show (i + 1) ≤ (Fl.restL l).length
       omega
      ·
       show (Fl.restL l).length - (i + 1) < (Fl.restL l).length - i
       omega
      ·
       exact subE_mk (l := [.pto [.int 5], .loc 604 0, .row 700, .trees (Fl.restL l), .int ((Fl.restL l).length : Int), .int ((i : Int) + 1)]) (m := [.pto [.int 5], .loc 604 0, .row 700, .trees (Fl.restL l), .int ((Fl.restL l).length : Int), .int ((i + 1) : Int)]) (by kernel_rfl) (by kernel_rfl) (consE rfl (consE rfl (consE rfl (consE rfl (consE rfl (consE (congrArg AV.int (show ((i : Int) + 1) = ((i + 1) : Int) from (by first | rfl | omega | (simp; done)))) rfl))))))
      ·
       exact Eq.trans (show _ = [(604, .box [.int 0, .int 0, .int 0, .im (.val (.slice none 0 0))]), (700, .row 24 (.trees ((Fl.outJ 5 ((Fl.restL l).take i)) ++ [(Tree.node (((Fl.restL l).getD i tree0).kind) (((Fl.restL l).getD i tree0).v) (((Fl.restL l).getD i tree0).k) (((Fl.restL l).getD i tree0).l))])))] from by kernel_rfl) (consH rfl (consH (congrArg (fun x => ((700 : Nat), x)) (congrArg (fun x => AObj.row 24 (.trees x)) (show ((Fl.outJ 5 ((Fl.restL l).take i)) ++ [(Tree.node (((Fl.restL l).getD i tree0).kind) (((Fl.restL l).getD i tree0).v) (((Fl.restL l).getD i tree0).k) (((Fl.restL l).getD i tree0).l))]) = (Fl.outJ 5 ((Fl.restL l).take (i + 1))) from (by first | exact Fl.out_same (by omega) (by omega) | (rw [Fl.node_eta]; exact Fl.outR_open (by omega) (by omega)))))) rfl))
    ·
     skip
     have h1 := of_decide_eq_false hb1
     refine tri_exit ?_
     refine fin_then_exit ?_
     refine fin_then_exit ?_
     refine fin_block_same ?_
     refine fin_then ?_
     refine tri_seq ?_
     refine tri_seq ?_
     refine tri_ren (ρ := [(604, .to 604), (700, .frz)]) (keys := [20, 2, 4, 5, 17, 18, 19]) (E' := [(20, .bool (decide ((i : Int) < ((Fl.restL l).length : Int)))), (2, .pto [.int 5]), (4, .loc 604 0), (5, .trees (Fl.outJ 5 ((Fl.restL l).take i))), (17, .trees (Fl.restL l)), (18, .int ((Fl.restL l).length : Int)), (19, .int (i : Int))]) (H' := [(604, .box [.int 0, .int 0, .int 0, .im (.val (.slice none 0 0))])]) (by kernel_rfl) ?_
     refine tri_regD hcx [] [37] [2, 4, 5] [604] [] [(37, .int ((Fl.outJ 5 ((Fl.restL l).take i)).length : Int))] [] (by kernel_rfl) ?_ ?_
     ·
      exact az
     refine fin_then ?_
     refine tri_block ?_
     refine tri_seq ?_
     refine tri_regD hcx [] [38] [37, 2, 4, 5] [604] [] [(38, .bool (((Fl.outJ 5 ((Fl.restL l).take i)).length : Int) == 0))] [] (by kernel_rfl) ?_ ?_
     ·
      exact az
     refine fin_then ?_
     refine tri_cond (b := (((Fl.outJ 5 ((Fl.restL l).take i)).length : Int) == 0)) (by kernel_rfl) (fun hb3 => ?_) (fun hb3 => ?_)
     ·
      skip
      have h3 := eq_of_beq hb3
      refine tri_seq ?_
      refine tri_regD hcx [(604, .to 604)] [] [4] [] [((0 : Int) ≤ 5 ∧ 5 < (6 : Int)), (True)] [] [(604, .box [.int 1, .int (0 : Int), .int 0, .trees []])] (by kernel_rfl) ?_ ?_
      ·
       refine (ap ?_ (ap ?_ az))
       all_goals
        first | omega | exact id | exact vcNot | exact vcG | exact vcH | (intro _; omega) | exact (fun _ h => h) | (intro h; simp at h; omega) | (simp only [List.length_cons, List.length_nil, List.length_append, List.length_map, List.length_set, List.length_replicate]; omega) | (intro h; simp [h]; done) | exact True.intro | (constructor <;> decide) | (constructor <;> omega) | (simp only [List.length_cons, List.length_nil]; omega) | (have h8 := hsub (by omega); constructor <;> omega) | (have h8 := hsub (by omega); omega) | (unfold maxLen; omega) | done
      refine fin_then ?_
      refine tri_ret ?_
      refine fin_block_ret ?_
      refine fin_then_ret ?_
      exact fin_ret [] rfl rfl trivial hcx (avs := [.agg [.int 1, .int (0 : Int), .int 0, .trees []]]) (by kernel_rfl) (congrArg AV.agg (consE (congrArg AV.int (show 1 = (Fl.joinT 5 0 l).kind from (by first | (rw [Fl.jn_bad (by decide) hb]; rfl) | (rw [Fl.jn_0 (i := i) (by decide) hb (by omega) (by omega)]; rfl) | (rw [Fl.jn_1 (i := i) (by decide) hb (by omega) (by omega)]; done) | (rw [Fl.jn_2 (i := i) (by decide) hb (by omega) (by omega) (by omega)]; rfl) | done))) (consE (congrArg AV.int (show (0 : Int) = (Fl.joinT 5 0 l).v from (by first | (rw [Fl.jn_bad (by decide) hb]; rfl) | (rw [Fl.jn_0 (i := i) (by decide) hb (by omega) (by omega)]; rfl) | (rw [Fl.jn_1 (i := i) (by decide) hb (by omega) (by omega)]; done) | (rw [Fl.jn_2 (i := i) (by decide) hb (by omega) (by omega) (by omega)]; rfl) | done))) (consE (congrArg AV.int (show 0 = (Fl.joinT 5 0 l).k from (by first | (rw [Fl.jn_bad (by decide) hb]; rfl) | (rw [Fl.jn_0 (i := i) (by decide) hb (by omega) (by omega)]; rfl) | (rw [Fl.jn_1 (i := i) (by decide) hb (by omega) (by omega)]; done) | (rw [Fl.jn_2 (i := i) (by decide) hb (by omega) (by omega) (by omega)]; rfl) | done))) (consE (congrArg AV.trees (show [] = (Fl.joinT 5 0 l).l from (by first | (rw [Fl.jn_bad (by decide) hb]; rfl) | (rw [Fl.jn_0 (i := i) (by decide) hb (by omega) (by omega)]; rfl) | (rw [Fl.jn_1 (i := i) (by decide) hb (by omega) (by omega)]; done) | (rw [Fl.jn_2 (i := i) (by decide) hb (by omega) (by omega) (by omega)]; rfl) | done))) rfl))))) [] rfl
     ·
      skip
      have h3 := neB hb3
      refine tri_seq ?_
      refine tri_regD hcx [] [44] [2, 4, 5] [604] [] [(44, .bool (((Fl.outJ 5 ((Fl.restL l).take i)).length : Int) == 1))] [] (by kernel_rfl) ?_ ?_
      ·
       exact az
      refine fin_then ?_
      refine tri_cond (b := (((Fl.outJ 5 ((Fl.restL l).take i)).length : Int) == 1)) (by kernel_rfl) (fun hb4 => ?_) (fun hb4 => ?_)
      ·
       skip
       have h4 := eq_of_beq hb4
       refine tri_seq ?_
       refine tri_regD hcx [(604, .to 604)] [] [4] [] [((0 : Int) ≤ 0 ∧ 0 < ((Fl.outJ 5 ((Fl.restL l).take i)).length : Int))] [] [(604, .box [.int (((Fl.outJ 5 ((Fl.restL l).take i)).getD 0 tree0).kind), .int (((Fl.outJ 5 ((Fl.restL l).take i)).getD 0 tree0).v), .int (((Fl.outJ 5 ((Fl.restL l).take i)).getD 0 tree0).k), .trees (((Fl.outJ 5 ((Fl.restL l).take i)).getD 0 tree0).l)])] (by kernel_rfl) ?_ ?_
       ·
        refine (ap ?_ az)
        first | omega | exact id | exact vcNot | exact vcG | exact vcH | (intro _; omega) | exact (fun _ h => h) | (intro h; simp at h; omega) | (simp only [List.length_cons, List.length_nil, List.length_append, List.length_map, List.length_set, List.length_replicate]; omega) | (intro h; simp [h]; done) | exact True.intro | (constructor <;> decide) | (constructor <;> omega) | (simp only [List.length_cons, List.length_nil]; omega) | (have h8 := hsub (by omega); constructor <;> omega) | (have h8 := hsub (by omega); omega) | (unfold maxLen; omega) | done
       refine fin_then ?_
       refine tri_ret ?_
       refine fin_block_ret ?_
       refine fin_then_ret ?_
       exact fin_ret [] rfl rfl trivial hcx (avs := [.agg [.int (((Fl.outJ 5 ((Fl.restL l).take i)).getD 0 tree0).kind), .int (((Fl.outJ 5 ((Fl.restL l).take i)).getD 0 tree0).v), .int (((Fl.outJ 5 ((Fl.restL l).take i)).getD 0 tree0).k), .trees (((Fl.outJ 5 ((Fl.restL l).take i)).getD 0 tree0).l)]]) (by kernel_rfl) (congrArg AV.agg (consE (congrArg AV.int (show ((Fl.outJ 5 ((Fl.restL l).take i)).getD 0 tree0).kind = (Fl.joinT 5 0 l).kind from (by first | (rw [Fl.jn_bad (by decide) hb]; rfl) | (rw [Fl.jn_0 (i := i) (by decide) hb (by omega) (by omega)]; rfl) | (rw [Fl.jn_1 (i := i) (by decide) hb (by omega) (by omega)]; done) | (rw [Fl.jn_2 (i := i) (by decide) hb (by omega) (by omega) (by omega)]; rfl) | done))) (consE (congrArg AV.int (show ((Fl.outJ 5 ((Fl.restL l).take i)).getD 0 tree0).v = (Fl.joinT 5 0 l).v from (by first | (rw [Fl.jn_bad (by decide) hb]; rfl) | (rw [Fl.jn_0 (i := i) (by decide) hb (by omega) (by omega)]; rfl) | (rw [Fl.jn_1 (i := i) (by decide) hb (by omega) (by omega)]; done) | (rw [Fl.jn_2 (i := i) (by decide) hb (by omega) (by omega) (by omega)]; rfl) | done))) (consE (congrArg AV.int (show ((Fl.outJ 5 ((Fl.restL l).take i)).getD 0 tree0).k = (Fl.joinT 5 0 l).k from (by first | (rw [Fl.jn_bad (by decide) hb]; rfl) | (rw [Fl.jn_0 (i := i) (by decide) hb (by omega) (by omega)]; rfl) | (rw [Fl.jn_1 (i := i) (by decide) hb (by omega) (by omega)]; done) | (rw [Fl.jn_2 (i := i) (by decide) hb (by omega) (by omega) (by omega)]; rfl) | done))) (consE (congrArg AV.trees (show ((Fl.outJ 5 ((Fl.restL l).take i)).getD 0 tree0).l = (Fl.joinT 5 0 l).l from (by first | (rw [Fl.jn_bad (by decide) hb]; rfl) | (rw [Fl.jn_0 (i := i) (by decide) hb (by omega) (by omega)]; rfl) | (rw [Fl.jn_1 (i := i) (by decide) hb (by omega) (by omega)]; done) | (rw [Fl.jn_2 (i := i) (by decide) hb (by omega) (by omega) (by omega)]; rfl) | done))) rfl))))) [] rfl
      ·
       skip
       have h4 := neB hb4
       refine tri_skip ?_
       refine fin_block ?_
       refine fin_then ?_
       refine tri_seq ?_
       refine tri_regD hcx [(604, .to 604)] [] [4] [] [] [] [(604, .box [.int 5, .int 0, .int 0, .trees (Fl.outJ 5 ((Fl.restL l).take i))])] (by kernel_rfl) ?_ ?_
       ·
        exact az
       refine fin_then ?_
       refine tri_ret ?_
       exact fin_ret [] rfl rfl trivial hcx (avs := [.agg [.int 5, .int 0, .int 0, .trees (Fl.outJ 5 ((Fl.restL l).take i))]]) (by kernel_rfl) (congrArg AV.agg (consE (congrArg AV.int (show 5 = (Fl.joinT 5 0 l).kind from (by first | (rw [Fl.jn_bad (by decide) hb]; rfl) | (rw [Fl.jn_0 (i := i) (by decide) hb (by omega) (by omega)]; rfl) | (rw [Fl.jn_1 (i := i) (by decide) hb (by omega) (by omega)]; done) | (rw [Fl.jn_2 (i := i) (by decide) hb (by omega) (by omega) (by omega)]; rfl) | done))) (consE (congrArg AV.int (show 0 = (Fl.joinT 5 0 l).v from (by first | (rw [Fl.jn_bad (by decide) hb]; rfl) | (rw [Fl.jn_0 (i := i) (by decide) hb (by omega) (by omega)]; rfl) | (rw [Fl.jn_1 (i := i) (by decide) hb (by omega) (by omega)]; done) | (rw [Fl.jn_2 (i := i) (by decide) hb (by omega) (by omega) (by omega)]; rfl) | done))) (consE (congrArg AV.int (show 0 = (Fl.joinT 5 0 l).k from (by first | (rw [Fl.jn_bad (by decide) hb]; rfl) | (rw [Fl.jn_0 (i := i) (by decide) hb (by omega) (by omega)]; rfl) | (rw [Fl.jn_1 (i := i) (by decide) hb (by omega) (by omega)]; done) | (rw [Fl.jn_2 (i := i) (by decide) hb (by omega) (by omega) (by omega)]; rfl) | done))) (consE (congrArg AV.trees (show (Fl.outJ 5 ((Fl.restL l).take i)) = (Fl.joinT 5 0 l).l from (by first | (rw [Fl.jn_bad (by decide) hb]; rfl) | (rw [Fl.jn_0 (i := i) (by decide) hb (by omega) (by omega)]; rfl) | (rw [Fl.jn_1 (i := i) (by decide) hb (by omega) (by omega)]; done) | (rw [Fl.jn_2 (i := i) (by decide) hb (by omega) (by omega) (by omega)]; rfl) | done))) rfl))))) [] rfl
 ·
  cases hσ
def fJoin_τ : CtF
  | [.im (.val (.int .i64 kind)), .im (.ls (.trees l))], [] => some ((kind = 4 ∨ kind = 5) ∧ l.length ≤ 2932031007317 ∧ Fl.sizeL l ≤ 1000000, .agg [.int ((Fl.joinT kind (Fl.whole0 kind) l).kind), .int ((Fl.joinT kind (Fl.whole0 kind) l).v), .int ((Fl.joinT kind (Fl.whole0 kind) l).k), .trees ((Fl.joinT kind (Fl.whole0 kind) l).l)], [])
  | _, _ => none
theorem fJoin_sound : Sound Tryd.prog 42 fJoin_τ := sound_all (σ := fun n => match n with | 0 => fJoin4_σ | _ => fJoin5_σ) (fun n => match n with | 0 => fJoin4_sound | _ + 1 => fJoin5_sound) (by
  intro args os p r outs h hp
  unfold fJoin_τ at h
  split at h
  · rename_i kind l
    simp only [Option.some.injEq, Prod.mk.injEq] at h
    obtain ⟨rfl, rfl, rfl⟩ := h
    obtain ⟨hk, h1, h2⟩ := hp
    rcases hk with rfl | rfl
    · exact ⟨0, _, rfl, h1, h2⟩
    · exact ⟨1, _, rfl, h1, h2⟩
  · cases h)
def fMade_σ (nn : Nat) : CtF
  | [.agg [.im (.val (.int .i64 q)), .im (.val (.int .i64 v)), .im (.val (.int .i64 k)), .im (.ls (.trees l))]], [] => some (l.length ≤ 2932031007317 ∧ Fl.lensL l ∧ Fl.sizeL l ≤ 1000000 ∧ Fl.mayN 65536 q v k l = true ∧ Fl.sizeL l < nn, .agg [.int ((Fl.simpT (.node q v k l)).kind), .int ((Fl.simpT (.node q v k l)).v), .int ((Fl.simpT (.node q v k l)).k), .trees ((Fl.simpT (.node q v k l)).l)], [])
  | _, _ => none
def cx_fMade (nn : Nat) : Cx := ⟨tyFlat2, [(37, sSortI), (38, sCompact), (34, (coeF [.agg [.id, .id, .id, .ld (.trees [])]] fParts_σ)), (35, fFormed_σ), (24, (coeF [.agg [.id, .id, .id, .ld (.trees [])]] fSize_σ)), (17, (coeF [.agg [.id, .id, .id, .ld (.trees [])], .id] fChk_σ)), (23, (coeF [.agg [.id, .id, .id, .ld (.trees [])]] fVars_σ)), (41, fConst_σ), (44, fKnown_σ), (30, (orF fKpOpen_σ fKpMade_σ)), (54, (orF (coeF [.agg [.id, .id, .id, .ld (.trees [])], .id] fJ14_σ) (coeF [.agg [.id, .id, .id, .ld (.trees [])], .id] fJ15_σ))), (40, (orF (coeF [.ld (.trees []), .id] fIxJ4_σ) (coeF [.ld (.trees []), .id] fIxJ5_σ))), (29, (orF (coeF [.ld (.trees []), .id] fCtJ4_σ) (coeF [.ld (.trees []), .id] fCtJ5_σ))), (42, fJoin_τ), (31, (coeF [.agg [.id, .id, .id, .ld (.trees [])]] (fMade_σ nn)))]⟩
theorem cx_fMade_ok (nn : Nat) (hR : Sound Tryd.prog 31 (fMade_σ nn)) : CxOk Tryd.prog (cx_fMade nn) := cx_ok tyFlat2_ok ⟨sSortI_sound, sCompact_sound, (fParts_sound.coe [.agg [.id, .id, .id, .ld (.trees [])]] rfl), fFormed_sound, (fSize_sound.coe [.agg [.id, .id, .id, .ld (.trees [])]] rfl), (fChk_sound.coe [.agg [.id, .id, .id, .ld (.trees [])], .id] rfl), (fVars_sound.coe [.agg [.id, .id, .id, .ld (.trees [])]] rfl), fConst_sound, fKnown_sound, (fKpOpen_sound.or fKpMade_sound), ((fJ14_sound.coe [.agg [.id, .id, .id, .ld (.trees [])], .id] rfl).or (fJ15_sound.coe [.agg [.id, .id, .id, .ld (.trees [])], .id] rfl)), ((fIxJ4_sound.coe [.ld (.trees []), .id] rfl).or (fIxJ5_sound.coe [.ld (.trees []), .id] rfl)), ((fCtJ4_sound.coe [.ld (.trees []), .id] rfl).or (fCtJ5_sound.coe [.ld (.trees []), .id] rfl)), fJoin_sound, (hR.coe [.agg [.id, .id, .id, .ld (.trees [])]] rfl), trivial⟩
theorem fMade_step (nn : Nat) (hR : Sound Tryd.prog 31 (fMade_σ nn)) : Sound Tryd.prog 31 (fMade_σ (nn + 1)) := by
 refine sound_mk (cx := (cx_fMade nn)) (fn := Tryd.f31) Tryd.func31 (by kernel_rfl) rfl ?_
 intro w0 G0 args os p r outs hσ hp hm0 hd0
 have hcx : CxOk Tryd.prog (cx_fMade nn) := cx_fMade_ok nn hR
 have hmx : Tryd.prog.follows .mixedOrders = true := by kernel_rfl
 unfold fMade_σ at hσ
 split at hσ
 ·
  rename_i q v k l
  simp only [Option.some.injEq, Prod.mk.injEq] at hσ
  obtain ⟨rfl, rfl, rfl⟩ := hσ
  obtain ⟨wW, wO, wm, wβ, wd⟩ := w0
  replace hm0 : wm = 0 := hm0
  subst hm0
  replace hd0 : wd = [] := hd0
  subst hd0
  refine ⟨by kernel_rfl, ?_⟩
  change Tri ⟨_, _, _, _, _, _⟩ [(0, .agg [.int q, .int v, .int k, .trees l])] [] _ _
  obtain ⟨hm1, hm2, hm3, hmay, hsz⟩ := hp
  have hm9 := hm1
  obtain ⟨hH, hC⟩ := Fl.may_parts hmay
  refine tri_seq ?_
  refine tri_regD hcx [(1001, .to 602), (1000, .frz)] [1, 2] [] [] [] [(1, .pto [.int q, .int v, .int k, .ls (.trees l)]), (2, .loc 602 0)] [(602, .box [.int 0, .int 0, .int 0, .im (.val (.slice none 0 0))])] (by kernel_rfl) ?_ ?_
  ·
   exact az
  refine fin_then ?_
  refine tri_seq ?_
  refine tri_regD hcx [] [3] [1, 2] [602] [] [(3, .im (.val (.slice none 0 0)))] [] (by kernel_rfl) ?_ ?_
  ·
   exact az
  refine fin_then ?_
  refine tri_seq ?_
  refine tri_seq ?_
  refine tri_regD hcx [] [10, 11, 12] [3, 1, 2] [602] [] [(10, .trees l), (11, .int (l.length : Int)), (12, .int 0)] [] (by kernel_rfl) ?_ ?_
  ·
   exact az
  refine fin_then ?_
  refine tri_block ?_
  refine tri_row 3 700 24 (.trees []) (by kernel_rfl) (by kernel_rfl) (by kernel_rfl) (by kernel_rfl) (E' := [(10, .trees l), (11, .int (l.length : Int)), (12, .int 0), (3, .row 700), (1, .pto [.int q, .int v, .int k, .ls (.trees l)]), (2, .loc 602 0)]) (by kernel_rfl) ?_
  refine tri_ren (ρ := [(602, .to 602), (700, .to 700)]) (keys := [1, 2, 3, 10, 11, 12]) (E' := [(1, .pto [.int q, .int v, .int k, .ls (.trees l)]), (2, .loc 602 0), (3, .row 700), (10, .trees l), (11, .int (l.length : Int)), (12, .int 0)]) (H' := [(602, .box [.int 0, .int 0, .int 0, .im (.val (.slice none 0 0))]), (700, .row 24 (.trees []))]) (by kernel_rfl) ?_
  refine tri_loop (X := Nat) (fun x0 => x0 ≤ l.length) (fun x0 => [(1, .pto [.int q, .int v, .int k, .ls (.trees l)]), (2, .loc 602 0), (3, .row 700), (10, .trees l), (11, .int (l.length : Int)), (12, .int (x0 : Int))]) (fun x0 => [(602, .box [.int 0, .int 0, .int 0, .im (.val (.slice none 0 0))]), (700, .row 24 (.trees ((l.take x0).map Fl.simpT)))]) (fun x0 => l.length - x0) (0) ?_ ?_ ?_ ?_
  ·
   show 0 ≤ l.length
   omega
  ·
   exact subE_mk (l := [.pto [.int q, .int v, .int k, .ls (.trees l)], .loc 602 0, .row 700, .trees l, .int (l.length : Int), .int 0]) (m := [.pto [.int q, .int v, .int k, .ls (.trees l)], .loc 602 0, .row 700, .trees l, .int (l.length : Int), .int (0 : Int)]) (by kernel_rfl) (by kernel_rfl) (consE rfl (consE rfl (consE rfl (consE rfl (consE rfl (consE (congrArg AV.int (show 0 = (0 : Int) from (by first | rfl | omega | (simp; done)))) rfl))))))
  ·
   exact Eq.trans (show _ = [(602, .box [.int 0, .int 0, .int 0, .im (.val (.slice none 0 0))]), (700, .row 24 (.trees []))] from by kernel_rfl) (consH rfl (consH (congrArg (fun x => ((700 : Nat), x)) (congrArg (fun x => AObj.row 24 (.trees x)) (show [] = ((l.take 0).map Fl.simpT) from (by rfl)))) rfl))
  ·
   intro i hI
   replace hI : i ≤ l.length := hI
   change Tri _ [(1, .pto [.int q, .int v, .int k, .ls (.trees l)]), (2, .loc 602 0), (3, .row 700), (10, .trees l), (11, .int (l.length : Int)), (12, .int (i : Int))] [(602, .box [.int 0, .int 0, .int 0, .im (.val (.slice none 0 0))]), (700, .row 24 (.trees ((l.take i).map Fl.simpT)))] _ _
   have hml : i ≤ l.length → _ := fun h => Fl.map_len (l := l) h
   have hms := Fl.map_size (l := l) i
   have hmo : Fl.lensL ((l.take i).map Fl.simpT) := Fl.lensL_size (by omega)
   have hsub : i < l.length → Fl.sizeL (l.getD i tree0).l < Fl.sizeL l := fun h => Fl.size_sub h
   have hlen : i < l.length → _ := fun h => Fl.lens_at hm2 h
   have hml9 : ((l.take i).map Fl.simpT).length = i := Fl.map_len (by omega)
   have hrs := Fl.size_rest ((l.take i).map Fl.simpT)
   have hrl : (Fl.restL ((l.take i).map Fl.simpT)).length ≤ ((l.take i).map Fl.simpT).length := List.length_filter_le _ _
   have hrf : (((l.take i).map Fl.simpT).filter (fun x : Tree => (x.kind == 1) && (x.v == 1))).length ≤ ((l.take i).map Fl.simpT).length := List.length_filter_le _ _
   refine tri_seq ?_
   refine tri_regD hcx [] [13] [1, 2, 3, 10, 11, 12] [602, 700] [] [(13, .bool (decide ((i : Int) < (l.length : Int))))] [] (by kernel_rfl) ?_ ?_
   ·
    exact az
   refine fin_then ?_
   refine tri_seq ?_
   refine tri_cond (b := (decide ((i : Int) < (l.length : Int)))) (by kernel_rfl) (fun hb0 => ?_) (fun hb0 => ?_)
   ·
    skip
    have h0 := of_decide_eq_true hb0
    refine tri_skip ?_
    refine fin_then ?_
    refine tri_seq ?_
    refine tri_block ?_
    refine tri_seq ?_
    refine tri_regD hcx [(1002, .to 605)] [5] [1, 2, 3, 10, 11, 12] [602, 700] [((0 : Int) ≤ (i : Int) ∧ (i : Int) < (l.length : Int))] [(5, .loc 605 0)] [(605, .box [.int ((l.getD i tree0).kind), .int ((l.getD i tree0).v), .int ((l.getD i tree0).k), .trees ((l.getD i tree0).l)])] (by kernel_rfl) ?_ ?_
    ·
     refine (ap ?_ az)
     first | omega | exact id | exact vcNot | exact vcG | exact vcH | (intro _; omega) | exact (fun _ h => h) | (intro h; simp at h; omega) | (simp only [List.length_cons, List.length_nil, List.length_append, List.length_map, List.length_set, List.length_replicate]; omega) | (intro h; simp [h]; done) | (have h8 := hsub (by omega); have h7 := hlen (by omega); exact ⟨h7.1, h7.2, by omega, (Fl.may_at _ _).trans (hC _ (by omega)), by omega⟩) | exact ⟨h45, by omega, by omega⟩ | exact ⟨by omega, by omega, by omega⟩ | (constructor <;> omega) | (simp only [List.length_cons, List.length_nil]; omega) | exact True.intro | exact ⟨by omega, hmo, by omega, by omega, by omega⟩ | done
    refine fin_then ?_
    refine tri_regD hcx [(1004, .to 700)] [3] [1, 2, 10, 11, 12] [602] [(((l.getD i tree0).l).length ≤ 2932031007317 ∧ Fl.lensL ((l.getD i tree0).l) ∧ Fl.sizeL ((l.getD i tree0).l) ≤ 1000000 ∧ Fl.mayN 65536 ((l.getD i tree0).kind) ((l.getD i tree0).v) ((l.getD i tree0).k) ((l.getD i tree0).l) = true ∧ Fl.sizeL ((l.getD i tree0).l) < nn), ((((l.take i).map Fl.simpT).length + [(Tree.node ((Fl.simpT (.node ((l.getD i tree0).kind) ((l.getD i tree0).v) ((l.getD i tree0).k) ((l.getD i tree0).l))).kind) ((Fl.simpT (.node ((l.getD i tree0).kind) ((l.getD i tree0).v) ((l.getD i tree0).k) ((l.getD i tree0).l))).v) ((Fl.simpT (.node ((l.getD i tree0).kind) ((l.getD i tree0).v) ((l.getD i tree0).k) ((l.getD i tree0).l))).k) ((Fl.simpT (.node ((l.getD i tree0).kind) ((l.getD i tree0).v) ((l.getD i tree0).k) ((l.getD i tree0).l))).l))].length) * 48 ≤ 140737488355328)] [(3, .row 700)] [(700, .row 24 (.trees (((l.take i).map Fl.simpT) ++ [(Tree.node ((Fl.simpT (.node ((l.getD i tree0).kind) ((l.getD i tree0).v) ((l.getD i tree0).k) ((l.getD i tree0).l))).kind) ((Fl.simpT (.node ((l.getD i tree0).kind) ((l.getD i tree0).v) ((l.getD i tree0).k) ((l.getD i tree0).l))).v) ((Fl.simpT (.node ((l.getD i tree0).kind) ((l.getD i tree0).v) ((l.getD i tree0).k) ((l.getD i tree0).l))).k) ((Fl.simpT (.node ((l.getD i tree0).kind) ((l.getD i tree0).v) ((l.getD i tree0).k) ((l.getD i tree0).l))).l))])))] (by kernel_rfl) ?_ ?_
    ·
     refine (ap ?_ (ap ?_ az))
     all_goals
      first | omega | exact id | exact vcNot | exact vcG | exact vcH | (intro _; omega) | exact (fun _ h => h) | (intro h; simp at h; omega) | (simp only [List.length_cons, List.length_nil, List.length_append, List.length_map, List.length_set, List.length_replicate]; omega) | (intro h; simp [h]; done) | (have h8 := hsub (by omega); have h7 := hlen (by omega); exact ⟨h7.1, h7.2, by omega, (Fl.may_at _ _).trans (hC _ (by omega)), by omega⟩) | exact ⟨h45, by omega, by omega⟩ | exact ⟨by omega, by omega, by omega⟩ | (constructor <;> omega) | (simp only [List.length_cons, List.length_nil]; omega) | exact True.intro | exact ⟨by omega, hmo, by omega, by omega, by omega⟩ | done
    refine fin_block ?_
    refine fin_then ?_
    refine tri_regD hcx [] [12] [3, 1, 2, 10, 11] [700, 602] [Fit ((i : Int) + 1)] [(12, .int ((i : Int) + 1))] [] (by kernel_rfl) ?_ ?_
    ·
     refine (ap ?_ az)
     first | omega | exact id | exact vcNot | exact vcG | exact vcH | (intro _; omega) | exact (fun _ h => h) | (intro h; simp at h; omega) | (simp only [List.length_cons, List.length_nil, List.length_append, List.length_map, List.length_set, List.length_replicate]; omega) | (intro h; simp [h]; done) | (have h8 := hsub (by omega); have h7 := hlen (by omega); exact ⟨h7.1, h7.2, by omega, (Fl.may_at _ _).trans (hC _ (by omega)), by omega⟩) | exact ⟨h45, by omega, by omega⟩ | exact ⟨by omega, by omega, by omega⟩ | (constructor <;> omega) | (simp only [List.length_cons, List.length_nil]; omega) | exact True.intro | exact ⟨by omega, hmo, by omega, by omega, by omega⟩ | done
    refine fin_ren (ρ := [(602, .to 602), (700, .to 700)]) (keys := [1, 2, 3, 10, 11, 12]) (E' := [(1, .pto [.int q, .int v, .int k, .ls (.trees l)]), (2, .loc 602 0), (3, .row 700), (10, .trees l), (11, .int (l.length : Int)), (12, .int ((i : Int) + 1))]) (H' := [(602, .box [.int 0, .int 0, .int 0, .im (.val (.slice none 0 0))]), (700, .row 24 (.trees (((l.take i).map Fl.simpT) ++ [(Tree.node ((Fl.simpT (.node ((l.getD i tree0).kind) ((l.getD i tree0).v) ((l.getD i tree0).k) ((l.getD i tree0).l))).kind) ((Fl.simpT (.node ((l.getD i tree0).kind) ((l.getD i tree0).v) ((l.getD i tree0).k) ((l.getD i tree0).l))).v) ((Fl.simpT (.node ((l.getD i tree0).kind) ((l.getD i tree0).v) ((l.getD i tree0).k) ((l.getD i tree0).l))).k) ((Fl.simpT (.node ((l.getD i tree0).kind) ((l.getD i tree0).v) ((l.getD i tree0).k) ((l.getD i tree0).l))).l))])))]) (by kernel_rfl) ?_
    refine fin_round (i + 1) ?_ ?_ ?_ ?_
    ·
     show (i + 1) ≤ l.length
     omega
    ·
     show l.length - (i + 1) < l.length - i
     omega
    ·
     exact subE_mk (l := [.pto [.int q, .int v, .int k, .ls (.trees l)], .loc 602 0, .row 700, .trees l, .int (l.length : Int), .int ((i : Int) + 1)]) (m := [.pto [.int q, .int v, .int k, .ls (.trees l)], .loc 602 0, .row 700, .trees l, .int (l.length : Int), .int ((i + 1) : Int)]) (by kernel_rfl) (by kernel_rfl) (consE rfl (consE rfl (consE rfl (consE rfl (consE rfl (consE (congrArg AV.int (show ((i : Int) + 1) = ((i + 1) : Int) from (by first | rfl | omega | (simp; done)))) rfl))))))
    ·
     exact Eq.trans (show _ = [(602, .box [.int 0, .int 0, .int 0, .im (.val (.slice none 0 0))]), (700, .row 24 (.trees (((l.take i).map Fl.simpT) ++ [(Tree.node ((Fl.simpT (.node ((l.getD i tree0).kind) ((l.getD i tree0).v) ((l.getD i tree0).k) ((l.getD i tree0).l))).kind) ((Fl.simpT (.node ((l.getD i tree0).kind) ((l.getD i tree0).v) ((l.getD i tree0).k) ((l.getD i tree0).l))).v) ((Fl.simpT (.node ((l.getD i tree0).kind) ((l.getD i tree0).v) ((l.getD i tree0).k) ((l.getD i tree0).l))).k) ((Fl.simpT (.node ((l.getD i tree0).kind) ((l.getD i tree0).v) ((l.getD i tree0).k) ((l.getD i tree0).l))).l))])))] from by kernel_rfl) (consH rfl (consH (congrArg (fun x => ((700 : Nat), x)) (congrArg (fun x => AObj.row 24 (.trees x)) (show (((l.take i).map Fl.simpT) ++ [(Tree.node ((Fl.simpT (.node ((l.getD i tree0).kind) ((l.getD i tree0).v) ((l.getD i tree0).k) ((l.getD i tree0).l))).kind) ((Fl.simpT (.node ((l.getD i tree0).kind) ((l.getD i tree0).v) ((l.getD i tree0).k) ((l.getD i tree0).l))).v) ((Fl.simpT (.node ((l.getD i tree0).kind) ((l.getD i tree0).v) ((l.getD i tree0).k) ((l.getD i tree0).l))).k) ((Fl.simpT (.node ((l.getD i tree0).kind) ((l.getD i tree0).v) ((l.getD i tree0).k) ((l.getD i tree0).l))).l))]) = ((l.take (i + 1)).map Fl.simpT) from (by (rw [Fl.node_eta, Fl.node_eta]; exact Fl.map_step (by omega)))))) rfl))
   ·
    skip
    have h0 := of_decide_eq_false hb0
    refine tri_exit ?_
    refine fin_then_exit ?_
    refine fin_then_exit ?_
    refine fin_block_same ?_
    refine fin_then ?_
    refine tri_seq ?_
    refine tri_seq ?_
    refine tri_ren (ρ := [(602, .to 602), (700, .frz)]) (keys := [13, 1, 2, 3, 10, 11, 12]) (E' := [(13, .bool (decide ((i : Int) < (l.length : Int)))), (1, .pto [.int q, .int v, .int k, .ls (.trees l)]), (2, .loc 602 0), (3, .trees ((l.take i).map Fl.simpT)), (10, .trees l), (11, .int (l.length : Int)), (12, .int (i : Int))]) (H' := [(602, .box [.int 0, .int 0, .int 0, .im (.val (.slice none 0 0))])]) (by kernel_rfl) ?_
    refine tri_regD hcx [] [23] [1, 2, 3] [602] [] [(23, .int q)] [] (by kernel_rfl) ?_ ?_
    ·
     exact az
    refine fin_then ?_
    refine tri_block ?_
    refine tri_seq ?_
    refine tri_regD hcx [] [24] [23, 1, 2, 3] [602] [] [(24, .bool (q == 3))] [] (by kernel_rfl) ?_ ?_
    ·
     exact az
    refine fin_then ?_
    refine tri_cond (b := (q == 3)) (by kernel_rfl) (fun hb1 => ?_) (fun hb1 => ?_)
    ·
     skip
     have h1 := eq_of_beq hb1
     have h1l := Fl.may_3 hH (by omega)
     have h1m : ((l.take i).map Fl.simpT).length = 1 := by omega
     refine tri_seq ?_
     refine tri_seq ?_
     refine tri_regD hcx [(1003, .to 606)] [6] [1, 2, 3] [602] [((0 : Int) ≤ 0 ∧ 0 < (((l.take i).map Fl.simpT).length : Int))] [(6, .loc 606 0)] [(606, .box [.int ((((l.take i).map Fl.simpT).getD 0 tree0).kind), .int ((((l.take i).map Fl.simpT).getD 0 tree0).v), .int ((((l.take i).map Fl.simpT).getD 0 tree0).k), .trees ((((l.take i).map Fl.simpT).getD 0 tree0).l)])] (by kernel_rfl) ?_ ?_
     ·
      refine (ap ?_ az)
      first | omega | exact id | exact vcNot | exact vcG | exact vcH | (intro _; omega) | exact (fun _ h => h) | (intro h; simp at h; omega) | (simp only [List.length_cons, List.length_nil, List.length_append, List.length_map, List.length_set, List.length_replicate]; omega) | (intro h; simp [h]; done) | (have h8 := hsub (by omega); have h7 := hlen (by omega); exact ⟨h7.1, h7.2, by omega, (Fl.may_at _ _).trans (hC _ (by omega)), by omega⟩) | exact ⟨h45, by omega, by omega⟩ | exact ⟨by omega, by omega, by omega⟩ | (constructor <;> omega) | (simp only [List.length_cons, List.length_nil]; omega) | exact True.intro | exact ⟨by omega, hmo, by omega, by omega, by omega⟩ | done
     refine fin_then ?_
     refine tri_seq ?_
     refine tri_regD hcx [] [30] [6, 1, 2, 3] [606, 602] [] [(30, .int ((((l.take i).map Fl.simpT).getD 0 tree0).kind))] [] (by kernel_rfl) ?_ ?_
     ·
      exact az
     refine fin_then ?_
     refine tri_block ?_
     refine tri_seq ?_
     refine tri_regD hcx [] [31] [30, 6, 1, 2, 3] [606, 602] [] [(31, .bool (((((l.take i).map Fl.simpT).getD 0 tree0).kind) == 1))] [] (by kernel_rfl) ?_ ?_
     ·
      exact az
     refine fin_then ?_
     refine tri_cond (b := (((((l.take i).map Fl.simpT).getD 0 tree0).kind) == 1)) (by kernel_rfl) (fun hb2 => ?_) (fun hb2 => ?_)
     ·
      skip
      have h2 := eq_of_beq hb2
      have hv01 : (((l.take i).map Fl.simpT).getD 0 tree0).v = 0 ∨ (((l.take i).map Fl.simpT).getD 0 tree0).v = 1 := Fl.sub_k1 (l := l) (i := i) (by omega) (by omega) hC (by omega)
      refine tri_seq ?_
      refine tri_regD hcx [(602, .to 602)] [] [2] [] [Fit (1 - (((l.take i).map Fl.simpT).getD 0 tree0).v), (True)] [] [(602, .box [.int 1, .int (1 - (((l.take i).map Fl.simpT).getD 0 tree0).v), .int 0, .trees []])] (by kernel_rfl) ?_ ?_
      ·
       refine (ap ?_ (ap ?_ az))
       all_goals
        first | omega | exact id | exact vcNot | exact vcG | exact vcH | (intro _; omega) | exact (fun _ h => h) | (intro h; simp at h; omega) | (simp only [List.length_cons, List.length_nil, List.length_append, List.length_map, List.length_set, List.length_replicate]; omega) | (intro h; simp [h]; done) | (have h8 := hsub (by omega); have h7 := hlen (by omega); exact ⟨h7.1, h7.2, by omega, (Fl.may_at _ _).trans (hC _ (by omega)), by omega⟩) | exact ⟨h45, by omega, by omega⟩ | exact ⟨by omega, by omega, by omega⟩ | (constructor <;> omega) | (simp only [List.length_cons, List.length_nil]; omega) | exact True.intro | exact ⟨by omega, hmo, by omega, by omega, by omega⟩ | done
      refine fin_then ?_
      refine tri_ret ?_
      refine fin_block_ret ?_
      refine fin_then_ret ?_
      refine fin_block_ret ?_
      refine fin_then_ret ?_
      exact fin_ret [] rfl rfl trivial hcx (avs := [.agg [.int 1, .int (1 - (((l.take i).map Fl.simpT).getD 0 tree0).v), .int 0, .trees []]]) (by kernel_rfl) (congrArg AV.agg (consE (congrArg AV.int (show 1 = (Fl.simpT (.node q v k l)).kind from (by first | (rw [Fl.simp_3a (i := i) (by omega) (by omega) (by omega)]; rfl) | (rw [Fl.simp_3b (i := i) (by omega) (by omega) (by omega) (by omega)]; done) | (rw [Fl.simp_3c (i := i) (by omega) (by omega) (by omega) (by omega)]; first | rfl | (show q = 3; omega)) | (rw [Fl.simp_45 (i := i) (by omega) h45]; done) | (rw [Fl.simp_6 (i := i) (by omega) (by omega), Fl.le_1 (by omega)]; rfl) | (rw [Fl.simp_6 (i := i) (by omega) (by omega), Fl.le_2 (by omega) (by omega)]; rfl) | (rw [Fl.simp_6 (i := i) (by omega) (by omega), Fl.le_3 (by omega) (by omega) (by omega), Fl.wh4]; done) | (rw [Fl.simp_6 (i := i) (by omega) (by omega), Fl.le_4 (by omega) (by omega) (by omega) (by omega), Fl.wh5]; done) | (rw [Fl.simp_6 (i := i) (by omega) (by omega), Fl.le_5 (by omega) (by omega) (by omega) (by omega)]; first | rfl | (show q = 6; omega)) | (rw [Fl.simp_0 (i := i) (by omega) (by omega) h45.1 h45.2 (by omega)]; rfl) | done))) (consE (congrArg AV.int (show (1 - (((l.take i).map Fl.simpT).getD 0 tree0).v) = (Fl.simpT (.node q v k l)).v from (by first | (rw [Fl.simp_3a (i := i) (by omega) (by omega) (by omega)]; rfl) | (rw [Fl.simp_3b (i := i) (by omega) (by omega) (by omega) (by omega)]; done) | (rw [Fl.simp_3c (i := i) (by omega) (by omega) (by omega) (by omega)]; first | rfl | (show q = 3; omega)) | (rw [Fl.simp_45 (i := i) (by omega) h45]; done) | (rw [Fl.simp_6 (i := i) (by omega) (by omega), Fl.le_1 (by omega)]; rfl) | (rw [Fl.simp_6 (i := i) (by omega) (by omega), Fl.le_2 (by omega) (by omega)]; rfl) | (rw [Fl.simp_6 (i := i) (by omega) (by omega), Fl.le_3 (by omega) (by omega) (by omega), Fl.wh4]; done) | (rw [Fl.simp_6 (i := i) (by omega) (by omega), Fl.le_4 (by omega) (by omega) (by omega) (by omega), Fl.wh5]; done) | (rw [Fl.simp_6 (i := i) (by omega) (by omega), Fl.le_5 (by omega) (by omega) (by omega) (by omega)]; first | rfl | (show q = 6; omega)) | (rw [Fl.simp_0 (i := i) (by omega) (by omega) h45.1 h45.2 (by omega)]; rfl) | done))) (consE (congrArg AV.int (show 0 = (Fl.simpT (.node q v k l)).k from (by first | (rw [Fl.simp_3a (i := i) (by omega) (by omega) (by omega)]; rfl) | (rw [Fl.simp_3b (i := i) (by omega) (by omega) (by omega) (by omega)]; done) | (rw [Fl.simp_3c (i := i) (by omega) (by omega) (by omega) (by omega)]; first | rfl | (show q = 3; omega)) | (rw [Fl.simp_45 (i := i) (by omega) h45]; done) | (rw [Fl.simp_6 (i := i) (by omega) (by omega), Fl.le_1 (by omega)]; rfl) | (rw [Fl.simp_6 (i := i) (by omega) (by omega), Fl.le_2 (by omega) (by omega)]; rfl) | (rw [Fl.simp_6 (i := i) (by omega) (by omega), Fl.le_3 (by omega) (by omega) (by omega), Fl.wh4]; done) | (rw [Fl.simp_6 (i := i) (by omega) (by omega), Fl.le_4 (by omega) (by omega) (by omega) (by omega), Fl.wh5]; done) | (rw [Fl.simp_6 (i := i) (by omega) (by omega), Fl.le_5 (by omega) (by omega) (by omega) (by omega)]; first | rfl | (show q = 6; omega)) | (rw [Fl.simp_0 (i := i) (by omega) (by omega) h45.1 h45.2 (by omega)]; rfl) | done))) (consE (congrArg AV.trees (show [] = (Fl.simpT (.node q v k l)).l from (by first | (rw [Fl.simp_3a (i := i) (by omega) (by omega) (by omega)]; rfl) | (rw [Fl.simp_3b (i := i) (by omega) (by omega) (by omega) (by omega)]; done) | (rw [Fl.simp_3c (i := i) (by omega) (by omega) (by omega) (by omega)]; first | rfl | (show q = 3; omega)) | (rw [Fl.simp_45 (i := i) (by omega) h45]; done) | (rw [Fl.simp_6 (i := i) (by omega) (by omega), Fl.le_1 (by omega)]; rfl) | (rw [Fl.simp_6 (i := i) (by omega) (by omega), Fl.le_2 (by omega) (by omega)]; rfl) | (rw [Fl.simp_6 (i := i) (by omega) (by omega), Fl.le_3 (by omega) (by omega) (by omega), Fl.wh4]; done) | (rw [Fl.simp_6 (i := i) (by omega) (by omega), Fl.le_4 (by omega) (by omega) (by omega) (by omega), Fl.wh5]; done) | (rw [Fl.simp_6 (i := i) (by omega) (by omega), Fl.le_5 (by omega) (by omega) (by omega) (by omega)]; first | rfl | (show q = 6; omega)) | (rw [Fl.simp_0 (i := i) (by omega) (by omega) h45.1 h45.2 (by omega)]; rfl) | done))) rfl))))) [] rfl
     ·
      skip
      have h2 := neB hb2
      refine tri_seq ?_
      refine tri_regD hcx [] [37] [6, 1, 2, 3] [606, 602] [] [(37, .bool (((((l.take i).map Fl.simpT).getD 0 tree0).kind) == 3))] [] (by kernel_rfl) ?_ ?_
      ·
       exact az
      refine fin_then ?_
      refine tri_cond (b := (((((l.take i).map Fl.simpT).getD 0 tree0).kind) == 3)) (by kernel_rfl) (fun hb3 => ?_) (fun hb3 => ?_)
      ·
       skip
       have h3 := eq_of_beq hb3
       have hn1 : (((l.take i).map Fl.simpT).getD 0 tree0).l.length = 1 := Fl.sub_not (l := l) (i := i) (by omega) (by omega) hC (by omega)
       refine tri_seq ?_
       refine tri_regD hcx [(602, .to 602)] [] [2] [] [((0 : Int) ≤ 0 ∧ 0 < (((((l.take i).map Fl.simpT).getD 0 tree0).l).length : Int))] [] [(602, .box [.int ((((((l.take i).map Fl.simpT).getD 0 tree0).l).getD 0 tree0).kind), .int ((((((l.take i).map Fl.simpT).getD 0 tree0).l).getD 0 tree0).v), .int ((((((l.take i).map Fl.simpT).getD 0 tree0).l).getD 0 tree0).k), .trees ((((((l.take i).map Fl.simpT).getD 0 tree0).l).getD 0 tree0).l)])] (by kernel_rfl) ?_ ?_
       ·
        refine (ap ?_ az)
        first | omega | exact id | exact vcNot | exact vcG | exact vcH | (intro _; omega) | exact (fun _ h => h) | (intro h; simp at h; omega) | (simp only [List.length_cons, List.length_nil, List.length_append, List.length_map, List.length_set, List.length_replicate]; omega) | (intro h; simp [h]; done) | (have h8 := hsub (by omega); have h7 := hlen (by omega); exact ⟨h7.1, h7.2, by omega, (Fl.may_at _ _).trans (hC _ (by omega)), by omega⟩) | exact ⟨h45, by omega, by omega⟩ | exact ⟨by omega, by omega, by omega⟩ | (constructor <;> omega) | (simp only [List.length_cons, List.length_nil]; omega) | exact True.intro | exact ⟨by omega, hmo, by omega, by omega, by omega⟩ | done
       refine fin_then ?_
       refine tri_ret ?_
       refine fin_block_ret ?_
       refine fin_then_ret ?_
       refine fin_block_ret ?_
       refine fin_then_ret ?_
       exact fin_ret [] rfl rfl trivial hcx (avs := [.agg [.int ((((((l.take i).map Fl.simpT).getD 0 tree0).l).getD 0 tree0).kind), .int ((((((l.take i).map Fl.simpT).getD 0 tree0).l).getD 0 tree0).v), .int ((((((l.take i).map Fl.simpT).getD 0 tree0).l).getD 0 tree0).k), .trees ((((((l.take i).map Fl.simpT).getD 0 tree0).l).getD 0 tree0).l)]]) (by kernel_rfl) (congrArg AV.agg (consE (congrArg AV.int (show (((((l.take i).map Fl.simpT).getD 0 tree0).l).getD 0 tree0).kind = (Fl.simpT (.node q v k l)).kind from (by first | (rw [Fl.simp_3a (i := i) (by omega) (by omega) (by omega)]; rfl) | (rw [Fl.simp_3b (i := i) (by omega) (by omega) (by omega) (by omega)]; done) | (rw [Fl.simp_3c (i := i) (by omega) (by omega) (by omega) (by omega)]; first | rfl | (show q = 3; omega)) | (rw [Fl.simp_45 (i := i) (by omega) h45]; done) | (rw [Fl.simp_6 (i := i) (by omega) (by omega), Fl.le_1 (by omega)]; rfl) | (rw [Fl.simp_6 (i := i) (by omega) (by omega), Fl.le_2 (by omega) (by omega)]; rfl) | (rw [Fl.simp_6 (i := i) (by omega) (by omega), Fl.le_3 (by omega) (by omega) (by omega), Fl.wh4]; done) | (rw [Fl.simp_6 (i := i) (by omega) (by omega), Fl.le_4 (by omega) (by omega) (by omega) (by omega), Fl.wh5]; done) | (rw [Fl.simp_6 (i := i) (by omega) (by omega), Fl.le_5 (by omega) (by omega) (by omega) (by omega)]; first | rfl | (show q = 6; omega)) | (rw [Fl.simp_0 (i := i) (by omega) (by omega) h45.1 h45.2 (by omega)]; rfl) | done))) (consE (congrArg AV.int (show (((((l.take i).map Fl.simpT).getD 0 tree0).l).getD 0 tree0).v = (Fl.simpT (.node q v k l)).v from (by first | (rw [Fl.simp_3a (i := i) (by omega) (by omega) (by omega)]; rfl) | (rw [Fl.simp_3b (i := i) (by omega) (by omega) (by omega) (by omega)]; done) | (rw [Fl.simp_3c (i := i) (by omega) (by omega) (by omega) (by omega)]; first | rfl | (show q = 3; omega)) | (rw [Fl.simp_45 (i := i) (by omega) h45]; done) | (rw [Fl.simp_6 (i := i) (by omega) (by omega), Fl.le_1 (by omega)]; rfl) | (rw [Fl.simp_6 (i := i) (by omega) (by omega), Fl.le_2 (by omega) (by omega)]; rfl) | (rw [Fl.simp_6 (i := i) (by omega) (by omega), Fl.le_3 (by omega) (by omega) (by omega), Fl.wh4]; done) | (rw [Fl.simp_6 (i := i) (by omega) (by omega), Fl.le_4 (by omega) (by omega) (by omega) (by omega), Fl.wh5]; done) | (rw [Fl.simp_6 (i := i) (by omega) (by omega), Fl.le_5 (by omega) (by omega) (by omega) (by omega)]; first | rfl | (show q = 6; omega)) | (rw [Fl.simp_0 (i := i) (by omega) (by omega) h45.1 h45.2 (by omega)]; rfl) | done))) (consE (congrArg AV.int (show (((((l.take i).map Fl.simpT).getD 0 tree0).l).getD 0 tree0).k = (Fl.simpT (.node q v k l)).k from (by first | (rw [Fl.simp_3a (i := i) (by omega) (by omega) (by omega)]; rfl) | (rw [Fl.simp_3b (i := i) (by omega) (by omega) (by omega) (by omega)]; done) | (rw [Fl.simp_3c (i := i) (by omega) (by omega) (by omega) (by omega)]; first | rfl | (show q = 3; omega)) | (rw [Fl.simp_45 (i := i) (by omega) h45]; done) | (rw [Fl.simp_6 (i := i) (by omega) (by omega), Fl.le_1 (by omega)]; rfl) | (rw [Fl.simp_6 (i := i) (by omega) (by omega), Fl.le_2 (by omega) (by omega)]; rfl) | (rw [Fl.simp_6 (i := i) (by omega) (by omega), Fl.le_3 (by omega) (by omega) (by omega), Fl.wh4]; done) | (rw [Fl.simp_6 (i := i) (by omega) (by omega), Fl.le_4 (by omega) (by omega) (by omega) (by omega), Fl.wh5]; done) | (rw [Fl.simp_6 (i := i) (by omega) (by omega), Fl.le_5 (by omega) (by omega) (by omega) (by omega)]; first | rfl | (show q = 6; omega)) | (rw [Fl.simp_0 (i := i) (by omega) (by omega) h45.1 h45.2 (by omega)]; rfl) | done))) (consE (congrArg AV.trees (show (((((l.take i).map Fl.simpT).getD 0 tree0).l).getD 0 tree0).l = (Fl.simpT (.node q v k l)).l from (by first | (rw [Fl.simp_3a (i := i) (by omega) (by omega) (by omega)]; rfl) | (rw [Fl.simp_3b (i := i) (by omega) (by omega) (by omega) (by omega)]; done) | (rw [Fl.simp_3c (i := i) (by omega) (by omega) (by omega) (by omega)]; first | rfl | (show q = 3; omega)) | (rw [Fl.simp_45 (i := i) (by omega) h45]; done) | (rw [Fl.simp_6 (i := i) (by omega) (by omega), Fl.le_1 (by omega)]; rfl) | (rw [Fl.simp_6 (i := i) (by omega) (by omega), Fl.le_2 (by omega) (by omega)]; rfl) | (rw [Fl.simp_6 (i := i) (by omega) (by omega), Fl.le_3 (by omega) (by omega) (by omega), Fl.wh4]; done) | (rw [Fl.simp_6 (i := i) (by omega) (by omega), Fl.le_4 (by omega) (by omega) (by omega) (by omega), Fl.wh5]; done) | (rw [Fl.simp_6 (i := i) (by omega) (by omega), Fl.le_5 (by omega) (by omega) (by omega) (by omega)]; first | rfl | (show q = 6; omega)) | (rw [Fl.simp_0 (i := i) (by omega) (by omega) h45.1 h45.2 (by omega)]; rfl) | done))) rfl))))) [] rfl
      ·
       skip
       have h3 := neB hb3
       refine tri_skip ?_
       refine fin_block ?_
       refine fin_then ?_
       refine tri_seq ?_
       refine tri_regD hcx [(602, .to 602)] [] [2] [] [] [] [(602, .box [.int q, .int 0, .int 0, .trees ((l.take i).map Fl.simpT)])] (by kernel_rfl) ?_ ?_
       ·
        exact az
       refine fin_then ?_
       refine tri_ret ?_
       refine fin_block_ret ?_
       refine fin_then_ret ?_
       exact fin_ret [] rfl rfl trivial hcx (avs := [.agg [.int q, .int 0, .int 0, .trees ((l.take i).map Fl.simpT)]]) (by kernel_rfl) (congrArg AV.agg (consE (congrArg AV.int (show q = (Fl.simpT (.node q v k l)).kind from (by first | (rw [Fl.simp_3a (i := i) (by omega) (by omega) (by omega)]; rfl) | (rw [Fl.simp_3b (i := i) (by omega) (by omega) (by omega) (by omega)]; done) | (rw [Fl.simp_3c (i := i) (by omega) (by omega) (by omega) (by omega)]; first | rfl | (show q = 3; omega)) | (rw [Fl.simp_45 (i := i) (by omega) h45]; done) | (rw [Fl.simp_6 (i := i) (by omega) (by omega), Fl.le_1 (by omega)]; rfl) | (rw [Fl.simp_6 (i := i) (by omega) (by omega), Fl.le_2 (by omega) (by omega)]; rfl) | (rw [Fl.simp_6 (i := i) (by omega) (by omega), Fl.le_3 (by omega) (by omega) (by omega), Fl.wh4]; done) | (rw [Fl.simp_6 (i := i) (by omega) (by omega), Fl.le_4 (by omega) (by omega) (by omega) (by omega), Fl.wh5]; done) | (rw [Fl.simp_6 (i := i) (by omega) (by omega), Fl.le_5 (by omega) (by omega) (by omega) (by omega)]; first | rfl | (show q = 6; omega)) | (rw [Fl.simp_0 (i := i) (by omega) (by omega) h45.1 h45.2 (by omega)]; rfl) | done))) (consE (congrArg AV.int (show 0 = (Fl.simpT (.node q v k l)).v from (by first | (rw [Fl.simp_3a (i := i) (by omega) (by omega) (by omega)]; rfl) | (rw [Fl.simp_3b (i := i) (by omega) (by omega) (by omega) (by omega)]; done) | (rw [Fl.simp_3c (i := i) (by omega) (by omega) (by omega) (by omega)]; first | rfl | (show q = 3; omega)) | (rw [Fl.simp_45 (i := i) (by omega) h45]; done) | (rw [Fl.simp_6 (i := i) (by omega) (by omega), Fl.le_1 (by omega)]; rfl) | (rw [Fl.simp_6 (i := i) (by omega) (by omega), Fl.le_2 (by omega) (by omega)]; rfl) | (rw [Fl.simp_6 (i := i) (by omega) (by omega), Fl.le_3 (by omega) (by omega) (by omega), Fl.wh4]; done) | (rw [Fl.simp_6 (i := i) (by omega) (by omega), Fl.le_4 (by omega) (by omega) (by omega) (by omega), Fl.wh5]; done) | (rw [Fl.simp_6 (i := i) (by omega) (by omega), Fl.le_5 (by omega) (by omega) (by omega) (by omega)]; first | rfl | (show q = 6; omega)) | (rw [Fl.simp_0 (i := i) (by omega) (by omega) h45.1 h45.2 (by omega)]; rfl) | done))) (consE (congrArg AV.int (show 0 = (Fl.simpT (.node q v k l)).k from (by first | (rw [Fl.simp_3a (i := i) (by omega) (by omega) (by omega)]; rfl) | (rw [Fl.simp_3b (i := i) (by omega) (by omega) (by omega) (by omega)]; done) | (rw [Fl.simp_3c (i := i) (by omega) (by omega) (by omega) (by omega)]; first | rfl | (show q = 3; omega)) | (rw [Fl.simp_45 (i := i) (by omega) h45]; done) | (rw [Fl.simp_6 (i := i) (by omega) (by omega), Fl.le_1 (by omega)]; rfl) | (rw [Fl.simp_6 (i := i) (by omega) (by omega), Fl.le_2 (by omega) (by omega)]; rfl) | (rw [Fl.simp_6 (i := i) (by omega) (by omega), Fl.le_3 (by omega) (by omega) (by omega), Fl.wh4]; done) | (rw [Fl.simp_6 (i := i) (by omega) (by omega), Fl.le_4 (by omega) (by omega) (by omega) (by omega), Fl.wh5]; done) | (rw [Fl.simp_6 (i := i) (by omega) (by omega), Fl.le_5 (by omega) (by omega) (by omega) (by omega)]; first | rfl | (show q = 6; omega)) | (rw [Fl.simp_0 (i := i) (by omega) (by omega) h45.1 h45.2 (by omega)]; rfl) | done))) (consE (congrArg AV.trees (show ((l.take i).map Fl.simpT) = (Fl.simpT (.node q v k l)).l from (by first | (rw [Fl.simp_3a (i := i) (by omega) (by omega) (by omega)]; rfl) | (rw [Fl.simp_3b (i := i) (by omega) (by omega) (by omega) (by omega)]; done) | (rw [Fl.simp_3c (i := i) (by omega) (by omega) (by omega) (by omega)]; first | rfl | (show q = 3; omega)) | (rw [Fl.simp_45 (i := i) (by omega) h45]; done) | (rw [Fl.simp_6 (i := i) (by omega) (by omega), Fl.le_1 (by omega)]; rfl) | (rw [Fl.simp_6 (i := i) (by omega) (by omega), Fl.le_2 (by omega) (by omega)]; rfl) | (rw [Fl.simp_6 (i := i) (by omega) (by omega), Fl.le_3 (by omega) (by omega) (by omega), Fl.wh4]; done) | (rw [Fl.simp_6 (i := i) (by omega) (by omega), Fl.le_4 (by omega) (by omega) (by omega) (by omega), Fl.wh5]; done) | (rw [Fl.simp_6 (i := i) (by omega) (by omega), Fl.le_5 (by omega) (by omega) (by omega) (by omega)]; first | rfl | (show q = 6; omega)) | (rw [Fl.simp_0 (i := i) (by omega) (by omega) h45.1 h45.2 (by omega)]; rfl) | done))) rfl))))) [] rfl
    ·
     skip
     have h1 := neB hb1
     refine tri_seq ?_
     refine tri_seq ?_
     refine tri_regD hcx [] [47] [23, 1, 2, 3] [602] [] [(47, .bool (q == 4))] [] (by kernel_rfl) ?_ ?_
     ·
      exact az
     refine fin_then ?_
     refine tri_cond (b := (q == 4)) (by kernel_rfl) (fun hb4 => ?_) (fun hb4 => ?_)
     ·
      skip
      have h4 := eq_of_beq hb4
      have h45 : q = 4 ∨ q = 5 := by omega
      refine tri_skip ?_
      refine fin_then ?_
      refine tri_cond (b := (q == 4)) (by kernel_rfl) (fun hb5 => ?_) (fun hb5 => ?_)
      ·
       skip
       have h5 := eq_of_beq hb5
       have h45 : q = 4 ∨ q = 5 := by omega
       refine tri_seq ?_
       refine tri_regD hcx [(602, .to 602)] [] [2] [] [((q = 4 ∨ q = 5) ∧ ((l.take i).map Fl.simpT).length ≤ 2932031007317 ∧ Fl.sizeL ((l.take i).map Fl.simpT) ≤ 1000000)] [] [(602, .box [.int ((Fl.joinT q (Fl.whole0 q) ((l.take i).map Fl.simpT)).kind), .int ((Fl.joinT q (Fl.whole0 q) ((l.take i).map Fl.simpT)).v), .int ((Fl.joinT q (Fl.whole0 q) ((l.take i).map Fl.simpT)).k), .trees ((Fl.joinT q (Fl.whole0 q) ((l.take i).map Fl.simpT)).l)])] (by kernel_rfl) ?_ ?_
       ·
        refine (ap ?_ az)
        first | omega | exact id | exact vcNot | exact vcG | exact vcH | (intro _; omega) | exact (fun _ h => h) | (intro h; simp at h; omega) | (simp only [List.length_cons, List.length_nil, List.length_append, List.length_map, List.length_set, List.length_replicate]; omega) | (intro h; simp [h]; done) | (have h8 := hsub (by omega); have h7 := hlen (by omega); exact ⟨h7.1, h7.2, by omega, (Fl.may_at _ _).trans (hC _ (by omega)), by omega⟩) | exact ⟨h45, by omega, by omega⟩ | exact ⟨by omega, by omega, by omega⟩ | (constructor <;> omega) | (simp only [List.length_cons, List.length_nil]; omega) | exact True.intro | exact ⟨by omega, hmo, by omega, by omega, by omega⟩ | done
       refine fin_then ?_
       refine tri_ret ?_
       refine fin_block_ret ?_
       refine fin_then_ret ?_
       exact fin_ret [] rfl rfl trivial hcx (avs := [.agg [.int ((Fl.joinT q (Fl.whole0 q) ((l.take i).map Fl.simpT)).kind), .int ((Fl.joinT q (Fl.whole0 q) ((l.take i).map Fl.simpT)).v), .int ((Fl.joinT q (Fl.whole0 q) ((l.take i).map Fl.simpT)).k), .trees ((Fl.joinT q (Fl.whole0 q) ((l.take i).map Fl.simpT)).l)]]) (by kernel_rfl) (congrArg AV.agg (consE (congrArg AV.int (show (Fl.joinT q (Fl.whole0 q) ((l.take i).map Fl.simpT)).kind = (Fl.simpT (.node q v k l)).kind from (by first | (rw [Fl.simp_3a (i := i) (by omega) (by omega) (by omega)]; rfl) | (rw [Fl.simp_3b (i := i) (by omega) (by omega) (by omega) (by omega)]; done) | (rw [Fl.simp_3c (i := i) (by omega) (by omega) (by omega) (by omega)]; first | rfl | (show q = 3; omega)) | (rw [Fl.simp_45 (i := i) (by omega) h45]; done) | (rw [Fl.simp_6 (i := i) (by omega) (by omega), Fl.le_1 (by omega)]; rfl) | (rw [Fl.simp_6 (i := i) (by omega) (by omega), Fl.le_2 (by omega) (by omega)]; rfl) | (rw [Fl.simp_6 (i := i) (by omega) (by omega), Fl.le_3 (by omega) (by omega) (by omega), Fl.wh4]; done) | (rw [Fl.simp_6 (i := i) (by omega) (by omega), Fl.le_4 (by omega) (by omega) (by omega) (by omega), Fl.wh5]; done) | (rw [Fl.simp_6 (i := i) (by omega) (by omega), Fl.le_5 (by omega) (by omega) (by omega) (by omega)]; first | rfl | (show q = 6; omega)) | (rw [Fl.simp_0 (i := i) (by omega) (by omega) h45.1 h45.2 (by omega)]; rfl) | done))) (consE (congrArg AV.int (show (Fl.joinT q (Fl.whole0 q) ((l.take i).map Fl.simpT)).v = (Fl.simpT (.node q v k l)).v from (by first | (rw [Fl.simp_3a (i := i) (by omega) (by omega) (by omega)]; rfl) | (rw [Fl.simp_3b (i := i) (by omega) (by omega) (by omega) (by omega)]; done) | (rw [Fl.simp_3c (i := i) (by omega) (by omega) (by omega) (by omega)]; first | rfl | (show q = 3; omega)) | (rw [Fl.simp_45 (i := i) (by omega) h45]; done) | (rw [Fl.simp_6 (i := i) (by omega) (by omega), Fl.le_1 (by omega)]; rfl) | (rw [Fl.simp_6 (i := i) (by omega) (by omega), Fl.le_2 (by omega) (by omega)]; rfl) | (rw [Fl.simp_6 (i := i) (by omega) (by omega), Fl.le_3 (by omega) (by omega) (by omega), Fl.wh4]; done) | (rw [Fl.simp_6 (i := i) (by omega) (by omega), Fl.le_4 (by omega) (by omega) (by omega) (by omega), Fl.wh5]; done) | (rw [Fl.simp_6 (i := i) (by omega) (by omega), Fl.le_5 (by omega) (by omega) (by omega) (by omega)]; first | rfl | (show q = 6; omega)) | (rw [Fl.simp_0 (i := i) (by omega) (by omega) h45.1 h45.2 (by omega)]; rfl) | done))) (consE (congrArg AV.int (show (Fl.joinT q (Fl.whole0 q) ((l.take i).map Fl.simpT)).k = (Fl.simpT (.node q v k l)).k from (by first | (rw [Fl.simp_3a (i := i) (by omega) (by omega) (by omega)]; rfl) | (rw [Fl.simp_3b (i := i) (by omega) (by omega) (by omega) (by omega)]; done) | (rw [Fl.simp_3c (i := i) (by omega) (by omega) (by omega) (by omega)]; first | rfl | (show q = 3; omega)) | (rw [Fl.simp_45 (i := i) (by omega) h45]; done) | (rw [Fl.simp_6 (i := i) (by omega) (by omega), Fl.le_1 (by omega)]; rfl) | (rw [Fl.simp_6 (i := i) (by omega) (by omega), Fl.le_2 (by omega) (by omega)]; rfl) | (rw [Fl.simp_6 (i := i) (by omega) (by omega), Fl.le_3 (by omega) (by omega) (by omega), Fl.wh4]; done) | (rw [Fl.simp_6 (i := i) (by omega) (by omega), Fl.le_4 (by omega) (by omega) (by omega) (by omega), Fl.wh5]; done) | (rw [Fl.simp_6 (i := i) (by omega) (by omega), Fl.le_5 (by omega) (by omega) (by omega) (by omega)]; first | rfl | (show q = 6; omega)) | (rw [Fl.simp_0 (i := i) (by omega) (by omega) h45.1 h45.2 (by omega)]; rfl) | done))) (consE (congrArg AV.trees (show (Fl.joinT q (Fl.whole0 q) ((l.take i).map Fl.simpT)).l = (Fl.simpT (.node q v k l)).l from (by first | (rw [Fl.simp_3a (i := i) (by omega) (by omega) (by omega)]; rfl) | (rw [Fl.simp_3b (i := i) (by omega) (by omega) (by omega) (by omega)]; done) | (rw [Fl.simp_3c (i := i) (by omega) (by omega) (by omega) (by omega)]; first | rfl | (show q = 3; omega)) | (rw [Fl.simp_45 (i := i) (by omega) h45]; done) | (rw [Fl.simp_6 (i := i) (by omega) (by omega), Fl.le_1 (by omega)]; rfl) | (rw [Fl.simp_6 (i := i) (by omega) (by omega), Fl.le_2 (by omega) (by omega)]; rfl) | (rw [Fl.simp_6 (i := i) (by omega) (by omega), Fl.le_3 (by omega) (by omega) (by omega), Fl.wh4]; done) | (rw [Fl.simp_6 (i := i) (by omega) (by omega), Fl.le_4 (by omega) (by omega) (by omega) (by omega), Fl.wh5]; done) | (rw [Fl.simp_6 (i := i) (by omega) (by omega), Fl.le_5 (by omega) (by omega) (by omega) (by omega)]; first | rfl | (show q = 6; omega)) | (rw [Fl.simp_0 (i := i) (by omega) (by omega) h45.1 h45.2 (by omega)]; rfl) | done))) rfl))))) [] rfl
      ·
       skip
       have h5 := neB hb5
       try (have h45 : ¬ q = 4 ∧ ¬ q = 5 := by constructor <;> omega)
       refine tri_seq ?_
       refine tri_regD hcx [] [54] [1, 2, 3] [602] [] [(54, .bool (q == 6))] [] (by kernel_rfl) ?_ ?_
       ·
        exact az
       refine fin_then ?_
       refine tri_cond (b := (q == 6)) (by kernel_rfl) (fun hb6 => ?_) (fun hb6 => ?_)
       ·
        skip
        have h6 := eq_of_beq hb6
        have h6k := Fl.may_6 hH (by omega)
        refine tri_seq ?_
        refine tri_drawD [0, 1, 0, 4, 12, 31, 63] hcx hmx [] [7] [1, 2, 3] [602] [(((l.take i).map Fl.simpT).length ≤ 2932031007317), Fit (k - ((((l.take i).map Fl.simpT).filter (fun x : Tree => (x.kind == 1) && (x.v == 1))).length : Int))] [(7, .int (k - ((((l.take i).map Fl.simpT).filter (fun x : Tree => (x.kind == 1) && (x.v == 1))).length : Int)))] [] (by kernel_rfl) ?_ ?_
        ·
         refine (ap ?_ (ap ?_ az))
         all_goals
          first | omega | exact id | exact vcNot | exact vcG | exact vcH | (intro _; omega) | exact (fun _ h => h) | (intro h; simp at h; omega) | (simp only [List.length_cons, List.length_nil, List.length_append, List.length_map, List.length_set, List.length_replicate]; omega) | (intro h; simp [h]; done) | (have h8 := hsub (by omega); have h7 := hlen (by omega); exact ⟨h7.1, h7.2, by omega, (Fl.may_at _ _).trans (hC _ (by omega)), by omega⟩) | exact ⟨h45, by omega, by omega⟩ | exact ⟨by omega, by omega, by omega⟩ | (constructor <;> omega) | (simp only [List.length_cons, List.length_nil]; omega) | exact True.intro | exact ⟨by omega, hmo, by omega, by omega, by omega⟩ | done
        refine fin_then ?_
        refine tri_seq ?_
        refine tri_regD hcx [(1001, .frz)] [8] [7, 1, 2] [602] [(((l.take i).map Fl.simpT).length ≤ 2932031007317)] [(8, .trees (Fl.restL ((l.take i).map Fl.simpT)))] [] (by kernel_rfl) ?_ ?_
        ·
         refine (ap ?_ az)
         first | omega | exact id | exact vcNot | exact vcG | exact vcH | (intro _; omega) | exact (fun _ h => h) | (intro h; simp at h; omega) | (simp only [List.length_cons, List.length_nil, List.length_append, List.length_map, List.length_set, List.length_replicate]; omega) | (intro h; simp [h]; done) | (have h8 := hsub (by omega); have h7 := hlen (by omega); exact ⟨h7.1, h7.2, by omega, (Fl.may_at _ _).trans (hC _ (by omega)), by omega⟩) | exact ⟨h45, by omega, by omega⟩ | exact ⟨by omega, by omega, by omega⟩ | (constructor <;> omega) | (simp only [List.length_cons, List.length_nil]; omega) | exact True.intro | exact ⟨by omega, hmo, by omega, by omega, by omega⟩ | done
        refine fin_then ?_
        refine tri_seq ?_
        refine tri_block ?_
        refine tri_seq ?_
        refine tri_regD hcx [] [64] [8, 7, 1, 2] [602] [] [(64, .bool (decide ((k - ((((l.take i).map Fl.simpT).filter (fun x : Tree => (x.kind == 1) && (x.v == 1))).length : Int)) ≤ 0)))] [] (by kernel_rfl) ?_ ?_
        ·
         exact az
        refine fin_then ?_
        refine tri_cond (b := (decide ((k - ((((l.take i).map Fl.simpT).filter (fun x : Tree => (x.kind == 1) && (x.v == 1))).length : Int)) ≤ 0))) (by kernel_rfl) (fun hb7 => ?_) (fun hb7 => ?_)
        ·
         skip
         have h7 := of_decide_eq_true hb7
         refine tri_seq ?_
         refine tri_regD hcx [(602, .to 602)] [] [2] [] [(True)] [] [(602, .box [.int 1, .int (1 : Int), .int 0, .trees []])] (by kernel_rfl) ?_ ?_
         ·
          refine (ap ?_ az)
          first | omega | exact id | exact vcNot | exact vcG | exact vcH | (intro _; omega) | exact (fun _ h => h) | (intro h; simp at h; omega) | (simp only [List.length_cons, List.length_nil, List.length_append, List.length_map, List.length_set, List.length_replicate]; omega) | (intro h; simp [h]; done) | (have h8 := hsub (by omega); have h7 := hlen (by omega); exact ⟨h7.1, h7.2, by omega, (Fl.may_at _ _).trans (hC _ (by omega)), by omega⟩) | exact ⟨h45, by omega, by omega⟩ | exact ⟨by omega, by omega, by omega⟩ | (constructor <;> omega) | (simp only [List.length_cons, List.length_nil]; omega) | exact True.intro | exact ⟨by omega, hmo, by omega, by omega, by omega⟩ | done
         refine fin_then ?_
         refine tri_ret ?_
         refine fin_block_ret ?_
         refine fin_then_ret ?_
         refine fin_block_ret ?_
         refine fin_then_ret ?_
         exact fin_ret [] rfl rfl trivial hcx (avs := [.agg [.int 1, .int (1 : Int), .int 0, .trees []]]) (by kernel_rfl) (congrArg AV.agg (consE (congrArg AV.int (show 1 = (Fl.simpT (.node q v k l)).kind from (by first | (rw [Fl.simp_3a (i := i) (by omega) (by omega) (by omega)]; rfl) | (rw [Fl.simp_3b (i := i) (by omega) (by omega) (by omega) (by omega)]; done) | (rw [Fl.simp_3c (i := i) (by omega) (by omega) (by omega) (by omega)]; first | rfl | (show q = 3; omega)) | (rw [Fl.simp_45 (i := i) (by omega) h45]; done) | (rw [Fl.simp_6 (i := i) (by omega) (by omega), Fl.le_1 (by omega)]; rfl) | (rw [Fl.simp_6 (i := i) (by omega) (by omega), Fl.le_2 (by omega) (by omega)]; rfl) | (rw [Fl.simp_6 (i := i) (by omega) (by omega), Fl.le_3 (by omega) (by omega) (by omega), Fl.wh4]; done) | (rw [Fl.simp_6 (i := i) (by omega) (by omega), Fl.le_4 (by omega) (by omega) (by omega) (by omega), Fl.wh5]; done) | (rw [Fl.simp_6 (i := i) (by omega) (by omega), Fl.le_5 (by omega) (by omega) (by omega) (by omega)]; first | rfl | (show q = 6; omega)) | (rw [Fl.simp_0 (i := i) (by omega) (by omega) h45.1 h45.2 (by omega)]; rfl) | done))) (consE (congrArg AV.int (show (1 : Int) = (Fl.simpT (.node q v k l)).v from (by first | (rw [Fl.simp_3a (i := i) (by omega) (by omega) (by omega)]; rfl) | (rw [Fl.simp_3b (i := i) (by omega) (by omega) (by omega) (by omega)]; done) | (rw [Fl.simp_3c (i := i) (by omega) (by omega) (by omega) (by omega)]; first | rfl | (show q = 3; omega)) | (rw [Fl.simp_45 (i := i) (by omega) h45]; done) | (rw [Fl.simp_6 (i := i) (by omega) (by omega), Fl.le_1 (by omega)]; rfl) | (rw [Fl.simp_6 (i := i) (by omega) (by omega), Fl.le_2 (by omega) (by omega)]; rfl) | (rw [Fl.simp_6 (i := i) (by omega) (by omega), Fl.le_3 (by omega) (by omega) (by omega), Fl.wh4]; done) | (rw [Fl.simp_6 (i := i) (by omega) (by omega), Fl.le_4 (by omega) (by omega) (by omega) (by omega), Fl.wh5]; done) | (rw [Fl.simp_6 (i := i) (by omega) (by omega), Fl.le_5 (by omega) (by omega) (by omega) (by omega)]; first | rfl | (show q = 6; omega)) | (rw [Fl.simp_0 (i := i) (by omega) (by omega) h45.1 h45.2 (by omega)]; rfl) | done))) (consE (congrArg AV.int (show 0 = (Fl.simpT (.node q v k l)).k from (by first | (rw [Fl.simp_3a (i := i) (by omega) (by omega) (by omega)]; rfl) | (rw [Fl.simp_3b (i := i) (by omega) (by omega) (by omega) (by omega)]; done) | (rw [Fl.simp_3c (i := i) (by omega) (by omega) (by omega) (by omega)]; first | rfl | (show q = 3; omega)) | (rw [Fl.simp_45 (i := i) (by omega) h45]; done) | (rw [Fl.simp_6 (i := i) (by omega) (by omega), Fl.le_1 (by omega)]; rfl) | (rw [Fl.simp_6 (i := i) (by omega) (by omega), Fl.le_2 (by omega) (by omega)]; rfl) | (rw [Fl.simp_6 (i := i) (by omega) (by omega), Fl.le_3 (by omega) (by omega) (by omega), Fl.wh4]; done) | (rw [Fl.simp_6 (i := i) (by omega) (by omega), Fl.le_4 (by omega) (by omega) (by omega) (by omega), Fl.wh5]; done) | (rw [Fl.simp_6 (i := i) (by omega) (by omega), Fl.le_5 (by omega) (by omega) (by omega) (by omega)]; first | rfl | (show q = 6; omega)) | (rw [Fl.simp_0 (i := i) (by omega) (by omega) h45.1 h45.2 (by omega)]; rfl) | done))) (consE (congrArg AV.trees (show [] = (Fl.simpT (.node q v k l)).l from (by first | (rw [Fl.simp_3a (i := i) (by omega) (by omega) (by omega)]; rfl) | (rw [Fl.simp_3b (i := i) (by omega) (by omega) (by omega) (by omega)]; done) | (rw [Fl.simp_3c (i := i) (by omega) (by omega) (by omega) (by omega)]; first | rfl | (show q = 3; omega)) | (rw [Fl.simp_45 (i := i) (by omega) h45]; done) | (rw [Fl.simp_6 (i := i) (by omega) (by omega), Fl.le_1 (by omega)]; rfl) | (rw [Fl.simp_6 (i := i) (by omega) (by omega), Fl.le_2 (by omega) (by omega)]; rfl) | (rw [Fl.simp_6 (i := i) (by omega) (by omega), Fl.le_3 (by omega) (by omega) (by omega), Fl.wh4]; done) | (rw [Fl.simp_6 (i := i) (by omega) (by omega), Fl.le_4 (by omega) (by omega) (by omega) (by omega), Fl.wh5]; done) | (rw [Fl.simp_6 (i := i) (by omega) (by omega), Fl.le_5 (by omega) (by omega) (by omega) (by omega)]; first | rfl | (show q = 6; omega)) | (rw [Fl.simp_0 (i := i) (by omega) (by omega) h45.1 h45.2 (by omega)]; rfl) | done))) rfl))))) [] rfl
        ·
         skip
         have h7 := of_decide_eq_false hb7
         refine tri_seq ?_
         refine tri_regD hcx [] [68] [8, 7, 1, 2] [602] [] [(68, .bool (decide ((k - ((((l.take i).map Fl.simpT).filter (fun x : Tree => (x.kind == 1) && (x.v == 1))).length : Int)) > ((Fl.restL ((l.take i).map Fl.simpT)).length : Int))))] [] (by kernel_rfl) ?_ ?_
         ·
          exact az
         refine fin_then ?_
         refine tri_cond (b := (decide ((k - ((((l.take i).map Fl.simpT).filter (fun x : Tree => (x.kind == 1) && (x.v == 1))).length : Int)) > ((Fl.restL ((l.take i).map Fl.simpT)).length : Int)))) (by kernel_rfl) (fun hb8 => ?_) (fun hb8 => ?_)
         ·
          skip
          have h8 := of_decide_eq_true hb8
          refine tri_seq ?_
          refine tri_regD hcx [(602, .to 602)] [] [2] [] [(True)] [] [(602, .box [.int 1, .int (0 : Int), .int 0, .trees []])] (by kernel_rfl) ?_ ?_
          ·
           refine (ap ?_ az)
           first | omega | exact id | exact vcNot | exact vcG | exact vcH | (intro _; omega) | exact (fun _ h => h) | (intro h; simp at h; omega) | (simp only [List.length_cons, List.length_nil, List.length_append, List.length_map, List.length_set, List.length_replicate]; omega) | (intro h; simp [h]; done) | (have h8 := hsub (by omega); have h7 := hlen (by omega); exact ⟨h7.1, h7.2, by omega, (Fl.may_at _ _).trans (hC _ (by omega)), by omega⟩) | exact ⟨h45, by omega, by omega⟩ | exact ⟨by omega, by omega, by omega⟩ | (constructor <;> omega) | (simp only [List.length_cons, List.length_nil]; omega) | exact True.intro | exact ⟨by omega, hmo, by omega, by omega, by omega⟩ | done
          refine fin_then ?_
          refine tri_ret ?_
          refine fin_block_ret ?_
          refine fin_then_ret ?_
          refine fin_block_ret ?_
          refine fin_then_ret ?_
          exact fin_ret [] rfl rfl trivial hcx (avs := [.agg [.int 1, .int (0 : Int), .int 0, .trees []]]) (by kernel_rfl) (congrArg AV.agg (consE (congrArg AV.int (show 1 = (Fl.simpT (.node q v k l)).kind from (by first | (rw [Fl.simp_3a (i := i) (by omega) (by omega) (by omega)]; rfl) | (rw [Fl.simp_3b (i := i) (by omega) (by omega) (by omega) (by omega)]; done) | (rw [Fl.simp_3c (i := i) (by omega) (by omega) (by omega) (by omega)]; first | rfl | (show q = 3; omega)) | (rw [Fl.simp_45 (i := i) (by omega) h45]; done) | (rw [Fl.simp_6 (i := i) (by omega) (by omega), Fl.le_1 (by omega)]; rfl) | (rw [Fl.simp_6 (i := i) (by omega) (by omega), Fl.le_2 (by omega) (by omega)]; rfl) | (rw [Fl.simp_6 (i := i) (by omega) (by omega), Fl.le_3 (by omega) (by omega) (by omega), Fl.wh4]; done) | (rw [Fl.simp_6 (i := i) (by omega) (by omega), Fl.le_4 (by omega) (by omega) (by omega) (by omega), Fl.wh5]; done) | (rw [Fl.simp_6 (i := i) (by omega) (by omega), Fl.le_5 (by omega) (by omega) (by omega) (by omega)]; first | rfl | (show q = 6; omega)) | (rw [Fl.simp_0 (i := i) (by omega) (by omega) h45.1 h45.2 (by omega)]; rfl) | done))) (consE (congrArg AV.int (show (0 : Int) = (Fl.simpT (.node q v k l)).v from (by first | (rw [Fl.simp_3a (i := i) (by omega) (by omega) (by omega)]; rfl) | (rw [Fl.simp_3b (i := i) (by omega) (by omega) (by omega) (by omega)]; done) | (rw [Fl.simp_3c (i := i) (by omega) (by omega) (by omega) (by omega)]; first | rfl | (show q = 3; omega)) | (rw [Fl.simp_45 (i := i) (by omega) h45]; done) | (rw [Fl.simp_6 (i := i) (by omega) (by omega), Fl.le_1 (by omega)]; rfl) | (rw [Fl.simp_6 (i := i) (by omega) (by omega), Fl.le_2 (by omega) (by omega)]; rfl) | (rw [Fl.simp_6 (i := i) (by omega) (by omega), Fl.le_3 (by omega) (by omega) (by omega), Fl.wh4]; done) | (rw [Fl.simp_6 (i := i) (by omega) (by omega), Fl.le_4 (by omega) (by omega) (by omega) (by omega), Fl.wh5]; done) | (rw [Fl.simp_6 (i := i) (by omega) (by omega), Fl.le_5 (by omega) (by omega) (by omega) (by omega)]; first | rfl | (show q = 6; omega)) | (rw [Fl.simp_0 (i := i) (by omega) (by omega) h45.1 h45.2 (by omega)]; rfl) | done))) (consE (congrArg AV.int (show 0 = (Fl.simpT (.node q v k l)).k from (by first | (rw [Fl.simp_3a (i := i) (by omega) (by omega) (by omega)]; rfl) | (rw [Fl.simp_3b (i := i) (by omega) (by omega) (by omega) (by omega)]; done) | (rw [Fl.simp_3c (i := i) (by omega) (by omega) (by omega) (by omega)]; first | rfl | (show q = 3; omega)) | (rw [Fl.simp_45 (i := i) (by omega) h45]; done) | (rw [Fl.simp_6 (i := i) (by omega) (by omega), Fl.le_1 (by omega)]; rfl) | (rw [Fl.simp_6 (i := i) (by omega) (by omega), Fl.le_2 (by omega) (by omega)]; rfl) | (rw [Fl.simp_6 (i := i) (by omega) (by omega), Fl.le_3 (by omega) (by omega) (by omega), Fl.wh4]; done) | (rw [Fl.simp_6 (i := i) (by omega) (by omega), Fl.le_4 (by omega) (by omega) (by omega) (by omega), Fl.wh5]; done) | (rw [Fl.simp_6 (i := i) (by omega) (by omega), Fl.le_5 (by omega) (by omega) (by omega) (by omega)]; first | rfl | (show q = 6; omega)) | (rw [Fl.simp_0 (i := i) (by omega) (by omega) h45.1 h45.2 (by omega)]; rfl) | done))) (consE (congrArg AV.trees (show [] = (Fl.simpT (.node q v k l)).l from (by first | (rw [Fl.simp_3a (i := i) (by omega) (by omega) (by omega)]; rfl) | (rw [Fl.simp_3b (i := i) (by omega) (by omega) (by omega) (by omega)]; done) | (rw [Fl.simp_3c (i := i) (by omega) (by omega) (by omega) (by omega)]; first | rfl | (show q = 3; omega)) | (rw [Fl.simp_45 (i := i) (by omega) h45]; done) | (rw [Fl.simp_6 (i := i) (by omega) (by omega), Fl.le_1 (by omega)]; rfl) | (rw [Fl.simp_6 (i := i) (by omega) (by omega), Fl.le_2 (by omega) (by omega)]; rfl) | (rw [Fl.simp_6 (i := i) (by omega) (by omega), Fl.le_3 (by omega) (by omega) (by omega), Fl.wh4]; done) | (rw [Fl.simp_6 (i := i) (by omega) (by omega), Fl.le_4 (by omega) (by omega) (by omega) (by omega), Fl.wh5]; done) | (rw [Fl.simp_6 (i := i) (by omega) (by omega), Fl.le_5 (by omega) (by omega) (by omega) (by omega)]; first | rfl | (show q = 6; omega)) | (rw [Fl.simp_0 (i := i) (by omega) (by omega) h45.1 h45.2 (by omega)]; rfl) | done))) rfl))))) [] rfl
         ·
          skip
          have h8 := of_decide_eq_false hb8
          refine tri_seq ?_
          refine tri_regD hcx [] [74] [8, 7, 1, 2] [602] [] [(74, .bool ((k - ((((l.take i).map Fl.simpT).filter (fun x : Tree => (x.kind == 1) && (x.v == 1))).length : Int)) == ((Fl.restL ((l.take i).map Fl.simpT)).length : Int)))] [] (by kernel_rfl) ?_ ?_
          ·
           exact az
          refine fin_then ?_
          refine tri_cond (b := ((k - ((((l.take i).map Fl.simpT).filter (fun x : Tree => (x.kind == 1) && (x.v == 1))).length : Int)) == ((Fl.restL ((l.take i).map Fl.simpT)).length : Int))) (by kernel_rfl) (fun hb9 => ?_) (fun hb9 => ?_)
          ·
           skip
           have h9 := eq_of_beq hb9
           refine tri_seq ?_
           refine tri_regD hcx [(602, .to 602)] [] [2] [] [(((4 : Int) = 4 ∨ (4 : Int) = 5) ∧ (Fl.restL ((l.take i).map Fl.simpT)).length ≤ 2932031007317 ∧ Fl.sizeL (Fl.restL ((l.take i).map Fl.simpT)) ≤ 1000000)] [] [(602, .box [.int ((Fl.joinT (4 : Int) (Fl.whole0 (4 : Int)) (Fl.restL ((l.take i).map Fl.simpT))).kind), .int ((Fl.joinT (4 : Int) (Fl.whole0 (4 : Int)) (Fl.restL ((l.take i).map Fl.simpT))).v), .int ((Fl.joinT (4 : Int) (Fl.whole0 (4 : Int)) (Fl.restL ((l.take i).map Fl.simpT))).k), .trees ((Fl.joinT (4 : Int) (Fl.whole0 (4 : Int)) (Fl.restL ((l.take i).map Fl.simpT))).l)])] (by kernel_rfl) ?_ ?_
           ·
            refine (ap ?_ az)
            first | omega | exact id | exact vcNot | exact vcG | exact vcH | (intro _; omega) | exact (fun _ h => h) | (intro h; simp at h; omega) | (simp only [List.length_cons, List.length_nil, List.length_append, List.length_map, List.length_set, List.length_replicate]; omega) | (intro h; simp [h]; done) | (have h8 := hsub (by omega); have h7 := hlen (by omega); exact ⟨h7.1, h7.2, by omega, (Fl.may_at _ _).trans (hC _ (by omega)), by omega⟩) | exact ⟨h45, by omega, by omega⟩ | exact ⟨by omega, by omega, by omega⟩ | (constructor <;> omega) | (simp only [List.length_cons, List.length_nil]; omega) | exact True.intro | exact ⟨by omega, hmo, by omega, by omega, by omega⟩ | done
           refine fin_then ?_
           refine tri_ret ?_
           refine fin_block_ret ?_
           refine fin_then_ret ?_
           refine fin_block_ret ?_
           refine fin_then_ret ?_
           exact fin_ret [] rfl rfl trivial hcx (avs := [.agg [.int ((Fl.joinT (4 : Int) (Fl.whole0 (4 : Int)) (Fl.restL ((l.take i).map Fl.simpT))).kind), .int ((Fl.joinT (4 : Int) (Fl.whole0 (4 : Int)) (Fl.restL ((l.take i).map Fl.simpT))).v), .int ((Fl.joinT (4 : Int) (Fl.whole0 (4 : Int)) (Fl.restL ((l.take i).map Fl.simpT))).k), .trees ((Fl.joinT (4 : Int) (Fl.whole0 (4 : Int)) (Fl.restL ((l.take i).map Fl.simpT))).l)]]) (by kernel_rfl) (congrArg AV.agg (consE (congrArg AV.int (show (Fl.joinT (4 : Int) (Fl.whole0 (4 : Int)) (Fl.restL ((l.take i).map Fl.simpT))).kind = (Fl.simpT (.node q v k l)).kind from (by first | (rw [Fl.simp_3a (i := i) (by omega) (by omega) (by omega)]; rfl) | (rw [Fl.simp_3b (i := i) (by omega) (by omega) (by omega) (by omega)]; done) | (rw [Fl.simp_3c (i := i) (by omega) (by omega) (by omega) (by omega)]; first | rfl | (show q = 3; omega)) | (rw [Fl.simp_45 (i := i) (by omega) h45]; done) | (rw [Fl.simp_6 (i := i) (by omega) (by omega), Fl.le_1 (by omega)]; rfl) | (rw [Fl.simp_6 (i := i) (by omega) (by omega), Fl.le_2 (by omega) (by omega)]; rfl) | (rw [Fl.simp_6 (i := i) (by omega) (by omega), Fl.le_3 (by omega) (by omega) (by omega), Fl.wh4]; done) | (rw [Fl.simp_6 (i := i) (by omega) (by omega), Fl.le_4 (by omega) (by omega) (by omega) (by omega), Fl.wh5]; done) | (rw [Fl.simp_6 (i := i) (by omega) (by omega), Fl.le_5 (by omega) (by omega) (by omega) (by omega)]; first | rfl | (show q = 6; omega)) | (rw [Fl.simp_0 (i := i) (by omega) (by omega) h45.1 h45.2 (by omega)]; rfl) | done))) (consE (congrArg AV.int (show (Fl.joinT (4 : Int) (Fl.whole0 (4 : Int)) (Fl.restL ((l.take i).map Fl.simpT))).v = (Fl.simpT (.node q v k l)).v from (by first | (rw [Fl.simp_3a (i := i) (by omega) (by omega) (by omega)]; rfl) | (rw [Fl.simp_3b (i := i) (by omega) (by omega) (by omega) (by omega)]; done) | (rw [Fl.simp_3c (i := i) (by omega) (by omega) (by omega) (by omega)]; first | rfl | (show q = 3; omega)) | (rw [Fl.simp_45 (i := i) (by omega) h45]; done) | (rw [Fl.simp_6 (i := i) (by omega) (by omega), Fl.le_1 (by omega)]; rfl) | (rw [Fl.simp_6 (i := i) (by omega) (by omega), Fl.le_2 (by omega) (by omega)]; rfl) | (rw [Fl.simp_6 (i := i) (by omega) (by omega), Fl.le_3 (by omega) (by omega) (by omega), Fl.wh4]; done) | (rw [Fl.simp_6 (i := i) (by omega) (by omega), Fl.le_4 (by omega) (by omega) (by omega) (by omega), Fl.wh5]; done) | (rw [Fl.simp_6 (i := i) (by omega) (by omega), Fl.le_5 (by omega) (by omega) (by omega) (by omega)]; first | rfl | (show q = 6; omega)) | (rw [Fl.simp_0 (i := i) (by omega) (by omega) h45.1 h45.2 (by omega)]; rfl) | done))) (consE (congrArg AV.int (show (Fl.joinT (4 : Int) (Fl.whole0 (4 : Int)) (Fl.restL ((l.take i).map Fl.simpT))).k = (Fl.simpT (.node q v k l)).k from (by first | (rw [Fl.simp_3a (i := i) (by omega) (by omega) (by omega)]; rfl) | (rw [Fl.simp_3b (i := i) (by omega) (by omega) (by omega) (by omega)]; done) | (rw [Fl.simp_3c (i := i) (by omega) (by omega) (by omega) (by omega)]; first | rfl | (show q = 3; omega)) | (rw [Fl.simp_45 (i := i) (by omega) h45]; done) | (rw [Fl.simp_6 (i := i) (by omega) (by omega), Fl.le_1 (by omega)]; rfl) | (rw [Fl.simp_6 (i := i) (by omega) (by omega), Fl.le_2 (by omega) (by omega)]; rfl) | (rw [Fl.simp_6 (i := i) (by omega) (by omega), Fl.le_3 (by omega) (by omega) (by omega), Fl.wh4]; done) | (rw [Fl.simp_6 (i := i) (by omega) (by omega), Fl.le_4 (by omega) (by omega) (by omega) (by omega), Fl.wh5]; done) | (rw [Fl.simp_6 (i := i) (by omega) (by omega), Fl.le_5 (by omega) (by omega) (by omega) (by omega)]; first | rfl | (show q = 6; omega)) | (rw [Fl.simp_0 (i := i) (by omega) (by omega) h45.1 h45.2 (by omega)]; rfl) | done))) (consE (congrArg AV.trees (show (Fl.joinT (4 : Int) (Fl.whole0 (4 : Int)) (Fl.restL ((l.take i).map Fl.simpT))).l = (Fl.simpT (.node q v k l)).l from (by first | (rw [Fl.simp_3a (i := i) (by omega) (by omega) (by omega)]; rfl) | (rw [Fl.simp_3b (i := i) (by omega) (by omega) (by omega) (by omega)]; done) | (rw [Fl.simp_3c (i := i) (by omega) (by omega) (by omega) (by omega)]; first | rfl | (show q = 3; omega)) | (rw [Fl.simp_45 (i := i) (by omega) h45]; done) | (rw [Fl.simp_6 (i := i) (by omega) (by omega), Fl.le_1 (by omega)]; rfl) | (rw [Fl.simp_6 (i := i) (by omega) (by omega), Fl.le_2 (by omega) (by omega)]; rfl) | (rw [Fl.simp_6 (i := i) (by omega) (by omega), Fl.le_3 (by omega) (by omega) (by omega), Fl.wh4]; done) | (rw [Fl.simp_6 (i := i) (by omega) (by omega), Fl.le_4 (by omega) (by omega) (by omega) (by omega), Fl.wh5]; done) | (rw [Fl.simp_6 (i := i) (by omega) (by omega), Fl.le_5 (by omega) (by omega) (by omega) (by omega)]; first | rfl | (show q = 6; omega)) | (rw [Fl.simp_0 (i := i) (by omega) (by omega) h45.1 h45.2 (by omega)]; rfl) | done))) rfl))))) [] rfl
          ·
           skip
           have h9 := neB hb9
           refine tri_seq ?_
           refine tri_regD hcx [] [81] [8, 7, 1, 2] [602] [] [(81, .bool ((k - ((((l.take i).map Fl.simpT).filter (fun x : Tree => (x.kind == 1) && (x.v == 1))).length : Int)) == 1))] [] (by kernel_rfl) ?_ ?_
           ·
            exact az
           refine fin_then ?_
           refine tri_cond (b := ((k - ((((l.take i).map Fl.simpT).filter (fun x : Tree => (x.kind == 1) && (x.v == 1))).length : Int)) == 1)) (by kernel_rfl) (fun hb10 => ?_) (fun hb10 => ?_)
           ·
            skip
            have h10 := eq_of_beq hb10
            refine tri_seq ?_
            refine tri_regD hcx [(602, .to 602)] [] [2] [] [(((5 : Int) = 4 ∨ (5 : Int) = 5) ∧ (Fl.restL ((l.take i).map Fl.simpT)).length ≤ 2932031007317 ∧ Fl.sizeL (Fl.restL ((l.take i).map Fl.simpT)) ≤ 1000000)] [] [(602, .box [.int ((Fl.joinT (5 : Int) (Fl.whole0 (5 : Int)) (Fl.restL ((l.take i).map Fl.simpT))).kind), .int ((Fl.joinT (5 : Int) (Fl.whole0 (5 : Int)) (Fl.restL ((l.take i).map Fl.simpT))).v), .int ((Fl.joinT (5 : Int) (Fl.whole0 (5 : Int)) (Fl.restL ((l.take i).map Fl.simpT))).k), .trees ((Fl.joinT (5 : Int) (Fl.whole0 (5 : Int)) (Fl.restL ((l.take i).map Fl.simpT))).l)])] (by kernel_rfl) ?_ ?_
            ·
             refine (ap ?_ az)
             first | omega | exact id | exact vcNot | exact vcG | exact vcH | (intro _; omega) | exact (fun _ h => h) | (intro h; simp at h; omega) | (simp only [List.length_cons, List.length_nil, List.length_append, List.length_map, List.length_set, List.length_replicate]; omega) | (intro h; simp [h]; done) | (have h8 := hsub (by omega); have h7 := hlen (by omega); exact ⟨h7.1, h7.2, by omega, (Fl.may_at _ _).trans (hC _ (by omega)), by omega⟩) | exact ⟨h45, by omega, by omega⟩ | exact ⟨by omega, by omega, by omega⟩ | (constructor <;> omega) | (simp only [List.length_cons, List.length_nil]; omega) | exact True.intro | exact ⟨by omega, hmo, by omega, by omega, by omega⟩ | done
            refine fin_then ?_
            refine tri_ret ?_
            refine fin_block_ret ?_
            refine fin_then_ret ?_
            refine fin_block_ret ?_
            refine fin_then_ret ?_
            exact fin_ret [] rfl rfl trivial hcx (avs := [.agg [.int ((Fl.joinT (5 : Int) (Fl.whole0 (5 : Int)) (Fl.restL ((l.take i).map Fl.simpT))).kind), .int ((Fl.joinT (5 : Int) (Fl.whole0 (5 : Int)) (Fl.restL ((l.take i).map Fl.simpT))).v), .int ((Fl.joinT (5 : Int) (Fl.whole0 (5 : Int)) (Fl.restL ((l.take i).map Fl.simpT))).k), .trees ((Fl.joinT (5 : Int) (Fl.whole0 (5 : Int)) (Fl.restL ((l.take i).map Fl.simpT))).l)]]) (by kernel_rfl) (congrArg AV.agg (consE (congrArg AV.int (show (Fl.joinT (5 : Int) (Fl.whole0 (5 : Int)) (Fl.restL ((l.take i).map Fl.simpT))).kind = (Fl.simpT (.node q v k l)).kind from (by first | (rw [Fl.simp_3a (i := i) (by omega) (by omega) (by omega)]; rfl) | (rw [Fl.simp_3b (i := i) (by omega) (by omega) (by omega) (by omega)]; done) | (rw [Fl.simp_3c (i := i) (by omega) (by omega) (by omega) (by omega)]; first | rfl | (show q = 3; omega)) | (rw [Fl.simp_45 (i := i) (by omega) h45]; done) | (rw [Fl.simp_6 (i := i) (by omega) (by omega), Fl.le_1 (by omega)]; rfl) | (rw [Fl.simp_6 (i := i) (by omega) (by omega), Fl.le_2 (by omega) (by omega)]; rfl) | (rw [Fl.simp_6 (i := i) (by omega) (by omega), Fl.le_3 (by omega) (by omega) (by omega), Fl.wh4]; done) | (rw [Fl.simp_6 (i := i) (by omega) (by omega), Fl.le_4 (by omega) (by omega) (by omega) (by omega), Fl.wh5]; done) | (rw [Fl.simp_6 (i := i) (by omega) (by omega), Fl.le_5 (by omega) (by omega) (by omega) (by omega)]; first | rfl | (show q = 6; omega)) | (rw [Fl.simp_0 (i := i) (by omega) (by omega) h45.1 h45.2 (by omega)]; rfl) | done))) (consE (congrArg AV.int (show (Fl.joinT (5 : Int) (Fl.whole0 (5 : Int)) (Fl.restL ((l.take i).map Fl.simpT))).v = (Fl.simpT (.node q v k l)).v from (by first | (rw [Fl.simp_3a (i := i) (by omega) (by omega) (by omega)]; rfl) | (rw [Fl.simp_3b (i := i) (by omega) (by omega) (by omega) (by omega)]; done) | (rw [Fl.simp_3c (i := i) (by omega) (by omega) (by omega) (by omega)]; first | rfl | (show q = 3; omega)) | (rw [Fl.simp_45 (i := i) (by omega) h45]; done) | (rw [Fl.simp_6 (i := i) (by omega) (by omega), Fl.le_1 (by omega)]; rfl) | (rw [Fl.simp_6 (i := i) (by omega) (by omega), Fl.le_2 (by omega) (by omega)]; rfl) | (rw [Fl.simp_6 (i := i) (by omega) (by omega), Fl.le_3 (by omega) (by omega) (by omega), Fl.wh4]; done) | (rw [Fl.simp_6 (i := i) (by omega) (by omega), Fl.le_4 (by omega) (by omega) (by omega) (by omega), Fl.wh5]; done) | (rw [Fl.simp_6 (i := i) (by omega) (by omega), Fl.le_5 (by omega) (by omega) (by omega) (by omega)]; first | rfl | (show q = 6; omega)) | (rw [Fl.simp_0 (i := i) (by omega) (by omega) h45.1 h45.2 (by omega)]; rfl) | done))) (consE (congrArg AV.int (show (Fl.joinT (5 : Int) (Fl.whole0 (5 : Int)) (Fl.restL ((l.take i).map Fl.simpT))).k = (Fl.simpT (.node q v k l)).k from (by first | (rw [Fl.simp_3a (i := i) (by omega) (by omega) (by omega)]; rfl) | (rw [Fl.simp_3b (i := i) (by omega) (by omega) (by omega) (by omega)]; done) | (rw [Fl.simp_3c (i := i) (by omega) (by omega) (by omega) (by omega)]; first | rfl | (show q = 3; omega)) | (rw [Fl.simp_45 (i := i) (by omega) h45]; done) | (rw [Fl.simp_6 (i := i) (by omega) (by omega), Fl.le_1 (by omega)]; rfl) | (rw [Fl.simp_6 (i := i) (by omega) (by omega), Fl.le_2 (by omega) (by omega)]; rfl) | (rw [Fl.simp_6 (i := i) (by omega) (by omega), Fl.le_3 (by omega) (by omega) (by omega), Fl.wh4]; done) | (rw [Fl.simp_6 (i := i) (by omega) (by omega), Fl.le_4 (by omega) (by omega) (by omega) (by omega), Fl.wh5]; done) | (rw [Fl.simp_6 (i := i) (by omega) (by omega), Fl.le_5 (by omega) (by omega) (by omega) (by omega)]; first | rfl | (show q = 6; omega)) | (rw [Fl.simp_0 (i := i) (by omega) (by omega) h45.1 h45.2 (by omega)]; rfl) | done))) (consE (congrArg AV.trees (show (Fl.joinT (5 : Int) (Fl.whole0 (5 : Int)) (Fl.restL ((l.take i).map Fl.simpT))).l = (Fl.simpT (.node q v k l)).l from (by first | (rw [Fl.simp_3a (i := i) (by omega) (by omega) (by omega)]; rfl) | (rw [Fl.simp_3b (i := i) (by omega) (by omega) (by omega) (by omega)]; done) | (rw [Fl.simp_3c (i := i) (by omega) (by omega) (by omega) (by omega)]; first | rfl | (show q = 3; omega)) | (rw [Fl.simp_45 (i := i) (by omega) h45]; done) | (rw [Fl.simp_6 (i := i) (by omega) (by omega), Fl.le_1 (by omega)]; rfl) | (rw [Fl.simp_6 (i := i) (by omega) (by omega), Fl.le_2 (by omega) (by omega)]; rfl) | (rw [Fl.simp_6 (i := i) (by omega) (by omega), Fl.le_3 (by omega) (by omega) (by omega), Fl.wh4]; done) | (rw [Fl.simp_6 (i := i) (by omega) (by omega), Fl.le_4 (by omega) (by omega) (by omega) (by omega), Fl.wh5]; done) | (rw [Fl.simp_6 (i := i) (by omega) (by omega), Fl.le_5 (by omega) (by omega) (by omega) (by omega)]; first | rfl | (show q = 6; omega)) | (rw [Fl.simp_0 (i := i) (by omega) (by omega) h45.1 h45.2 (by omega)]; rfl) | done))) rfl))))) [] rfl
           ·
            skip
            have h10 := neB hb10
            refine tri_skip ?_
            refine fin_block ?_
            refine fin_then ?_
            refine tri_seq ?_
            refine tri_regD hcx [(602, .to 602)] [] [2] [] [] [] [(602, .box [.int q, .int 0, .int (k - ((((l.take i).map Fl.simpT).filter (fun x : Tree => (x.kind == 1) && (x.v == 1))).length : Int)), .trees (Fl.restL ((l.take i).map Fl.simpT))])] (by kernel_rfl) ?_ ?_
            ·
             exact az
            refine fin_then ?_
            refine tri_ret ?_
            refine fin_block_ret ?_
            refine fin_then_ret ?_
            exact fin_ret [] rfl rfl trivial hcx (avs := [.agg [.int q, .int 0, .int (k - ((((l.take i).map Fl.simpT).filter (fun x : Tree => (x.kind == 1) && (x.v == 1))).length : Int)), .trees (Fl.restL ((l.take i).map Fl.simpT))]]) (by kernel_rfl) (congrArg AV.agg (consE (congrArg AV.int (show q = (Fl.simpT (.node q v k l)).kind from (by first | (rw [Fl.simp_3a (i := i) (by omega) (by omega) (by omega)]; rfl) | (rw [Fl.simp_3b (i := i) (by omega) (by omega) (by omega) (by omega)]; done) | (rw [Fl.simp_3c (i := i) (by omega) (by omega) (by omega) (by omega)]; first | rfl | (show q = 3; omega)) | (rw [Fl.simp_45 (i := i) (by omega) h45]; done) | (rw [Fl.simp_6 (i := i) (by omega) (by omega), Fl.le_1 (by omega)]; rfl) | (rw [Fl.simp_6 (i := i) (by omega) (by omega), Fl.le_2 (by omega) (by omega)]; rfl) | (rw [Fl.simp_6 (i := i) (by omega) (by omega), Fl.le_3 (by omega) (by omega) (by omega), Fl.wh4]; done) | (rw [Fl.simp_6 (i := i) (by omega) (by omega), Fl.le_4 (by omega) (by omega) (by omega) (by omega), Fl.wh5]; done) | (rw [Fl.simp_6 (i := i) (by omega) (by omega), Fl.le_5 (by omega) (by omega) (by omega) (by omega)]; first | rfl | (show q = 6; omega)) | (rw [Fl.simp_0 (i := i) (by omega) (by omega) h45.1 h45.2 (by omega)]; rfl) | done))) (consE (congrArg AV.int (show 0 = (Fl.simpT (.node q v k l)).v from (by first | (rw [Fl.simp_3a (i := i) (by omega) (by omega) (by omega)]; rfl) | (rw [Fl.simp_3b (i := i) (by omega) (by omega) (by omega) (by omega)]; done) | (rw [Fl.simp_3c (i := i) (by omega) (by omega) (by omega) (by omega)]; first | rfl | (show q = 3; omega)) | (rw [Fl.simp_45 (i := i) (by omega) h45]; done) | (rw [Fl.simp_6 (i := i) (by omega) (by omega), Fl.le_1 (by omega)]; rfl) | (rw [Fl.simp_6 (i := i) (by omega) (by omega), Fl.le_2 (by omega) (by omega)]; rfl) | (rw [Fl.simp_6 (i := i) (by omega) (by omega), Fl.le_3 (by omega) (by omega) (by omega), Fl.wh4]; done) | (rw [Fl.simp_6 (i := i) (by omega) (by omega), Fl.le_4 (by omega) (by omega) (by omega) (by omega), Fl.wh5]; done) | (rw [Fl.simp_6 (i := i) (by omega) (by omega), Fl.le_5 (by omega) (by omega) (by omega) (by omega)]; first | rfl | (show q = 6; omega)) | (rw [Fl.simp_0 (i := i) (by omega) (by omega) h45.1 h45.2 (by omega)]; rfl) | done))) (consE (congrArg AV.int (show (k - ((((l.take i).map Fl.simpT).filter (fun x : Tree => (x.kind == 1) && (x.v == 1))).length : Int)) = (Fl.simpT (.node q v k l)).k from (by first | (rw [Fl.simp_3a (i := i) (by omega) (by omega) (by omega)]; rfl) | (rw [Fl.simp_3b (i := i) (by omega) (by omega) (by omega) (by omega)]; done) | (rw [Fl.simp_3c (i := i) (by omega) (by omega) (by omega) (by omega)]; first | rfl | (show q = 3; omega)) | (rw [Fl.simp_45 (i := i) (by omega) h45]; done) | (rw [Fl.simp_6 (i := i) (by omega) (by omega), Fl.le_1 (by omega)]; rfl) | (rw [Fl.simp_6 (i := i) (by omega) (by omega), Fl.le_2 (by omega) (by omega)]; rfl) | (rw [Fl.simp_6 (i := i) (by omega) (by omega), Fl.le_3 (by omega) (by omega) (by omega), Fl.wh4]; done) | (rw [Fl.simp_6 (i := i) (by omega) (by omega), Fl.le_4 (by omega) (by omega) (by omega) (by omega), Fl.wh5]; done) | (rw [Fl.simp_6 (i := i) (by omega) (by omega), Fl.le_5 (by omega) (by omega) (by omega) (by omega)]; first | rfl | (show q = 6; omega)) | (rw [Fl.simp_0 (i := i) (by omega) (by omega) h45.1 h45.2 (by omega)]; rfl) | done))) (consE (congrArg AV.trees (show (Fl.restL ((l.take i).map Fl.simpT)) = (Fl.simpT (.node q v k l)).l from (by first | (rw [Fl.simp_3a (i := i) (by omega) (by omega) (by omega)]; rfl) | (rw [Fl.simp_3b (i := i) (by omega) (by omega) (by omega) (by omega)]; done) | (rw [Fl.simp_3c (i := i) (by omega) (by omega) (by omega) (by omega)]; first | rfl | (show q = 3; omega)) | (rw [Fl.simp_45 (i := i) (by omega) h45]; done) | (rw [Fl.simp_6 (i := i) (by omega) (by omega), Fl.le_1 (by omega)]; rfl) | (rw [Fl.simp_6 (i := i) (by omega) (by omega), Fl.le_2 (by omega) (by omega)]; rfl) | (rw [Fl.simp_6 (i := i) (by omega) (by omega), Fl.le_3 (by omega) (by omega) (by omega), Fl.wh4]; done) | (rw [Fl.simp_6 (i := i) (by omega) (by omega), Fl.le_4 (by omega) (by omega) (by omega) (by omega), Fl.wh5]; done) | (rw [Fl.simp_6 (i := i) (by omega) (by omega), Fl.le_5 (by omega) (by omega) (by omega) (by omega)]; first | rfl | (show q = 6; omega)) | (rw [Fl.simp_0 (i := i) (by omega) (by omega) h45.1 h45.2 (by omega)]; rfl) | done))) rfl))))) [] rfl
       ·
        skip
        have h6 := neB hb6
        refine tri_skip ?_
        refine fin_block ?_
        refine fin_then ?_
        refine tri_seq ?_
        refine tri_regD hcx [(602, .to 602)] [] [2] [] [] [] [(602, .box [.int q, .int v, .int k, .trees l])] (by kernel_rfl) ?_ ?_
        ·
         exact az
        refine fin_then ?_
        refine tri_ret ?_
        exact fin_ret [] rfl rfl trivial hcx (avs := [.agg [.int q, .int v, .int k, .trees l]]) (by kernel_rfl) (congrArg AV.agg (consE (congrArg AV.int (show q = (Fl.simpT (.node q v k l)).kind from (by first | (rw [Fl.simp_3a (i := i) (by omega) (by omega) (by omega)]; rfl) | (rw [Fl.simp_3b (i := i) (by omega) (by omega) (by omega) (by omega)]; done) | (rw [Fl.simp_3c (i := i) (by omega) (by omega) (by omega) (by omega)]; first | rfl | (show q = 3; omega)) | (rw [Fl.simp_45 (i := i) (by omega) h45]; done) | (rw [Fl.simp_6 (i := i) (by omega) (by omega), Fl.le_1 (by omega)]; rfl) | (rw [Fl.simp_6 (i := i) (by omega) (by omega), Fl.le_2 (by omega) (by omega)]; rfl) | (rw [Fl.simp_6 (i := i) (by omega) (by omega), Fl.le_3 (by omega) (by omega) (by omega), Fl.wh4]; done) | (rw [Fl.simp_6 (i := i) (by omega) (by omega), Fl.le_4 (by omega) (by omega) (by omega) (by omega), Fl.wh5]; done) | (rw [Fl.simp_6 (i := i) (by omega) (by omega), Fl.le_5 (by omega) (by omega) (by omega) (by omega)]; first | rfl | (show q = 6; omega)) | (rw [Fl.simp_0 (i := i) (by omega) (by omega) h45.1 h45.2 (by omega)]; rfl) | done))) (consE (congrArg AV.int (show v = (Fl.simpT (.node q v k l)).v from (by first | (rw [Fl.simp_3a (i := i) (by omega) (by omega) (by omega)]; rfl) | (rw [Fl.simp_3b (i := i) (by omega) (by omega) (by omega) (by omega)]; done) | (rw [Fl.simp_3c (i := i) (by omega) (by omega) (by omega) (by omega)]; first | rfl | (show q = 3; omega)) | (rw [Fl.simp_45 (i := i) (by omega) h45]; done) | (rw [Fl.simp_6 (i := i) (by omega) (by omega), Fl.le_1 (by omega)]; rfl) | (rw [Fl.simp_6 (i := i) (by omega) (by omega), Fl.le_2 (by omega) (by omega)]; rfl) | (rw [Fl.simp_6 (i := i) (by omega) (by omega), Fl.le_3 (by omega) (by omega) (by omega), Fl.wh4]; done) | (rw [Fl.simp_6 (i := i) (by omega) (by omega), Fl.le_4 (by omega) (by omega) (by omega) (by omega), Fl.wh5]; done) | (rw [Fl.simp_6 (i := i) (by omega) (by omega), Fl.le_5 (by omega) (by omega) (by omega) (by omega)]; first | rfl | (show q = 6; omega)) | (rw [Fl.simp_0 (i := i) (by omega) (by omega) h45.1 h45.2 (by omega)]; rfl) | done))) (consE (congrArg AV.int (show k = (Fl.simpT (.node q v k l)).k from (by first | (rw [Fl.simp_3a (i := i) (by omega) (by omega) (by omega)]; rfl) | (rw [Fl.simp_3b (i := i) (by omega) (by omega) (by omega) (by omega)]; done) | (rw [Fl.simp_3c (i := i) (by omega) (by omega) (by omega) (by omega)]; first | rfl | (show q = 3; omega)) | (rw [Fl.simp_45 (i := i) (by omega) h45]; done) | (rw [Fl.simp_6 (i := i) (by omega) (by omega), Fl.le_1 (by omega)]; rfl) | (rw [Fl.simp_6 (i := i) (by omega) (by omega), Fl.le_2 (by omega) (by omega)]; rfl) | (rw [Fl.simp_6 (i := i) (by omega) (by omega), Fl.le_3 (by omega) (by omega) (by omega), Fl.wh4]; done) | (rw [Fl.simp_6 (i := i) (by omega) (by omega), Fl.le_4 (by omega) (by omega) (by omega) (by omega), Fl.wh5]; done) | (rw [Fl.simp_6 (i := i) (by omega) (by omega), Fl.le_5 (by omega) (by omega) (by omega) (by omega)]; first | rfl | (show q = 6; omega)) | (rw [Fl.simp_0 (i := i) (by omega) (by omega) h45.1 h45.2 (by omega)]; rfl) | done))) (consE (congrArg AV.trees (show l = (Fl.simpT (.node q v k l)).l from (by first | (rw [Fl.simp_3a (i := i) (by omega) (by omega) (by omega)]; rfl) | (rw [Fl.simp_3b (i := i) (by omega) (by omega) (by omega) (by omega)]; done) | (rw [Fl.simp_3c (i := i) (by omega) (by omega) (by omega) (by omega)]; first | rfl | (show q = 3; omega)) | (rw [Fl.simp_45 (i := i) (by omega) h45]; done) | (rw [Fl.simp_6 (i := i) (by omega) (by omega), Fl.le_1 (by omega)]; rfl) | (rw [Fl.simp_6 (i := i) (by omega) (by omega), Fl.le_2 (by omega) (by omega)]; rfl) | (rw [Fl.simp_6 (i := i) (by omega) (by omega), Fl.le_3 (by omega) (by omega) (by omega), Fl.wh4]; done) | (rw [Fl.simp_6 (i := i) (by omega) (by omega), Fl.le_4 (by omega) (by omega) (by omega) (by omega), Fl.wh5]; done) | (rw [Fl.simp_6 (i := i) (by omega) (by omega), Fl.le_5 (by omega) (by omega) (by omega) (by omega)]; first | rfl | (show q = 6; omega)) | (rw [Fl.simp_0 (i := i) (by omega) (by omega) h45.1 h45.2 (by omega)]; rfl) | done))) rfl))))) [] rfl
     ·
      skip
      have h4 := neB hb4
      try (have h45 : ¬ q = 4 ∧ ¬ q = 5 := by constructor <;> omega)
      refine tri_regD hcx [] [47] [23, 1, 2, 3] [602] [] [(47, .bool (q == 5))] [] (by kernel_rfl) ?_ ?_
      ·
       exact az
      refine fin_then ?_
      refine tri_cond (b := (q == 5)) (by kernel_rfl) (fun hb11 => ?_) (fun hb11 => ?_)
      ·
       skip
       have h11 := eq_of_beq hb11
       have h45 : q = 4 ∨ q = 5 := by omega
       refine tri_seq ?_
       refine tri_regD hcx [(602, .to 602)] [] [2] [] [((q = 4 ∨ q = 5) ∧ ((l.take i).map Fl.simpT).length ≤ 2932031007317 ∧ Fl.sizeL ((l.take i).map Fl.simpT) ≤ 1000000)] [] [(602, .box [.int ((Fl.joinT q (Fl.whole0 q) ((l.take i).map Fl.simpT)).kind), .int ((Fl.joinT q (Fl.whole0 q) ((l.take i).map Fl.simpT)).v), .int ((Fl.joinT q (Fl.whole0 q) ((l.take i).map Fl.simpT)).k), .trees ((Fl.joinT q (Fl.whole0 q) ((l.take i).map Fl.simpT)).l)])] (by kernel_rfl) ?_ ?_
       ·
        refine (ap ?_ az)
        first | omega | exact id | exact vcNot | exact vcG | exact vcH | (intro _; omega) | exact (fun _ h => h) | (intro h; simp at h; omega) | (simp only [List.length_cons, List.length_nil, List.length_append, List.length_map, List.length_set, List.length_replicate]; omega) | (intro h; simp [h]; done) | (have h8 := hsub (by omega); have h7 := hlen (by omega); exact ⟨h7.1, h7.2, by omega, (Fl.may_at _ _).trans (hC _ (by omega)), by omega⟩) | exact ⟨h45, by omega, by omega⟩ | exact ⟨by omega, by omega, by omega⟩ | (constructor <;> omega) | (simp only [List.length_cons, List.length_nil]; omega) | exact True.intro | exact ⟨by omega, hmo, by omega, by omega, by omega⟩ | done
       refine fin_then ?_
       refine tri_ret ?_
       refine fin_block_ret ?_
       refine fin_then_ret ?_
       exact fin_ret [] rfl rfl trivial hcx (avs := [.agg [.int ((Fl.joinT q (Fl.whole0 q) ((l.take i).map Fl.simpT)).kind), .int ((Fl.joinT q (Fl.whole0 q) ((l.take i).map Fl.simpT)).v), .int ((Fl.joinT q (Fl.whole0 q) ((l.take i).map Fl.simpT)).k), .trees ((Fl.joinT q (Fl.whole0 q) ((l.take i).map Fl.simpT)).l)]]) (by kernel_rfl) (congrArg AV.agg (consE (congrArg AV.int (show (Fl.joinT q (Fl.whole0 q) ((l.take i).map Fl.simpT)).kind = (Fl.simpT (.node q v k l)).kind from (by first | (rw [Fl.simp_3a (i := i) (by omega) (by omega) (by omega)]; rfl) | (rw [Fl.simp_3b (i := i) (by omega) (by omega) (by omega) (by omega)]; done) | (rw [Fl.simp_3c (i := i) (by omega) (by omega) (by omega) (by omega)]; first | rfl | (show q = 3; omega)) | (rw [Fl.simp_45 (i := i) (by omega) h45]; done) | (rw [Fl.simp_6 (i := i) (by omega) (by omega), Fl.le_1 (by omega)]; rfl) | (rw [Fl.simp_6 (i := i) (by omega) (by omega), Fl.le_2 (by omega) (by omega)]; rfl) | (rw [Fl.simp_6 (i := i) (by omega) (by omega), Fl.le_3 (by omega) (by omega) (by omega), Fl.wh4]; done) | (rw [Fl.simp_6 (i := i) (by omega) (by omega), Fl.le_4 (by omega) (by omega) (by omega) (by omega), Fl.wh5]; done) | (rw [Fl.simp_6 (i := i) (by omega) (by omega), Fl.le_5 (by omega) (by omega) (by omega) (by omega)]; first | rfl | (show q = 6; omega)) | (rw [Fl.simp_0 (i := i) (by omega) (by omega) h45.1 h45.2 (by omega)]; rfl) | done))) (consE (congrArg AV.int (show (Fl.joinT q (Fl.whole0 q) ((l.take i).map Fl.simpT)).v = (Fl.simpT (.node q v k l)).v from (by first | (rw [Fl.simp_3a (i := i) (by omega) (by omega) (by omega)]; rfl) | (rw [Fl.simp_3b (i := i) (by omega) (by omega) (by omega) (by omega)]; done) | (rw [Fl.simp_3c (i := i) (by omega) (by omega) (by omega) (by omega)]; first | rfl | (show q = 3; omega)) | (rw [Fl.simp_45 (i := i) (by omega) h45]; done) | (rw [Fl.simp_6 (i := i) (by omega) (by omega), Fl.le_1 (by omega)]; rfl) | (rw [Fl.simp_6 (i := i) (by omega) (by omega), Fl.le_2 (by omega) (by omega)]; rfl) | (rw [Fl.simp_6 (i := i) (by omega) (by omega), Fl.le_3 (by omega) (by omega) (by omega), Fl.wh4]; done) | (rw [Fl.simp_6 (i := i) (by omega) (by omega), Fl.le_4 (by omega) (by omega) (by omega) (by omega), Fl.wh5]; done) | (rw [Fl.simp_6 (i := i) (by omega) (by omega), Fl.le_5 (by omega) (by omega) (by omega) (by omega)]; first | rfl | (show q = 6; omega)) | (rw [Fl.simp_0 (i := i) (by omega) (by omega) h45.1 h45.2 (by omega)]; rfl) | done))) (consE (congrArg AV.int (show (Fl.joinT q (Fl.whole0 q) ((l.take i).map Fl.simpT)).k = (Fl.simpT (.node q v k l)).k from (by first | (rw [Fl.simp_3a (i := i) (by omega) (by omega) (by omega)]; rfl) | (rw [Fl.simp_3b (i := i) (by omega) (by omega) (by omega) (by omega)]; done) | (rw [Fl.simp_3c (i := i) (by omega) (by omega) (by omega) (by omega)]; first | rfl | (show q = 3; omega)) | (rw [Fl.simp_45 (i := i) (by omega) h45]; done) | (rw [Fl.simp_6 (i := i) (by omega) (by omega), Fl.le_1 (by omega)]; rfl) | (rw [Fl.simp_6 (i := i) (by omega) (by omega), Fl.le_2 (by omega) (by omega)]; rfl) | (rw [Fl.simp_6 (i := i) (by omega) (by omega), Fl.le_3 (by omega) (by omega) (by omega), Fl.wh4]; done) | (rw [Fl.simp_6 (i := i) (by omega) (by omega), Fl.le_4 (by omega) (by omega) (by omega) (by omega), Fl.wh5]; done) | (rw [Fl.simp_6 (i := i) (by omega) (by omega), Fl.le_5 (by omega) (by omega) (by omega) (by omega)]; first | rfl | (show q = 6; omega)) | (rw [Fl.simp_0 (i := i) (by omega) (by omega) h45.1 h45.2 (by omega)]; rfl) | done))) (consE (congrArg AV.trees (show (Fl.joinT q (Fl.whole0 q) ((l.take i).map Fl.simpT)).l = (Fl.simpT (.node q v k l)).l from (by first | (rw [Fl.simp_3a (i := i) (by omega) (by omega) (by omega)]; rfl) | (rw [Fl.simp_3b (i := i) (by omega) (by omega) (by omega) (by omega)]; done) | (rw [Fl.simp_3c (i := i) (by omega) (by omega) (by omega) (by omega)]; first | rfl | (show q = 3; omega)) | (rw [Fl.simp_45 (i := i) (by omega) h45]; done) | (rw [Fl.simp_6 (i := i) (by omega) (by omega), Fl.le_1 (by omega)]; rfl) | (rw [Fl.simp_6 (i := i) (by omega) (by omega), Fl.le_2 (by omega) (by omega)]; rfl) | (rw [Fl.simp_6 (i := i) (by omega) (by omega), Fl.le_3 (by omega) (by omega) (by omega), Fl.wh4]; done) | (rw [Fl.simp_6 (i := i) (by omega) (by omega), Fl.le_4 (by omega) (by omega) (by omega) (by omega), Fl.wh5]; done) | (rw [Fl.simp_6 (i := i) (by omega) (by omega), Fl.le_5 (by omega) (by omega) (by omega) (by omega)]; first | rfl | (show q = 6; omega)) | (rw [Fl.simp_0 (i := i) (by omega) (by omega) h45.1 h45.2 (by omega)]; rfl) | done))) rfl))))) [] rfl
      ·
       skip
       have h11 := neB hb11
       try (have h45 : ¬ q = 4 ∧ ¬ q = 5 := by constructor <;> omega)
       refine tri_seq ?_
       refine tri_regD hcx [] [54] [1, 2, 3] [602] [] [(54, .bool (q == 6))] [] (by kernel_rfl) ?_ ?_
       ·
        exact az
       refine fin_then ?_
       refine tri_cond (b := (q == 6)) (by kernel_rfl) (fun hb12 => ?_) (fun hb12 => ?_)
       ·
        skip
        have h12 := eq_of_beq hb12
        have h6k := Fl.may_6 hH (by omega)
        refine tri_seq ?_
        refine tri_drawD [0, 1, 0, 4, 12, 31, 63] hcx hmx [] [7] [1, 2, 3] [602] [(((l.take i).map Fl.simpT).length ≤ 2932031007317), Fit (k - ((((l.take i).map Fl.simpT).filter (fun x : Tree => (x.kind == 1) && (x.v == 1))).length : Int))] [(7, .int (k - ((((l.take i).map Fl.simpT).filter (fun x : Tree => (x.kind == 1) && (x.v == 1))).length : Int)))] [] (by kernel_rfl) ?_ ?_
        ·
         refine (ap ?_ (ap ?_ az))
         all_goals
          first | omega | exact id | exact vcNot | exact vcG | exact vcH | (intro _; omega) | exact (fun _ h => h) | (intro h; simp at h; omega) | (simp only [List.length_cons, List.length_nil, List.length_append, List.length_map, List.length_set, List.length_replicate]; omega) | (intro h; simp [h]; done) | (have h8 := hsub (by omega); have h7 := hlen (by omega); exact ⟨h7.1, h7.2, by omega, (Fl.may_at _ _).trans (hC _ (by omega)), by omega⟩) | exact ⟨h45, by omega, by omega⟩ | exact ⟨by omega, by omega, by omega⟩ | (constructor <;> omega) | (simp only [List.length_cons, List.length_nil]; omega) | exact True.intro | exact ⟨by omega, hmo, by omega, by omega, by omega⟩ | done
        refine fin_then ?_
        refine tri_seq ?_
        refine tri_regD hcx [(1001, .frz)] [8] [7, 1, 2] [602] [(((l.take i).map Fl.simpT).length ≤ 2932031007317)] [(8, .trees (Fl.restL ((l.take i).map Fl.simpT)))] [] (by kernel_rfl) ?_ ?_
        ·
         refine (ap ?_ az)
         first | omega | exact id | exact vcNot | exact vcG | exact vcH | (intro _; omega) | exact (fun _ h => h) | (intro h; simp at h; omega) | (simp only [List.length_cons, List.length_nil, List.length_append, List.length_map, List.length_set, List.length_replicate]; omega) | (intro h; simp [h]; done) | (have h8 := hsub (by omega); have h7 := hlen (by omega); exact ⟨h7.1, h7.2, by omega, (Fl.may_at _ _).trans (hC _ (by omega)), by omega⟩) | exact ⟨h45, by omega, by omega⟩ | exact ⟨by omega, by omega, by omega⟩ | (constructor <;> omega) | (simp only [List.length_cons, List.length_nil]; omega) | exact True.intro | exact ⟨by omega, hmo, by omega, by omega, by omega⟩ | done
        refine fin_then ?_
        refine tri_seq ?_
        refine tri_block ?_
        refine tri_seq ?_
        refine tri_regD hcx [] [64] [8, 7, 1, 2] [602] [] [(64, .bool (decide ((k - ((((l.take i).map Fl.simpT).filter (fun x : Tree => (x.kind == 1) && (x.v == 1))).length : Int)) ≤ 0)))] [] (by kernel_rfl) ?_ ?_
        ·
         exact az
        refine fin_then ?_
        refine tri_cond (b := (decide ((k - ((((l.take i).map Fl.simpT).filter (fun x : Tree => (x.kind == 1) && (x.v == 1))).length : Int)) ≤ 0))) (by kernel_rfl) (fun hb13 => ?_) (fun hb13 => ?_)
        ·
         skip
         have h13 := of_decide_eq_true hb13
         refine tri_seq ?_
         refine tri_regD hcx [(602, .to 602)] [] [2] [] [(True)] [] [(602, .box [.int 1, .int (1 : Int), .int 0, .trees []])] (by kernel_rfl) ?_ ?_
         ·
          refine (ap ?_ az)
          first | omega | exact id | exact vcNot | exact vcG | exact vcH | (intro _; omega) | exact (fun _ h => h) | (intro h; simp at h; omega) | (simp only [List.length_cons, List.length_nil, List.length_append, List.length_map, List.length_set, List.length_replicate]; omega) | (intro h; simp [h]; done) | (have h8 := hsub (by omega); have h7 := hlen (by omega); exact ⟨h7.1, h7.2, by omega, (Fl.may_at _ _).trans (hC _ (by omega)), by omega⟩) | exact ⟨h45, by omega, by omega⟩ | exact ⟨by omega, by omega, by omega⟩ | (constructor <;> omega) | (simp only [List.length_cons, List.length_nil]; omega) | exact True.intro | exact ⟨by omega, hmo, by omega, by omega, by omega⟩ | done
         refine fin_then ?_
         refine tri_ret ?_
         refine fin_block_ret ?_
         refine fin_then_ret ?_
         refine fin_block_ret ?_
         refine fin_then_ret ?_
         exact fin_ret [] rfl rfl trivial hcx (avs := [.agg [.int 1, .int (1 : Int), .int 0, .trees []]]) (by kernel_rfl) (congrArg AV.agg (consE (congrArg AV.int (show 1 = (Fl.simpT (.node q v k l)).kind from (by first | (rw [Fl.simp_3a (i := i) (by omega) (by omega) (by omega)]; rfl) | (rw [Fl.simp_3b (i := i) (by omega) (by omega) (by omega) (by omega)]; done) | (rw [Fl.simp_3c (i := i) (by omega) (by omega) (by omega) (by omega)]; first | rfl | (show q = 3; omega)) | (rw [Fl.simp_45 (i := i) (by omega) h45]; done) | (rw [Fl.simp_6 (i := i) (by omega) (by omega), Fl.le_1 (by omega)]; rfl) | (rw [Fl.simp_6 (i := i) (by omega) (by omega), Fl.le_2 (by omega) (by omega)]; rfl) | (rw [Fl.simp_6 (i := i) (by omega) (by omega), Fl.le_3 (by omega) (by omega) (by omega), Fl.wh4]; done) | (rw [Fl.simp_6 (i := i) (by omega) (by omega), Fl.le_4 (by omega) (by omega) (by omega) (by omega), Fl.wh5]; done) | (rw [Fl.simp_6 (i := i) (by omega) (by omega), Fl.le_5 (by omega) (by omega) (by omega) (by omega)]; first | rfl | (show q = 6; omega)) | (rw [Fl.simp_0 (i := i) (by omega) (by omega) h45.1 h45.2 (by omega)]; rfl) | done))) (consE (congrArg AV.int (show (1 : Int) = (Fl.simpT (.node q v k l)).v from (by first | (rw [Fl.simp_3a (i := i) (by omega) (by omega) (by omega)]; rfl) | (rw [Fl.simp_3b (i := i) (by omega) (by omega) (by omega) (by omega)]; done) | (rw [Fl.simp_3c (i := i) (by omega) (by omega) (by omega) (by omega)]; first | rfl | (show q = 3; omega)) | (rw [Fl.simp_45 (i := i) (by omega) h45]; done) | (rw [Fl.simp_6 (i := i) (by omega) (by omega), Fl.le_1 (by omega)]; rfl) | (rw [Fl.simp_6 (i := i) (by omega) (by omega), Fl.le_2 (by omega) (by omega)]; rfl) | (rw [Fl.simp_6 (i := i) (by omega) (by omega), Fl.le_3 (by omega) (by omega) (by omega), Fl.wh4]; done) | (rw [Fl.simp_6 (i := i) (by omega) (by omega), Fl.le_4 (by omega) (by omega) (by omega) (by omega), Fl.wh5]; done) | (rw [Fl.simp_6 (i := i) (by omega) (by omega), Fl.le_5 (by omega) (by omega) (by omega) (by omega)]; first | rfl | (show q = 6; omega)) | (rw [Fl.simp_0 (i := i) (by omega) (by omega) h45.1 h45.2 (by omega)]; rfl) | done))) (consE (congrArg AV.int (show 0 = (Fl.simpT (.node q v k l)).k from (by first | (rw [Fl.simp_3a (i := i) (by omega) (by omega) (by omega)]; rfl) | (rw [Fl.simp_3b (i := i) (by omega) (by omega) (by omega) (by omega)]; done) | (rw [Fl.simp_3c (i := i) (by omega) (by omega) (by omega) (by omega)]; first | rfl | (show q = 3; omega)) | (rw [Fl.simp_45 (i := i) (by omega) h45]; done) | (rw [Fl.simp_6 (i := i) (by omega) (by omega), Fl.le_1 (by omega)]; rfl) | (rw [Fl.simp_6 (i := i) (by omega) (by omega), Fl.le_2 (by omega) (by omega)]; rfl) | (rw [Fl.simp_6 (i := i) (by omega) (by omega), Fl.le_3 (by omega) (by omega) (by omega), Fl.wh4]; done) | (rw [Fl.simp_6 (i := i) (by omega) (by omega), Fl.le_4 (by omega) (by omega) (by omega) (by omega), Fl.wh5]; done) | (rw [Fl.simp_6 (i := i) (by omega) (by omega), Fl.le_5 (by omega) (by omega) (by omega) (by omega)]; first | rfl | (show q = 6; omega)) | (rw [Fl.simp_0 (i := i) (by omega) (by omega) h45.1 h45.2 (by omega)]; rfl) | done))) (consE (congrArg AV.trees (show [] = (Fl.simpT (.node q v k l)).l from (by first | (rw [Fl.simp_3a (i := i) (by omega) (by omega) (by omega)]; rfl) | (rw [Fl.simp_3b (i := i) (by omega) (by omega) (by omega) (by omega)]; done) | (rw [Fl.simp_3c (i := i) (by omega) (by omega) (by omega) (by omega)]; first | rfl | (show q = 3; omega)) | (rw [Fl.simp_45 (i := i) (by omega) h45]; done) | (rw [Fl.simp_6 (i := i) (by omega) (by omega), Fl.le_1 (by omega)]; rfl) | (rw [Fl.simp_6 (i := i) (by omega) (by omega), Fl.le_2 (by omega) (by omega)]; rfl) | (rw [Fl.simp_6 (i := i) (by omega) (by omega), Fl.le_3 (by omega) (by omega) (by omega), Fl.wh4]; done) | (rw [Fl.simp_6 (i := i) (by omega) (by omega), Fl.le_4 (by omega) (by omega) (by omega) (by omega), Fl.wh5]; done) | (rw [Fl.simp_6 (i := i) (by omega) (by omega), Fl.le_5 (by omega) (by omega) (by omega) (by omega)]; first | rfl | (show q = 6; omega)) | (rw [Fl.simp_0 (i := i) (by omega) (by omega) h45.1 h45.2 (by omega)]; rfl) | done))) rfl))))) [] rfl
        ·
         skip
         have h13 := of_decide_eq_false hb13
         refine tri_seq ?_
         refine tri_regD hcx [] [68] [8, 7, 1, 2] [602] [] [(68, .bool (decide ((k - ((((l.take i).map Fl.simpT).filter (fun x : Tree => (x.kind == 1) && (x.v == 1))).length : Int)) > ((Fl.restL ((l.take i).map Fl.simpT)).length : Int))))] [] (by kernel_rfl) ?_ ?_
         ·
          exact az
         refine fin_then ?_
         refine tri_cond (b := (decide ((k - ((((l.take i).map Fl.simpT).filter (fun x : Tree => (x.kind == 1) && (x.v == 1))).length : Int)) > ((Fl.restL ((l.take i).map Fl.simpT)).length : Int)))) (by kernel_rfl) (fun hb14 => ?_) (fun hb14 => ?_)
         ·
          skip
          have h14 := of_decide_eq_true hb14
          refine tri_seq ?_
          refine tri_regD hcx [(602, .to 602)] [] [2] [] [(True)] [] [(602, .box [.int 1, .int (0 : Int), .int 0, .trees []])] (by kernel_rfl) ?_ ?_
          ·
           refine (ap ?_ az)
           first | omega | exact id | exact vcNot | exact vcG | exact vcH | (intro _; omega) | exact (fun _ h => h) | (intro h; simp at h; omega) | (simp only [List.length_cons, List.length_nil, List.length_append, List.length_map, List.length_set, List.length_replicate]; omega) | (intro h; simp [h]; done) | (have h8 := hsub (by omega); have h7 := hlen (by omega); exact ⟨h7.1, h7.2, by omega, (Fl.may_at _ _).trans (hC _ (by omega)), by omega⟩) | exact ⟨h45, by omega, by omega⟩ | exact ⟨by omega, by omega, by omega⟩ | (constructor <;> omega) | (simp only [List.length_cons, List.length_nil]; omega) | exact True.intro | exact ⟨by omega, hmo, by omega, by omega, by omega⟩ | done
          refine fin_then ?_
          refine tri_ret ?_
          refine fin_block_ret ?_
          refine fin_then_ret ?_
          refine fin_block_ret ?_
          refine fin_then_ret ?_
          exact fin_ret [] rfl rfl trivial hcx (avs := [.agg [.int 1, .int (0 : Int), .int 0, .trees []]]) (by kernel_rfl) (congrArg AV.agg (consE (congrArg AV.int (show 1 = (Fl.simpT (.node q v k l)).kind from (by first | (rw [Fl.simp_3a (i := i) (by omega) (by omega) (by omega)]; rfl) | (rw [Fl.simp_3b (i := i) (by omega) (by omega) (by omega) (by omega)]; done) | (rw [Fl.simp_3c (i := i) (by omega) (by omega) (by omega) (by omega)]; first | rfl | (show q = 3; omega)) | (rw [Fl.simp_45 (i := i) (by omega) h45]; done) | (rw [Fl.simp_6 (i := i) (by omega) (by omega), Fl.le_1 (by omega)]; rfl) | (rw [Fl.simp_6 (i := i) (by omega) (by omega), Fl.le_2 (by omega) (by omega)]; rfl) | (rw [Fl.simp_6 (i := i) (by omega) (by omega), Fl.le_3 (by omega) (by omega) (by omega), Fl.wh4]; done) | (rw [Fl.simp_6 (i := i) (by omega) (by omega), Fl.le_4 (by omega) (by omega) (by omega) (by omega), Fl.wh5]; done) | (rw [Fl.simp_6 (i := i) (by omega) (by omega), Fl.le_5 (by omega) (by omega) (by omega) (by omega)]; first | rfl | (show q = 6; omega)) | (rw [Fl.simp_0 (i := i) (by omega) (by omega) h45.1 h45.2 (by omega)]; rfl) | done))) (consE (congrArg AV.int (show (0 : Int) = (Fl.simpT (.node q v k l)).v from (by first | (rw [Fl.simp_3a (i := i) (by omega) (by omega) (by omega)]; rfl) | (rw [Fl.simp_3b (i := i) (by omega) (by omega) (by omega) (by omega)]; done) | (rw [Fl.simp_3c (i := i) (by omega) (by omega) (by omega) (by omega)]; first | rfl | (show q = 3; omega)) | (rw [Fl.simp_45 (i := i) (by omega) h45]; done) | (rw [Fl.simp_6 (i := i) (by omega) (by omega), Fl.le_1 (by omega)]; rfl) | (rw [Fl.simp_6 (i := i) (by omega) (by omega), Fl.le_2 (by omega) (by omega)]; rfl) | (rw [Fl.simp_6 (i := i) (by omega) (by omega), Fl.le_3 (by omega) (by omega) (by omega), Fl.wh4]; done) | (rw [Fl.simp_6 (i := i) (by omega) (by omega), Fl.le_4 (by omega) (by omega) (by omega) (by omega), Fl.wh5]; done) | (rw [Fl.simp_6 (i := i) (by omega) (by omega), Fl.le_5 (by omega) (by omega) (by omega) (by omega)]; first | rfl | (show q = 6; omega)) | (rw [Fl.simp_0 (i := i) (by omega) (by omega) h45.1 h45.2 (by omega)]; rfl) | done))) (consE (congrArg AV.int (show 0 = (Fl.simpT (.node q v k l)).k from (by first | (rw [Fl.simp_3a (i := i) (by omega) (by omega) (by omega)]; rfl) | (rw [Fl.simp_3b (i := i) (by omega) (by omega) (by omega) (by omega)]; done) | (rw [Fl.simp_3c (i := i) (by omega) (by omega) (by omega) (by omega)]; first | rfl | (show q = 3; omega)) | (rw [Fl.simp_45 (i := i) (by omega) h45]; done) | (rw [Fl.simp_6 (i := i) (by omega) (by omega), Fl.le_1 (by omega)]; rfl) | (rw [Fl.simp_6 (i := i) (by omega) (by omega), Fl.le_2 (by omega) (by omega)]; rfl) | (rw [Fl.simp_6 (i := i) (by omega) (by omega), Fl.le_3 (by omega) (by omega) (by omega), Fl.wh4]; done) | (rw [Fl.simp_6 (i := i) (by omega) (by omega), Fl.le_4 (by omega) (by omega) (by omega) (by omega), Fl.wh5]; done) | (rw [Fl.simp_6 (i := i) (by omega) (by omega), Fl.le_5 (by omega) (by omega) (by omega) (by omega)]; first | rfl | (show q = 6; omega)) | (rw [Fl.simp_0 (i := i) (by omega) (by omega) h45.1 h45.2 (by omega)]; rfl) | done))) (consE (congrArg AV.trees (show [] = (Fl.simpT (.node q v k l)).l from (by first | (rw [Fl.simp_3a (i := i) (by omega) (by omega) (by omega)]; rfl) | (rw [Fl.simp_3b (i := i) (by omega) (by omega) (by omega) (by omega)]; done) | (rw [Fl.simp_3c (i := i) (by omega) (by omega) (by omega) (by omega)]; first | rfl | (show q = 3; omega)) | (rw [Fl.simp_45 (i := i) (by omega) h45]; done) | (rw [Fl.simp_6 (i := i) (by omega) (by omega), Fl.le_1 (by omega)]; rfl) | (rw [Fl.simp_6 (i := i) (by omega) (by omega), Fl.le_2 (by omega) (by omega)]; rfl) | (rw [Fl.simp_6 (i := i) (by omega) (by omega), Fl.le_3 (by omega) (by omega) (by omega), Fl.wh4]; done) | (rw [Fl.simp_6 (i := i) (by omega) (by omega), Fl.le_4 (by omega) (by omega) (by omega) (by omega), Fl.wh5]; done) | (rw [Fl.simp_6 (i := i) (by omega) (by omega), Fl.le_5 (by omega) (by omega) (by omega) (by omega)]; first | rfl | (show q = 6; omega)) | (rw [Fl.simp_0 (i := i) (by omega) (by omega) h45.1 h45.2 (by omega)]; rfl) | done))) rfl))))) [] rfl
         ·
          skip
          have h14 := of_decide_eq_false hb14
          refine tri_seq ?_
          refine tri_regD hcx [] [74] [8, 7, 1, 2] [602] [] [(74, .bool ((k - ((((l.take i).map Fl.simpT).filter (fun x : Tree => (x.kind == 1) && (x.v == 1))).length : Int)) == ((Fl.restL ((l.take i).map Fl.simpT)).length : Int)))] [] (by kernel_rfl) ?_ ?_
          ·
           exact az
          refine fin_then ?_
          refine tri_cond (b := ((k - ((((l.take i).map Fl.simpT).filter (fun x : Tree => (x.kind == 1) && (x.v == 1))).length : Int)) == ((Fl.restL ((l.take i).map Fl.simpT)).length : Int))) (by kernel_rfl) (fun hb15 => ?_) (fun hb15 => ?_)
          ·
           skip
           have h15 := eq_of_beq hb15
           refine tri_seq ?_
           refine tri_regD hcx [(602, .to 602)] [] [2] [] [(((4 : Int) = 4 ∨ (4 : Int) = 5) ∧ (Fl.restL ((l.take i).map Fl.simpT)).length ≤ 2932031007317 ∧ Fl.sizeL (Fl.restL ((l.take i).map Fl.simpT)) ≤ 1000000)] [] [(602, .box [.int ((Fl.joinT (4 : Int) (Fl.whole0 (4 : Int)) (Fl.restL ((l.take i).map Fl.simpT))).kind), .int ((Fl.joinT (4 : Int) (Fl.whole0 (4 : Int)) (Fl.restL ((l.take i).map Fl.simpT))).v), .int ((Fl.joinT (4 : Int) (Fl.whole0 (4 : Int)) (Fl.restL ((l.take i).map Fl.simpT))).k), .trees ((Fl.joinT (4 : Int) (Fl.whole0 (4 : Int)) (Fl.restL ((l.take i).map Fl.simpT))).l)])] (by kernel_rfl) ?_ ?_
           ·
            refine (ap ?_ az)
            first | omega | exact id | exact vcNot | exact vcG | exact vcH | (intro _; omega) | exact (fun _ h => h) | (intro h; simp at h; omega) | (simp only [List.length_cons, List.length_nil, List.length_append, List.length_map, List.length_set, List.length_replicate]; omega) | (intro h; simp [h]; done) | (have h8 := hsub (by omega); have h7 := hlen (by omega); exact ⟨h7.1, h7.2, by omega, (Fl.may_at _ _).trans (hC _ (by omega)), by omega⟩) | exact ⟨h45, by omega, by omega⟩ | exact ⟨by omega, by omega, by omega⟩ | (constructor <;> omega) | (simp only [List.length_cons, List.length_nil]; omega) | exact True.intro | exact ⟨by omega, hmo, by omega, by omega, by omega⟩ | done
           refine fin_then ?_
           refine tri_ret ?_
           refine fin_block_ret ?_
           refine fin_then_ret ?_
           refine fin_block_ret ?_
           refine fin_then_ret ?_
           exact fin_ret [] rfl rfl trivial hcx (avs := [.agg [.int ((Fl.joinT (4 : Int) (Fl.whole0 (4 : Int)) (Fl.restL ((l.take i).map Fl.simpT))).kind), .int ((Fl.joinT (4 : Int) (Fl.whole0 (4 : Int)) (Fl.restL ((l.take i).map Fl.simpT))).v), .int ((Fl.joinT (4 : Int) (Fl.whole0 (4 : Int)) (Fl.restL ((l.take i).map Fl.simpT))).k), .trees ((Fl.joinT (4 : Int) (Fl.whole0 (4 : Int)) (Fl.restL ((l.take i).map Fl.simpT))).l)]]) (by kernel_rfl) (congrArg AV.agg (consE (congrArg AV.int (show (Fl.joinT (4 : Int) (Fl.whole0 (4 : Int)) (Fl.restL ((l.take i).map Fl.simpT))).kind = (Fl.simpT (.node q v k l)).kind from (by first | (rw [Fl.simp_3a (i := i) (by omega) (by omega) (by omega)]; rfl) | (rw [Fl.simp_3b (i := i) (by omega) (by omega) (by omega) (by omega)]; done) | (rw [Fl.simp_3c (i := i) (by omega) (by omega) (by omega) (by omega)]; first | rfl | (show q = 3; omega)) | (rw [Fl.simp_45 (i := i) (by omega) h45]; done) | (rw [Fl.simp_6 (i := i) (by omega) (by omega), Fl.le_1 (by omega)]; rfl) | (rw [Fl.simp_6 (i := i) (by omega) (by omega), Fl.le_2 (by omega) (by omega)]; rfl) | (rw [Fl.simp_6 (i := i) (by omega) (by omega), Fl.le_3 (by omega) (by omega) (by omega), Fl.wh4]; done) | (rw [Fl.simp_6 (i := i) (by omega) (by omega), Fl.le_4 (by omega) (by omega) (by omega) (by omega), Fl.wh5]; done) | (rw [Fl.simp_6 (i := i) (by omega) (by omega), Fl.le_5 (by omega) (by omega) (by omega) (by omega)]; first | rfl | (show q = 6; omega)) | (rw [Fl.simp_0 (i := i) (by omega) (by omega) h45.1 h45.2 (by omega)]; rfl) | done))) (consE (congrArg AV.int (show (Fl.joinT (4 : Int) (Fl.whole0 (4 : Int)) (Fl.restL ((l.take i).map Fl.simpT))).v = (Fl.simpT (.node q v k l)).v from (by first | (rw [Fl.simp_3a (i := i) (by omega) (by omega) (by omega)]; rfl) | (rw [Fl.simp_3b (i := i) (by omega) (by omega) (by omega) (by omega)]; done) | (rw [Fl.simp_3c (i := i) (by omega) (by omega) (by omega) (by omega)]; first | rfl | (show q = 3; omega)) | (rw [Fl.simp_45 (i := i) (by omega) h45]; done) | (rw [Fl.simp_6 (i := i) (by omega) (by omega), Fl.le_1 (by omega)]; rfl) | (rw [Fl.simp_6 (i := i) (by omega) (by omega), Fl.le_2 (by omega) (by omega)]; rfl) | (rw [Fl.simp_6 (i := i) (by omega) (by omega), Fl.le_3 (by omega) (by omega) (by omega), Fl.wh4]; done) | (rw [Fl.simp_6 (i := i) (by omega) (by omega), Fl.le_4 (by omega) (by omega) (by omega) (by omega), Fl.wh5]; done) | (rw [Fl.simp_6 (i := i) (by omega) (by omega), Fl.le_5 (by omega) (by omega) (by omega) (by omega)]; first | rfl | (show q = 6; omega)) | (rw [Fl.simp_0 (i := i) (by omega) (by omega) h45.1 h45.2 (by omega)]; rfl) | done))) (consE (congrArg AV.int (show (Fl.joinT (4 : Int) (Fl.whole0 (4 : Int)) (Fl.restL ((l.take i).map Fl.simpT))).k = (Fl.simpT (.node q v k l)).k from (by first | (rw [Fl.simp_3a (i := i) (by omega) (by omega) (by omega)]; rfl) | (rw [Fl.simp_3b (i := i) (by omega) (by omega) (by omega) (by omega)]; done) | (rw [Fl.simp_3c (i := i) (by omega) (by omega) (by omega) (by omega)]; first | rfl | (show q = 3; omega)) | (rw [Fl.simp_45 (i := i) (by omega) h45]; done) | (rw [Fl.simp_6 (i := i) (by omega) (by omega), Fl.le_1 (by omega)]; rfl) | (rw [Fl.simp_6 (i := i) (by omega) (by omega), Fl.le_2 (by omega) (by omega)]; rfl) | (rw [Fl.simp_6 (i := i) (by omega) (by omega), Fl.le_3 (by omega) (by omega) (by omega), Fl.wh4]; done) | (rw [Fl.simp_6 (i := i) (by omega) (by omega), Fl.le_4 (by omega) (by omega) (by omega) (by omega), Fl.wh5]; done) | (rw [Fl.simp_6 (i := i) (by omega) (by omega), Fl.le_5 (by omega) (by omega) (by omega) (by omega)]; first | rfl | (show q = 6; omega)) | (rw [Fl.simp_0 (i := i) (by omega) (by omega) h45.1 h45.2 (by omega)]; rfl) | done))) (consE (congrArg AV.trees (show (Fl.joinT (4 : Int) (Fl.whole0 (4 : Int)) (Fl.restL ((l.take i).map Fl.simpT))).l = (Fl.simpT (.node q v k l)).l from (by first | (rw [Fl.simp_3a (i := i) (by omega) (by omega) (by omega)]; rfl) | (rw [Fl.simp_3b (i := i) (by omega) (by omega) (by omega) (by omega)]; done) | (rw [Fl.simp_3c (i := i) (by omega) (by omega) (by omega) (by omega)]; first | rfl | (show q = 3; omega)) | (rw [Fl.simp_45 (i := i) (by omega) h45]; done) | (rw [Fl.simp_6 (i := i) (by omega) (by omega), Fl.le_1 (by omega)]; rfl) | (rw [Fl.simp_6 (i := i) (by omega) (by omega), Fl.le_2 (by omega) (by omega)]; rfl) | (rw [Fl.simp_6 (i := i) (by omega) (by omega), Fl.le_3 (by omega) (by omega) (by omega), Fl.wh4]; done) | (rw [Fl.simp_6 (i := i) (by omega) (by omega), Fl.le_4 (by omega) (by omega) (by omega) (by omega), Fl.wh5]; done) | (rw [Fl.simp_6 (i := i) (by omega) (by omega), Fl.le_5 (by omega) (by omega) (by omega) (by omega)]; first | rfl | (show q = 6; omega)) | (rw [Fl.simp_0 (i := i) (by omega) (by omega) h45.1 h45.2 (by omega)]; rfl) | done))) rfl))))) [] rfl
          ·
           skip
           have h15 := neB hb15
           refine tri_seq ?_
           refine tri_regD hcx [] [81] [8, 7, 1, 2] [602] [] [(81, .bool ((k - ((((l.take i).map Fl.simpT).filter (fun x : Tree => (x.kind == 1) && (x.v == 1))).length : Int)) == 1))] [] (by kernel_rfl) ?_ ?_
           ·
            exact az
           refine fin_then ?_
           refine tri_cond (b := ((k - ((((l.take i).map Fl.simpT).filter (fun x : Tree => (x.kind == 1) && (x.v == 1))).length : Int)) == 1)) (by kernel_rfl) (fun hb16 => ?_) (fun hb16 => ?_)
           ·
            skip
            have h16 := eq_of_beq hb16
            refine tri_seq ?_
            refine tri_regD hcx [(602, .to 602)] [] [2] [] [(((5 : Int) = 4 ∨ (5 : Int) = 5) ∧ (Fl.restL ((l.take i).map Fl.simpT)).length ≤ 2932031007317 ∧ Fl.sizeL (Fl.restL ((l.take i).map Fl.simpT)) ≤ 1000000)] [] [(602, .box [.int ((Fl.joinT (5 : Int) (Fl.whole0 (5 : Int)) (Fl.restL ((l.take i).map Fl.simpT))).kind), .int ((Fl.joinT (5 : Int) (Fl.whole0 (5 : Int)) (Fl.restL ((l.take i).map Fl.simpT))).v), .int ((Fl.joinT (5 : Int) (Fl.whole0 (5 : Int)) (Fl.restL ((l.take i).map Fl.simpT))).k), .trees ((Fl.joinT (5 : Int) (Fl.whole0 (5 : Int)) (Fl.restL ((l.take i).map Fl.simpT))).l)])] (by kernel_rfl) ?_ ?_
            ·
             refine (ap ?_ az)
             first | omega | exact id | exact vcNot | exact vcG | exact vcH | (intro _; omega) | exact (fun _ h => h) | (intro h; simp at h; omega) | (simp only [List.length_cons, List.length_nil, List.length_append, List.length_map, List.length_set, List.length_replicate]; omega) | (intro h; simp [h]; done) | (have h8 := hsub (by omega); have h7 := hlen (by omega); exact ⟨h7.1, h7.2, by omega, (Fl.may_at _ _).trans (hC _ (by omega)), by omega⟩) | exact ⟨h45, by omega, by omega⟩ | exact ⟨by omega, by omega, by omega⟩ | (constructor <;> omega) | (simp only [List.length_cons, List.length_nil]; omega) | exact True.intro | exact ⟨by omega, hmo, by omega, by omega, by omega⟩ | done
            refine fin_then ?_
            refine tri_ret ?_
            refine fin_block_ret ?_
            refine fin_then_ret ?_
            refine fin_block_ret ?_
            refine fin_then_ret ?_
            exact fin_ret [] rfl rfl trivial hcx (avs := [.agg [.int ((Fl.joinT (5 : Int) (Fl.whole0 (5 : Int)) (Fl.restL ((l.take i).map Fl.simpT))).kind), .int ((Fl.joinT (5 : Int) (Fl.whole0 (5 : Int)) (Fl.restL ((l.take i).map Fl.simpT))).v), .int ((Fl.joinT (5 : Int) (Fl.whole0 (5 : Int)) (Fl.restL ((l.take i).map Fl.simpT))).k), .trees ((Fl.joinT (5 : Int) (Fl.whole0 (5 : Int)) (Fl.restL ((l.take i).map Fl.simpT))).l)]]) (by kernel_rfl) (congrArg AV.agg (consE (congrArg AV.int (show (Fl.joinT (5 : Int) (Fl.whole0 (5 : Int)) (Fl.restL ((l.take i).map Fl.simpT))).kind = (Fl.simpT (.node q v k l)).kind from (by first | (rw [Fl.simp_3a (i := i) (by omega) (by omega) (by omega)]; rfl) | (rw [Fl.simp_3b (i := i) (by omega) (by omega) (by omega) (by omega)]; done) | (rw [Fl.simp_3c (i := i) (by omega) (by omega) (by omega) (by omega)]; first | rfl | (show q = 3; omega)) | (rw [Fl.simp_45 (i := i) (by omega) h45]; done) | (rw [Fl.simp_6 (i := i) (by omega) (by omega), Fl.le_1 (by omega)]; rfl) | (rw [Fl.simp_6 (i := i) (by omega) (by omega), Fl.le_2 (by omega) (by omega)]; rfl) | (rw [Fl.simp_6 (i := i) (by omega) (by omega), Fl.le_3 (by omega) (by omega) (by omega), Fl.wh4]; done) | (rw [Fl.simp_6 (i := i) (by omega) (by omega), Fl.le_4 (by omega) (by omega) (by omega) (by omega), Fl.wh5]; done) | (rw [Fl.simp_6 (i := i) (by omega) (by omega), Fl.le_5 (by omega) (by omega) (by omega) (by omega)]; first | rfl | (show q = 6; omega)) | (rw [Fl.simp_0 (i := i) (by omega) (by omega) h45.1 h45.2 (by omega)]; rfl) | done))) (consE (congrArg AV.int (show (Fl.joinT (5 : Int) (Fl.whole0 (5 : Int)) (Fl.restL ((l.take i).map Fl.simpT))).v = (Fl.simpT (.node q v k l)).v from (by first | (rw [Fl.simp_3a (i := i) (by omega) (by omega) (by omega)]; rfl) | (rw [Fl.simp_3b (i := i) (by omega) (by omega) (by omega) (by omega)]; done) | (rw [Fl.simp_3c (i := i) (by omega) (by omega) (by omega) (by omega)]; first | rfl | (show q = 3; omega)) | (rw [Fl.simp_45 (i := i) (by omega) h45]; done) | (rw [Fl.simp_6 (i := i) (by omega) (by omega), Fl.le_1 (by omega)]; rfl) | (rw [Fl.simp_6 (i := i) (by omega) (by omega), Fl.le_2 (by omega) (by omega)]; rfl) | (rw [Fl.simp_6 (i := i) (by omega) (by omega), Fl.le_3 (by omega) (by omega) (by omega), Fl.wh4]; done) | (rw [Fl.simp_6 (i := i) (by omega) (by omega), Fl.le_4 (by omega) (by omega) (by omega) (by omega), Fl.wh5]; done) | (rw [Fl.simp_6 (i := i) (by omega) (by omega), Fl.le_5 (by omega) (by omega) (by omega) (by omega)]; first | rfl | (show q = 6; omega)) | (rw [Fl.simp_0 (i := i) (by omega) (by omega) h45.1 h45.2 (by omega)]; rfl) | done))) (consE (congrArg AV.int (show (Fl.joinT (5 : Int) (Fl.whole0 (5 : Int)) (Fl.restL ((l.take i).map Fl.simpT))).k = (Fl.simpT (.node q v k l)).k from (by first | (rw [Fl.simp_3a (i := i) (by omega) (by omega) (by omega)]; rfl) | (rw [Fl.simp_3b (i := i) (by omega) (by omega) (by omega) (by omega)]; done) | (rw [Fl.simp_3c (i := i) (by omega) (by omega) (by omega) (by omega)]; first | rfl | (show q = 3; omega)) | (rw [Fl.simp_45 (i := i) (by omega) h45]; done) | (rw [Fl.simp_6 (i := i) (by omega) (by omega), Fl.le_1 (by omega)]; rfl) | (rw [Fl.simp_6 (i := i) (by omega) (by omega), Fl.le_2 (by omega) (by omega)]; rfl) | (rw [Fl.simp_6 (i := i) (by omega) (by omega), Fl.le_3 (by omega) (by omega) (by omega), Fl.wh4]; done) | (rw [Fl.simp_6 (i := i) (by omega) (by omega), Fl.le_4 (by omega) (by omega) (by omega) (by omega), Fl.wh5]; done) | (rw [Fl.simp_6 (i := i) (by omega) (by omega), Fl.le_5 (by omega) (by omega) (by omega) (by omega)]; first | rfl | (show q = 6; omega)) | (rw [Fl.simp_0 (i := i) (by omega) (by omega) h45.1 h45.2 (by omega)]; rfl) | done))) (consE (congrArg AV.trees (show (Fl.joinT (5 : Int) (Fl.whole0 (5 : Int)) (Fl.restL ((l.take i).map Fl.simpT))).l = (Fl.simpT (.node q v k l)).l from (by first | (rw [Fl.simp_3a (i := i) (by omega) (by omega) (by omega)]; rfl) | (rw [Fl.simp_3b (i := i) (by omega) (by omega) (by omega) (by omega)]; done) | (rw [Fl.simp_3c (i := i) (by omega) (by omega) (by omega) (by omega)]; first | rfl | (show q = 3; omega)) | (rw [Fl.simp_45 (i := i) (by omega) h45]; done) | (rw [Fl.simp_6 (i := i) (by omega) (by omega), Fl.le_1 (by omega)]; rfl) | (rw [Fl.simp_6 (i := i) (by omega) (by omega), Fl.le_2 (by omega) (by omega)]; rfl) | (rw [Fl.simp_6 (i := i) (by omega) (by omega), Fl.le_3 (by omega) (by omega) (by omega), Fl.wh4]; done) | (rw [Fl.simp_6 (i := i) (by omega) (by omega), Fl.le_4 (by omega) (by omega) (by omega) (by omega), Fl.wh5]; done) | (rw [Fl.simp_6 (i := i) (by omega) (by omega), Fl.le_5 (by omega) (by omega) (by omega) (by omega)]; first | rfl | (show q = 6; omega)) | (rw [Fl.simp_0 (i := i) (by omega) (by omega) h45.1 h45.2 (by omega)]; rfl) | done))) rfl))))) [] rfl
           ·
            skip
            have h16 := neB hb16
            refine tri_skip ?_
            refine fin_block ?_
            refine fin_then ?_
            refine tri_seq ?_
            refine tri_regD hcx [(602, .to 602)] [] [2] [] [] [] [(602, .box [.int q, .int 0, .int (k - ((((l.take i).map Fl.simpT).filter (fun x : Tree => (x.kind == 1) && (x.v == 1))).length : Int)), .trees (Fl.restL ((l.take i).map Fl.simpT))])] (by kernel_rfl) ?_ ?_
            ·
             exact az
            refine fin_then ?_
            refine tri_ret ?_
            refine fin_block_ret ?_
            refine fin_then_ret ?_
            exact fin_ret [] rfl rfl trivial hcx (avs := [.agg [.int q, .int 0, .int (k - ((((l.take i).map Fl.simpT).filter (fun x : Tree => (x.kind == 1) && (x.v == 1))).length : Int)), .trees (Fl.restL ((l.take i).map Fl.simpT))]]) (by kernel_rfl) (congrArg AV.agg (consE (congrArg AV.int (show q = (Fl.simpT (.node q v k l)).kind from (by first | (rw [Fl.simp_3a (i := i) (by omega) (by omega) (by omega)]; rfl) | (rw [Fl.simp_3b (i := i) (by omega) (by omega) (by omega) (by omega)]; done) | (rw [Fl.simp_3c (i := i) (by omega) (by omega) (by omega) (by omega)]; first | rfl | (show q = 3; omega)) | (rw [Fl.simp_45 (i := i) (by omega) h45]; done) | (rw [Fl.simp_6 (i := i) (by omega) (by omega), Fl.le_1 (by omega)]; rfl) | (rw [Fl.simp_6 (i := i) (by omega) (by omega), Fl.le_2 (by omega) (by omega)]; rfl) | (rw [Fl.simp_6 (i := i) (by omega) (by omega), Fl.le_3 (by omega) (by omega) (by omega), Fl.wh4]; done) | (rw [Fl.simp_6 (i := i) (by omega) (by omega), Fl.le_4 (by omega) (by omega) (by omega) (by omega), Fl.wh5]; done) | (rw [Fl.simp_6 (i := i) (by omega) (by omega), Fl.le_5 (by omega) (by omega) (by omega) (by omega)]; first | rfl | (show q = 6; omega)) | (rw [Fl.simp_0 (i := i) (by omega) (by omega) h45.1 h45.2 (by omega)]; rfl) | done))) (consE (congrArg AV.int (show 0 = (Fl.simpT (.node q v k l)).v from (by first | (rw [Fl.simp_3a (i := i) (by omega) (by omega) (by omega)]; rfl) | (rw [Fl.simp_3b (i := i) (by omega) (by omega) (by omega) (by omega)]; done) | (rw [Fl.simp_3c (i := i) (by omega) (by omega) (by omega) (by omega)]; first | rfl | (show q = 3; omega)) | (rw [Fl.simp_45 (i := i) (by omega) h45]; done) | (rw [Fl.simp_6 (i := i) (by omega) (by omega), Fl.le_1 (by omega)]; rfl) | (rw [Fl.simp_6 (i := i) (by omega) (by omega), Fl.le_2 (by omega) (by omega)]; rfl) | (rw [Fl.simp_6 (i := i) (by omega) (by omega), Fl.le_3 (by omega) (by omega) (by omega), Fl.wh4]; done) | (rw [Fl.simp_6 (i := i) (by omega) (by omega), Fl.le_4 (by omega) (by omega) (by omega) (by omega), Fl.wh5]; done) | (rw [Fl.simp_6 (i := i) (by omega) (by omega), Fl.le_5 (by omega) (by omega) (by omega) (by omega)]; first | rfl | (show q = 6; omega)) | (rw [Fl.simp_0 (i := i) (by omega) (by omega) h45.1 h45.2 (by omega)]; rfl) | done))) (consE (congrArg AV.int (show (k - ((((l.take i).map Fl.simpT).filter (fun x : Tree => (x.kind == 1) && (x.v == 1))).length : Int)) = (Fl.simpT (.node q v k l)).k from (by first | (rw [Fl.simp_3a (i := i) (by omega) (by omega) (by omega)]; rfl) | (rw [Fl.simp_3b (i := i) (by omega) (by omega) (by omega) (by omega)]; done) | (rw [Fl.simp_3c (i := i) (by omega) (by omega) (by omega) (by omega)]; first | rfl | (show q = 3; omega)) | (rw [Fl.simp_45 (i := i) (by omega) h45]; done) | (rw [Fl.simp_6 (i := i) (by omega) (by omega), Fl.le_1 (by omega)]; rfl) | (rw [Fl.simp_6 (i := i) (by omega) (by omega), Fl.le_2 (by omega) (by omega)]; rfl) | (rw [Fl.simp_6 (i := i) (by omega) (by omega), Fl.le_3 (by omega) (by omega) (by omega), Fl.wh4]; done) | (rw [Fl.simp_6 (i := i) (by omega) (by omega), Fl.le_4 (by omega) (by omega) (by omega) (by omega), Fl.wh5]; done) | (rw [Fl.simp_6 (i := i) (by omega) (by omega), Fl.le_5 (by omega) (by omega) (by omega) (by omega)]; first | rfl | (show q = 6; omega)) | (rw [Fl.simp_0 (i := i) (by omega) (by omega) h45.1 h45.2 (by omega)]; rfl) | done))) (consE (congrArg AV.trees (show (Fl.restL ((l.take i).map Fl.simpT)) = (Fl.simpT (.node q v k l)).l from (by first | (rw [Fl.simp_3a (i := i) (by omega) (by omega) (by omega)]; rfl) | (rw [Fl.simp_3b (i := i) (by omega) (by omega) (by omega) (by omega)]; done) | (rw [Fl.simp_3c (i := i) (by omega) (by omega) (by omega) (by omega)]; first | rfl | (show q = 3; omega)) | (rw [Fl.simp_45 (i := i) (by omega) h45]; done) | (rw [Fl.simp_6 (i := i) (by omega) (by omega), Fl.le_1 (by omega)]; rfl) | (rw [Fl.simp_6 (i := i) (by omega) (by omega), Fl.le_2 (by omega) (by omega)]; rfl) | (rw [Fl.simp_6 (i := i) (by omega) (by omega), Fl.le_3 (by omega) (by omega) (by omega), Fl.wh4]; done) | (rw [Fl.simp_6 (i := i) (by omega) (by omega), Fl.le_4 (by omega) (by omega) (by omega) (by omega), Fl.wh5]; done) | (rw [Fl.simp_6 (i := i) (by omega) (by omega), Fl.le_5 (by omega) (by omega) (by omega) (by omega)]; first | rfl | (show q = 6; omega)) | (rw [Fl.simp_0 (i := i) (by omega) (by omega) h45.1 h45.2 (by omega)]; rfl) | done))) rfl))))) [] rfl
       ·
        skip
        have h12 := neB hb12
        refine tri_skip ?_
        refine fin_block ?_
        refine fin_then ?_
        refine tri_seq ?_
        refine tri_regD hcx [(602, .to 602)] [] [2] [] [] [] [(602, .box [.int q, .int v, .int k, .trees l])] (by kernel_rfl) ?_ ?_
        ·
         exact az
        refine fin_then ?_
        refine tri_ret ?_
        exact fin_ret [] rfl rfl trivial hcx (avs := [.agg [.int q, .int v, .int k, .trees l]]) (by kernel_rfl) (congrArg AV.agg (consE (congrArg AV.int (show q = (Fl.simpT (.node q v k l)).kind from (by first | (rw [Fl.simp_3a (i := i) (by omega) (by omega) (by omega)]; rfl) | (rw [Fl.simp_3b (i := i) (by omega) (by omega) (by omega) (by omega)]; done) | (rw [Fl.simp_3c (i := i) (by omega) (by omega) (by omega) (by omega)]; first | rfl | (show q = 3; omega)) | (rw [Fl.simp_45 (i := i) (by omega) h45]; done) | (rw [Fl.simp_6 (i := i) (by omega) (by omega), Fl.le_1 (by omega)]; rfl) | (rw [Fl.simp_6 (i := i) (by omega) (by omega), Fl.le_2 (by omega) (by omega)]; rfl) | (rw [Fl.simp_6 (i := i) (by omega) (by omega), Fl.le_3 (by omega) (by omega) (by omega), Fl.wh4]; done) | (rw [Fl.simp_6 (i := i) (by omega) (by omega), Fl.le_4 (by omega) (by omega) (by omega) (by omega), Fl.wh5]; done) | (rw [Fl.simp_6 (i := i) (by omega) (by omega), Fl.le_5 (by omega) (by omega) (by omega) (by omega)]; first | rfl | (show q = 6; omega)) | (rw [Fl.simp_0 (i := i) (by omega) (by omega) h45.1 h45.2 (by omega)]; rfl) | done))) (consE (congrArg AV.int (show v = (Fl.simpT (.node q v k l)).v from (by first | (rw [Fl.simp_3a (i := i) (by omega) (by omega) (by omega)]; rfl) | (rw [Fl.simp_3b (i := i) (by omega) (by omega) (by omega) (by omega)]; done) | (rw [Fl.simp_3c (i := i) (by omega) (by omega) (by omega) (by omega)]; first | rfl | (show q = 3; omega)) | (rw [Fl.simp_45 (i := i) (by omega) h45]; done) | (rw [Fl.simp_6 (i := i) (by omega) (by omega), Fl.le_1 (by omega)]; rfl) | (rw [Fl.simp_6 (i := i) (by omega) (by omega), Fl.le_2 (by omega) (by omega)]; rfl) | (rw [Fl.simp_6 (i := i) (by omega) (by omega), Fl.le_3 (by omega) (by omega) (by omega), Fl.wh4]; done) | (rw [Fl.simp_6 (i := i) (by omega) (by omega), Fl.le_4 (by omega) (by omega) (by omega) (by omega), Fl.wh5]; done) | (rw [Fl.simp_6 (i := i) (by omega) (by omega), Fl.le_5 (by omega) (by omega) (by omega) (by omega)]; first | rfl | (show q = 6; omega)) | (rw [Fl.simp_0 (i := i) (by omega) (by omega) h45.1 h45.2 (by omega)]; rfl) | done))) (consE (congrArg AV.int (show k = (Fl.simpT (.node q v k l)).k from (by first | (rw [Fl.simp_3a (i := i) (by omega) (by omega) (by omega)]; rfl) | (rw [Fl.simp_3b (i := i) (by omega) (by omega) (by omega) (by omega)]; done) | (rw [Fl.simp_3c (i := i) (by omega) (by omega) (by omega) (by omega)]; first | rfl | (show q = 3; omega)) | (rw [Fl.simp_45 (i := i) (by omega) h45]; done) | (rw [Fl.simp_6 (i := i) (by omega) (by omega), Fl.le_1 (by omega)]; rfl) | (rw [Fl.simp_6 (i := i) (by omega) (by omega), Fl.le_2 (by omega) (by omega)]; rfl) | (rw [Fl.simp_6 (i := i) (by omega) (by omega), Fl.le_3 (by omega) (by omega) (by omega), Fl.wh4]; done) | (rw [Fl.simp_6 (i := i) (by omega) (by omega), Fl.le_4 (by omega) (by omega) (by omega) (by omega), Fl.wh5]; done) | (rw [Fl.simp_6 (i := i) (by omega) (by omega), Fl.le_5 (by omega) (by omega) (by omega) (by omega)]; first | rfl | (show q = 6; omega)) | (rw [Fl.simp_0 (i := i) (by omega) (by omega) h45.1 h45.2 (by omega)]; rfl) | done))) (consE (congrArg AV.trees (show l = (Fl.simpT (.node q v k l)).l from (by first | (rw [Fl.simp_3a (i := i) (by omega) (by omega) (by omega)]; rfl) | (rw [Fl.simp_3b (i := i) (by omega) (by omega) (by omega) (by omega)]; done) | (rw [Fl.simp_3c (i := i) (by omega) (by omega) (by omega) (by omega)]; first | rfl | (show q = 3; omega)) | (rw [Fl.simp_45 (i := i) (by omega) h45]; done) | (rw [Fl.simp_6 (i := i) (by omega) (by omega), Fl.le_1 (by omega)]; rfl) | (rw [Fl.simp_6 (i := i) (by omega) (by omega), Fl.le_2 (by omega) (by omega)]; rfl) | (rw [Fl.simp_6 (i := i) (by omega) (by omega), Fl.le_3 (by omega) (by omega) (by omega), Fl.wh4]; done) | (rw [Fl.simp_6 (i := i) (by omega) (by omega), Fl.le_4 (by omega) (by omega) (by omega) (by omega), Fl.wh5]; done) | (rw [Fl.simp_6 (i := i) (by omega) (by omega), Fl.le_5 (by omega) (by omega) (by omega) (by omega)]; first | rfl | (show q = 6; omega)) | (rw [Fl.simp_0 (i := i) (by omega) (by omega) h45.1 h45.2 (by omega)]; rfl) | done))) rfl))))) [] rfl
 ·
  cases hσ
theorem fMade_all : ∀ nn, Sound Tryd.prog 31 (fMade_σ nn) := sound_rec (sound_none (fn := Tryd.f31) Tryd.func31 (by kernel_rfl) rfl (fun args os p r outs hσ hp => by
  unfold fMade_σ at hσ
  split at hσ
  · simp only [Option.some.injEq, Prod.mk.injEq] at hσ
    obtain ⟨rfl, rfl, rfl⟩ := hσ
    exact absurd hp.2.2.2.2 (Nat.not_lt_zero _)
  · cases hσ)) fMade_step
def fMade_τ : CtF
  | [.agg [.im (.val (.int .i64 q)), .im (.val (.int .i64 v)), .im (.val (.int .i64 k)), .im (.ls (.trees l))]], [] => some (l.length ≤ 2932031007317 ∧ Fl.lensL l ∧ Fl.sizeL l ≤ 1000000 ∧ Fl.mayN 65536 q v k l = true, .agg [.int ((Fl.simpT (.node q v k l)).kind), .int ((Fl.simpT (.node q v k l)).v), .int ((Fl.simpT (.node q v k l)).k), .trees ((Fl.simpT (.node q v k l)).l)], [])
  | _, _ => none
theorem fMade_sound : Sound Tryd.prog 31 fMade_τ := sound_all fMade_all (fun args os p r outs hσ hp => by
  unfold fMade_τ at hσ
  split at hσ
  · rename_i q v k l
    simp only [Option.some.injEq, Prod.mk.injEq] at hσ
    obtain ⟨rfl, rfl, rfl⟩ := hσ
    exact ⟨Fl.sizeL l + 1, _, rfl, ⟨hp.1, hp.2.1, hp.2.2.1, hp.2.2.2, Nat.lt_succ_self _⟩⟩
  · cases hσ)
def cx_fSimple : Cx := ⟨tyFlat2, [(37, sSortI), (38, sCompact), (34, (coeF [.agg [.id, .id, .id, .ld (.trees [])]] fParts_σ)), (35, fFormed_σ), (24, (coeF [.agg [.id, .id, .id, .ld (.trees [])]] fSize_σ)), (17, (coeF [.agg [.id, .id, .id, .ld (.trees [])], .id] fChk_σ)), (23, (coeF [.agg [.id, .id, .id, .ld (.trees [])]] fVars_σ)), (41, fConst_σ), (44, fKnown_σ), (30, (orF fKpOpen_σ fKpMade_σ)), (54, (orF (coeF [.agg [.id, .id, .id, .ld (.trees [])], .id] fJ14_σ) (coeF [.agg [.id, .id, .id, .ld (.trees [])], .id] fJ15_σ))), (40, (orF (coeF [.ld (.trees []), .id] fIxJ4_σ) (coeF [.ld (.trees []), .id] fIxJ5_σ))), (29, (orF (coeF [.ld (.trees []), .id] fCtJ4_σ) (coeF [.ld (.trees []), .id] fCtJ5_σ))), (42, fJoin_τ), (31, (coeF [.agg [.id, .id, .id, .ld (.trees [])]] fMade_τ))]⟩
theorem cx_fSimple_ok : CxOk Tryd.prog cx_fSimple := cx_ok tyFlat2_ok ⟨sSortI_sound, sCompact_sound, (fParts_sound.coe [.agg [.id, .id, .id, .ld (.trees [])]] rfl), fFormed_sound, (fSize_sound.coe [.agg [.id, .id, .id, .ld (.trees [])]] rfl), (fChk_sound.coe [.agg [.id, .id, .id, .ld (.trees [])], .id] rfl), (fVars_sound.coe [.agg [.id, .id, .id, .ld (.trees [])]] rfl), fConst_sound, fKnown_sound, (fKpOpen_sound.or fKpMade_sound), ((fJ14_sound.coe [.agg [.id, .id, .id, .ld (.trees [])], .id] rfl).or (fJ15_sound.coe [.agg [.id, .id, .id, .ld (.trees [])], .id] rfl)), ((fIxJ4_sound.coe [.ld (.trees []), .id] rfl).or (fIxJ5_sound.coe [.ld (.trees []), .id] rfl)), ((fCtJ4_sound.coe [.ld (.trees []), .id] rfl).or (fCtJ5_sound.coe [.ld (.trees []), .id] rfl)), fJoin_sound, (fMade_sound.coe [.agg [.id, .id, .id, .ld (.trees [])]] rfl), trivial⟩
def fSimple_σ : CtF
  | [.agg [.im (.val (.int .i64 q)), .im (.val (.int .i64 v)), .im (.val (.int .i64 k)), .im (.ls (.trees l))]], [] => some (l.length ≤ 2932031007317 ∧ Fl.lensL l ∧ Fl.sizeL l ≤ 1000000, .agg [.int ((Fl.simN q v k l).kind), .int ((Fl.simN q v k l).v), .int ((Fl.simN q v k l).k), .trees ((Fl.simN q v k l).l)], [])
  | _, _ => none
theorem fSimple_sound : Sound Tryd.prog 15 fSimple_σ := by
 refine sound_mk (cx := cx_fSimple) (fn := Tryd.f15) Tryd.func15 (by kernel_rfl) rfl ?_
 intro w0 G0 args os p r outs hσ hp hm0 hd0
 have hcx : CxOk Tryd.prog cx_fSimple := cx_fSimple_ok
 unfold fSimple_σ at hσ
 split at hσ
 ·
  rename_i q v k l
  simp only [Option.some.injEq, Prod.mk.injEq] at hσ
  obtain ⟨rfl, rfl, rfl⟩ := hσ
  obtain ⟨wW, wO, wm, wβ, wd⟩ := w0
  replace hm0 : wm = 0 := hm0
  subst hm0
  replace hd0 : wd = [] := hd0
  subst hd0
  refine ⟨by kernel_rfl, ?_⟩
  change Tri ⟨_, _, _, _, _, _⟩ [(0, .agg [.int q, .int v, .int k, .trees l])] [] _ _
  obtain ⟨hm1, hm2, hsz⟩ := hp
  have hst := Fl.size_node q v k l
  refine tri_seq ?_
  refine tri_regD hcx [(1001, .to 602), (1000, .frz)] [1, 2] [] [] [] [(1, .pto [.int q, .int v, .int k, .ls (.trees l)]), (2, .loc 602 0)] [(602, .box [.int 0, .int 0, .int 0, .im (.val (.slice none 0 0))])] (by kernel_rfl) ?_ ?_
  ·
   exact az
  refine fin_then ?_
  refine tri_seq ?_
  refine tri_seq ?_
  refine tri_regD hcx [] [5] [1, 2] [602] [(Fl.sizeT (.node q v k l) ≤ 1000000000000000)] [(5, .bool ((Fl.chkN (65536 : Int) q v k l) != 0))] [] (by kernel_rfl) ?_ ?_
  ·
   refine (ap ?_ az)
   first | omega | exact id | exact vcNot | exact vcG | exact vcH | (intro _; omega) | exact (fun _ h => h) | (intro h; simp at h; omega) | (simp only [List.length_cons, List.length_nil, List.length_append, List.length_map, List.length_set, List.length_replicate]; omega) | (intro h; simp [h]; done) | exact ⟨hm1, hm2, hsz, h0.1⟩ | (constructor <;> omega) | exact True.intro | done
  refine fin_then ?_
  refine tri_cond (b := ((Fl.chkN (65536 : Int) q v k l) != 0)) (by kernel_rfl) (fun hb0 => ?_) (fun hb0 => ?_)
  ·
   skip
   have h0 := hb0
   have hb := h0
   refine tri_seq ?_
   refine tri_regD hcx [(602, .to 602)] [] [2] [] [] [] [(602, .box [.int 0, .int 0, .int 0, .im (.val (.slice none 0 0))])] (by kernel_rfl) ?_ ?_
   ·
    exact az
   refine fin_then ?_
   refine tri_ret ?_
   refine fin_then_ret ?_
   refine fin_rowB 602 3 700 0 (.trees []) (by kernel_rfl) (by kernel_rfl) (by kernel_rfl) (by kernel_rfl) (H' := [(602, .box [.int 0, .int 0, .int 0, .row 700])]) (by kernel_rfl) ?_
   refine fin_ren (ρ := [(602, .to 990), (700, .frz)]) (keys := [2]) (E' := [(2, .loc 990 0)]) (H' := [(990, .box [.int 0, .int 0, .int 0, .trees []])]) (by kernel_rfl) ?_
   exact fin_ret [] rfl rfl trivial hcx (avs := [.agg [.int 0, .int 0, .int 0, .trees []]]) (by kernel_rfl) (congrArg AV.agg (consE (congrArg AV.int (show 0 = (Fl.simN q v k l).kind from (by first | (unfold Fl.simN; rw [hb]; rfl) | done))) (consE (congrArg AV.int (show 0 = (Fl.simN q v k l).v from (by first | (unfold Fl.simN; rw [hb]; rfl) | done))) (consE (congrArg AV.int (show 0 = (Fl.simN q v k l).k from (by first | (unfold Fl.simN; rw [hb]; rfl) | done))) (consE (congrArg AV.trees (show [] = (Fl.simN q v k l).l from (by first | (unfold Fl.simN; rw [hb]; rfl) | done))) rfl))))) [] rfl
  ·
   skip
   have h0 := hb0
   have hb := h0
   have h0 := Fl.chk_0 (by simpa using h0)
   refine tri_skip ?_
   refine fin_then ?_
   refine tri_seq ?_
   refine tri_regD hcx [(602, .to 602)] [] [2] [] [(l.length ≤ 2932031007317 ∧ Fl.lensL l ∧ Fl.sizeL l ≤ 1000000 ∧ Fl.mayN 65536 q v k l = true)] [] [(602, .box [.int ((Fl.simpT (.node q v k l)).kind), .int ((Fl.simpT (.node q v k l)).v), .int ((Fl.simpT (.node q v k l)).k), .trees ((Fl.simpT (.node q v k l)).l)])] (by kernel_rfl) ?_ ?_
   ·
    refine (ap ?_ az)
    first | omega | exact id | exact vcNot | exact vcG | exact vcH | (intro _; omega) | exact (fun _ h => h) | (intro h; simp at h; omega) | (simp only [List.length_cons, List.length_nil, List.length_append, List.length_map, List.length_set, List.length_replicate]; omega) | (intro h; simp [h]; done) | exact ⟨hm1, hm2, hsz, h0.1⟩ | (constructor <;> omega) | exact True.intro | done
   refine fin_then ?_
   refine tri_ret ?_
   exact fin_ret [] rfl rfl trivial hcx (avs := [.agg [.int ((Fl.simpT (.node q v k l)).kind), .int ((Fl.simpT (.node q v k l)).v), .int ((Fl.simpT (.node q v k l)).k), .trees ((Fl.simpT (.node q v k l)).l)]]) (by kernel_rfl) (congrArg AV.agg (consE (congrArg AV.int (show (Fl.simpT (.node q v k l)).kind = (Fl.simN q v k l).kind from (by first | (unfold Fl.simN; rw [hb]; rfl) | done))) (consE (congrArg AV.int (show (Fl.simpT (.node q v k l)).v = (Fl.simN q v k l).v from (by first | (unfold Fl.simN; rw [hb]; rfl) | done))) (consE (congrArg AV.int (show (Fl.simpT (.node q v k l)).k = (Fl.simN q v k l).k from (by first | (unfold Fl.simN; rw [hb]; rfl) | done))) (consE (congrArg AV.trees (show (Fl.simpT (.node q v k l)).l = (Fl.simN q v k l).l from (by first | (unfold Fl.simN; rw [hb]; rfl) | done))) rfl))))) [] rfl
 ·
  cases hσ
end Go.Proofs.YtlhjliigfecihaaDoor.En
