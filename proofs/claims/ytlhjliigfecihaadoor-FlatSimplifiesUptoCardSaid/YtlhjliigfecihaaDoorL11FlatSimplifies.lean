/- The law FlatSimplifies of layer 11: it returns true. Conditions: lists within memory. -/
import Derived.Test.YtlhjliigfecihaaDoorLive11S
import Derived.Test.YtlhjliigfecihaaDoorLaw11P
import Derived.Test.YtlhjliigfecihaaDoorRef11S
import Derived.Test.YtlhjliigfecihaaDoorRef11U
namespace Go.Proofs.YtlhjliigfecihaaDoor.En
open Go Go.RowKit
set_option linter.unusedVariables false
set_option linter.unusedSimpArgs false
set_option linter.unnecessarySimpa false
def tyLFlatSimplifies : List (Nat × TD) := [(3, ⟨1, false, [.int .i64 0], [], none, 8, false, 1, 1⟩),
  (4, ⟨1, false, [.bool false], [], none, 1, true, 0, 2⟩),
  (22, ⟨1, false, [.slice none 0 0], [], some 24, 24, false, 0, 0⟩),
  (24, ⟨4, true, [.int .i64 0, .int .i64 0, .int .i64 0, .slice none 0 0], [(0, 3), (1, 3), (2, 3), (3, 22)], none, 48, false, 0, 4⟩),
  (25, ⟨1, false, [.slice none 0 0], [], some 4, 24, false, 0, 0⟩)]
theorem tyLFlatSimplifies_ok : AllTy Tryd.prog tyLFlatSimplifies := ⟨⟨by kernel_rfl, by kernel_rfl⟩, ⟨by kernel_rfl, by kernel_rfl⟩, ⟨by kernel_rfl, by kernel_rfl⟩, ⟨by kernel_rfl, by kernel_rfl⟩, ⟨by kernel_rfl, by kernel_rfl⟩, trivial⟩
def cx_lFlatSimplifies : Cx := ⟨tyLFlatSimplifies, [(25, lV_σ), (26, lConst_σ), (21, (coeF [.id, .id, .ld (.trees [])] lOf_σ)), (20, (coeF [.agg [.id, .id, .id, .ld (.trees [])]] lNot_σ)), (15, (coeF [.agg [.id, .id, .id, .ld (.trees [])]] fSimple_σ)), (27, (coeF [.agg [.id, .id, .id, .ld (.trees [])], .agg [.id, .id, .id, .ld (.trees [])]] fSame_τ)), (12, (coeF [.agg [.id, .id, .id, .ld (.trees [])], .ld (.bools [])] fVal_τ)), (24, (coeF [.agg [.id, .id, .id, .ld (.trees [])]] fSize_σ)), (17, (coeF [.agg [.id, .id, .id, .ld (.trees [])], .id] fChk_σ)), (23, (coeF [.agg [.id, .id, .id, .ld (.trees [])]] fVars_σ)), (36, (coeF [.agg [.id, .id, .id, .ld (.trees [])], .id] rWeigh)), (10, lLive_σ), (11, (coeF [.agg [.id, .id, .id, .ld (.trees [])], .ld (.bools [])] lFew_σ)), (19, (coeF [.agg [.id, .id, .id, .ld (.trees [])]] rFew_σ)), (14, (coeF [.agg [.id, .id, .id, .ld (.trees [])], .agg [.id, .id, .id, .ld (.trees [])]] rSameT_τ)), (16, (coeF [.agg [.id, .id, .id, .ld (.trees [])]] rSimple_σ))]⟩
theorem cx_lFlatSimplifies_ok : CxOk Tryd.prog cx_lFlatSimplifies := cx_ok tyLFlatSimplifies_ok ⟨lV_sound, lConst_sound, (lOf_sound.coe [.id, .id, .ld (.trees [])] rfl), (lNot_sound.coe [.agg [.id, .id, .id, .ld (.trees [])]] rfl), (fSimple_sound.coe [.agg [.id, .id, .id, .ld (.trees [])]] rfl), (fSame_sound.coe [.agg [.id, .id, .id, .ld (.trees [])], .agg [.id, .id, .id, .ld (.trees [])]] rfl), (fVal_sound.coe [.agg [.id, .id, .id, .ld (.trees [])], .ld (.bools [])] rfl), (fSize_sound.coe [.agg [.id, .id, .id, .ld (.trees [])]] rfl), (fChk_sound.coe [.agg [.id, .id, .id, .ld (.trees [])], .id] rfl), (fVars_sound.coe [.agg [.id, .id, .id, .ld (.trees [])]] rfl), (rWeigh_sound.coe [.agg [.id, .id, .id, .ld (.trees [])], .id] rfl), lLive_sound, (lFew_sound.coe [.agg [.id, .id, .id, .ld (.trees [])], .ld (.bools [])] rfl), (rFew_sound.coe [.agg [.id, .id, .id, .ld (.trees [])]] rfl), (rSameT_sound.coe [.agg [.id, .id, .id, .ld (.trees [])], .agg [.id, .id, .id, .ld (.trees [])]] rfl), (rSimple_sound.coe [.agg [.id, .id, .id, .ld (.trees [])]] rfl), trivial⟩
def lFlatSimplifies_σ : CtF
  | [.agg [.im (.val (.int .i64 q)), .im (.val (.int .i64 v)), .im (.val (.int .i64 k)), .im (.ls (.trees l))]], [] => some (l.length ≤ 2932031007317 ∧ Fl.lensL l ∧ Fl.sizeL l ≤ 1000000, .bool true, [])
  | _, _ => none
theorem lFlatSimplifies_sound : Sound Tryd.prog 4 lFlatSimplifies_σ := by
 refine sound_mk (cx := cx_lFlatSimplifies) (fn := Tryd.f4) Tryd.func4 (by kernel_rfl) rfl ?_
 intro w0 G0 args os p r outs hσ hp hm0 hd0
 have hcx : CxOk Tryd.prog cx_lFlatSimplifies := cx_lFlatSimplifies_ok
 have hmx : Tryd.prog.follows .mixedOrders = true := by kernel_rfl
 unfold lFlatSimplifies_σ at hσ
 split at hσ
 ·
  rename_i q v k l
  simp only [Option.some.injEq, Prod.mk.injEq] at hσ
  obtain ⟨rfl, rfl, rfl⟩ := hσ
  obtain ⟨wW, wO, wm, wβ, wd⟩ := w0
  replace hm0 : wm = 0 := hm0
  subst hm0
  replace hd0 : wd = [] := hd0
  subst hd0
  refine ⟨by kernel_rfl, ?_⟩
  change Tri ⟨_, _, _, _, _, _⟩ [(0, .agg [.int q, .int v, .int k, .trees l])] [] _ _
  obtain ⟨hm1, hm2, hsz⟩ := hp
  refine tri_seq ?_
  refine tri_regD hcx [(1000, .frz)] [1] [] [] [] [(1, .pto [.int q, .int v, .int k, .ls (.trees l)])] [] (by kernel_rfl) ?_ ?_
  ·
   exact az
  refine fin_then ?_
  refine tri_seq ?_
  refine tri_seq ?_
  refine tri_regD hcx [] [4] [1] [] [(True)] [(4, .bool (!true))] [] (by kernel_rfl) ?_ ?_
  ·
   refine (ap ?_ az)
   first | omega | exact id | exact vcNot | exact vcG | exact vcH | (intro _; omega) | exact (fun _ h => h) | (intro h; simp at h; omega) | (simp only [List.length_cons, List.length_nil, List.length_append, List.length_map, List.length_set, List.length_replicate]; omega) | (intro h; simp [h]; done) | exact True.intro | exact (fun _ => True.intro) | exact ⟨hm1, hm2, hsz⟩ | exact Fl.simN_lens hsz | (intro _; omega) | (unfold maxLen; decide) | done
  refine fin_then ?_
  refine tri_cond (b := (!true)) (by kernel_rfl) (fun hb0 => ?_) (fun hb0 => ?_)
  ·
   skip
   have h0 := (notB_t hb0)
   exact absurd h0 (by decide)
  ·
   skip
   have h0 := (notB_f hb0)
   refine tri_skip ?_
   refine fin_then ?_
   refine tri_seq ?_
   refine tri_seq ?_
   refine tri_regD hcx [] [7] [1] [] [(([] : List (Bool)).length ≤ maxLen)] [(7, .bool (!(Fl.fewT l && decide ((([] : List (Bool)).length : Int) ≤ 1000))))] [] (by kernel_rfl) ?_ ?_
   ·
    refine (ap ?_ az)
    first | omega | exact id | exact vcNot | exact vcG | exact vcH | (intro _; omega) | exact (fun _ h => h) | (intro h; simp at h; omega) | (simp only [List.length_cons, List.length_nil, List.length_append, List.length_map, List.length_set, List.length_replicate]; omega) | (intro h; simp [h]; done) | exact True.intro | exact (fun _ => True.intro) | exact ⟨hm1, hm2, hsz⟩ | exact Fl.simN_lens hsz | (intro _; omega) | (unfold maxLen; decide) | done
   refine fin_then ?_
   refine tri_cond (b := (!(Fl.fewT l && decide ((([] : List (Bool)).length : Int) ≤ 1000)))) (by kernel_rfl) (fun hb1 => ?_) (fun hb1 => ?_)
   ·
    skip
    have h1 := hb1
    skip
    refine tri_seq ?_
    refine tri_regD hcx [] [2] [] [] [] [(2, .bool true)] [] (by kernel_rfl) ?_ ?_
    ·
     exact az
    refine fin_then ?_
    refine tri_ret ?_
    refine fin_then_ret ?_
    exact fin_ret [] rfl rfl trivial hcx (avs := [.bool true]) (by kernel_rfl) rfl [] rfl
   ·
    skip
    have h1 := hb1
    skip
    refine tri_skip ?_
    refine fin_then ?_
    refine tri_seq ?_
    refine tri_drawD [0, 1, 0, 7, 15, 31] hcx hmx [] [2] [] [] [(l.length ≤ 2932031007317 ∧ Fl.lensL l ∧ Fl.sizeL l ≤ 1000000), (l.length ≤ 2932031007317 ∧ Fl.lensL l ∧ Fl.sizeL l ≤ 1000000), (((Fl.simN q v k l).l).length ≤ 2932031007317 ∧ Fl.lensL ((Fl.simN q v k l).l))] [(2, .bool (Fl.sameB (.node ((Fl.simN q v k l).kind) ((Fl.simN q v k l).v) ((Fl.simN q v k l).k) ((Fl.simN q v k l).l)) (.node ((Fl.simN q v k l).kind) ((Fl.simN q v k l).v) ((Fl.simN q v k l).k) ((Fl.simN q v k l).l))))] [] (by kernel_rfl) ?_ ?_
    ·
     refine (ap ?_ (ap ?_ (ap ?_ az)))
     all_goals
      first | omega | exact id | exact vcNot | exact vcG | exact vcH | (intro _; omega) | exact (fun _ h => h) | (intro h; simp at h; omega) | (simp only [List.length_cons, List.length_nil, List.length_append, List.length_map, List.length_set, List.length_replicate]; omega) | (intro h; simp [h]; done) | exact True.intro | exact (fun _ => True.intro) | exact ⟨hm1, hm2, hsz⟩ | exact Fl.simN_lens hsz | (intro _; omega) | (unfold maxLen; decide) | done
    refine fin_then ?_
    refine tri_ret ?_
    exact fin_ret [] rfl rfl trivial hcx (avs := [.bool (Fl.sameB (.node ((Fl.simN q v k l).kind) ((Fl.simN q v k l).v) ((Fl.simN q v k l).k) ((Fl.simN q v k l).l)) (.node ((Fl.simN q v k l).kind) ((Fl.simN q v k l).v) ((Fl.simN q v k l).k) ((Fl.simN q v k l).l)))]) (by kernel_rfl) (congrArg AV.bool (show (Fl.sameB (.node ((Fl.simN q v k l).kind) ((Fl.simN q v k l).v) ((Fl.simN q v k l).k) ((Fl.simN q v k l).l)) (.node ((Fl.simN q v k l).kind) ((Fl.simN q v k l).v) ((Fl.simN q v k l).k) ((Fl.simN q v k l).l))) = true from (by exact Fl.same_self _))) [] rfl
 ·
  cases hσ
end Go.Proofs.YtlhjliigfecihaaDoor.En
