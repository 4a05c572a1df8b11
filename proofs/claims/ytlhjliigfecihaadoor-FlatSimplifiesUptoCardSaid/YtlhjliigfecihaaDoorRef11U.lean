/- The reference of layer 11: Check and Simple, in the reader's words. -/
import Derived.Test.YtlhjliigfecihaaDoorRef11S
import Derived.Test.YtlhjliigfecihaaDoorRef11T
import Derived.Test.YtlhjliigfecihaaDoorTreeN
namespace Go.Proofs.YtlhjliigfecihaaDoor.En
open Go Go.RowKit
set_option linter.unusedVariables false
set_option linter.unusedSimpArgs false
set_option linter.unnecessarySimpa false
def tyR11c : List (Nat × TD) := [(3, ⟨1, false, [.int .i64 0], [], none, 8, false, 1, 1⟩),
  (22, ⟨1, false, [.slice none 0 0], [], some 24, 24, false, 0, 0⟩),
  (24, ⟨4, true, [.int .i64 0, .int .i64 0, .int .i64 0, .slice none 0 0], [(0, 3), (1, 3), (2, 3), (3, 22)], none, 48, false, 0, 4⟩),
  (31, ⟨1, false, [.int .i64 0], [], none, 8, false, 1, 1⟩)]
theorem tyR11c_ok : AllTy Tryd.prog tyR11c := ⟨⟨by kernel_rfl, by kernel_rfl⟩, ⟨by kernel_rfl, by kernel_rfl⟩, ⟨by kernel_rfl, by kernel_rfl⟩, ⟨by kernel_rfl, by kernel_rfl⟩, trivial⟩
def cx_rChkT : Cx := ⟨tyR11c, [(46, (coeF [.agg [.id, .id, .id, .ld (.trees [])], .id] rMay_τ)), (47, (coeF [.agg [.id, .id, .id, .ld (.trees [])]] rSize_τ)), (33, (coeF [.agg [.id, .id, .id, .ld (.trees [])]] rSimp_τ))]⟩
theorem cx_rChkT_ok : CxOk Tryd.prog cx_rChkT := cx_ok tyR11c_ok ⟨(rMay_sound.coe [.agg [.id, .id, .id, .ld (.trees [])], .id] rfl), (rSize_sound.coe [.agg [.id, .id, .id, .ld (.trees [])]] rfl), (rSimp_sound.coe [.agg [.id, .id, .id, .ld (.trees [])]] rfl), trivial⟩
def rChkT_σ : CtF
  | [.agg [.im (.val (.int .i64 q)), .im (.val (.int .i64 v)), .im (.val (.int .i64 k)), .im (.ls (.trees l))], .im (.val (.int .i64 n))], [] => some (l.length ≤ 2932031007317 ∧ Fl.lensL l ∧ Fit n ∧ Fl.sizeL l ≤ 1000000000000000, .int (Fl.chkN n q v k l), [])
  | _, _ => none
theorem rChkT_sound : Sound Tryd.prog 32 rChkT_σ := by
 refine sound_mk (cx := cx_rChkT) (fn := Tryd.f32) Tryd.func32 (by kernel_rfl) rfl ?_
 intro w0 G0 args os p r outs hσ hp hm0 hd0
 have hcx : CxOk Tryd.prog cx_rChkT := cx_rChkT_ok
 unfold rChkT_σ at hσ
 split at hσ
 ·
  rename_i q v k l n
  simp only [Option.some.injEq, Prod.mk.injEq] at hσ
  obtain ⟨rfl, rfl, rfl⟩ := hσ
  obtain ⟨wW, wO, wm, wβ, wd⟩ := w0
  replace hm0 : wm = 0 := hm0
  subst hm0
  replace hd0 : wd = [] := hd0
  subst hd0
  refine ⟨by kernel_rfl, ?_⟩
  change Tri ⟨_, _, _, _, _, _⟩ [(0, .agg [.int q, .int v, .int k, .trees l]), (1, .int n)] [] _ _
  obtain ⟨hm1, hm2, hm3, hsz⟩ := hp
  refine tri_seq ?_
  refine tri_regD hcx [(1000, .frz)] [2] [1] [] [] [(2, .pto [.int q, .int v, .int k, .ls (.trees l)])] [] (by kernel_rfl) ?_ ?_
  ·
   exact az
  refine fin_then ?_
  refine tri_seq ?_
  refine tri_seq ?_
  refine tri_regD hcx [] [16] [2] [] [((!(decide (n < 0))) = true → ((!(decide (n < 0))) = true)), ((decide (n < 0)) = false → (!(decide (n < 0))) = true), ((!((decide (n < 0)) || (decide (n > 65536)))) = true → ((!((decide (n < 0)) || (decide (n > 65536)))) = true)), ((!((decide (n < 0)) || (decide (n > 65536)))) = true → ((!((decide (n < 0)) || (decide (n > 65536)))) = true)), ((!((decide (n < 0)) || (decide (n > 65536)))) = true → (l.length ≤ 2932031007317 ∧ Fl.lensL l ∧ Fit n)), ((!((decide (n < 0)) || (decide (n > 65536)))) = true → ((!((decide (n < 0)) || (decide (n > 65536)))) = true)), (((decide (n < 0)) || (decide (n > 65536))) = false → (!((decide (n < 0)) || (decide (n > 65536)))) = true)] [(16, .bool (((decide (n < 0)) || (decide (n > 65536))) || (!(Fl.mayN n q v k l))))] [] (by kernel_rfl) ?_ ?_
  ·
   refine (ap ?_ (ap (by exact vcNot) (ap ?_ (ap ?_ (ap ?_ (ap ?_ (ap (by exact vcNot) az)))))))
   all_goals
    first | omega | exact id | exact vcNot | exact vcG | exact vcH | (intro _; omega) | exact (fun _ h => h) | (intro h; simp at h; omega) | (simp only [List.length_cons, List.length_nil, List.length_append, List.length_map, List.length_set, List.length_replicate]; omega) | (intro h; simp [h]; done) | exact ⟨hm1, hm2, hm3⟩ | exact (fun _ => ⟨hm1, hm2, hm3⟩) | exact ⟨hm1, hm2, hsz⟩ | (constructor <;> omega) | done
  refine fin_then ?_
  refine tri_cond (b := (((decide (n < 0)) || (decide (n > 65536))) || (!(Fl.mayN n q v k l)))) (by kernel_rfl) (fun hb0 => ?_) (fun hb0 => ?_)
  ·
   skip
   have h0 := hb0
   have hb := h0
   refine tri_seq ?_
   refine tri_regD hcx [] [4] [] [] [] [(4, .int 1)] [] (by kernel_rfl) ?_ ?_
   ·
    exact az
   refine fin_then ?_
   refine tri_ret ?_
   refine fin_then_ret ?_
   exact fin_ret [] rfl rfl trivial hcx (avs := [.int 1]) (by kernel_rfl) (congrArg AV.int (show 1 = (Fl.chkN n q v k l) from (by first | (unfold Fl.chkN; rw [hb, hc]; rfl) | (unfold Fl.chkN; rw [hb]; rfl) | done))) [] rfl
  ·
   skip
   have h0 := hb0
   have hb := h0
   refine tri_skip ?_
   refine fin_then ?_
   refine tri_seq ?_
   refine tri_seq ?_
   refine tri_regD hcx [] [19] [] [] [(l.length ≤ 2932031007317 ∧ Fl.lensL l ∧ Fl.sizeL l ≤ 1000000000000000)] [(19, .bool (decide (((1 + Fl.sizeL l : Nat) : Int) > 65536)))] [] (by kernel_rfl) ?_ ?_
   ·
    refine (ap ?_ az)
    first | omega | exact id | exact vcNot | exact vcG | exact vcH | (intro _; omega) | exact (fun _ h => h) | (intro h; simp at h; omega) | (simp only [List.length_cons, List.length_nil, List.length_append, List.length_map, List.length_set, List.length_replicate]; omega) | (intro h; simp [h]; done) | exact ⟨hm1, hm2, hm3⟩ | exact (fun _ => ⟨hm1, hm2, hm3⟩) | exact ⟨hm1, hm2, hsz⟩ | (constructor <;> omega) | done
   refine fin_then ?_
   refine tri_cond (b := (decide (((1 + Fl.sizeL l : Nat) : Int) > 65536))) (by kernel_rfl) (fun hb1 => ?_) (fun hb1 => ?_)
   ·
    skip
    have h1 := hb1
    have hc := h1
    refine tri_seq ?_
    refine tri_regD hcx [] [4] [] [] [] [(4, .int 2)] [] (by kernel_rfl) ?_ ?_
    ·
     exact az
    refine fin_then ?_
    refine tri_ret ?_
    refine fin_then_ret ?_
    exact fin_ret [] rfl rfl trivial hcx (avs := [.int 2]) (by kernel_rfl) (congrArg AV.int (show 2 = (Fl.chkN n q v k l) from (by first | (unfold Fl.chkN; rw [hb, hc]; rfl) | (unfold Fl.chkN; rw [hb]; rfl) | done))) [] rfl
   ·
    skip
    have h1 := hb1
    have hc := h1
    refine tri_skip ?_
    refine fin_then ?_
    refine tri_seq ?_
    refine tri_regD hcx [] [4] [] [] [] [(4, .int 0)] [] (by kernel_rfl) ?_ ?_
    ·
     exact az
    refine fin_then ?_
    refine tri_ret ?_
    exact fin_ret [] rfl rfl trivial hcx (avs := [.int 0]) (by kernel_rfl) (congrArg AV.int (show 0 = (Fl.chkN n q v k l) from (by first | (unfold Fl.chkN; rw [hb, hc]; rfl) | (unfold Fl.chkN; rw [hb]; rfl) | done))) [] rfl
 ·
  cases hσ
def cx_rSimple : Cx := ⟨tyR11c, [(46, (coeF [.agg [.id, .id, .id, .ld (.trees [])], .id] rMay_τ)), (47, (coeF [.agg [.id, .id, .id, .ld (.trees [])]] rSize_τ)), (33, (coeF [.agg [.id, .id, .id, .ld (.trees [])]] rSimp_τ)), (32, (coeF [.agg [.id, .id, .id, .ld (.trees [])], .id] rChkT_σ))]⟩
theorem cx_rSimple_ok : CxOk Tryd.prog cx_rSimple := cx_ok tyR11c_ok ⟨(rMay_sound.coe [.agg [.id, .id, .id, .ld (.trees [])], .id] rfl), (rSize_sound.coe [.agg [.id, .id, .id, .ld (.trees [])]] rfl), (rSimp_sound.coe [.agg [.id, .id, .id, .ld (.trees [])]] rfl), (rChkT_sound.coe [.agg [.id, .id, .id, .ld (.trees [])], .id] rfl), trivial⟩
def rSimple_σ : CtF
  | [.agg [.im (.val (.int .i64 q)), .im (.val (.int .i64 v)), .im (.val (.int .i64 k)), .im (.ls (.trees l))]], [] => some (l.length ≤ 2932031007317 ∧ Fl.lensL l ∧ Fl.sizeL l ≤ 1000000, .agg [.int ((Fl.simN q v k l).kind), .int ((Fl.simN q v k l).v), .int ((Fl.simN q v k l).k), .trees ((Fl.simN q v k l).l)], [])
  | _, _ => none
theorem rSimple_sound : Sound Tryd.prog 16 rSimple_σ := by
 refine sound_mk (cx := cx_rSimple) (fn := Tryd.f16) Tryd.func16 (by kernel_rfl) rfl ?_
 intro w0 G0 args os p r outs hσ hp hm0 hd0
 have hcx : CxOk Tryd.prog cx_rSimple := cx_rSimple_ok
 unfold rSimple_σ at hσ
 split at hσ
 ·
  rename_i q v k l
  simp only [Option.some.injEq, Prod.mk.injEq] at hσ
  obtain ⟨rfl, rfl, rfl⟩ := hσ
  obtain ⟨wW, wO, wm, wβ, wd⟩ := w0
  replace hm0 : wm = 0 := hm0
  subst hm0
  replace hd0 : wd = [] := hd0
  subst hd0
  refine ⟨by kernel_rfl, ?_⟩
  change Tri ⟨_, _, _, _, _, _⟩ [(0, .agg [.int q, .int v, .int k, .trees l])] [] _ _
  obtain ⟨hm1, hm2, hsz⟩ := hp
  refine tri_seq ?_
  refine tri_regD hcx [(1001, .to 602), (1000, .frz)] [1, 2] [] [] [] [(1, .pto [.int q, .int v, .int k, .ls (.trees l)]), (2, .loc 602 0)] [(602, .box [.int 0, .int 0, .int 0, .im (.val (.slice none 0 0))])] (by kernel_rfl) ?_ ?_
  ·
   exact az
  refine fin_then ?_
  refine tri_seq ?_
  refine tri_seq ?_
  refine tri_regD hcx [] [5] [1, 2] [602] [(l.length ≤ 2932031007317 ∧ Fl.lensL l ∧ Fit (65536 : Int) ∧ Fl.sizeL l ≤ 1000000000000000)] [(5, .bool ((Fl.chkN (65536 : Int) q v k l) != 0))] [] (by kernel_rfl) ?_ ?_
  ·
   refine (ap ?_ az)
   first | omega | exact id | exact vcNot | exact vcG | exact vcH | (intro _; omega) | exact (fun _ h => h) | (intro h; simp at h; omega) | (simp only [List.length_cons, List.length_nil, List.length_append, List.length_map, List.length_set, List.length_replicate]; omega) | (intro h; simp [h]; done) | exact ⟨hm1, hm2, by constructor <;> omega, by omega⟩ | exact ⟨hm1, hm2, hsz, h0.1⟩ | (constructor <;> omega) | exact True.intro | done
  refine fin_then ?_
  refine tri_cond (b := ((Fl.chkN (65536 : Int) q v k l) != 0)) (by kernel_rfl) (fun hb0 => ?_) (fun hb0 => ?_)
  ·
   skip
   have h0 := hb0
   have hb := h0
   refine tri_seq ?_
   refine tri_regD hcx [(602, .to 602)] [] [2] [] [] [] [(602, .box [.int 0, .int 0, .int 0, .im (.val (.slice none 0 0))])] (by kernel_rfl) ?_ ?_
   ·
    exact az
   refine fin_then ?_
   refine tri_ret ?_
   refine fin_then_ret ?_
   refine fin_rowB 602 3 700 0 (.trees []) (by kernel_rfl) (by kernel_rfl) (by kernel_rfl) (by kernel_rfl) (H' := [(602, .box [.int 0, .int 0, .int 0, .row 700])]) (by kernel_rfl) ?_
   refine fin_ren (ρ := [(602, .to 990), (700, .frz)]) (keys := [2]) (E' := [(2, .loc 990 0)]) (H' := [(990, .box [.int 0, .int 0, .int 0, .trees []])]) (by kernel_rfl) ?_
   exact fin_ret [] rfl rfl trivial hcx (avs := [.agg [.int 0, .int 0, .int 0, .trees []]]) (by kernel_rfl) (congrArg AV.agg (consE (congrArg AV.int (show 0 = (Fl.simN q v k l).kind from (by first | (unfold Fl.simN; rw [hb]; rfl) | done))) (consE (congrArg AV.int (show 0 = (Fl.simN q v k l).v from (by first | (unfold Fl.simN; rw [hb]; rfl) | done))) (consE (congrArg AV.int (show 0 = (Fl.simN q v k l).k from (by first | (unfold Fl.simN; rw [hb]; rfl) | done))) (consE (congrArg AV.trees (show [] = (Fl.simN q v k l).l from (by first | (unfold Fl.simN; rw [hb]; rfl) | done))) rfl))))) [] rfl
  ·
   skip
   have h0 := hb0
   have hb := h0
   have h0 := Fl.chk_0 (by simpa using h0)
   refine tri_skip ?_
   refine fin_then ?_
   refine tri_seq ?_
   refine tri_regD hcx [(602, .to 602)] [] [2] [] [(l.length ≤ 2932031007317 ∧ Fl.lensL l ∧ Fl.sizeL l ≤ 1000000 ∧ Fl.mayN 65536 q v k l = true)] [] [(602, .box [.int ((Fl.simpT (.node q v k l)).kind), .int ((Fl.simpT (.node q v k l)).v), .int ((Fl.simpT (.node q v k l)).k), .trees ((Fl.simpT (.node q v k l)).l)])] (by kernel_rfl) ?_ ?_
   ·
    refine (ap ?_ az)
    first | omega | exact id | exact vcNot | exact vcG | exact vcH | (intro _; omega) | exact (fun _ h => h) | (intro h; simp at h; omega) | (simp only [List.length_cons, List.length_nil, List.length_append, List.length_map, List.length_set, List.length_replicate]; omega) | (intro h; simp [h]; done) | exact ⟨hm1, hm2, by constructor <;> omega, by omega⟩ | exact ⟨hm1, hm2, hsz, h0.1⟩ | (constructor <;> omega) | exact True.intro | done
   refine fin_then ?_
   refine tri_ret ?_
   exact fin_ret [] rfl rfl trivial hcx (avs := [.agg [.int ((Fl.simpT (.node q v k l)).kind), .int ((Fl.simpT (.node q v k l)).v), .int ((Fl.simpT (.node q v k l)).k), .trees ((Fl.simpT (.node q v k l)).l)]]) (by kernel_rfl) (congrArg AV.agg (consE (congrArg AV.int (show (Fl.simpT (.node q v k l)).kind = (Fl.simN q v k l).kind from (by first | (unfold Fl.simN; rw [hb]; rfl) | done))) (consE (congrArg AV.int (show (Fl.simpT (.node q v k l)).v = (Fl.simN q v k l).v from (by first | (unfold Fl.simN; rw [hb]; rfl) | done))) (consE (congrArg AV.int (show (Fl.simpT (.node q v k l)).k = (Fl.simN q v k l).k from (by first | (unfold Fl.simN; rw [hb]; rfl) | done))) (consE (congrArg AV.trees (show (Fl.simpT (.node q v k l)).l = (Fl.simN q v k l).l from (by first | (unfold Fl.simN; rw [hb]; rfl) | done))) rfl))))) [] rfl
 ·
  cases hσ
end Go.Proofs.YtlhjliigfecihaaDoor.En
