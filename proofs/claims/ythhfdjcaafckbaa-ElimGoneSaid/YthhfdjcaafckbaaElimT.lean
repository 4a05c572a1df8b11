/- Elim of layer 23, in the reader's words. -/
import Derived.Test.YthhfdjcaafckbaaElimS
import Derived.Test.YthhfdjcaafckbaaRef23S
import Derived.Test.YthhfdjcaafckbaaElimF
namespace Go.Proofs.Ythhfdjcaafckbaa.En
open Go Go.RowKit
set_option linter.unusedVariables false
set_option linter.unusedSimpArgs false
set_option linter.unnecessarySimpa false
def tyElimT : List (Nat × TD) := [(3, ⟨1, false, [.int .i64 0], [], none, 8, false, 1, 1⟩),
  (22, ⟨1, false, [.slice none 0 0], [], some 43, 24, false, 0, 0⟩),
  (24, ⟨2, true, [.int .i64 0, .slice none 0 0], [(0, 3), (1, 22)], none, 32, false, 0, 6⟩),
  (28, ⟨2, true, [.int .i64 0, .slice none 0 0], [(0, 3), (1, 22)], none, 32, false, 0, 6⟩),
  (29, ⟨1, false, [.int .i64 0], [], none, 8, false, 1, 1⟩),
  (34, ⟨1, false, [.slice none 0 0], [], some 28, 24, false, 0, 0⟩),
  (43, ⟨1, false, [.slice none 0 0], [], some 3, 24, false, 0, 3⟩),
  (63, ⟨1, false, [.nilFunc], [], none, 8, false, 0, 0⟩),
  (64, ⟨1, false, [.nilFunc], [], none, 8, false, 0, 0⟩)]
theorem tyElimT_ok : AllTy Try.prog tyElimT := ⟨⟨by kernel_rfl, by kernel_rfl⟩, ⟨by kernel_rfl, by kernel_rfl⟩, ⟨by kernel_rfl, by kernel_rfl⟩, ⟨by kernel_rfl, by kernel_rfl⟩, ⟨by kernel_rfl, by kernel_rfl⟩, ⟨by kernel_rfl, by kernel_rfl⟩, ⟨by kernel_rfl, by kernel_rfl⟩, ⟨by kernel_rfl, by kernel_rfl⟩, ⟨by kernel_rfl, by kernel_rfl⟩, trivial⟩
def cx_eElim1 : Cx := ⟨tyElimT, [(25, (coeF [.agg [.id, .ld (.intss [])]] cCheck_σ)), (43, (coeF [.ld (.ints []), .id] sContains_σ)), (42, (coeF [.ld (.intss [])] eOwn_σ)), (44, eHas_σ), (62, (coeF [.ld (.ints []), .id] eHas1_σ)), (26, (coeF [.agg [.id, .ld (.intss [])], .id, .id] eOut_σ)), (27, (coeF [.agg [.id, .ld (.intss [])]] rCheck_σ)), (28, (coeF [.ld (.ints [])] qown_σ)), (24, (coeF [.ld (.ints []), .id] qHas_σ)), (29, (coeF [.ld (.ints []), .id] qhas_σ)), (13, (coeF [.agg [.id, .ld (.intss [])], .id] qOut_σ))]⟩
theorem cx_eElim1_ok : CxOk Try.prog cx_eElim1 := cx_ok tyElimT_ok ⟨(cCheck_sound.coe [.agg [.id, .ld (.intss [])]] rfl), (sContains_sound.coe [.ld (.ints []), .id] rfl), (eOwn_sound.coe [.ld (.intss [])] rfl), eHas_sound, (eHas1_sound.coe [.ld (.ints []), .id] rfl), (eOut_sound.coe [.agg [.id, .ld (.intss [])], .id, .id] rfl), (rCheck_sound.coe [.agg [.id, .ld (.intss [])]] rfl), (qown_sound.coe [.ld (.ints [])] rfl), (qHas_sound.coe [.ld (.ints []), .id] rfl), (qhas_sound.coe [.ld (.ints []), .id] rfl), (qOut_sound.coe [.agg [.id, .ld (.intss [])], .id] rfl), trivial⟩
def eElim1_σ : CtF
  | [.im (.val (.int .i64 v)), .pto [.val (.int .i64 N), .ls (.intss L)]], [] => some (True, .bool (Cn.oddV N v), [])
  | _, _ => none
theorem eElim1_sound : Sound Try.prog 40 eElim1_σ := by
 refine sound_mk (cx := cx_eElim1) (fn := Try.f40) Try.func40 (by kernel_rfl) rfl ?_
 intro w0 G0 args os p r outs hσ hp hm0 hd0
 have hcx : CxOk Try.prog cx_eElim1 := cx_eElim1_ok
 unfold eElim1_σ at hσ
 split at hσ
 ·
  rename_i v N L
  simp only [Option.some.injEq, Prod.mk.injEq] at hσ
  obtain ⟨rfl, rfl, rfl⟩ := hσ
  obtain ⟨wW, wO, wm, wβ, wd⟩ := w0
  replace hm0 : wm = 0 := hm0
  subst hm0
  replace hd0 : wd = [] := hd0
  subst hd0
  refine ⟨by kernel_rfl, ?_⟩
  change Tri ⟨_, _, _, _, _, _⟩ [(0, .int v), (1, .pto [.int N, .ls (.intss L)])] [] _ _
  refine tri_seq ?_
  refine tri_regD hcx [] [] [0, 1] [] [] [] [] (by kernel_rfl) ?_ ?_
  ·
   exact az
  refine fin_then ?_
  refine tri_seq ?_
  refine tri_regD hcx [] [3] [] [] [((!(decide (v < 1))) = true → ((!(decide (v < 1))) = true)), ((!(decide (v < 1))) = true → ((!(decide (v < 1))) = true)), ((!(decide (v < 1))) = true → ((!(decide (v < 1))) = true)), ((decide (v < 1)) = false → (!(decide (v < 1))) = true)] [(3, .bool ((decide (v < 1)) || (decide (v > N))))] [] (by kernel_rfl) ?_ ?_
  ·
   refine (ap ?_ (ap ?_ (ap ?_ (ap (by exact vcNot) az))))
   all_goals
    first | omega | exact id | exact vcNot | exact vcG | exact vcH | (intro _; omega) | exact (fun _ h => h) | (intro h; simp at h; omega) | (simp only [List.length_cons, List.length_nil, List.length_append, List.length_map, List.length_set, List.length_replicate]; omega) | (intro h; simp [h]; done)
  refine fin_then ?_
  refine tri_ret ?_
  exact fin_ret [] rfl rfl trivial hcx (avs := [.bool ((decide (v < 1)) || (decide (v > N)))]) (by kernel_rfl) (congrArg AV.bool (show ((decide (v < 1)) || (decide (v > N))) = (Cn.oddV N v) from (by rfl))) [] rfl
 ·
  cases hσ
def cx_ixElimO : Cx := ⟨tyElimT, [(25, (coeF [.agg [.id, .ld (.intss [])]] cCheck_σ)), (43, (coeF [.ld (.ints []), .id] sContains_σ)), (42, (coeF [.ld (.intss [])] eOwn_σ)), (44, eHas_σ), (62, (coeF [.ld (.ints []), .id] eHas1_σ)), (26, (coeF [.agg [.id, .ld (.intss [])], .id, .id] eOut_σ)), (27, (coeF [.agg [.id, .ld (.intss [])]] rCheck_σ)), (28, (coeF [.ld (.ints [])] qown_σ)), (24, (coeF [.ld (.ints []), .id] qHas_σ)), (29, (coeF [.ld (.ints []), .id] qhas_σ)), (13, (coeF [.agg [.id, .ld (.intss [])], .id] qOut_σ)), (40, eElim1_σ)]⟩
theorem cx_ixElimO_ok : CxOk Try.prog cx_ixElimO := cx_ok tyElimT_ok ⟨(cCheck_sound.coe [.agg [.id, .ld (.intss [])]] rfl), (sContains_sound.coe [.ld (.ints []), .id] rfl), (eOwn_sound.coe [.ld (.intss [])] rfl), eHas_sound, (eHas1_sound.coe [.ld (.ints []), .id] rfl), (eOut_sound.coe [.agg [.id, .ld (.intss [])], .id, .id] rfl), (rCheck_sound.coe [.agg [.id, .ld (.intss [])]] rfl), (qown_sound.coe [.ld (.ints [])] rfl), (qHas_sound.coe [.ld (.ints []), .id] rfl), (qhas_sound.coe [.ld (.ints []), .id] rfl), (qOut_sound.coe [.agg [.id, .ld (.intss [])], .id] rfl), eElim1_sound, trivial⟩
def ixElimO_σ : CtF
  | [.im (.ls (.ints s)), .clo 40 [.pto [.val (.int .i64 N), .ls (.intss L)]]], [] => some (s.length ≤ maxLen ∧ True, .int (Cn.idxF (fun x => Cn.oddV N x) s), [])
  | _, _ => none
theorem ixElimO_sound : Sound Try.prog 59 ixElimO_σ := by
 refine sound_mk (cx := cx_ixElimO) (fn := Try.f59) Try.func59 (by kernel_rfl) rfl ?_
 intro w0 G0 args os p r outs hσ hp hm0 hd0
 have hcx : CxOk Try.prog cx_ixElimO := cx_ixElimO_ok
 unfold ixElimO_σ at hσ
 split at hσ
 ·
  rename_i s N L
  simp only [Option.some.injEq, Prod.mk.injEq] at hσ
  obtain ⟨rfl, rfl, rfl⟩ := hσ
  obtain ⟨wW, wO, wm, wβ, wd⟩ := w0
  replace hm0 : wm = 0 := hm0
  subst hm0
  replace hd0 : wd = [] := hd0
  subst hd0
  refine ⟨by kernel_rfl, ?_⟩
  change Tri ⟨_, _, _, _, _, _⟩ [(0, .ints s), (1, .clo 40 [.pto [.int N, .ls (.intss L)]])] [] _ _
  obtain ⟨hm1, hpr⟩ := hp
  unfold maxLen at hm1
  refine tri_seq ?_
  refine tri_regD hcx [] [] [0, 1] [] [] [] [] (by kernel_rfl) ?_ ?_
  ·
   exact az
  refine fin_then ?_
  refine tri_seq ?_
  refine tri_seq ?_
  refine tri_regD hcx [] [7, 8] [0, 1] [] [] [(7, .int (s.length : Int)), (8, .int 0)] [] (by kernel_rfl) ?_ ?_
  ·
   exact az
  refine fin_then ?_
  refine tri_block ?_
  refine tri_loop (X := Nat) (fun x0 => x0 ≤ s.length ∧ ∀ j, j < x0 → (Cn.oddV N (s.getD j 0)) = false) (fun x0 => [(0, .ints s), (1, .clo 40 [.pto [.int N, .ls (.intss L)]]), (7, .int (s.length : Int)), (8, .int (x0 : Int))]) (fun x0 => []) (fun x0 => s.length - x0) (0) ?_ ?_ ?_ ?_
  ·
   show 0 ≤ s.length ∧ ∀ j, j < 0 → (Cn.oddV N (s.getD j 0)) = false
   exact ⟨Nat.zero_le _, fun j hj => by omega⟩
  ·
   exact subE_mk (l := [.ints s, .clo 40 [.pto [.int N, .ls (.intss L)]], .int (s.length : Int), .int 0]) (m := [.ints s, .clo 40 [.pto [.int N, .ls (.intss L)]], .int (s.length : Int), .int (0 : Int)]) (by kernel_rfl) (by kernel_rfl) (consE rfl (consE rfl (consE rfl (consE (congrArg AV.int (show 0 = (0 : Int) from (by first | rfl | omega | (simp; done)))) rfl))))
  ·
   kernel_rfl
  ·
   intro k hI
   replace hI : k ≤ s.length ∧ ∀ j, j < k → (Cn.oddV N (s.getD j 0)) = false := hI
   change Tri _ [(0, .ints s), (1, .clo 40 [.pto [.int N, .ls (.intss L)]]), (7, .int (s.length : Int)), (8, .int (k : Int))] [] _ _
   obtain ⟨hk, hok⟩ := hI
   refine tri_seq ?_
   refine tri_regD hcx [] [9] [0, 1, 7, 8] [] [] [(9, .bool (decide ((k : Int) < (s.length : Int))))] [] (by kernel_rfl) ?_ ?_
   ·
    exact az
   refine fin_then ?_
   refine tri_seq ?_
   refine tri_cond (b := (decide ((k : Int) < (s.length : Int)))) (by kernel_rfl) (fun hb0 => ?_) (fun hb0 => ?_)
   ·
    skip
    have h0 := of_decide_eq_true hb0
    refine tri_skip ?_
    refine fin_then ?_
    refine tri_seq ?_
    refine tri_block ?_
    refine tri_seq ?_
    refine tri_regD hcx [] [5] [0, 1, 7, 8] [] [] [(5, .int (k : Int))] [] (by kernel_rfl) ?_ ?_
    ·
     exact az
    refine fin_then ?_
    refine tri_seq ?_
    refine tri_regD hcx [] [16] [5, 0, 1, 7, 8] [] [((0 : Int) ≤ (k : Int) ∧ (k : Int) < (s.length : Int)), (True)] [(16, .bool (Cn.oddV N (s.getD k 0)))] [] (by kernel_rfl) ?_ ?_
    ·
     refine (ap ?_ (ap ?_ az))
     all_goals
      first | omega | exact id | exact vcNot | exact vcG | exact vcH | (intro _; omega) | exact (fun _ h => h) | (intro h; simp at h; omega) | (simp only [List.length_cons, List.length_nil, List.length_append, List.length_map, List.length_set, List.length_replicate]; omega) | (intro h; simp [h]; done) | trivial | trivial
    refine fin_then ?_
    refine tri_cond (b := (Cn.oddV N (s.getD k 0))) (by kernel_rfl) (fun hb1 => ?_) (fun hb1 => ?_)
    ·
     skip
     have h1 := hb1
     have hq := h1
     refine tri_seq ?_
     refine tri_regD hcx [] [4] [] [] [] [(4, .int (k : Int))] [] (by kernel_rfl) ?_ ?_
     ·
      exact az
     refine fin_then ?_
     refine tri_ret ?_
     refine fin_block_ret ?_
     refine fin_then_ret ?_
     refine fin_then_ret ?_
     refine fin_block_ret ?_
     refine fin_then_ret ?_
     exact fin_ret [] rfl rfl trivial hcx (avs := [.int (k : Int)]) (by kernel_rfl) (congrArg AV.int (show (k : Int) = (Cn.idxF (fun x => Cn.oddV N x) s) from (by exact (Cn.idxF_yes (p := (fun x => Cn.oddV N x)) (by omega) hok hq).symm))) [] rfl
    ·
     skip
     have h1 := hb1
     have hq := h1
     refine tri_skip ?_
     refine fin_block ?_
     refine fin_then ?_
     refine tri_regD hcx [] [8] [0, 1, 7] [] [Fit ((k : Int) + 1)] [(8, .int ((k : Int) + 1))] [] (by kernel_rfl) ?_ ?_
     ·
      refine (ap ?_ az)
      first | omega | exact id | exact vcNot | exact vcG | exact vcH | (intro _; omega) | exact (fun _ h => h) | (intro h; simp at h; omega) | (simp only [List.length_cons, List.length_nil, List.length_append, List.length_map, List.length_set, List.length_replicate]; omega) | (intro h; simp [h]; done) | trivial | trivial
     refine fin_round (k + 1) ?_ ?_ ?_ ?_
     ·
      show (k + 1) ≤ s.length ∧ ∀ j, j < (k + 1) → (Cn.oddV N (s.getD j 0)) = false
      exact ⟨by omega, Cn.falseSucc hok hq⟩
     ·
      show s.length - (k + 1) < s.length - k
      omega
     ·
      exact subE_mk (l := [.ints s, .clo 40 [.pto [.int N, .ls (.intss L)]], .int (s.length : Int), .int ((k : Int) + 1)]) (m := [.ints s, .clo 40 [.pto [.int N, .ls (.intss L)]], .int (s.length : Int), .int ((k + 1) : Int)]) (by kernel_rfl) (by kernel_rfl) (consE rfl (consE rfl (consE rfl (consE (congrArg AV.int (show ((k : Int) + 1) = ((k + 1) : Int) from (by first | rfl | omega | (simp; done)))) rfl))))
     ·
      kernel_rfl
   ·
    skip
    have h0 := of_decide_eq_false hb0
    refine tri_exit ?_
    refine fin_then_exit ?_
    refine fin_then_exit ?_
    refine fin_block_same ?_
    refine fin_then ?_
    refine tri_seq ?_
    refine tri_regD hcx [] [4] [] [] [] [(4, .int (-1))] [] (by kernel_rfl) ?_ ?_
    ·
     exact az
    refine fin_then ?_
    refine tri_ret ?_
    exact fin_ret [] rfl rfl trivial hcx (avs := [.int (-1)]) (by kernel_rfl) (congrArg AV.int (show (-1) = (Cn.idxF (fun x => Cn.oddV N x) s) from (by exact (Cn.idxF_no (p := (fun x => Cn.oddV N x)) (Cn.all_mem (d := 0) (fun j hj => hok j (by omega)))).symm))) [] rfl
 ·
  cases hσ
def cx_ctElimO : Cx := ⟨tyElimT, [(25, (coeF [.agg [.id, .ld (.intss [])]] cCheck_σ)), (43, (coeF [.ld (.ints []), .id] sContains_σ)), (42, (coeF [.ld (.intss [])] eOwn_σ)), (44, eHas_σ), (62, (coeF [.ld (.ints []), .id] eHas1_σ)), (26, (coeF [.agg [.id, .ld (.intss [])], .id, .id] eOut_σ)), (27, (coeF [.agg [.id, .ld (.intss [])]] rCheck_σ)), (28, (coeF [.ld (.ints [])] qown_σ)), (24, (coeF [.ld (.ints []), .id] qHas_σ)), (29, (coeF [.ld (.ints []), .id] qhas_σ)), (13, (coeF [.agg [.id, .ld (.intss [])], .id] qOut_σ)), (40, eElim1_σ), (59, (coeF [.ld (.ints []), .id] ixElimO_σ))]⟩
theorem cx_ctElimO_ok : CxOk Try.prog cx_ctElimO := cx_ok tyElimT_ok ⟨(cCheck_sound.coe [.agg [.id, .ld (.intss [])]] rfl), (sContains_sound.coe [.ld (.ints []), .id] rfl), (eOwn_sound.coe [.ld (.intss [])] rfl), eHas_sound, (eHas1_sound.coe [.ld (.ints []), .id] rfl), (eOut_sound.coe [.agg [.id, .ld (.intss [])], .id, .id] rfl), (rCheck_sound.coe [.agg [.id, .ld (.intss [])]] rfl), (qown_sound.coe [.ld (.ints [])] rfl), (qHas_sound.coe [.ld (.ints []), .id] rfl), (qhas_sound.coe [.ld (.ints []), .id] rfl), (qOut_sound.coe [.agg [.id, .ld (.intss [])], .id] rfl), eElim1_sound, (ixElimO_sound.coe [.ld (.ints []), .id] rfl), trivial⟩
def ctElimO_σ : CtF
  | [.im (.ls (.ints s)), .clo 40 [.pto [.val (.int .i64 N), .ls (.intss L)]]], [] => some (s.length ≤ maxLen ∧ True, .bool (s.any (fun x => Cn.oddV N x)), [])
  | _, _ => none
theorem ctElimO_sound : Sound Try.prog 41 ctElimO_σ := by
 refine sound_mk (cx := cx_ctElimO) (fn := Try.f41) Try.func41 (by kernel_rfl) rfl ?_
 intro w0 G0 args os p r outs hσ hp hm0 hd0
 have hcx : CxOk Try.prog cx_ctElimO := cx_ctElimO_ok
 unfold ctElimO_σ at hσ
 split at hσ
 ·
  rename_i s N L
  simp only [Option.some.injEq, Prod.mk.injEq] at hσ
  obtain ⟨rfl, rfl, rfl⟩ := hσ
  obtain ⟨wW, wO, wm, wβ, wd⟩ := w0
  replace hm0 : wm = 0 := hm0
  subst hm0
  replace hd0 : wd = [] := hd0
  subst hd0
  refine ⟨by kernel_rfl, ?_⟩
  change Tri ⟨_, _, _, _, _, _⟩ [(0, .ints s), (1, .clo 40 [.pto [.int N, .ls (.intss L)]])] [] _ _
  refine tri_seq ?_
  refine tri_regD hcx [] [] [0, 1] [] [] [] [] (by kernel_rfl) ?_ ?_
  ·
   exact az
  refine fin_then ?_
  refine tri_seq ?_
  refine tri_regD hcx [] [4] [] [] [(s.length ≤ maxLen ∧ True)] [(4, .bool (decide ((Cn.idxF (fun x => Cn.oddV N x) s) ≥ 0)))] [] (by kernel_rfl) ?_ ?_
  ·
   refine (ap ?_ az)
   first | exact hp | (intro h; exact h) | omega
  refine fin_then ?_
  refine tri_ret ?_
  exact fin_ret [] rfl rfl trivial hcx (avs := [.bool (decide ((Cn.idxF (fun x => Cn.oddV N x) s) ≥ 0))]) (by kernel_rfl) (congrArg AV.bool (show (decide ((Cn.idxF (fun x => Cn.oddV N x) s) ≥ 0)) = (s.any (fun x => Cn.oddV N x)) from (by exact Cn.idxF_any (p := (fun x => Cn.oddV N x)) s))) [] rfl
 ·
  cases hσ
def cx_ixElimH : Cx := ⟨tyElimT, [(25, (coeF [.agg [.id, .ld (.intss [])]] cCheck_σ)), (43, (coeF [.ld (.ints []), .id] sContains_σ)), (42, (coeF [.ld (.intss [])] eOwn_σ)), (44, eHas_σ), (62, (coeF [.ld (.ints []), .id] eHas1_σ)), (26, (coeF [.agg [.id, .ld (.intss [])], .id, .id] eOut_σ)), (27, (coeF [.agg [.id, .ld (.intss [])]] rCheck_σ)), (28, (coeF [.ld (.ints [])] qown_σ)), (24, (coeF [.ld (.ints []), .id] qHas_σ)), (29, (coeF [.ld (.ints []), .id] qhas_σ)), (13, (coeF [.agg [.id, .ld (.intss [])], .id] qOut_σ)), (40, eElim1_σ), (59, (coeF [.ld (.ints []), .id] ixElimO_σ)), (41, (coeF [.ld (.ints []), .id] ctElimO_σ))]⟩
theorem cx_ixElimH_ok : CxOk Try.prog cx_ixElimH := cx_ok tyElimT_ok ⟨(cCheck_sound.coe [.agg [.id, .ld (.intss [])]] rfl), (sContains_sound.coe [.ld (.ints []), .id] rfl), (eOwn_sound.coe [.ld (.intss [])] rfl), eHas_sound, (eHas1_sound.coe [.ld (.ints []), .id] rfl), (eOut_sound.coe [.agg [.id, .ld (.intss [])], .id, .id] rfl), (rCheck_sound.coe [.agg [.id, .ld (.intss [])]] rfl), (qown_sound.coe [.ld (.ints [])] rfl), (qHas_sound.coe [.ld (.ints []), .id] rfl), (qhas_sound.coe [.ld (.ints []), .id] rfl), (qOut_sound.coe [.agg [.id, .ld (.intss [])], .id] rfl), eElim1_sound, (ixElimO_sound.coe [.ld (.ints []), .id] rfl), (ctElimO_sound.coe [.ld (.ints []), .id] rfl), trivial⟩
def ixElimH_σ : CtF
  | [.im (.ls (.intss s)), .clo 62 [.pto [.val (.int .i64 v)]]], [] => some (s.length ≤ maxLen ∧ (∀ l ∈ s, l.length ≤ maxLen) ∧ -65536 ≤ v ∧ v ≤ 65536, .int (Cn.idxF (fun x => Cn.hasV v x) s), [])
  | _, _ => none
theorem ixElimH_sound : Sound Try.prog 55 ixElimH_σ := by
 refine sound_mk (cx := cx_ixElimH) (fn := Try.f55) Try.func55 (by kernel_rfl) rfl ?_
 intro w0 G0 args os p r outs hσ hp hm0 hd0
 have hcx : CxOk Try.prog cx_ixElimH := cx_ixElimH_ok
 unfold ixElimH_σ at hσ
 split at hσ
 ·
  rename_i s v
  simp only [Option.some.injEq, Prod.mk.injEq] at hσ
  obtain ⟨rfl, rfl, rfl⟩ := hσ
  obtain ⟨wW, wO, wm, wβ, wd⟩ := w0
  replace hm0 : wm = 0 := hm0
  subst hm0
  replace hd0 : wd = [] := hd0
  subst hd0
  refine ⟨by kernel_rfl, ?_⟩
  change Tri ⟨_, _, _, _, _, _⟩ [(0, .intss s), (1, .clo 62 [.pto [.int v]])] [] _ _
  obtain ⟨hm1, hpr⟩ := hp
  unfold maxLen at hm1
  refine tri_seq ?_
  refine tri_regD hcx [] [] [0, 1] [] [] [] [] (by kernel_rfl) ?_ ?_
  ·
   exact az
  refine fin_then ?_
  refine tri_seq ?_
  refine tri_seq ?_
  refine tri_regD hcx [] [7, 8] [0, 1] [] [] [(7, .int (s.length : Int)), (8, .int 0)] [] (by kernel_rfl) ?_ ?_
  ·
   exact az
  refine fin_then ?_
  refine tri_block ?_
  refine tri_loop (X := Nat) (fun x0 => x0 ≤ s.length ∧ ∀ j, j < x0 → (Cn.hasV v (s.getD j [])) = false) (fun x0 => [(0, .intss s), (1, .clo 62 [.pto [.int v]]), (7, .int (s.length : Int)), (8, .int (x0 : Int))]) (fun x0 => []) (fun x0 => s.length - x0) (0) ?_ ?_ ?_ ?_
  ·
   show 0 ≤ s.length ∧ ∀ j, j < 0 → (Cn.hasV v (s.getD j [])) = false
   exact ⟨Nat.zero_le _, fun j hj => by omega⟩
  ·
   exact subE_mk (l := [.intss s, .clo 62 [.pto [.int v]], .int (s.length : Int), .int 0]) (m := [.intss s, .clo 62 [.pto [.int v]], .int (s.length : Int), .int (0 : Int)]) (by kernel_rfl) (by kernel_rfl) (consE rfl (consE rfl (consE rfl (consE (congrArg AV.int (show 0 = (0 : Int) from (by first | rfl | omega | (simp; done)))) rfl))))
  ·
   kernel_rfl
  ·
   intro k hI
   replace hI : k ≤ s.length ∧ ∀ j, j < k → (Cn.hasV v (s.getD j [])) = false := hI
   change Tri _ [(0, .intss s), (1, .clo 62 [.pto [.int v]]), (7, .int (s.length : Int)), (8, .int (k : Int))] [] _ _
   obtain ⟨hk, hok⟩ := hI
   refine tri_seq ?_
   refine tri_regD hcx [] [9] [0, 1, 7, 8] [] [] [(9, .bool (decide ((k : Int) < (s.length : Int))))] [] (by kernel_rfl) ?_ ?_
   ·
    exact az
   refine fin_then ?_
   refine tri_seq ?_
   refine tri_cond (b := (decide ((k : Int) < (s.length : Int)))) (by kernel_rfl) (fun hb0 => ?_) (fun hb0 => ?_)
   ·
    skip
    have h0 := of_decide_eq_true hb0
    refine tri_skip ?_
    refine fin_then ?_
    refine tri_seq ?_
    refine tri_block ?_
    refine tri_seq ?_
    refine tri_regD hcx [] [5] [0, 1, 7, 8] [] [] [(5, .int (k : Int))] [] (by kernel_rfl) ?_ ?_
    ·
     exact az
    refine fin_then ?_
    refine tri_seq ?_
    refine tri_regD hcx [] [16] [5, 0, 1, 7, 8] [] [((0 : Int) ≤ (k : Int) ∧ (k : Int) < (s.length : Int)), ((s.getD k []).length ≤ maxLen ∧ -65536 ≤ v ∧ v ≤ 65536)] [(16, .bool (Cn.hasV v (s.getD k [])))] [] (by kernel_rfl) ?_ ?_
    ·
     refine (ap ?_ (ap ?_ az))
     all_goals
      first | omega | exact id | exact vcNot | exact vcG | exact vcH | (intro _; omega) | exact (fun _ h => h) | (intro h; simp at h; omega) | (simp only [List.length_cons, List.length_nil, List.length_append, List.length_map, List.length_set, List.length_replicate]; omega) | (intro h; simp [h]; done) | exact ⟨hpr.1 _ (Cn.getD_memL (by omega)), hpr.2.1, hpr.2.2⟩ | trivial
    refine fin_then ?_
    refine tri_cond (b := (Cn.hasV v (s.getD k []))) (by kernel_rfl) (fun hb1 => ?_) (fun hb1 => ?_)
    ·
     skip
     have h1 := hb1
     have hq := h1
     refine tri_seq ?_
     refine tri_regD hcx [] [4] [] [] [] [(4, .int (k : Int))] [] (by kernel_rfl) ?_ ?_
     ·
      exact az
     refine fin_then ?_
     refine tri_ret ?_
     refine fin_block_ret ?_
     refine fin_then_ret ?_
     refine fin_then_ret ?_
     refine fin_block_ret ?_
     refine fin_then_ret ?_
     exact fin_ret [] rfl rfl trivial hcx (avs := [.int (k : Int)]) (by kernel_rfl) (congrArg AV.int (show (k : Int) = (Cn.idxF (fun x => Cn.hasV v x) s) from (by exact (Cn.idxF_yes (p := (fun x => Cn.hasV v x)) (by omega) hok hq).symm))) [] rfl
    ·
     skip
     have h1 := hb1
     have hq := h1
     refine tri_skip ?_
     refine fin_block ?_
     refine fin_then ?_
     refine tri_regD hcx [] [8] [0, 1, 7] [] [Fit ((k : Int) + 1)] [(8, .int ((k : Int) + 1))] [] (by kernel_rfl) ?_ ?_
     ·
      refine (ap ?_ az)
      first | omega | exact id | exact vcNot | exact vcG | exact vcH | (intro _; omega) | exact (fun _ h => h) | (intro h; simp at h; omega) | (simp only [List.length_cons, List.length_nil, List.length_append, List.length_map, List.length_set, List.length_replicate]; omega) | (intro h; simp [h]; done) | exact ⟨hpr.1 _ (Cn.getD_memL (by omega)), hpr.2.1, hpr.2.2⟩ | trivial
     refine fin_round (k + 1) ?_ ?_ ?_ ?_
     ·
      show (k + 1) ≤ s.length ∧ ∀ j, j < (k + 1) → (Cn.hasV v (s.getD j [])) = false
      exact ⟨by omega, Cn.falseSucc hok hq⟩
     ·
      show s.length - (k + 1) < s.length - k
      omega
     ·
      exact subE_mk (l := [.intss s, .clo 62 [.pto [.int v]], .int (s.length : Int), .int ((k : Int) + 1)]) (m := [.intss s, .clo 62 [.pto [.int v]], .int (s.length : Int), .int ((k + 1) : Int)]) (by kernel_rfl) (by kernel_rfl) (consE rfl (consE rfl (consE rfl (consE (congrArg AV.int (show ((k : Int) + 1) = ((k + 1) : Int) from (by first | rfl | omega | (simp; done)))) rfl))))
     ·
      kernel_rfl
   ·
    skip
    have h0 := of_decide_eq_false hb0
    refine tri_exit ?_
    refine fin_then_exit ?_
    refine fin_then_exit ?_
    refine fin_block_same ?_
    refine fin_then ?_
    refine tri_seq ?_
    refine tri_regD hcx [] [4] [] [] [] [(4, .int (-1))] [] (by kernel_rfl) ?_ ?_
    ·
     exact az
    refine fin_then ?_
    refine tri_ret ?_
    exact fin_ret [] rfl rfl trivial hcx (avs := [.int (-1)]) (by kernel_rfl) (congrArg AV.int (show (-1) = (Cn.idxF (fun x => Cn.hasV v x) s) from (by exact (Cn.idxF_no (p := (fun x => Cn.hasV v x)) (Cn.all_mem (d := []) (fun j hj => hok j (by omega)))).symm))) [] rfl
 ·
  cases hσ
def cx_ctElimH : Cx := ⟨tyElimT, [(25, (coeF [.agg [.id, .ld (.intss [])]] cCheck_σ)), (43, (coeF [.ld (.ints []), .id] sContains_σ)), (42, (coeF [.ld (.intss [])] eOwn_σ)), (44, eHas_σ), (62, (coeF [.ld (.ints []), .id] eHas1_σ)), (26, (coeF [.agg [.id, .ld (.intss [])], .id, .id] eOut_σ)), (27, (coeF [.agg [.id, .ld (.intss [])]] rCheck_σ)), (28, (coeF [.ld (.ints [])] qown_σ)), (24, (coeF [.ld (.ints []), .id] qHas_σ)), (29, (coeF [.ld (.ints []), .id] qhas_σ)), (13, (coeF [.agg [.id, .ld (.intss [])], .id] qOut_σ)), (40, eElim1_σ), (59, (coeF [.ld (.ints []), .id] ixElimO_σ)), (41, (coeF [.ld (.ints []), .id] ctElimO_σ)), (55, (coeF [.ld (.intss []), .id] ixElimH_σ))]⟩
theorem cx_ctElimH_ok : CxOk Try.prog cx_ctElimH := cx_ok tyElimT_ok ⟨(cCheck_sound.coe [.agg [.id, .ld (.intss [])]] rfl), (sContains_sound.coe [.ld (.ints []), .id] rfl), (eOwn_sound.coe [.ld (.intss [])] rfl), eHas_sound, (eHas1_sound.coe [.ld (.ints []), .id] rfl), (eOut_sound.coe [.agg [.id, .ld (.intss [])], .id, .id] rfl), (rCheck_sound.coe [.agg [.id, .ld (.intss [])]] rfl), (qown_sound.coe [.ld (.ints [])] rfl), (qHas_sound.coe [.ld (.ints []), .id] rfl), (qhas_sound.coe [.ld (.ints []), .id] rfl), (qOut_sound.coe [.agg [.id, .ld (.intss [])], .id] rfl), eElim1_sound, (ixElimO_sound.coe [.ld (.ints []), .id] rfl), (ctElimO_sound.coe [.ld (.ints []), .id] rfl), (ixElimH_sound.coe [.ld (.intss []), .id] rfl), trivial⟩
def ctElimH_σ : CtF
  | [.im (.ls (.intss s)), .clo 62 [.pto [.val (.int .i64 v)]]], [] => some (s.length ≤ maxLen ∧ (∀ l ∈ s, l.length ≤ maxLen) ∧ -65536 ≤ v ∧ v ≤ 65536, .bool (s.any (fun x => Cn.hasV v x)), [])
  | _, _ => none
theorem ctElimH_sound : Sound Try.prog 35 ctElimH_σ := by
 refine sound_mk (cx := cx_ctElimH) (fn := Try.f35) Try.func35 (by kernel_rfl) rfl ?_
 intro w0 G0 args os p r outs hσ hp hm0 hd0
 have hcx : CxOk Try.prog cx_ctElimH := cx_ctElimH_ok
 unfold ctElimH_σ at hσ
 split at hσ
 ·
  rename_i s v
  simp only [Option.some.injEq, Prod.mk.injEq] at hσ
  obtain ⟨rfl, rfl, rfl⟩ := hσ
  obtain ⟨wW, wO, wm, wβ, wd⟩ := w0
  replace hm0 : wm = 0 := hm0
  subst hm0
  replace hd0 : wd = [] := hd0
  subst hd0
  refine ⟨by kernel_rfl, ?_⟩
  change Tri ⟨_, _, _, _, _, _⟩ [(0, .intss s), (1, .clo 62 [.pto [.int v]])] [] _ _
  refine tri_seq ?_
  refine tri_regD hcx [] [] [0, 1] [] [] [] [] (by kernel_rfl) ?_ ?_
  ·
   exact az
  refine fin_then ?_
  refine tri_seq ?_
  refine tri_regD hcx [] [4] [] [] [(s.length ≤ maxLen ∧ (∀ l ∈ s, l.length ≤ maxLen) ∧ -65536 ≤ v ∧ v ≤ 65536)] [(4, .bool (decide ((Cn.idxF (fun x => Cn.hasV v x) s) ≥ 0)))] [] (by kernel_rfl) ?_ ?_
  ·
   refine (ap ?_ az)
   first | exact hp | (intro h; exact h) | omega
  refine fin_then ?_
  refine tri_ret ?_
  exact fin_ret [] rfl rfl trivial hcx (avs := [.bool (decide ((Cn.idxF (fun x => Cn.hasV v x) s) ≥ 0))]) (by kernel_rfl) (congrArg AV.bool (show (decide ((Cn.idxF (fun x => Cn.hasV v x) s) ≥ 0)) = (s.any (fun x => Cn.hasV v x)) from (by exact Cn.idxF_any (p := (fun x => Cn.hasV v x)) s))) [] rfl
 ·
  cases hσ
def cx_eElim : Cx := ⟨tyElimT, [(25, (coeF [.agg [.id, .ld (.intss [])]] cCheck_σ)), (43, (coeF [.ld (.ints []), .id] sContains_σ)), (42, (coeF [.ld (.intss [])] eOwn_σ)), (44, eHas_σ), (62, (coeF [.ld (.ints []), .id] eHas1_σ)), (26, (coeF [.agg [.id, .ld (.intss [])], .id, .id] eOut_σ)), (27, (coeF [.agg [.id, .ld (.intss [])]] rCheck_σ)), (28, (coeF [.ld (.ints [])] qown_σ)), (24, (coeF [.ld (.ints []), .id] qHas_σ)), (29, (coeF [.ld (.ints []), .id] qhas_σ)), (13, (coeF [.agg [.id, .ld (.intss [])], .id] qOut_σ)), (40, eElim1_σ), (59, (coeF [.ld (.ints []), .id] ixElimO_σ)), (41, (coeF [.ld (.ints []), .id] ctElimO_σ)), (55, (coeF [.ld (.intss []), .id] ixElimH_σ)), (35, (coeF [.ld (.intss []), .id] ctElimH_σ))]⟩
theorem cx_eElim_ok : CxOk Try.prog cx_eElim := cx_ok tyElimT_ok ⟨(cCheck_sound.coe [.agg [.id, .ld (.intss [])]] rfl), (sContains_sound.coe [.ld (.ints []), .id] rfl), (eOwn_sound.coe [.ld (.intss [])] rfl), eHas_sound, (eHas1_sound.coe [.ld (.ints []), .id] rfl), (eOut_sound.coe [.agg [.id, .ld (.intss [])], .id, .id] rfl), (rCheck_sound.coe [.agg [.id, .ld (.intss [])]] rfl), (qown_sound.coe [.ld (.ints [])] rfl), (qHas_sound.coe [.ld (.ints []), .id] rfl), (qhas_sound.coe [.ld (.ints []), .id] rfl), (qOut_sound.coe [.agg [.id, .ld (.intss [])], .id] rfl), eElim1_sound, (ixElimO_sound.coe [.ld (.ints []), .id] rfl), (ctElimO_sound.coe [.ld (.ints []), .id] rfl), (ixElimH_sound.coe [.ld (.intss []), .id] rfl), (ctElimH_sound.coe [.ld (.intss []), .id] rfl), trivial⟩
def eElim_σ : CtF
  | [.agg [.im (.val (.int .i64 N)), .im (.ls (.intss L))], .im (.ls (.ints fz)), .im (.val (.int .i64 g))], [] => some (L.length ≤ 40 ∧ (∀ l ∈ L, l.length ≤ 20) ∧ N ≤ 30 ∧ fz.length ≤ maxLen ∧ (g ≤ 40 ∨ 1099511627776 < g), .tup [.agg [.int (Cn.elN N L fz g), .intss (Cn.elX N L fz g)], .undos (Cn.elU N L fz g), .int (Cn.elE N L fz g)], [])
  | _, _ => none
set_option maxRecDepth 20000 in
theorem eElim_sound : Sound Try.prog 22 eElim_σ := by
 refine sound_mk (cx := cx_eElim) (fn := Try.f22) Try.func22 (by kernel_rfl) rfl ?_
 intro w0 G0 args os p r outs hσ hp hm0 hd0
 have hcx : CxOk Try.prog cx_eElim := cx_eElim_ok
 have hmx : Try.prog.follows .mixedOrders = true := by kernel_rfl
 unfold eElim_σ at hσ
 split at hσ
 ·
  rename_i N L fz g
  simp only [Option.some.injEq, Prod.mk.injEq] at hσ
  obtain ⟨rfl, rfl, rfl⟩ := hσ
  obtain ⟨wW, wO, wm, wβ, wd⟩ := w0
  replace hm0 : wm = 0 := hm0
  subst hm0
  replace hd0 : wd = [] := hd0
  subst hd0
  refine ⟨by kernel_rfl, ?_⟩
  change Tri ⟨_, _, _, _, _, _⟩ [(0, .agg [.int N, .intss L]), (1, .ints fz), (2, .int g)] [] _ _
  obtain ⟨hm1, hm2, hm3, hm4, hm5⟩ := hp
  have hck : L.length ≤ maxLen ∧ ∀ l ∈ L, l.length ≤ maxLen := ⟨by unfold maxLen; omega, fun l hl => by have := hm2 l hl; unfold maxLen; omega⟩
  have hown : L.length ≤ 1000000 ∧ ∀ l ∈ L, l.length ≤ 1000000 := ⟨by omega, fun l hl => by have := hm2 l hl; omega⟩
  refine tri_seq ?_
  refine tri_regD hcx [(1001, .to 606), (1000, .frz)] [3, 6, 7] [1, 2] [] [] [(3, .pto [.int N, .ls (.intss L)]), (6, .loc 606 0), (7, .im (.val (.slice none 0 0)))] [(606, .box [.int 0, .im (.val (.slice none 0 0))])] (by kernel_rfl) ?_ ?_
  ·
   exact az
  refine fin_then ?_
  refine tri_seq ?_
  refine tri_seq ?_
  refine tri_regD hcx [] [8] [3, 6, 7, 1, 2] [606] [(L.length ≤ maxLen ∧ ∀ l ∈ L, l.length ≤ maxLen)] [(8, .int (Cn.chkV N L))] [] (by kernel_rfl) ?_ ?_
  ·
   refine (ap ?_ az)
   first | exact True.intro | omega | exact hck | exact hown | exact hm4 | exact (fun _ => hm4) | exact ⟨hm4, trivial⟩ | exact (fun _ => ⟨hm4, trivial⟩) | exact (fun _ => trivial) | exact (fun _ => ⟨by unfold maxLen; omega, hxm, by omega, by omega⟩) | exact ⟨by omega, hxs, by omega, by omega, by omega, by omega⟩ | (first | omega | exact id | exact vcNot | exact vcG | exact vcH | (intro _; omega) | exact (fun _ h => h) | (intro h; simp at h; omega) | (simp only [List.length_cons, List.length_nil, List.length_append, List.length_map, List.length_set, List.length_replicate]; omega) | (intro h; simp [h]; done)) | (constructor <;> omega)
  refine fin_then ?_
  refine tri_seq ?_
  refine tri_regD hcx [] [17] [8, 3, 6, 7, 1, 2] [606] [] [(17, .bool ((Cn.chkV N L) != 0))] [] (by kernel_rfl) ?_ ?_
  ·
   exact az
  refine fin_then ?_
  refine tri_cond (b := ((Cn.chkV N L) != 0)) (by kernel_rfl) (fun hb0 => ?_) (fun hb0 => ?_)
  ·
   skip
   have h0 := bne_iff_ne.1 hb0
   obtain ⟨hA, hB, hC, hE⟩ := Cn.el_no (fz := fz) (g := g) (Cn.el_chk h0) h0
   refine tri_seq ?_
   refine tri_regD hcx [(606, .to 606)] [7, 8] [6] [] [] [(7, .im (.val (.slice none 0 0))), (8, .int (Cn.chkV N L))] [(606, .box [.int 0, .im (.val (.slice none 0 0))])] (by kernel_rfl) ?_ ?_
   ·
    exact az
   refine fin_then ?_
   refine tri_ret ?_
   refine fin_then_ret ?_
   refine fin_rowB 606 1 700 0 (.intss []) (by kernel_rfl) (by kernel_rfl) (by kernel_rfl) (by kernel_rfl) (H' := [(606, .box [.int 0, .row 700])]) (by kernel_rfl) ?_
   refine fin_nil 7 (.undos []) (by kernel_rfl) (E' := [(7, .undos []), (8, .int (Cn.chkV N L)), (6, .loc 606 0)]) (by kernel_rfl) ?_
   refine fin_ren (ρ := [(606, .to 990), (700, .frz)]) (keys := [6, 7, 8]) (E' := [(6, .loc 990 0), (7, .undos []), (8, .int (Cn.chkV N L))]) (H' := [(990, .box [.int 0, .intss []])]) (by kernel_rfl) ?_
   exact fin_ret [] rfl rfl trivial hcx (avs := [.agg [.int 0, .intss []], .undos [], .int (Cn.chkV N L)]) (by kernel_rfl) (congrArg AV.tup (consE (congrArg AV.agg (consE (congrArg AV.int (show 0 = (Cn.elN N L fz g) from (by first | exact hA.symm | exact hB.symm | exact hC.symm | exact hE.symm | (rw [show k = N.toNat from (by omega)]; first | exact hB.symm | exact hC.symm)))) (consE (congrArg AV.intss (show [] = (Cn.elX N L fz g) from (by first | exact hA.symm | exact hB.symm | exact hC.symm | exact hE.symm | (rw [show k = N.toNat from (by omega)]; first | exact hB.symm | exact hC.symm)))) rfl))) (consE (congrArg AV.undos (show [] = (Cn.elU N L fz g) from (by first | exact hA.symm | exact hB.symm | exact hC.symm | exact hE.symm | (rw [show k = N.toNat from (by omega)]; first | exact hB.symm | exact hC.symm)))) (consE (congrArg AV.int (show (Cn.chkV N L) = (Cn.elE N L fz g) from (by first | exact hA.symm | exact hB.symm | exact hC.symm | exact hE.symm | (rw [show k = N.toNat from (by omega)]; first | exact hB.symm | exact hC.symm)))) rfl)))) [] rfl
  ·
   skip
   have h0 := bneF hb0
   have hc0 : Cn.chkV N L = 0 := h0
   have hN := Cn.chkV_0.1 hc0
   refine tri_skip ?_
   refine fin_then ?_
   refine tri_seq ?_
   refine tri_regD hcx [] [9] [3, 6, 7, 1, 2] [606] [] [(9, .clo 40 [.pto [.int N, .ls (.intss L)]])] [] (by kernel_rfl) ?_ ?_
   ·
    exact az
   refine fin_then ?_
   refine tri_seq ?_
   refine tri_seq ?_
   refine tri_regD hcx [] [31] [3, 6, 7, 1, 2] [606] [((!(decide (g < 0))) = true → ((!(decide (g < 0))) = true)), ((decide (g < 0)) = false → (!(decide (g < 0))) = true), ((!((decide (g < 0)) || (decide (g > 1099511627776)))) = true → ((!((decide (g < 0)) || (decide (g > 1099511627776)))) = true)), ((!((decide (g < 0)) || (decide (g > 1099511627776)))) = true → ((!((decide (g < 0)) || (decide (g > 1099511627776)))) = true)), ((!((decide (g < 0)) || (decide (g > 1099511627776)))) = true → (fz.length ≤ maxLen ∧ True)), (((decide (g < 0)) || (decide (g > 1099511627776))) = false → (!((decide (g < 0)) || (decide (g > 1099511627776)))) = true)] [(31, .bool (((decide (g < 0)) || (decide (g > 1099511627776))) || (fz.any (fun x => Cn.oddV N x))))] [] (by kernel_rfl) ?_ ?_
   ·
    refine (ap ?_ (ap (by exact vcNot) (ap ?_ (ap ?_ (ap ?_ (ap (by exact vcNot) az))))))
    all_goals
     first | exact True.intro | omega | exact hck | exact hown | exact hm4 | exact (fun _ => hm4) | exact ⟨hm4, trivial⟩ | exact (fun _ => ⟨hm4, trivial⟩) | exact (fun _ => trivial) | exact (fun _ => ⟨by unfold maxLen; omega, hxm, by omega, by omega⟩) | exact ⟨by omega, hxs, by omega, by omega, by omega, by omega⟩ | (first | omega | exact id | exact vcNot | exact vcG | exact vcH | (intro _; omega) | exact (fun _ h => h) | (intro h; simp at h; omega) | (simp only [List.length_cons, List.length_nil, List.length_append, List.length_map, List.length_set, List.length_replicate]; omega) | (intro h; simp [h]; done)) | (constructor <;> omega)
   refine fin_then ?_
   refine tri_cond (b := (((decide (g < 0)) || (decide (g > 1099511627776))) || (fz.any (fun x => Cn.oddV N x)))) (by kernel_rfl) (fun hb1 => ?_) (fun hb1 => ?_)
   ·
    skip
    have h1 := hb1
    obtain ⟨hA, hB, hC, hE⟩ := Cn.el_no (Cn.el_arg hc0 h1) (by decide)
    refine tri_seq ?_
    refine tri_regD hcx [(606, .to 606)] [7, 8] [6] [] [] [(7, .im (.val (.slice none 0 0))), (8, .int 1)] [(606, .box [.int 0, .im (.val (.slice none 0 0))])] (by kernel_rfl) ?_ ?_
    ·
     exact az
    refine fin_then ?_
    refine tri_ret ?_
    refine fin_then_ret ?_
    refine fin_rowB 606 1 700 0 (.intss []) (by kernel_rfl) (by kernel_rfl) (by kernel_rfl) (by kernel_rfl) (H' := [(606, .box [.int 0, .row 700])]) (by kernel_rfl) ?_
    refine fin_nil 7 (.undos []) (by kernel_rfl) (E' := [(7, .undos []), (8, .int 1), (6, .loc 606 0)]) (by kernel_rfl) ?_
    refine fin_ren (ρ := [(606, .to 990), (700, .frz)]) (keys := [6, 7, 8]) (E' := [(6, .loc 990 0), (7, .undos []), (8, .int 1)]) (H' := [(990, .box [.int 0, .intss []])]) (by kernel_rfl) ?_
    exact fin_ret [] rfl rfl trivial hcx (avs := [.agg [.int 0, .intss []], .undos [], .int 1]) (by kernel_rfl) (congrArg AV.tup (consE (congrArg AV.agg (consE (congrArg AV.int (show 0 = (Cn.elN N L fz g) from (by first | exact hA.symm | exact hB.symm | exact hC.symm | exact hE.symm | (rw [show k = N.toNat from (by omega)]; first | exact hB.symm | exact hC.symm)))) (consE (congrArg AV.intss (show [] = (Cn.elX N L fz g) from (by first | exact hA.symm | exact hB.symm | exact hC.symm | exact hE.symm | (rw [show k = N.toNat from (by omega)]; first | exact hB.symm | exact hC.symm)))) rfl))) (consE (congrArg AV.undos (show [] = (Cn.elU N L fz g) from (by first | exact hA.symm | exact hB.symm | exact hC.symm | exact hE.symm | (rw [show k = N.toNat from (by omega)]; first | exact hB.symm | exact hC.symm)))) (consE (congrArg AV.int (show 1 = (Cn.elE N L fz g) from (by first | exact hA.symm | exact hB.symm | exact hC.symm | exact hE.symm | (rw [show k = N.toNat from (by omega)]; first | exact hB.symm | exact hC.symm)))) rfl)))) [] rfl
   ·
    skip
    have h1 := hb1
    have hE0 := Cn.el_0 hc0 h1
    obtain ⟨_, hg0, hg2, _⟩ := Cn.el_yes hE0
    have hg1 : g ≤ 40 := by omega
    obtain ⟨hA, hB, hC, hE⟩ := Cn.el_ok hE0
    refine tri_skip ?_
    refine fin_then ?_
    refine tri_seq ?_
    refine tri_drawD [0, 1, 0, 4, 12, 31, 63] hcx hmx [(1004, .to 237), (606, .to 606)] [] [3, 6, 7, 1, 2] [] [(L.length ≤ 1000000 ∧ ∀ l ∈ L, l.length ≤ 1000000)] [] [(237, .row 43 (.intss L)), (606, .box [.int N, .row 237])] (by kernel_rfl) ?_ ?_
    ·
     refine (ap ?_ az)
     first | exact True.intro | omega | exact hck | exact hown | exact hm4 | exact (fun _ => hm4) | exact ⟨hm4, trivial⟩ | exact (fun _ => ⟨hm4, trivial⟩) | exact (fun _ => trivial) | exact (fun _ => ⟨by unfold maxLen; omega, hxm, by omega, by omega⟩) | exact ⟨by omega, hxs, by omega, by omega, by omega, by omega⟩ | (first | omega | exact id | exact vcNot | exact vcG | exact vcH | (intro _; omega) | exact (fun _ h => h) | (intro h; simp at h; omega) | (simp only [List.length_cons, List.length_nil, List.length_append, List.length_map, List.length_set, List.length_replicate]; omega) | (intro h; simp [h]; done)) | (constructor <;> omega)
    refine fin_then ?_
    refine tri_seq ?_
    refine tri_seq ?_
    refine tri_regD hcx [] [10] [3, 6, 7, 1, 2] [237, 606] [] [(10, .int 1)] [] (by kernel_rfl) ?_ ?_
    ·
     exact az
    refine fin_then ?_
    refine tri_block ?_
    refine tri_row 7 11 28 (.undos []) (by kernel_rfl) (by kernel_rfl) (by kernel_rfl) (by kernel_rfl) (E' := [(10, .int 1), (3, .pto [.int N, .ls (.intss L)]), (6, .loc 606 0), (7, .row 11), (1, .ints fz), (2, .int g)]) (by kernel_rfl) ?_
    refine tri_ren (ρ := [(11, .to 11), (606, .to 606), (237, .frz)]) (keys := [1, 2, 3, 6, 7, 10]) (E' := [(1, .ints fz), (2, .int g), (3, .pto [.int N, .ls (.intss L)]), (6, .loc 606 0), (7, .row 11), (10, .int 1)]) (H' := [(11, .row 28 (.undos [])), (606, .box [.int N, .intss L])]) (by kernel_rfl) ?_
    refine tri_loop (X := Nat) (fun x0 => x0 ≤ N.toNat) (fun x0 => [(1, .ints fz), (2, .int g), (3, .pto [.int N, .ls (.intss L)]), (6, .loc 606 0), (7, .row 11), (10, .int ((x0 : Int) + 1))]) (fun x0 => [(11, .row 28 (.undos ((Cn.elTo L fz g x0).2))), (606, .box [.int N, .intss ((Cn.elTo L fz g x0).1)])]) (fun x0 => N.toNat - x0) (0) ?_ ?_ ?_ ?_
    ·
     show 0 ≤ N.toNat
     omega
    ·
     exact subE_mk (l := [.ints fz, .int g, .pto [.int N, .ls (.intss L)], .loc 606 0, .row 11, .int 1]) (m := [.ints fz, .int g, .pto [.int N, .ls (.intss L)], .loc 606 0, .row 11, .int ((0 : Int) + 1)]) (by kernel_rfl) (by kernel_rfl) (consE rfl (consE rfl (consE rfl (consE rfl (consE rfl (consE (congrArg AV.int (show 1 = ((0 : Int) + 1) from (by first | rfl | omega | (simp; done)))) rfl))))))
    ·
     exact Eq.trans (show _ = [(11, .row 28 (.undos [])), (606, .box [.int N, .intss L])] from by kernel_rfl) (consH (congrArg (fun x => ((11 : Nat), x)) (congrArg (fun x => AObj.row 28 (.undos x)) (show [] = (Cn.elTo L fz g 0).2 from (by rfl)))) (consH (congrArg (fun x => ((606 : Nat), x)) (congrArg AObj.box (consE rfl (consE (congrArg AV.intss (show L = (Cn.elTo L fz g 0).1 from (by rfl))) rfl)))) rfl))
    ·
     intro k hI
     replace hI : k ≤ N.toNat := hI
     change Tri _ [(1, .ints fz), (2, .int g), (3, .pto [.int N, .ls (.intss L)]), (6, .loc 606 0), (7, .row 11), (10, .int ((k : Int) + 1))] [(11, .row 28 (.undos ((Cn.elTo L fz g k).2))), (606, .box [.int N, .intss ((Cn.elTo L fz g k).1)])] _ _
     obtain ⟨hi1, hi2, hi3, hi4⟩ := Cn.to_inv (fz := fz) (g := g) hm3 (Cn.good_of hc0 hm2) hm1 hg0 hg1 k (by omega)
     have hxm : ∀ l ∈ (Cn.elTo L fz g k).1, l.length ≤ maxLen := fun l hl => by have := (hi1 l hl).2; unfold maxLen; omega
     have hxs : ∀ l ∈ (Cn.elTo L fz g k).1, l.length ≤ 1000 := fun l hl => by have := (hi1 l hl).2; omega
     have hx5 : (Cn.elTo L fz g k).1.length ≤ 1240 := by omega
     refine tri_seq ?_
     refine tri_seq ?_
     refine tri_regD hcx [] [42] [1, 2, 3, 6, 7, 10] [11, 606] [] [(42, .bool (decide (((k : Int) + 1) ≤ N)))] [] (by kernel_rfl) ?_ ?_
     ·
      exact az
     refine fin_then ?_
     refine tri_cond (b := (decide (((k : Int) + 1) ≤ N))) (by kernel_rfl) (fun hb2 => ?_) (fun hb2 => ?_)
     ·
      skip
      have h2 := of_decide_eq_true hb2
      refine tri_skip ?_
      refine fin_then ?_
      refine tri_seq ?_
      refine tri_block ?_
      refine tri_seq ?_
      refine tri_seq ?_
      refine tri_drawD [0, 0, 3, 7, 15, 31, 15, 79, 255, 511, 1023] hcx hmx [] [55] [1, 2, 3, 6, 7, 10] [11, 606] [(fz.length ≤ maxLen), ((!(fz.contains ((k : Int) + 1))) = true → ((!(fz.contains ((k : Int) + 1))) = true)), ((!(fz.contains ((k : Int) + 1))) = true → ((!(fz.contains ((k : Int) + 1))) = true)), ((!(fz.contains ((k : Int) + 1))) = true → (True)), ((!(fz.contains ((k : Int) + 1))) = true → ((!(fz.contains ((k : Int) + 1))) = true)), ((!(fz.contains ((k : Int) + 1))) = true → ((!(fz.contains ((k : Int) + 1))) = true)), ((!(fz.contains ((k : Int) + 1))) = true → (((Cn.elTo L fz g k).1).length ≤ maxLen ∧ (∀ l ∈ ((Cn.elTo L fz g k).1), l.length ≤ maxLen) ∧ -65536 ≤ ((k : Int) + 1) ∧ ((k : Int) + 1) ≤ 65536)), ((!(fz.contains ((k : Int) + 1))) = true → ((!(fz.contains ((k : Int) + 1))) = true)), ((fz.contains ((k : Int) + 1)) = false → (!(fz.contains ((k : Int) + 1))) = true)] [(55, .bool ((fz.contains ((k : Int) + 1)) || (!(((Cn.elTo L fz g k).1).any (fun x => Cn.hasV ((k : Int) + 1) x)))))] [] (by kernel_rfl) ?_ ?_
      ·
       refine (ap ?_ (ap ?_ (ap ?_ (ap ?_ (ap ?_ (ap ?_ (ap ?_ (ap ?_ (ap (by exact vcNot) az)))))))))
       all_goals
        first | exact True.intro | omega | exact hck | exact hown | exact hm4 | exact (fun _ => hm4) | exact ⟨hm4, trivial⟩ | exact (fun _ => ⟨hm4, trivial⟩) | exact (fun _ => trivial) | exact (fun _ => ⟨by unfold maxLen; omega, hxm, by omega, by omega⟩) | exact ⟨by omega, hxs, by omega, by omega, by omega, by omega⟩ | (first | omega | exact id | exact vcNot | exact vcG | exact vcH | (intro _; omega) | exact (fun _ h => h) | (intro h; simp at h; omega) | (simp only [List.length_cons, List.length_nil, List.length_append, List.length_map, List.length_set, List.length_replicate]; omega) | (intro h; simp [h]; done)) | (constructor <;> omega)
      refine fin_then ?_
      refine tri_cond (b := ((fz.contains ((k : Int) + 1)) || (!(((Cn.elTo L fz g k).1).any (fun x => Cn.hasV ((k : Int) + 1) x))))) (by kernel_rfl) (fun hb3 => ?_) (fun hb3 => ?_)
      ·
       skip
       have h3 := hb3
       have hs : Cn.elSkip fz (Cn.elTo L fz g k).1 ((k : Int) + 1) = true := h3
       refine tri_exit ?_
       refine fin_then_exit ?_
       refine fin_block_same ?_
       refine fin_then ?_
       refine tri_regD hcx [] [10] [1, 2, 3, 6, 7] [11, 606] [Fit (((k : Int) + 1) + 1)] [(10, .int (((k : Int) + 1) + 1))] [] (by kernel_rfl) ?_ ?_
       ·
        refine (ap ?_ az)
        first | exact True.intro | omega | exact hck | exact hown | exact hm4 | exact (fun _ => hm4) | exact ⟨hm4, trivial⟩ | exact (fun _ => ⟨hm4, trivial⟩) | exact (fun _ => trivial) | exact (fun _ => ⟨by unfold maxLen; omega, hxm, by omega, by omega⟩) | exact ⟨by omega, hxs, by omega, by omega, by omega, by omega⟩ | (first | omega | exact id | exact vcNot | exact vcG | exact vcH | (intro _; omega) | exact (fun _ h => h) | (intro h; simp at h; omega) | (simp only [List.length_cons, List.length_nil, List.length_append, List.length_map, List.length_set, List.length_replicate]; omega) | (intro h; simp [h]; done)) | (constructor <;> omega)
       refine fin_round (k + 1) ?_ ?_ ?_ ?_
       ·
        show (k + 1) ≤ N.toNat
        omega
       ·
        show N.toNat - (k + 1) < N.toNat - k
        omega
       ·
        exact subE_mk (l := [.ints fz, .int g, .pto [.int N, .ls (.intss L)], .loc 606 0, .row 11, .int (((k : Int) + 1) + 1)]) (m := [.ints fz, .int g, .pto [.int N, .ls (.intss L)], .loc 606 0, .row 11, .int (((k + 1) : Int) + 1)]) (by kernel_rfl) (by kernel_rfl) (consE rfl (consE rfl (consE rfl (consE rfl (consE rfl (consE (congrArg AV.int (show (((k : Int) + 1) + 1) = (((k + 1) : Int) + 1) from (by first | rfl | omega | (simp; done)))) rfl))))))
       ·
        exact Eq.trans (show _ = [(11, .row 28 (.undos ((Cn.elTo L fz g k).2))), (606, .box [.int N, .intss ((Cn.elTo L fz g k).1)])] from by kernel_rfl) (consH (congrArg (fun x => ((11 : Nat), x)) (congrArg (fun x => AObj.row 28 (.undos x)) (show (Cn.elTo L fz g k).2 = (Cn.elTo L fz g (k + 1)).2 from (by rw [Cn.to_succ]; first | (rw [Cn.step_skip hs]; done) | (rw [Cn.step_yes hs hy]; done) | (rw [Cn.step_no hs hy]; done))))) (consH (congrArg (fun x => ((606 : Nat), x)) (congrArg AObj.box (consE rfl (consE (congrArg AV.intss (show (Cn.elTo L fz g k).1 = (Cn.elTo L fz g (k + 1)).1 from (by rw [Cn.to_succ]; first | (rw [Cn.step_skip hs]; done) | (rw [Cn.step_yes hs hy]; rfl) | (rw [Cn.step_no hs hy]; done)))) rfl)))) rfl))
      ·
       skip
       have h3 := hb3
       have hs : Cn.elSkip fz (Cn.elTo L fz g k).1 ((k : Int) + 1) = false := h3
       refine tri_skip ?_
       refine fin_then ?_
       refine tri_seq ?_
       refine tri_regD hcx [(1008, .to 265), (1013, .to 611), (1014, .to 612), (2008, .to 900)] [11, 12, 13] [1, 2, 3, 6, 7, 10] [11, 606] [Fit ((((Cn.elTo L fz g k).1).length : Int) + g), (((Cn.elTo L fz g k).1).length ≤ 10000 ∧ (∀ l ∈ ((Cn.elTo L fz g k).1), l.length ≤ 1000) ∧ 1 ≤ ((k : Int) + 1) ∧ ((k : Int) + 1) ≤ 65536 ∧ 0 ≤ (min 65536 ((((Cn.elTo L fz g k).1).length : Int) + g)) ∧ (min 65536 ((((Cn.elTo L fz g k).1).length : Int) + g)) ≤ 65536)] [(11, .loc 611 0), (12, .loc 612 0), (13, .bool (decide (((Cn.outX ((Cn.elTo L fz g k).1) ((k : Int) + 1) (min 65536 ((((Cn.elTo L fz g k).1).length : Int) + g))).length : Int) ≤ (min 65536 ((((Cn.elTo L fz g k).1).length : Int) + g)))))] [(265, .row 43 (.intss (Cn.outX ((Cn.elTo L fz g k).1) ((k : Int) + 1) (min 65536 ((((Cn.elTo L fz g k).1).length : Int) + g))))), (611, .box [.int N, .row 265]), (612, .box [.int ((k : Int) + 1), .row 900]), (900, .row 43 (.intss (Cn.uOf ((Cn.elTo L fz g k).1) ((k : Int) + 1))))] (by kernel_rfl) ?_ ?_
       ·
        refine (ap ?_ (ap ?_ az))
        all_goals
         first | exact True.intro | omega | exact hck | exact hown | exact hm4 | exact (fun _ => hm4) | exact ⟨hm4, trivial⟩ | exact (fun _ => ⟨hm4, trivial⟩) | exact (fun _ => trivial) | exact (fun _ => ⟨by unfold maxLen; omega, hxm, by omega, by omega⟩) | exact ⟨by omega, hxs, by omega, by omega, by omega, by omega⟩ | (first | omega | exact id | exact vcNot | exact vcG | exact vcH | (intro _; omega) | exact (fun _ h => h) | (intro h; simp at h; omega) | (simp only [List.length_cons, List.length_nil, List.length_append, List.length_map, List.length_set, List.length_replicate]; omega) | (intro h; simp [h]; done)) | (constructor <;> omega)
       refine fin_then ?_
       refine tri_seq ?_
       refine tri_regD hcx [] [69] [11, 12, 1, 2, 3, 6, 7, 10] [265, 611, 612, 900, 11, 606] [] [(69, .bool (decide (((Cn.outX ((Cn.elTo L fz g k).1) ((k : Int) + 1) (min 65536 ((((Cn.elTo L fz g k).1).length : Int) + g))).length : Int) ≤ (min 65536 ((((Cn.elTo L fz g k).1).length : Int) + g)))))] [] (by kernel_rfl) ?_ ?_
       ·
        exact az
       refine fin_then ?_
       refine tri_cond (b := (decide (((Cn.outX ((Cn.elTo L fz g k).1) ((k : Int) + 1) (min 65536 ((((Cn.elTo L fz g k).1).length : Int) + g))).length : Int) ≤ (min 65536 ((((Cn.elTo L fz g k).1).length : Int) + g))))) (by kernel_rfl) (fun hb4 => ?_) (fun hb4 => ?_)
       ·
        skip
        have h4 := hb4
        have hy : ((Cn.outX (Cn.elTo L fz g k).1 ((k : Int) + 1) (Cn.elM g (Cn.elTo L fz g k).1)).length : Int) ≤ Cn.elM g (Cn.elTo L fz g k).1 := of_decide_eq_true h4
        refine tri_drawD [0, 0, 0, 4, 14, 31, 63] hcx hmx [(1004, .to 11), (606, .to 606)] [7] [1, 2, 3, 6, 10] [265] [((((Cn.elTo L fz g k).2).length + [(((k : Int) + 1), (Cn.uOf ((Cn.elTo L fz g k).1) ((k : Int) + 1)))].length) * 32 ≤ 140737488355328)] [(7, .row 11)] [(11, .row 28 (.undos (((Cn.elTo L fz g k).2) ++ [(((k : Int) + 1), (Cn.uOf ((Cn.elTo L fz g k).1) ((k : Int) + 1)))]))), (606, .box [.int N, .row 265])] (by kernel_rfl) ?_ ?_
        ·
         refine (ap ?_ az)
         first | exact True.intro | omega | exact hck | exact hown | exact hm4 | exact (fun _ => hm4) | exact ⟨hm4, trivial⟩ | exact (fun _ => ⟨hm4, trivial⟩) | exact (fun _ => trivial) | exact (fun _ => ⟨by unfold maxLen; omega, hxm, by omega, by omega⟩) | exact ⟨by omega, hxs, by omega, by omega, by omega, by omega⟩ | (first | omega | exact id | exact vcNot | exact vcG | exact vcH | (intro _; omega) | exact (fun _ h => h) | (intro h; simp at h; omega) | (simp only [List.length_cons, List.length_nil, List.length_append, List.length_map, List.length_set, List.length_replicate]; omega) | (intro h; simp [h]; done)) | (constructor <;> omega)
        refine fin_block ?_
        refine fin_then ?_
        refine tri_regD hcx [] [10] [7, 1, 2, 3, 6] [11, 606, 265] [Fit (((k : Int) + 1) + 1)] [(10, .int (((k : Int) + 1) + 1))] [] (by kernel_rfl) ?_ ?_
        ·
         refine (ap ?_ az)
         first | exact True.intro | omega | exact hck | exact hown | exact hm4 | exact (fun _ => hm4) | exact ⟨hm4, trivial⟩ | exact (fun _ => ⟨hm4, trivial⟩) | exact (fun _ => trivial) | exact (fun _ => ⟨by unfold maxLen; omega, hxm, by omega, by omega⟩) | exact ⟨by omega, hxs, by omega, by omega, by omega, by omega⟩ | (first | omega | exact id | exact vcNot | exact vcG | exact vcH | (intro _; omega) | exact (fun _ h => h) | (intro h; simp at h; omega) | (simp only [List.length_cons, List.length_nil, List.length_append, List.length_map, List.length_set, List.length_replicate]; omega) | (intro h; simp [h]; done)) | (constructor <;> omega)
        refine fin_ren (ρ := [(11, .to 11), (606, .to 606), (265, .frz)]) (keys := [1, 2, 3, 6, 7, 10]) (E' := [(1, .ints fz), (2, .int g), (3, .pto [.int N, .ls (.intss L)]), (6, .loc 606 0), (7, .row 11), (10, .int (((k : Int) + 1) + 1))]) (H' := [(11, .row 28 (.undos (((Cn.elTo L fz g k).2) ++ [(((k : Int) + 1), (Cn.uOf ((Cn.elTo L fz g k).1) ((k : Int) + 1)))]))), (606, .box [.int N, .intss (Cn.outX ((Cn.elTo L fz g k).1) ((k : Int) + 1) (min 65536 ((((Cn.elTo L fz g k).1).length : Int) + g)))])]) (by kernel_rfl) ?_
        refine fin_round (k + 1) ?_ ?_ ?_ ?_
        ·
         show (k + 1) ≤ N.toNat
         omega
        ·
         show N.toNat - (k + 1) < N.toNat - k
         omega
        ·
         exact subE_mk (l := [.ints fz, .int g, .pto [.int N, .ls (.intss L)], .loc 606 0, .row 11, .int (((k : Int) + 1) + 1)]) (m := [.ints fz, .int g, .pto [.int N, .ls (.intss L)], .loc 606 0, .row 11, .int (((k + 1) : Int) + 1)]) (by kernel_rfl) (by kernel_rfl) (consE rfl (consE rfl (consE rfl (consE rfl (consE rfl (consE (congrArg AV.int (show (((k : Int) + 1) + 1) = (((k + 1) : Int) + 1) from (by first | rfl | omega | (simp; done)))) rfl))))))
        ·
         exact Eq.trans (show _ = [(11, .row 28 (.undos (((Cn.elTo L fz g k).2) ++ [(((k : Int) + 1), (Cn.uOf ((Cn.elTo L fz g k).1) ((k : Int) + 1)))]))), (606, .box [.int N, .intss (Cn.outX ((Cn.elTo L fz g k).1) ((k : Int) + 1) (min 65536 ((((Cn.elTo L fz g k).1).length : Int) + g)))])] from by kernel_rfl) (consH (congrArg (fun x => ((11 : Nat), x)) (congrArg (fun x => AObj.row 28 (.undos x)) (show (((Cn.elTo L fz g k).2) ++ [(((k : Int) + 1), (Cn.uOf ((Cn.elTo L fz g k).1) ((k : Int) + 1)))]) = (Cn.elTo L fz g (k + 1)).2 from (by rw [Cn.to_succ]; first | (rw [Cn.step_skip hs]; done) | (rw [Cn.step_yes hs hy]; done) | (rw [Cn.step_no hs hy]; done))))) (consH (congrArg (fun x => ((606 : Nat), x)) (congrArg AObj.box (consE rfl (consE (congrArg AV.intss (show (Cn.outX ((Cn.elTo L fz g k).1) ((k : Int) + 1) (min 65536 ((((Cn.elTo L fz g k).1).length : Int) + g))) = (Cn.elTo L fz g (k + 1)).1 from (by rw [Cn.to_succ]; first | (rw [Cn.step_skip hs]; done) | (rw [Cn.step_yes hs hy]; rfl) | (rw [Cn.step_no hs hy]; done)))) rfl)))) rfl))
       ·
        skip
        have h4 := hb4
        have hy : ¬ ((Cn.outX (Cn.elTo L fz g k).1 ((k : Int) + 1) (Cn.elM g (Cn.elTo L fz g k).1)).length : Int) ≤ Cn.elM g (Cn.elTo L fz g k).1 := of_decide_eq_false h4
        refine tri_skip ?_
        refine fin_block ?_
        refine fin_then ?_
        refine tri_regD hcx [] [10] [1, 2, 3, 6, 7] [11, 606] [Fit (((k : Int) + 1) + 1)] [(10, .int (((k : Int) + 1) + 1))] [] (by kernel_rfl) ?_ ?_
        ·
         refine (ap ?_ az)
         first | exact True.intro | omega | exact hck | exact hown | exact hm4 | exact (fun _ => hm4) | exact ⟨hm4, trivial⟩ | exact (fun _ => ⟨hm4, trivial⟩) | exact (fun _ => trivial) | exact (fun _ => ⟨by unfold maxLen; omega, hxm, by omega, by omega⟩) | exact ⟨by omega, hxs, by omega, by omega, by omega, by omega⟩ | (first | omega | exact id | exact vcNot | exact vcG | exact vcH | (intro _; omega) | exact (fun _ h => h) | (intro h; simp at h; omega) | (simp only [List.length_cons, List.length_nil, List.length_append, List.length_map, List.length_set, List.length_replicate]; omega) | (intro h; simp [h]; done)) | (constructor <;> omega)
        refine fin_round (k + 1) ?_ ?_ ?_ ?_
        ·
         show (k + 1) ≤ N.toNat
         omega
        ·
         show N.toNat - (k + 1) < N.toNat - k
         omega
        ·
         exact subE_mk (l := [.ints fz, .int g, .pto [.int N, .ls (.intss L)], .loc 606 0, .row 11, .int (((k : Int) + 1) + 1)]) (m := [.ints fz, .int g, .pto [.int N, .ls (.intss L)], .loc 606 0, .row 11, .int (((k + 1) : Int) + 1)]) (by kernel_rfl) (by kernel_rfl) (consE rfl (consE rfl (consE rfl (consE rfl (consE rfl (consE (congrArg AV.int (show (((k : Int) + 1) + 1) = (((k + 1) : Int) + 1) from (by first | rfl | omega | (simp; done)))) rfl))))))
        ·
         exact Eq.trans (show _ = [(11, .row 28 (.undos ((Cn.elTo L fz g k).2))), (606, .box [.int N, .intss ((Cn.elTo L fz g k).1)])] from by kernel_rfl) (consH (congrArg (fun x => ((11 : Nat), x)) (congrArg (fun x => AObj.row 28 (.undos x)) (show (Cn.elTo L fz g k).2 = (Cn.elTo L fz g (k + 1)).2 from (by rw [Cn.to_succ]; first | (rw [Cn.step_skip hs]; done) | (rw [Cn.step_yes hs hy]; done) | (rw [Cn.step_no hs hy]; done))))) (consH (congrArg (fun x => ((606 : Nat), x)) (congrArg AObj.box (consE rfl (consE (congrArg AV.intss (show (Cn.elTo L fz g k).1 = (Cn.elTo L fz g (k + 1)).1 from (by rw [Cn.to_succ]; first | (rw [Cn.step_skip hs]; done) | (rw [Cn.step_yes hs hy]; rfl) | (rw [Cn.step_no hs hy]; done)))) rfl)))) rfl))
     ·
      skip
      have h2 := of_decide_eq_false hb2
      refine tri_exit ?_
      refine fin_then_exit ?_
      refine fin_then_exit ?_
      refine fin_block_same ?_
      refine fin_then ?_
      refine tri_seq ?_
      refine tri_regD hcx [(606, .to 606)] [7, 8] [6] [11] [] [(7, .row 11), (8, .int 0)] [(606, .box [.int N, .intss ((Cn.elTo L fz g k).1)])] (by kernel_rfl) ?_ ?_
      ·
       exact az
      refine fin_then ?_
      refine tri_ret ?_
      refine fin_ren (ρ := [(606, .to 990), (11, .frz)]) (keys := [6, 7, 8]) (E' := [(6, .loc 990 0), (7, .undos ((Cn.elTo L fz g k).2)), (8, .int 0)]) (H' := [(990, .box [.int N, .intss ((Cn.elTo L fz g k).1)])]) (by kernel_rfl) ?_
      exact fin_ret [] rfl rfl trivial hcx (avs := [.agg [.int N, .intss ((Cn.elTo L fz g k).1)], .undos ((Cn.elTo L fz g k).2), .int 0]) (by kernel_rfl) (congrArg AV.tup (consE (congrArg AV.agg (consE (congrArg AV.int (show N = (Cn.elN N L fz g) from (by first | exact hA.symm | exact hB.symm | exact hC.symm | exact hE.symm | (rw [show k = N.toNat from (by omega)]; first | exact hB.symm | exact hC.symm)))) (consE (congrArg AV.intss (show (Cn.elTo L fz g k).1 = (Cn.elX N L fz g) from (by first | exact hA.symm | exact hB.symm | exact hC.symm | exact hE.symm | (rw [show k = N.toNat from (by omega)]; first | exact hB.symm | exact hC.symm)))) rfl))) (consE (congrArg AV.undos (show (Cn.elTo L fz g k).2 = (Cn.elU N L fz g) from (by first | exact hA.symm | exact hB.symm | exact hC.symm | exact hE.symm | (rw [show k = N.toNat from (by omega)]; first | exact hB.symm | exact hC.symm)))) (consE (congrArg AV.int (show 0 = (Cn.elE N L fz g) from (by first | exact hA.symm | exact hB.symm | exact hC.symm | exact hE.symm | (rw [show k = N.toNat from (by omega)]; first | exact hB.symm | exact hC.symm)))) rfl)))) [] rfl
 ·
  cases hσ
def cx_qElim : Cx := ⟨tyElimT, [(25, (coeF [.agg [.id, .ld (.intss [])]] cCheck_σ)), (43, (coeF [.ld (.ints []), .id] sContains_σ)), (42, (coeF [.ld (.intss [])] eOwn_σ)), (44, eHas_σ), (62, (coeF [.ld (.ints []), .id] eHas1_σ)), (26, (coeF [.agg [.id, .ld (.intss [])], .id, .id] eOut_σ)), (27, (coeF [.agg [.id, .ld (.intss [])]] rCheck_σ)), (28, (coeF [.ld (.ints [])] qown_σ)), (24, (coeF [.ld (.ints []), .id] qHas_σ)), (29, (coeF [.ld (.ints []), .id] qhas_σ)), (13, (coeF [.agg [.id, .ld (.intss [])], .id] qOut_σ)), (40, eElim1_σ), (59, (coeF [.ld (.ints []), .id] ixElimO_σ)), (41, (coeF [.ld (.ints []), .id] ctElimO_σ)), (55, (coeF [.ld (.intss []), .id] ixElimH_σ)), (35, (coeF [.ld (.intss []), .id] ctElimH_σ)), (22, (coeF [.agg [.id, .ld (.intss [])], .ld (.ints []), .id] eElim_σ))]⟩
theorem cx_qElim_ok : CxOk Try.prog cx_qElim := cx_ok tyElimT_ok ⟨(cCheck_sound.coe [.agg [.id, .ld (.intss [])]] rfl), (sContains_sound.coe [.ld (.ints []), .id] rfl), (eOwn_sound.coe [.ld (.intss [])] rfl), eHas_sound, (eHas1_sound.coe [.ld (.ints []), .id] rfl), (eOut_sound.coe [.agg [.id, .ld (.intss [])], .id, .id] rfl), (rCheck_sound.coe [.agg [.id, .ld (.intss [])]] rfl), (qown_sound.coe [.ld (.ints [])] rfl), (qHas_sound.coe [.ld (.ints []), .id] rfl), (qhas_sound.coe [.ld (.ints []), .id] rfl), (qOut_sound.coe [.agg [.id, .ld (.intss [])], .id] rfl), eElim1_sound, (ixElimO_sound.coe [.ld (.ints []), .id] rfl), (ctElimO_sound.coe [.ld (.ints []), .id] rfl), (ixElimH_sound.coe [.ld (.intss []), .id] rfl), (ctElimH_sound.coe [.ld (.intss []), .id] rfl), (eElim_sound.coe [.agg [.id, .ld (.intss [])], .ld (.ints []), .id] rfl), trivial⟩
def qElim_σ : CtF
  | [.agg [.im (.val (.int .i64 N)), .im (.ls (.intss L))], .im (.ls (.ints fz)), .im (.val (.int .i64 g))], [] => some (L.length ≤ 40 ∧ (∀ l ∈ L, l.length ≤ 20) ∧ N ≤ 30 ∧ fz.length ≤ maxLen ∧ (g ≤ 40 ∨ 1099511627776 < g), .tup [.agg [.int (Cn.elN N L fz g), .intss (Cn.elX N L fz g)], .undos (Cn.elU N L fz g), .int (Cn.elE N L fz g)], [])
  | _, _ => none
set_option maxRecDepth 20000 in
theorem qElim_sound : Sound Try.prog 23 qElim_σ := by
 refine sound_mk (cx := cx_qElim) (fn := Try.f23) Try.func23 (by kernel_rfl) rfl ?_
 intro w0 G0 args os p r outs hσ hp hm0 hd0
 have hcx : CxOk Try.prog cx_qElim := cx_qElim_ok
 have hmx : Try.prog.follows .mixedOrders = true := by kernel_rfl
 unfold qElim_σ at hσ
 split at hσ
 ·
  rename_i N L fz g
  simp only [Option.some.injEq, Prod.mk.injEq] at hσ
  obtain ⟨rfl, rfl, rfl⟩ := hσ
  obtain ⟨wW, wO, wm, wβ, wd⟩ := w0
  replace hm0 : wm = 0 := hm0
  subst hm0
  replace hd0 : wd = [] := hd0
  subst hd0
  refine ⟨by kernel_rfl, ?_⟩
  change Tri ⟨_, _, _, _, _, _⟩ [(0, .agg [.int N, .intss L]), (1, .ints fz), (2, .int g)] [] _ _
  obtain ⟨hm1, hm2, hm3, hm4, hm5⟩ := hp
  have hck : L.length ≤ maxLen ∧ ∀ l ∈ L, l.length ≤ maxLen := ⟨by unfold maxLen; omega, fun l hl => by have := hm2 l hl; unfold maxLen; omega⟩
  have hown : L.length ≤ 1000000 ∧ ∀ l ∈ L, l.length ≤ 1000000 := ⟨by omega, fun l hl => by have := hm2 l hl; omega⟩
  have hm8 := hm4
  unfold maxLen at hm8
  have hm7 : ∀ k, k < L.length → (L.getD k []).length ≤ 20 := fun k hk => hm2 _ (Cn.getD_memL hk)
  refine tri_seq ?_
  refine tri_regD hcx [(1001, .to 606), (1000, .frz)] [3, 6] [1, 2] [] [] [(3, .pto [.int N, .ls (.intss L)]), (6, .loc 606 0)] [(606, .box [.int 0, .im (.val (.slice none 0 0))])] (by kernel_rfl) ?_ ?_
  ·
   exact az
  refine fin_then ?_
  refine tri_seq ?_
  refine tri_seq ?_
  refine tri_regD hcx [] [9] [3, 6, 1, 2] [606] [(L.length ≤ maxLen ∧ ∀ l ∈ L, l.length ≤ maxLen)] [(9, .int (Cn.chkV N L))] [] (by kernel_rfl) ?_ ?_
  ·
   refine (ap ?_ az)
   first | exact True.intro | omega | exact hck | exact hown | exact hm4 | exact (fun _ => hm4) | (have := hj4 (by omega); omega) | exact (fun _ => ⟨hxm _ (Cn.getD_memL (by omega)), by omega, by omega⟩) | exact ⟨by omega, hxs⟩ | (first | omega | exact id | exact vcNot | exact vcG | exact vcH | (intro _; omega) | exact (fun _ h => h) | (intro h; simp at h; omega) | (simp only [List.length_cons, List.length_nil, List.length_append, List.length_map, List.length_set, List.length_replicate]; omega) | (intro h; simp [h]; done)) | (constructor <;> omega)
  refine fin_then ?_
  refine tri_seq ?_
  refine tri_regD hcx [] [26] [9, 3, 6, 1, 2] [606] [] [(26, .bool ((Cn.chkV N L) != 0))] [] (by kernel_rfl) ?_ ?_
  ·
   exact az
  refine fin_then ?_
  refine tri_cond (b := ((Cn.chkV N L) != 0)) (by kernel_rfl) (fun hb0 => ?_) (fun hb0 => ?_)
  ·
   skip
   have h0 := bne_iff_ne.1 hb0
   obtain ⟨hA, hB, hC, hE⟩ := Cn.el_no (fz := fz) (g := g) (Cn.el_chk h0) h0
   refine tri_seq ?_
   refine tri_regD hcx [(606, .to 606)] [7, 8] [6] [] [] [(7, .im (.val (.slice none 0 0))), (8, .int (Cn.chkV N L))] [(606, .box [.int 0, .im (.val (.slice none 0 0))])] (by kernel_rfl) ?_ ?_
   ·
    exact az
   refine fin_then ?_
   refine tri_ret ?_
   refine fin_then_ret ?_
   refine fin_rowB 606 1 700 0 (.intss []) (by kernel_rfl) (by kernel_rfl) (by kernel_rfl) (by kernel_rfl) (H' := [(606, .box [.int 0, .row 700])]) (by kernel_rfl) ?_
   refine fin_nil 7 (.undos []) (by kernel_rfl) (E' := [(7, .undos []), (8, .int (Cn.chkV N L)), (6, .loc 606 0)]) (by kernel_rfl) ?_
   refine fin_ren (ρ := [(606, .to 990), (700, .frz)]) (keys := [6, 7, 8]) (E' := [(6, .loc 990 0), (7, .undos []), (8, .int (Cn.chkV N L))]) (H' := [(990, .box [.int 0, .intss []])]) (by kernel_rfl) ?_
   exact fin_ret [] rfl rfl trivial hcx (avs := [.agg [.int 0, .intss []], .undos [], .int (Cn.chkV N L)]) (by kernel_rfl) (congrArg AV.tup (consE (congrArg AV.agg (consE (congrArg AV.int (show 0 = (Cn.elN N L fz g) from (by first | exact hA.symm | exact hB.symm | exact hC.symm | exact hE.symm | (rw [show k = N.toNat from (by omega)]; first | exact hB.symm | exact hC.symm)))) (consE (congrArg AV.intss (show [] = (Cn.elX N L fz g) from (by first | exact hA.symm | exact hB.symm | exact hC.symm | exact hE.symm | (rw [show k = N.toNat from (by omega)]; first | exact hB.symm | exact hC.symm)))) rfl))) (consE (congrArg AV.undos (show [] = (Cn.elU N L fz g) from (by first | exact hA.symm | exact hB.symm | exact hC.symm | exact hE.symm | (rw [show k = N.toNat from (by omega)]; first | exact hB.symm | exact hC.symm)))) (consE (congrArg AV.int (show (Cn.chkV N L) = (Cn.elE N L fz g) from (by first | exact hA.symm | exact hB.symm | exact hC.symm | exact hE.symm | (rw [show k = N.toNat from (by omega)]; first | exact hB.symm | exact hC.symm)))) rfl)))) [] rfl
  ·
   skip
   have h0 := bneF hb0
   have hc0 : Cn.chkV N L = 0 := h0
   have hN := Cn.chkV_0.1 hc0
   refine tri_skip ?_
   refine fin_then ?_
   refine tri_seq ?_
   refine tri_seq ?_
   refine tri_regD hcx [] [34] [3, 6, 1, 2] [606] [((!(decide (g < 0))) = true → ((!(decide (g < 0))) = true)), ((decide (g < 0)) = false → (!(decide (g < 0))) = true)] [(34, .bool ((decide (g < 0)) || (decide (g > 1099511627776))))] [] (by kernel_rfl) ?_ ?_
   ·
    refine (ap ?_ (ap (by exact vcNot) az))
    first | exact True.intro | omega | exact hck | exact hown | exact hm4 | exact (fun _ => hm4) | (have := hj4 (by omega); omega) | exact (fun _ => ⟨hxm _ (Cn.getD_memL (by omega)), by omega, by omega⟩) | exact ⟨by omega, hxs⟩ | (first | omega | exact id | exact vcNot | exact vcG | exact vcH | (intro _; omega) | exact (fun _ h => h) | (intro h; simp at h; omega) | (simp only [List.length_cons, List.length_nil, List.length_append, List.length_map, List.length_set, List.length_replicate]; omega) | (intro h; simp [h]; done)) | (constructor <;> omega)
   refine fin_then ?_
   refine tri_cond (b := ((decide (g < 0)) || (decide (g > 1099511627776)))) (by kernel_rfl) (fun hb1 => ?_) (fun hb1 => ?_)
   ·
    skip
    have h1 := hb1
    obtain ⟨hA, hB, hC, hE⟩ := Cn.el_no (fz := fz) (Cn.el_arg hc0 (by have h9 := h1; rw [show (decide (1099511627776 < g)) = decide (g > 1099511627776) from rfl, h9]; rfl)) (by decide)
    refine tri_seq ?_
    refine tri_regD hcx [(606, .to 606)] [7, 8] [6] [] [] [(7, .im (.val (.slice none 0 0))), (8, .int 1)] [(606, .box [.int 0, .im (.val (.slice none 0 0))])] (by kernel_rfl) ?_ ?_
    ·
     exact az
    refine fin_then ?_
    refine tri_ret ?_
    refine fin_then_ret ?_
    refine fin_rowB 606 1 700 0 (.intss []) (by kernel_rfl) (by kernel_rfl) (by kernel_rfl) (by kernel_rfl) (H' := [(606, .box [.int 0, .row 700])]) (by kernel_rfl) ?_
    refine fin_nil 7 (.undos []) (by kernel_rfl) (E' := [(7, .undos []), (8, .int 1), (6, .loc 606 0)]) (by kernel_rfl) ?_
    refine fin_ren (ρ := [(606, .to 990), (700, .frz)]) (keys := [6, 7, 8]) (E' := [(6, .loc 990 0), (7, .undos []), (8, .int 1)]) (H' := [(990, .box [.int 0, .intss []])]) (by kernel_rfl) ?_
    exact fin_ret [] rfl rfl trivial hcx (avs := [.agg [.int 0, .intss []], .undos [], .int 1]) (by kernel_rfl) (congrArg AV.tup (consE (congrArg AV.agg (consE (congrArg AV.int (show 0 = (Cn.elN N L fz g) from (by first | exact hA.symm | exact hB.symm | exact hC.symm | exact hE.symm | (rw [show k = N.toNat from (by omega)]; first | exact hB.symm | exact hC.symm)))) (consE (congrArg AV.intss (show [] = (Cn.elX N L fz g) from (by first | exact hA.symm | exact hB.symm | exact hC.symm | exact hE.symm | (rw [show k = N.toNat from (by omega)]; first | exact hB.symm | exact hC.symm)))) rfl))) (consE (congrArg AV.undos (show [] = (Cn.elU N L fz g) from (by first | exact hA.symm | exact hB.symm | exact hC.symm | exact hE.symm | (rw [show k = N.toNat from (by omega)]; first | exact hB.symm | exact hC.symm)))) (consE (congrArg AV.int (show 1 = (Cn.elE N L fz g) from (by first | exact hA.symm | exact hB.symm | exact hC.symm | exact hE.symm | (rw [show k = N.toNat from (by omega)]; first | exact hB.symm | exact hC.symm)))) rfl)))) [] rfl
   ·
    skip
    have h1 := hb1
    try simp only [Bool.or_eq_true, Bool.or_eq_false_iff, Bool.and_eq_true, Bool.and_eq_false_iff, Bool.not_eq_true', Bool.not_eq_false', decide_eq_true_eq, decide_eq_false_iff_not, bne_iff_ne, bne_eq_false_iff_eq, beq_iff_eq, beq_eq_false_iff_ne] at h1
    have hg0 : 0 ≤ g := by omega
    have hg1 : g ≤ 40 := by omega
    refine tri_skip ?_
    refine fin_then ?_
    refine tri_seq ?_
    refine tri_seq ?_
    refine tri_regD hcx [] [36, 37, 38] [3, 6, 1, 2] [606] [] [(36, .ints fz), (37, .int (fz.length : Int)), (38, .int 0)] [] (by kernel_rfl) ?_ ?_
    ·
     exact az
    refine fin_then ?_
    refine tri_block ?_
    refine tri_loop (X := Nat) (fun x0 => x0 ≤ fz.length ∧ ∀ i, i < x0 → Cn.oddV N (fz.getD i 0) = false) (fun x0 => [(1, .ints fz), (2, .int g), (3, .pto [.int N, .ls (.intss L)]), (6, .loc 606 0), (36, .ints fz), (37, .int (fz.length : Int)), (38, .int (x0 : Int))]) (fun x0 => [(606, .box [.int 0, .im (.val (.slice none 0 0))])]) (fun x0 => fz.length - x0) (0) ?_ ?_ ?_ ?_
    ·
     show 0 ≤ fz.length ∧ ∀ i, i < 0 → Cn.oddV N (fz.getD i 0) = false
     exact ⟨Nat.zero_le _, fun j hj => by omega⟩
    ·
     exact subE_mk (l := [.ints fz, .int g, .pto [.int N, .ls (.intss L)], .loc 606 0, .ints fz, .int (fz.length : Int), .int 0]) (m := [.ints fz, .int g, .pto [.int N, .ls (.intss L)], .loc 606 0, .ints fz, .int (fz.length : Int), .int (0 : Int)]) (by kernel_rfl) (by kernel_rfl) (consE rfl (consE rfl (consE rfl (consE rfl (consE rfl (consE rfl (consE (congrArg AV.int (show 0 = (0 : Int) from (by first | rfl | omega | (simp; done)))) rfl)))))))
    ·
     kernel_rfl
    ·
     intro j hI
     replace hI : j ≤ fz.length ∧ ∀ i, i < j → Cn.oddV N (fz.getD i 0) = false := hI
     change Tri _ [(1, .ints fz), (2, .int g), (3, .pto [.int N, .ls (.intss L)]), (6, .loc 606 0), (36, .ints fz), (37, .int (fz.length : Int)), (38, .int (j : Int))] [(606, .box [.int 0, .im (.val (.slice none 0 0))])] _ _
     obtain ⟨hk, hok⟩ := hI
     refine tri_seq ?_
     refine tri_regD hcx [] [39] [1, 2, 3, 6, 36, 37, 38] [606] [] [(39, .bool (decide ((j : Int) < (fz.length : Int))))] [] (by kernel_rfl) ?_ ?_
     ·
      exact az
     refine fin_then ?_
     refine tri_seq ?_
     refine tri_cond (b := (decide ((j : Int) < (fz.length : Int)))) (by kernel_rfl) (fun hb2 => ?_) (fun hb2 => ?_)
     ·
      skip
      have h2 := of_decide_eq_true hb2
      refine tri_skip ?_
      refine fin_then ?_
      refine tri_seq ?_
      refine tri_block ?_
      refine tri_seq ?_
      refine tri_regD hcx [] [11] [1, 2, 3, 6, 36, 37, 38] [606] [((0 : Int) ≤ (j : Int) ∧ (j : Int) < (fz.length : Int))] [(11, .int (fz.getD j 0))] [] (by kernel_rfl) ?_ ?_
      ·
       refine (ap ?_ az)
       first | exact True.intro | omega | exact hck | exact hown | exact hm4 | exact (fun _ => hm4) | (have := hj4 (by omega); omega) | exact (fun _ => ⟨hxm _ (Cn.getD_memL (by omega)), by omega, by omega⟩) | exact ⟨by omega, hxs⟩ | (first | omega | exact id | exact vcNot | exact vcG | exact vcH | (intro _; omega) | exact (fun _ h => h) | (intro h; simp at h; omega) | (simp only [List.length_cons, List.length_nil, List.length_append, List.length_map, List.length_set, List.length_replicate]; omega) | (intro h; simp [h]; done)) | (constructor <;> omega)
      refine fin_then ?_
      refine tri_seq ?_
      refine tri_regD hcx [] [49] [1, 2, 3, 6, 36, 37, 38] [606] [((!(decide ((fz.getD j 0) < 1))) = true → ((!(decide ((fz.getD j 0) < 1))) = true)), ((!(decide ((fz.getD j 0) < 1))) = true → ((!(decide ((fz.getD j 0) < 1))) = true)), ((!(decide ((fz.getD j 0) < 1))) = true → ((!(decide ((fz.getD j 0) < 1))) = true)), ((decide ((fz.getD j 0) < 1)) = false → (!(decide ((fz.getD j 0) < 1))) = true)] [(49, .bool ((decide ((fz.getD j 0) < 1)) || (decide ((fz.getD j 0) > N))))] [] (by kernel_rfl) ?_ ?_
      ·
       refine (ap ?_ (ap ?_ (ap ?_ (ap (by exact vcNot) az))))
       all_goals
        first | exact True.intro | omega | exact hck | exact hown | exact hm4 | exact (fun _ => hm4) | (have := hj4 (by omega); omega) | exact (fun _ => ⟨hxm _ (Cn.getD_memL (by omega)), by omega, by omega⟩) | exact ⟨by omega, hxs⟩ | (first | omega | exact id | exact vcNot | exact vcG | exact vcH | (intro _; omega) | exact (fun _ h => h) | (intro h; simp at h; omega) | (simp only [List.length_cons, List.length_nil, List.length_append, List.length_map, List.length_set, List.length_replicate]; omega) | (intro h; simp [h]; done)) | (constructor <;> omega)
      refine fin_then ?_
      refine tri_cond (b := ((decide ((fz.getD j 0) < 1)) || (decide ((fz.getD j 0) > N)))) (by kernel_rfl) (fun hb3 => ?_) (fun hb3 => ?_)
      ·
       skip
       have h3 := hb3
       have hq : Cn.oddV N (fz.getD j 0) = true := h3
       obtain ⟨hA, hB, hC, hE⟩ := Cn.el_no (fz := fz) (Cn.el_arg hc0 (by rw [Cn.any_yes (d := 0) (k := j) (p := Cn.oddV N) (by omega) hq, Bool.or_true])) (by decide)
       refine tri_seq ?_
       refine tri_regD hcx [(606, .to 606)] [7, 8] [6] [] [] [(7, .im (.val (.slice none 0 0))), (8, .int 1)] [(606, .box [.int 0, .im (.val (.slice none 0 0))])] (by kernel_rfl) ?_ ?_
       ·
        exact az
       refine fin_then ?_
       refine tri_ret ?_
       refine fin_block_ret ?_
       refine fin_then_ret ?_
       refine fin_then_ret ?_
       refine fin_block_ret ?_
       refine fin_then_ret ?_
       refine fin_rowB 606 1 700 0 (.intss []) (by kernel_rfl) (by kernel_rfl) (by kernel_rfl) (by kernel_rfl) (H' := [(606, .box [.int 0, .row 700])]) (by kernel_rfl) ?_
       refine fin_nil 7 (.undos []) (by kernel_rfl) (E' := [(7, .undos []), (8, .int 1), (6, .loc 606 0)]) (by kernel_rfl) ?_
       refine fin_ren (ρ := [(606, .to 990), (700, .frz)]) (keys := [6, 7, 8]) (E' := [(6, .loc 990 0), (7, .undos []), (8, .int 1)]) (H' := [(990, .box [.int 0, .intss []])]) (by kernel_rfl) ?_
       exact fin_ret [] rfl rfl trivial hcx (avs := [.agg [.int 0, .intss []], .undos [], .int 1]) (by kernel_rfl) (congrArg AV.tup (consE (congrArg AV.agg (consE (congrArg AV.int (show 0 = (Cn.elN N L fz g) from (by first | exact hA.symm | exact hB.symm | exact hC.symm | exact hE.symm | (rw [show k = N.toNat from (by omega)]; first | exact hB.symm | exact hC.symm)))) (consE (congrArg AV.intss (show [] = (Cn.elX N L fz g) from (by first | exact hA.symm | exact hB.symm | exact hC.symm | exact hE.symm | (rw [show k = N.toNat from (by omega)]; first | exact hB.symm | exact hC.symm)))) rfl))) (consE (congrArg AV.undos (show [] = (Cn.elU N L fz g) from (by first | exact hA.symm | exact hB.symm | exact hC.symm | exact hE.symm | (rw [show k = N.toNat from (by omega)]; first | exact hB.symm | exact hC.symm)))) (consE (congrArg AV.int (show 1 = (Cn.elE N L fz g) from (by first | exact hA.symm | exact hB.symm | exact hC.symm | exact hE.symm | (rw [show k = N.toNat from (by omega)]; first | exact hB.symm | exact hC.symm)))) rfl)))) [] rfl
      ·
       skip
       have h3 := hb3
       have hq : Cn.oddV N (fz.getD j 0) = false := h3
       refine tri_skip ?_
       refine fin_block ?_
       refine fin_then ?_
       refine tri_regD hcx [] [38] [1, 2, 3, 6, 36, 37] [606] [Fit ((j : Int) + 1)] [(38, .int ((j : Int) + 1))] [] (by kernel_rfl) ?_ ?_
       ·
        refine (ap ?_ az)
        first | exact True.intro | omega | exact hck | exact hown | exact hm4 | exact (fun _ => hm4) | (have := hj4 (by omega); omega) | exact (fun _ => ⟨hxm _ (Cn.getD_memL (by omega)), by omega, by omega⟩) | exact ⟨by omega, hxs⟩ | (first | omega | exact id | exact vcNot | exact vcG | exact vcH | (intro _; omega) | exact (fun _ h => h) | (intro h; simp at h; omega) | (simp only [List.length_cons, List.length_nil, List.length_append, List.length_map, List.length_set, List.length_replicate]; omega) | (intro h; simp [h]; done)) | (constructor <;> omega)
       refine fin_round (j + 1) ?_ ?_ ?_ ?_
       ·
        show (j + 1) ≤ fz.length ∧ ∀ i, i < (j + 1) → Cn.oddV N (fz.getD i 0) = false
        exact ⟨by omega, Cn.falseSucc (f := fun i => Cn.oddV N (fz.getD i 0)) hok hq⟩
       ·
        show fz.length - (j + 1) < fz.length - j
        omega
       ·
        exact subE_mk (l := [.ints fz, .int g, .pto [.int N, .ls (.intss L)], .loc 606 0, .ints fz, .int (fz.length : Int), .int ((j : Int) + 1)]) (m := [.ints fz, .int g, .pto [.int N, .ls (.intss L)], .loc 606 0, .ints fz, .int (fz.length : Int), .int ((j + 1) : Int)]) (by kernel_rfl) (by kernel_rfl) (consE rfl (consE rfl (consE rfl (consE rfl (consE rfl (consE rfl (consE (congrArg AV.int (show ((j : Int) + 1) = ((j + 1) : Int) from (by first | rfl | omega | (simp; done)))) rfl)))))))
       ·
        kernel_rfl
     ·
      skip
      have h2 := of_decide_eq_false hb2
      have hE0 := Cn.el_0 (fz := fz) (g := g) hc0 (by rw [Cn.any_no (d := 0) (p := Cn.oddV N) (fun i hi => hok i (by omega)), Bool.or_false, Bool.or_eq_false_iff]; exact ⟨decide_eq_false (by omega), decide_eq_false (by omega)⟩)
      obtain ⟨hA, hB, hC, hE⟩ := Cn.el_ok hE0
      refine tri_exit ?_
      refine fin_then_exit ?_
      refine fin_then_exit ?_
      refine fin_block_same ?_
      refine fin_then ?_
      refine tri_seq ?_
      refine tri_regD hcx [(1003, .to 612)] [12] [1, 2, 3, 6] [606] [] [(12, .loc 612 0)] [(612, .box [.int N, .im (.val (.slice none 0 0))])] (by kernel_rfl) ?_ ?_
      ·
       exact az
      refine fin_then ?_
      refine tri_seq ?_
      refine tri_seq ?_
      refine tri_regD hcx [] [56, 57, 58] [12, 1, 2, 3, 6] [612, 606] [] [(56, .intss L), (57, .int (L.length : Int)), (58, .int 0)] [] (by kernel_rfl) ?_ ?_
      ·
       exact az
      refine fin_then ?_
      refine tri_block ?_
      refine tri_rowB 612 1 10 43 (.intss []) (by kernel_rfl) (by kernel_rfl) (by kernel_rfl) (by kernel_rfl) (H' := [(612, .box [.int N, .row 10]), (606, .box [.int 0, .im (.val (.slice none 0 0))])]) (by kernel_rfl) ?_
      refine tri_ren (ρ := [(10, .to 10), (606, .to 606), (612, .to 612)]) (keys := [1, 2, 3, 6, 12, 56, 57, 58]) (E' := [(1, .ints fz), (2, .int g), (3, .pto [.int N, .ls (.intss L)]), (6, .loc 606 0), (12, .loc 612 0), (56, .intss L), (57, .int (L.length : Int)), (58, .int 0)]) (H' := [(10, .row 43 (.intss [])), (606, .box [.int 0, .im (.val (.slice none 0 0))]), (612, .box [.int N, .row 10])]) (by kernel_rfl) ?_
      refine tri_loop (X := Nat) (fun x0 => x0 ≤ L.length) (fun x0 => [(1, .ints fz), (2, .int g), (3, .pto [.int N, .ls (.intss L)]), (6, .loc 606 0), (12, .loc 612 0), (56, .intss L), (57, .int (L.length : Int)), (58, .int (x0 : Int))]) (fun x0 => [(10, .row 43 (.intss (L.take x0))), (606, .box [.int 0, .im (.val (.slice none 0 0))]), (612, .box [.int N, .row 10])]) (fun x0 => L.length - x0) (0) ?_ ?_ ?_ ?_
      ·
       show 0 ≤ L.length
       omega
      ·
       exact subE_mk (l := [.ints fz, .int g, .pto [.int N, .ls (.intss L)], .loc 606 0, .loc 612 0, .intss L, .int (L.length : Int), .int 0]) (m := [.ints fz, .int g, .pto [.int N, .ls (.intss L)], .loc 606 0, .loc 612 0, .intss L, .int (L.length : Int), .int (0 : Int)]) (by kernel_rfl) (by kernel_rfl) (consE rfl (consE rfl (consE rfl (consE rfl (consE rfl (consE rfl (consE rfl (consE (congrArg AV.int (show 0 = (0 : Int) from (by first | rfl | omega | (simp; done)))) rfl))))))))
      ·
       exact Eq.trans (show _ = [(10, .row 43 (.intss [])), (606, .box [.int 0, .im (.val (.slice none 0 0))]), (612, .box [.int N, .row 10])] from by kernel_rfl) (consH (congrArg (fun x => ((10 : Nat), x)) (congrArg (fun x => AObj.row 43 (.intss x)) (show [] = (L.take 0) from (by rfl)))) (consH rfl (consH rfl rfl)))
      ·
       intro j hI
       replace hI : j ≤ L.length := hI
       change Tri _ [(1, .ints fz), (2, .int g), (3, .pto [.int N, .ls (.intss L)]), (6, .loc 606 0), (12, .loc 612 0), (56, .intss L), (57, .int (L.length : Int)), (58, .int (j : Int))] [(10, .row 43 (.intss (L.take j))), (606, .box [.int 0, .im (.val (.slice none 0 0))]), (612, .box [.int N, .row 10])] _ _
       have hj4 := hm7 j
       have htl : (L.take j).length ≤ j := by rw [List.length_take]; omega
       refine tri_seq ?_
       refine tri_regD hcx [] [59] [1, 2, 3, 6, 12, 56, 57, 58] [10, 606, 612] [] [(59, .bool (decide ((j : Int) < (L.length : Int))))] [] (by kernel_rfl) ?_ ?_
       ·
        exact az
       refine fin_then ?_
       refine tri_seq ?_
       refine tri_cond (b := (decide ((j : Int) < (L.length : Int)))) (by kernel_rfl) (fun hb4 => ?_) (fun hb4 => ?_)
       ·
        skip
        have h4 := of_decide_eq_true hb4
        refine tri_skip ?_
        refine fin_then ?_
        refine tri_seq ?_
        refine tri_block ?_
        refine tri_seq ?_
        refine tri_regD hcx [] [14] [1, 2, 3, 6, 12, 56, 57, 58] [10, 606, 612] [((0 : Int) ≤ (j : Int) ∧ (j : Int) < (L.length : Int))] [(14, .ints (L.getD j []))] [] (by kernel_rfl) ?_ ?_
        ·
         refine (ap ?_ az)
         first | exact True.intro | omega | exact hck | exact hown | exact hm4 | exact (fun _ => hm4) | (have := hj4 (by omega); omega) | exact (fun _ => ⟨hxm _ (Cn.getD_memL (by omega)), by omega, by omega⟩) | exact ⟨by omega, hxs⟩ | (first | omega | exact id | exact vcNot | exact vcG | exact vcH | (intro _; omega) | exact (fun _ h => h) | (intro h; simp at h; omega) | (simp only [List.length_cons, List.length_nil, List.length_append, List.length_map, List.length_set, List.length_replicate]; omega) | (intro h; simp [h]; done)) | (constructor <;> omega)
        refine fin_then ?_
        refine tri_drawD [0, 1, 0, 4, 12, 31, 63, 127] hcx hmx [(1005, .to 10), (612, .to 612)] [] [1, 2, 3, 6, 12, 56, 57, 58] [606] [((L.getD j []).length ≤ 1000000), (((L.take j).length + [(L.getD j [])].length) * 24 ≤ 140737488355328)] [] [(10, .row 43 (.intss ((L.take j) ++ [(L.getD j [])]))), (612, .box [.int N, .row 10])] (by kernel_rfl) ?_ ?_
        ·
         refine (ap ?_ (ap ?_ az))
         all_goals
          first | exact True.intro | omega | exact hck | exact hown | exact hm4 | exact (fun _ => hm4) | (have := hj4 (by omega); omega) | exact (fun _ => ⟨hxm _ (Cn.getD_memL (by omega)), by omega, by omega⟩) | exact ⟨by omega, hxs⟩ | (first | omega | exact id | exact vcNot | exact vcG | exact vcH | (intro _; omega) | exact (fun _ h => h) | (intro h; simp at h; omega) | (simp only [List.length_cons, List.length_nil, List.length_append, List.length_map, List.length_set, List.length_replicate]; omega) | (intro h; simp [h]; done)) | (constructor <;> omega)
        refine fin_block ?_
        refine fin_then ?_
        refine tri_regD hcx [] [58] [1, 2, 3, 6, 12, 56, 57] [10, 612, 606] [Fit ((j : Int) + 1)] [(58, .int ((j : Int) + 1))] [] (by kernel_rfl) ?_ ?_
        ·
         refine (ap ?_ az)
         first | exact True.intro | omega | exact hck | exact hown | exact hm4 | exact (fun _ => hm4) | (have := hj4 (by omega); omega) | exact (fun _ => ⟨hxm _ (Cn.getD_memL (by omega)), by omega, by omega⟩) | exact ⟨by omega, hxs⟩ | (first | omega | exact id | exact vcNot | exact vcG | exact vcH | (intro _; omega) | exact (fun _ h => h) | (intro h; simp at h; omega) | (simp only [List.length_cons, List.length_nil, List.length_append, List.length_map, List.length_set, List.length_replicate]; omega) | (intro h; simp [h]; done)) | (constructor <;> omega)
        refine fin_ren (ρ := [(10, .to 10), (606, .to 606), (612, .to 612)]) (keys := [1, 2, 3, 6, 12, 56, 57, 58]) (E' := [(1, .ints fz), (2, .int g), (3, .pto [.int N, .ls (.intss L)]), (6, .loc 606 0), (12, .loc 612 0), (56, .intss L), (57, .int (L.length : Int)), (58, .int ((j : Int) + 1))]) (H' := [(10, .row 43 (.intss ((L.take j) ++ [(L.getD j [])]))), (606, .box [.int 0, .im (.val (.slice none 0 0))]), (612, .box [.int N, .row 10])]) (by kernel_rfl) ?_
        refine fin_round (j + 1) ?_ ?_ ?_ ?_
        ·
         show (j + 1) ≤ L.length
         omega
        ·
         show L.length - (j + 1) < L.length - j
         omega
        ·
         exact subE_mk (l := [.ints fz, .int g, .pto [.int N, .ls (.intss L)], .loc 606 0, .loc 612 0, .intss L, .int (L.length : Int), .int ((j : Int) + 1)]) (m := [.ints fz, .int g, .pto [.int N, .ls (.intss L)], .loc 606 0, .loc 612 0, .intss L, .int (L.length : Int), .int ((j + 1) : Int)]) (by kernel_rfl) (by kernel_rfl) (consE rfl (consE rfl (consE rfl (consE rfl (consE rfl (consE rfl (consE rfl (consE (congrArg AV.int (show ((j : Int) + 1) = ((j + 1) : Int) from (by first | rfl | omega | (simp; done)))) rfl))))))))
        ·
         exact Eq.trans (show _ = [(10, .row 43 (.intss ((L.take j) ++ [(L.getD j [])]))), (606, .box [.int 0, .im (.val (.slice none 0 0))]), (612, .box [.int N, .row 10])] from by kernel_rfl) (consH (congrArg (fun x => ((10 : Nat), x)) (congrArg (fun x => AObj.row 43 (.intss x)) (show ((L.take j) ++ [(L.getD j [])]) = (L.take (j + 1)) from (by exact (Cn.take_sD (by omega)).symm)))) (consH rfl (consH rfl rfl)))
       ·
        skip
        have h4 := of_decide_eq_false hb4
        refine tri_exit ?_
        refine fin_then_exit ?_
        refine fin_then_exit ?_
        refine fin_block_same ?_
        refine fin_then ?_
        refine tri_seq ?_
        refine tri_regD hcx [] [15] [1, 2, 3, 6, 12] [10, 606, 612] [] [(15, .im (.val (.slice none 0 0)))] [] (by kernel_rfl) ?_ ?_
        ·
         exact az
        refine fin_then ?_
        refine tri_seq ?_
        refine tri_seq ?_
        refine tri_row 15 11 28 (.undos []) (by kernel_rfl) (by kernel_rfl) (by kernel_rfl) (by kernel_rfl) (E' := [(15, .row 11), (1, .ints fz), (2, .int g), (3, .pto [.int N, .ls (.intss L)]), (6, .loc 606 0), (12, .loc 612 0)]) (by kernel_rfl) ?_
        refine tri_regD hcx [] [16] [15, 1, 2, 3, 6, 12] [11, 10, 606, 612] [] [(16, .int 1)] [] (by kernel_rfl) ?_ ?_
        ·
         exact az
        refine fin_then ?_
        refine tri_block ?_
        refine tri_ren (ρ := [(11, .to 11), (606, .to 606), (612, .to 612), (10, .frz)]) (keys := [1, 2, 3, 6, 12, 15, 16]) (E' := [(1, .ints fz), (2, .int g), (3, .pto [.int N, .ls (.intss L)]), (6, .loc 606 0), (12, .loc 612 0), (15, .row 11), (16, .int 1)]) (H' := [(11, .row 28 (.undos [])), (606, .box [.int 0, .im (.val (.slice none 0 0))]), (612, .box [.int N, .intss (L.take j)])]) (by kernel_rfl) ?_
        refine tri_loop (X := Nat) (fun x0 => x0 ≤ N.toNat) (fun x0 => [(1, .ints fz), (2, .int g), (3, .pto [.int N, .ls (.intss L)]), (6, .loc 606 0), (12, .loc 612 0), (15, .row 11), (16, .int ((x0 : Int) + 1))]) (fun x0 => [(11, .row 28 (.undos ((Cn.elTo L fz g x0).2))), (606, .box [.int 0, .im (.val (.slice none 0 0))]), (612, .box [.int N, .intss ((Cn.elTo L fz g x0).1)])]) (fun x0 => N.toNat - x0) (0) ?_ ?_ ?_ ?_
        ·
         show 0 ≤ N.toNat
         omega
        ·
         exact subE_mk (l := [.ints fz, .int g, .pto [.int N, .ls (.intss L)], .loc 606 0, .loc 612 0, .row 11, .int 1]) (m := [.ints fz, .int g, .pto [.int N, .ls (.intss L)], .loc 606 0, .loc 612 0, .row 11, .int ((0 : Int) + 1)]) (by kernel_rfl) (by kernel_rfl) (consE rfl (consE rfl (consE rfl (consE rfl (consE rfl (consE rfl (consE (congrArg AV.int (show 1 = ((0 : Int) + 1) from (by first | rfl | omega | (simp; done)))) rfl)))))))
        ·
         exact Eq.trans (show _ = [(11, .row 28 (.undos [])), (606, .box [.int 0, .im (.val (.slice none 0 0))]), (612, .box [.int N, .intss (L.take j)])] from by kernel_rfl) (consH (congrArg (fun x => ((11 : Nat), x)) (congrArg (fun x => AObj.row 28 (.undos x)) (show [] = (Cn.elTo L fz g 0).2 from (by rfl)))) (consH rfl (consH (congrArg (fun x => ((612 : Nat), x)) (congrArg AObj.box (consE rfl (consE (congrArg AV.intss (show (L.take j) = (Cn.elTo L fz g 0).1 from (by rw [show j = L.length from (by omega), List.take_length]; rfl))) rfl)))) rfl)))
        ·
         intro k hI
         replace hI : k ≤ N.toNat := hI
         change Tri _ [(1, .ints fz), (2, .int g), (3, .pto [.int N, .ls (.intss L)]), (6, .loc 606 0), (12, .loc 612 0), (15, .row 11), (16, .int ((k : Int) + 1))] [(11, .row 28 (.undos ((Cn.elTo L fz g k).2))), (606, .box [.int 0, .im (.val (.slice none 0 0))]), (612, .box [.int N, .intss ((Cn.elTo L fz g k).1)])] _ _
         obtain ⟨hi1, hi2, hi3, hi4⟩ := Cn.to_inv (fz := fz) (g := g) hm3 (Cn.good_of hc0 hm2) hm1 hg0 hg1 k (by omega)
         have hxm : ∀ l ∈ (Cn.elTo L fz g k).1, l.length ≤ maxLen := fun l hl => by have := (hi1 l hl).2; unfold maxLen; omega
         have hxs : ∀ l ∈ (Cn.elTo L fz g k).1, l.length ≤ 1000 := fun l hl => by have := (hi1 l hl).2; omega
         have hx5 : (Cn.elTo L fz g k).1.length ≤ 1240 := by omega
         refine tri_seq ?_
         refine tri_seq ?_
         refine tri_regD hcx [] [73] [1, 2, 3, 6, 12, 15, 16] [11, 606, 612] [] [(73, .bool (decide (((k : Int) + 1) ≤ N)))] [] (by kernel_rfl) ?_ ?_
         ·
          exact az
         refine fin_then ?_
         refine tri_cond (b := (decide (((k : Int) + 1) ≤ N))) (by kernel_rfl) (fun hb5 => ?_) (fun hb5 => ?_)
         ·
          skip
          have h5 := of_decide_eq_true hb5
          refine tri_skip ?_
          refine fin_then ?_
          refine tri_seq ?_
          refine tri_block ?_
          refine tri_seq ?_
          refine tri_regD hcx [] [17] [1, 2, 3, 6, 12, 15, 16] [11, 606, 612] [] [(17, .bool false)] [] (by kernel_rfl) ?_ ?_
          ·
           exact az
          refine fin_then ?_
          refine tri_seq ?_
          refine tri_seq ?_
          refine tri_regD hcx [] [77, 78, 79] [17, 1, 2, 3, 6, 12, 15, 16] [11, 606, 612] [] [(77, .intss ((Cn.elTo L fz g k).1)), (78, .int (((Cn.elTo L fz g k).1).length : Int)), (79, .int 0)] [] (by kernel_rfl) ?_ ?_
          ·
           exact az
          refine fin_then ?_
          refine tri_block ?_
          refine tri_loop (X := Nat) (fun x0 => x0 ≤ (Cn.elTo L fz g k).1.length) (fun x0 => [(1, .ints fz), (2, .int g), (3, .pto [.int N, .ls (.intss L)]), (6, .loc 606 0), (12, .loc 612 0), (15, .row 11), (16, .int ((k : Int) + 1)), (17, .bool (((Cn.elTo L fz g k).1.take x0).any (Cn.hasV ((k : Int) + 1)))), (77, .intss ((Cn.elTo L fz g k).1)), (78, .int (((Cn.elTo L fz g k).1).length : Int)), (79, .int (x0 : Int))]) (fun x0 => [(11, .row 28 (.undos ((Cn.elTo L fz g k).2))), (606, .box [.int 0, .im (.val (.slice none 0 0))]), (612, .box [.int N, .intss ((Cn.elTo L fz g k).1)])]) (fun x0 => (Cn.elTo L fz g k).1.length - x0) (0) ?_ ?_ ?_ ?_
          ·
           show 0 ≤ (Cn.elTo L fz g k).1.length
           omega
          ·
           exact subE_mk (l := [.ints fz, .int g, .pto [.int N, .ls (.intss L)], .loc 606 0, .loc 612 0, .row 11, .int ((k : Int) + 1), .bool false, .intss ((Cn.elTo L fz g k).1), .int (((Cn.elTo L fz g k).1).length : Int), .int 0]) (m := [.ints fz, .int g, .pto [.int N, .ls (.intss L)], .loc 606 0, .loc 612 0, .row 11, .int ((k : Int) + 1), .bool (((Cn.elTo L fz g k).1.take 0).any (Cn.hasV ((k : Int) + 1))), .intss ((Cn.elTo L fz g k).1), .int (((Cn.elTo L fz g k).1).length : Int), .int (0 : Int)]) (by kernel_rfl) (by kernel_rfl) (consE rfl (consE rfl (consE rfl (consE rfl (consE rfl (consE rfl (consE rfl (consE (congrArg AV.bool (show false = (((Cn.elTo L fz g k).1.take 0).any (Cn.hasV ((k : Int) + 1))) from (by rfl))) (consE rfl (consE rfl (consE (congrArg AV.int (show 0 = (0 : Int) from (by first | rfl | omega | (simp; done)))) rfl)))))))))))
          ·
           kernel_rfl
          ·
           intro j hI
           replace hI : j ≤ (Cn.elTo L fz g k).1.length := hI
           change Tri _ [(1, .ints fz), (2, .int g), (3, .pto [.int N, .ls (.intss L)]), (6, .loc 606 0), (12, .loc 612 0), (15, .row 11), (16, .int ((k : Int) + 1)), (17, .bool (((Cn.elTo L fz g k).1.take j).any (Cn.hasV ((k : Int) + 1)))), (77, .intss ((Cn.elTo L fz g k).1)), (78, .int (((Cn.elTo L fz g k).1).length : Int)), (79, .int (j : Int))] [(11, .row 28 (.undos ((Cn.elTo L fz g k).2))), (606, .box [.int 0, .im (.val (.slice none 0 0))]), (612, .box [.int N, .intss ((Cn.elTo L fz g k).1)])] _ _
           refine tri_seq ?_
           refine tri_regD hcx [] [80] [1, 2, 3, 6, 12, 15, 16, 17, 77, 78, 79] [11, 606, 612] [] [(80, .bool (decide ((j : Int) < (((Cn.elTo L fz g k).1).length : Int))))] [] (by kernel_rfl) ?_ ?_
           ·
            exact az
           refine fin_then ?_
           refine tri_seq ?_
           refine tri_cond (b := (decide ((j : Int) < (((Cn.elTo L fz g k).1).length : Int)))) (by kernel_rfl) (fun hb6 => ?_) (fun hb6 => ?_)
           ·
            skip
            have h6 := of_decide_eq_true hb6
            refine tri_skip ?_
            refine fin_then ?_
            refine tri_seq ?_
            refine tri_block ?_
            refine tri_seq ?_
            refine tri_regD hcx [] [19] [1, 2, 3, 6, 12, 15, 16, 17, 77, 78, 79] [11, 606, 612] [((0 : Int) ≤ (j : Int) ∧ (j : Int) < (((Cn.elTo L fz g k).1).length : Int))] [(19, .ints (((Cn.elTo L fz g k).1).getD j []))] [] (by kernel_rfl) ?_ ?_
            ·
             refine (ap ?_ az)
             first | exact True.intro | omega | exact hck | exact hown | exact hm4 | exact (fun _ => hm4) | (have := hj4 (by omega); omega) | exact (fun _ => ⟨hxm _ (Cn.getD_memL (by omega)), by omega, by omega⟩) | exact ⟨by omega, hxs⟩ | (first | omega | exact id | exact vcNot | exact vcG | exact vcH | (intro _; omega) | exact (fun _ h => h) | (intro h; simp at h; omega) | (simp only [List.length_cons, List.length_nil, List.length_append, List.length_map, List.length_set, List.length_replicate]; omega) | (intro h; simp [h]; done)) | (constructor <;> omega)
            refine fin_then ?_
            refine tri_regD hcx [] [17] [1, 2, 3, 6, 12, 15, 16, 77, 78, 79] [11, 606, 612] [((!(((Cn.elTo L fz g k).1.take j).any (Cn.hasV ((k : Int) + 1)))) = true → ((!(((Cn.elTo L fz g k).1.take j).any (Cn.hasV ((k : Int) + 1)))) = true)), ((!(((Cn.elTo L fz g k).1.take j).any (Cn.hasV ((k : Int) + 1)))) = true → ((!(((Cn.elTo L fz g k).1.take j).any (Cn.hasV ((k : Int) + 1)))) = true)), ((!(((Cn.elTo L fz g k).1.take j).any (Cn.hasV ((k : Int) + 1)))) = true → ((((Cn.elTo L fz g k).1).getD j []).length ≤ maxLen ∧ -65536 ≤ ((k : Int) + 1) ∧ ((k : Int) + 1) ≤ 65536)), ((((Cn.elTo L fz g k).1.take j).any (Cn.hasV ((k : Int) + 1))) = false → (!(((Cn.elTo L fz g k).1.take j).any (Cn.hasV ((k : Int) + 1)))) = true)] [(17, .bool ((((Cn.elTo L fz g k).1.take j).any (Cn.hasV ((k : Int) + 1))) || (Cn.hasV ((k : Int) + 1) (((Cn.elTo L fz g k).1).getD j []))))] [] (by kernel_rfl) ?_ ?_
            ·
             refine (ap ?_ (ap ?_ (ap ?_ (ap (by exact vcNot) az))))
             all_goals
              first | exact True.intro | omega | exact hck | exact hown | exact hm4 | exact (fun _ => hm4) | (have := hj4 (by omega); omega) | exact (fun _ => ⟨hxm _ (Cn.getD_memL (by omega)), by omega, by omega⟩) | exact ⟨by omega, hxs⟩ | (first | omega | exact id | exact vcNot | exact vcG | exact vcH | (intro _; omega) | exact (fun _ h => h) | (intro h; simp at h; omega) | (simp only [List.length_cons, List.length_nil, List.length_append, List.length_map, List.length_set, List.length_replicate]; omega) | (intro h; simp [h]; done)) | (constructor <;> omega)
            refine fin_block ?_
            refine fin_then ?_
            refine tri_regD hcx [] [79] [17, 1, 2, 3, 6, 12, 15, 16, 77, 78] [11, 606, 612] [Fit ((j : Int) + 1)] [(79, .int ((j : Int) + 1))] [] (by kernel_rfl) ?_ ?_
            ·
             refine (ap ?_ az)
             first | exact True.intro | omega | exact hck | exact hown | exact hm4 | exact (fun _ => hm4) | (have := hj4 (by omega); omega) | exact (fun _ => ⟨hxm _ (Cn.getD_memL (by omega)), by omega, by omega⟩) | exact ⟨by omega, hxs⟩ | (first | omega | exact id | exact vcNot | exact vcG | exact vcH | (intro _; omega) | exact (fun _ h => h) | (intro h; simp at h; omega) | (simp only [List.length_cons, List.length_nil, List.length_append, List.length_map, List.length_set, List.length_replicate]; omega) | (intro h; simp [h]; done)) | (constructor <;> omega)
            refine fin_round (j + 1) ?_ ?_ ?_ ?_
            ·
             show (j + 1) ≤ (Cn.elTo L fz g k).1.length
             omega
            ·
             show (Cn.elTo L fz g k).1.length - (j + 1) < (Cn.elTo L fz g k).1.length - j
             omega
            ·
             exact subE_mk (l := [.ints fz, .int g, .pto [.int N, .ls (.intss L)], .loc 606 0, .loc 612 0, .row 11, .int ((k : Int) + 1), .bool ((((Cn.elTo L fz g k).1.take j).any (Cn.hasV ((k : Int) + 1))) || (Cn.hasV ((k : Int) + 1) (((Cn.elTo L fz g k).1).getD j []))), .intss ((Cn.elTo L fz g k).1), .int (((Cn.elTo L fz g k).1).length : Int), .int ((j : Int) + 1)]) (m := [.ints fz, .int g, .pto [.int N, .ls (.intss L)], .loc 606 0, .loc 612 0, .row 11, .int ((k : Int) + 1), .bool (((Cn.elTo L fz g k).1.take (j + 1)).any (Cn.hasV ((k : Int) + 1))), .intss ((Cn.elTo L fz g k).1), .int (((Cn.elTo L fz g k).1).length : Int), .int ((j + 1) : Int)]) (by kernel_rfl) (by kernel_rfl) (consE rfl (consE rfl (consE rfl (consE rfl (consE rfl (consE rfl (consE rfl (consE (congrArg AV.bool (show ((((Cn.elTo L fz g k).1.take j).any (Cn.hasV ((k : Int) + 1))) || (Cn.hasV ((k : Int) + 1) (((Cn.elTo L fz g k).1).getD j []))) = (((Cn.elTo L fz g k).1.take (j + 1)).any (Cn.hasV ((k : Int) + 1))) from (by exact Cn.any_succ (by omega)))) (consE rfl (consE rfl (consE (congrArg AV.int (show ((j : Int) + 1) = ((j + 1) : Int) from (by first | rfl | omega | (simp; done)))) rfl)))))))))))
            ·
             kernel_rfl
           ·
            skip
            have h6 := of_decide_eq_false hb6
            have hth : ((Cn.elTo L fz g k).1.take j).any (Cn.hasV ((k : Int) + 1)) = (Cn.elTo L fz g k).1.any (Cn.hasV ((k : Int) + 1)) := by rw [show j = (Cn.elTo L fz g k).1.length from (by omega), List.take_length]
            refine tri_exit ?_
            refine fin_then_exit ?_
            refine fin_then_exit ?_
            refine fin_block_same ?_
            refine fin_then ?_
            refine tri_seq ?_
            refine tri_seq ?_
            refine tri_regD hcx [] [96] [1, 2, 3, 6, 12, 15, 16] [11, 606, 612] [((!(!(((Cn.elTo L fz g k).1.take j).any (Cn.hasV ((k : Int) + 1))))) = true → ((!(!(((Cn.elTo L fz g k).1.take j).any (Cn.hasV ((k : Int) + 1))))) = true)), ((!(!(((Cn.elTo L fz g k).1.take j).any (Cn.hasV ((k : Int) + 1))))) = true → ((!(!(((Cn.elTo L fz g k).1.take j).any (Cn.hasV ((k : Int) + 1))))) = true)), ((!(!(((Cn.elTo L fz g k).1.take j).any (Cn.hasV ((k : Int) + 1))))) = true → (fz.length ≤ maxLen)), ((!(((Cn.elTo L fz g k).1.take j).any (Cn.hasV ((k : Int) + 1)))) = false → (!(!(((Cn.elTo L fz g k).1.take j).any (Cn.hasV ((k : Int) + 1))))) = true)] [(96, .bool ((!(((Cn.elTo L fz g k).1.take j).any (Cn.hasV ((k : Int) + 1)))) || (fz.contains ((k : Int) + 1))))] [] (by kernel_rfl) ?_ ?_
            ·
             refine (ap ?_ (ap ?_ (ap ?_ (ap (by exact vcNot) az))))
             all_goals
              first | exact True.intro | omega | exact hck | exact hown | exact hm4 | exact (fun _ => hm4) | (have := hj4 (by omega); omega) | exact (fun _ => ⟨hxm _ (Cn.getD_memL (by omega)), by omega, by omega⟩) | exact ⟨by omega, hxs⟩ | (first | omega | exact id | exact vcNot | exact vcG | exact vcH | (intro _; omega) | exact (fun _ h => h) | (intro h; simp at h; omega) | (simp only [List.length_cons, List.length_nil, List.length_append, List.length_map, List.length_set, List.length_replicate]; omega) | (intro h; simp [h]; done)) | (constructor <;> omega)
            refine fin_then ?_
            refine tri_cond (b := ((!(((Cn.elTo L fz g k).1.take j).any (Cn.hasV ((k : Int) + 1)))) || (fz.contains ((k : Int) + 1)))) (by kernel_rfl) (fun hb7 => ?_) (fun hb7 => ?_)
            ·
             skip
             have h7 := hb7
             have hs : Cn.elSkip fz (Cn.elTo L fz g k).1 ((k : Int) + 1) = true := by unfold Cn.elSkip; rw [Bool.or_comm, ← hth]; exact h7
             refine tri_exit ?_
             refine fin_then_exit ?_
             refine fin_block_same ?_
             refine fin_then ?_
             refine tri_regD hcx [] [16] [1, 2, 3, 6, 12, 15] [11, 606, 612] [Fit (((k : Int) + 1) + 1)] [(16, .int (((k : Int) + 1) + 1))] [] (by kernel_rfl) ?_ ?_
             ·
              refine (ap ?_ az)
              first | exact True.intro | omega | exact hck | exact hown | exact hm4 | exact (fun _ => hm4) | (have := hj4 (by omega); omega) | exact (fun _ => ⟨hxm _ (Cn.getD_memL (by omega)), by omega, by omega⟩) | exact ⟨by omega, hxs⟩ | (first | omega | exact id | exact vcNot | exact vcG | exact vcH | (intro _; omega) | exact (fun _ h => h) | (intro h; simp at h; omega) | (simp only [List.length_cons, List.length_nil, List.length_append, List.length_map, List.length_set, List.length_replicate]; omega) | (intro h; simp [h]; done)) | (constructor <;> omega)
             refine fin_round (k + 1) ?_ ?_ ?_ ?_
             ·
              show (k + 1) ≤ N.toNat
              omega
             ·
              show N.toNat - (k + 1) < N.toNat - k
              omega
             ·
              exact subE_mk (l := [.ints fz, .int g, .pto [.int N, .ls (.intss L)], .loc 606 0, .loc 612 0, .row 11, .int (((k : Int) + 1) + 1)]) (m := [.ints fz, .int g, .pto [.int N, .ls (.intss L)], .loc 606 0, .loc 612 0, .row 11, .int (((k + 1) : Int) + 1)]) (by kernel_rfl) (by kernel_rfl) (consE rfl (consE rfl (consE rfl (consE rfl (consE rfl (consE rfl (consE (congrArg AV.int (show (((k : Int) + 1) + 1) = (((k + 1) : Int) + 1) from (by first | rfl | omega | (simp; done)))) rfl)))))))
             ·
              exact Eq.trans (show _ = [(11, .row 28 (.undos ((Cn.elTo L fz g k).2))), (606, .box [.int 0, .im (.val (.slice none 0 0))]), (612, .box [.int N, .intss ((Cn.elTo L fz g k).1)])] from by kernel_rfl) (consH (congrArg (fun x => ((11 : Nat), x)) (congrArg (fun x => AObj.row 28 (.undos x)) (show (Cn.elTo L fz g k).2 = (Cn.elTo L fz g (k + 1)).2 from (by rw [Cn.to_succ]; first | (rw [Cn.step_skip hs]; done) | (rw [Cn.step_ref hs hy1 hy2]; show _ = _ ++ _; rw [hyV, hyU]; done) | (rw [Cn.step_refno hs hy]; done))))) (consH rfl (consH (congrArg (fun x => ((612 : Nat), x)) (congrArg AObj.box (consE rfl (consE (congrArg AV.intss (show (Cn.elTo L fz g k).1 = (Cn.elTo L fz g (k + 1)).1 from (by rw [Cn.to_succ]; first | (rw [Cn.step_skip hs]; done) | (rw [Cn.step_ref hs hy1 hy2]; exact hyX) | (rw [Cn.step_refno hs hy]; done)))) rfl)))) rfl)))
            ·
             skip
             have h7 := hb7
             have hs : Cn.elSkip fz (Cn.elTo L fz g k).1 ((k : Int) + 1) = false := by unfold Cn.elSkip; rw [Bool.or_comm, ← hth]; exact h7
             refine tri_skip ?_
             refine fin_then ?_
             refine tri_seq ?_
             refine tri_regD hcx [(1002, .to 300), (1007, .to 620), (1008, .to 621), (2002, .to 900)] [20, 21, 22] [1, 2, 3, 6, 12, 15, 16] [11, 606, 612] [(((Cn.elTo L fz g k).1).length ≤ 10000 ∧ (∀ l ∈ ((Cn.elTo L fz g k).1), l.length ≤ 1000))] [(20, .loc 620 0), (21, .loc 621 0), (22, .int (Cn.ouE N ((Cn.elTo L fz g k).1) ((k : Int) + 1)))] [(300, .row 43 (.intss (Cn.ouX N ((Cn.elTo L fz g k).1) ((k : Int) + 1)))), (620, .box [.int (Cn.ouN N ((Cn.elTo L fz g k).1) ((k : Int) + 1)), .row 300]), (621, .box [.int (Cn.ouV N ((Cn.elTo L fz g k).1) ((k : Int) + 1)), .row 900]), (900, .row 43 (.intss (Cn.ouU N ((Cn.elTo L fz g k).1) ((k : Int) + 1))))] (by kernel_rfl) ?_ ?_
             ·
              refine (ap ?_ az)
              first | exact True.intro | omega | exact hck | exact hown | exact hm4 | exact (fun _ => hm4) | (have := hj4 (by omega); omega) | exact (fun _ => ⟨hxm _ (Cn.getD_memL (by omega)), by omega, by omega⟩) | exact ⟨by omega, hxs⟩ | (first | omega | exact id | exact vcNot | exact vcG | exact vcH | (intro _; omega) | exact (fun _ h => h) | (intro h; simp at h; omega) | (simp only [List.length_cons, List.length_nil, List.length_append, List.length_map, List.length_set, List.length_replicate]; omega) | (intro h; simp [h]; done)) | (constructor <;> omega)
             refine fin_then ?_
             refine tri_seq ?_
             refine tri_regD hcx [] [116] [20, 21, 1, 2, 3, 6, 12, 15, 16] [300, 620, 621, 900, 11, 606, 612] [(((Cn.ouE N ((Cn.elTo L fz g k).1) ((k : Int) + 1)) == 0) = true → (((Cn.ouE N ((Cn.elTo L fz g k).1) ((k : Int) + 1)) == 0) = true)), (((Cn.ouE N ((Cn.elTo L fz g k).1) ((k : Int) + 1)) == 0) = true → (((Cn.ouE N ((Cn.elTo L fz g k).1) ((k : Int) + 1)) == 0) = true)), (((Cn.ouE N ((Cn.elTo L fz g k).1) ((k : Int) + 1)) == 0) = true → (((Cn.ouE N ((Cn.elTo L fz g k).1) ((k : Int) + 1)) == 0) = true)), (((Cn.ouE N ((Cn.elTo L fz g k).1) ((k : Int) + 1)) == 0) = true → (((Cn.ouE N ((Cn.elTo L fz g k).1) ((k : Int) + 1)) == 0) = true)), (((Cn.ouE N ((Cn.elTo L fz g k).1) ((k : Int) + 1)) == 0) = true → (((Cn.ouE N ((Cn.elTo L fz g k).1) ((k : Int) + 1)) == 0) = true)), (((Cn.ouE N ((Cn.elTo L fz g k).1) ((k : Int) + 1)) == 0) = true → (((Cn.ouE N ((Cn.elTo L fz g k).1) ((k : Int) + 1)) == 0) = true)), (((Cn.ouE N ((Cn.elTo L fz g k).1) ((k : Int) + 1)) == 0) = true → Fit ((((Cn.elTo L fz g k).1).length : Int) + g)), (((Cn.ouE N ((Cn.elTo L fz g k).1) ((k : Int) + 1)) == 0) = true → (((Cn.ouE N ((Cn.elTo L fz g k).1) ((k : Int) + 1)) == 0) = true)), (((Cn.ouE N ((Cn.elTo L fz g k).1) ((k : Int) + 1)) == 0) = true → (((Cn.ouE N ((Cn.elTo L fz g k).1) ((k : Int) + 1)) == 0) = true)), (((Cn.ouE N ((Cn.elTo L fz g k).1) ((k : Int) + 1)) == 0) = true → ((Cn.ouE N ((Cn.elTo L fz g k).1) ((k : Int) + 1)) == 0) = true)] [(116, .bool (((Cn.ouE N ((Cn.elTo L fz g k).1) ((k : Int) + 1)) == 0) && (decide (((Cn.ouX N ((Cn.elTo L fz g k).1) ((k : Int) + 1)).length : Int) ≤ ((((Cn.elTo L fz g k).1).length : Int) + g)))))] [] (by kernel_rfl) ?_ ?_
             ·
              refine (ap ?_ (ap ?_ (ap ?_ (ap ?_ (ap ?_ (ap ?_ (ap ?_ (ap ?_ (ap ?_ (ap (by exact id) az))))))))))
              all_goals
               first | exact True.intro | omega | exact hck | exact hown | exact hm4 | exact (fun _ => hm4) | (have := hj4 (by omega); omega) | exact (fun _ => ⟨hxm _ (Cn.getD_memL (by omega)), by omega, by omega⟩) | exact ⟨by omega, hxs⟩ | (first | omega | exact id | exact vcNot | exact vcG | exact vcH | (intro _; omega) | exact (fun _ h => h) | (intro h; simp at h; omega) | (simp only [List.length_cons, List.length_nil, List.length_append, List.length_map, List.length_set, List.length_replicate]; omega) | (intro h; simp [h]; done)) | (constructor <;> omega)
             refine fin_then ?_
             refine tri_cond (b := (((Cn.ouE N ((Cn.elTo L fz g k).1) ((k : Int) + 1)) == 0) && (decide (((Cn.ouX N ((Cn.elTo L fz g k).1) ((k : Int) + 1)).length : Int) ≤ ((((Cn.elTo L fz g k).1).length : Int) + g))))) (by kernel_rfl) (fun hb8 => ?_) (fun hb8 => ?_)
             ·
              skip
              have h8 := hb8
              obtain ⟨hy1, hy2, hyX, hyV, hyU, hyN⟩ := Cn.ref_yes h8
              refine tri_seq ?_
              refine tri_regD hcx [(612, .to 612)] [] [21, 1, 2, 3, 6, 12, 15, 16] [300, 621, 900, 11, 606] [] [] [(612, .box [.int (Cn.ouN N ((Cn.elTo L fz g k).1) ((k : Int) + 1)), .row 300])] (by kernel_rfl) ?_ ?_
              ·
               exact az
              refine fin_then ?_
              refine tri_regD hcx [(1003, .to 11)] [15] [1, 2, 3, 6, 12, 16] [612, 300, 606] [((((Cn.elTo L fz g k).2).length + [((Cn.ouV N ((Cn.elTo L fz g k).1) ((k : Int) + 1)), (Cn.ouU N ((Cn.elTo L fz g k).1) ((k : Int) + 1)))].length) * 32 ≤ 140737488355328)] [(15, .row 11)] [(11, .row 28 (.undos (((Cn.elTo L fz g k).2) ++ [((Cn.ouV N ((Cn.elTo L fz g k).1) ((k : Int) + 1)), (Cn.ouU N ((Cn.elTo L fz g k).1) ((k : Int) + 1)))])))] (by kernel_rfl) ?_ ?_
              ·
               refine (ap ?_ az)
               first | exact True.intro | omega | exact hck | exact hown | exact hm4 | exact (fun _ => hm4) | (have := hj4 (by omega); omega) | exact (fun _ => ⟨hxm _ (Cn.getD_memL (by omega)), by omega, by omega⟩) | exact ⟨by omega, hxs⟩ | (first | omega | exact id | exact vcNot | exact vcG | exact vcH | (intro _; omega) | exact (fun _ h => h) | (intro h; simp at h; omega) | (simp only [List.length_cons, List.length_nil, List.length_append, List.length_map, List.length_set, List.length_replicate]; omega) | (intro h; simp [h]; done)) | (constructor <;> omega)
              refine fin_block ?_
              refine fin_then ?_
              refine tri_regD hcx [] [16] [15, 1, 2, 3, 6, 12] [11, 612, 300, 606] [Fit (((k : Int) + 1) + 1)] [(16, .int (((k : Int) + 1) + 1))] [] (by kernel_rfl) ?_ ?_
              ·
               refine (ap ?_ az)
               first | exact True.intro | omega | exact hck | exact hown | exact hm4 | exact (fun _ => hm4) | (have := hj4 (by omega); omega) | exact (fun _ => ⟨hxm _ (Cn.getD_memL (by omega)), by omega, by omega⟩) | exact ⟨by omega, hxs⟩ | (first | omega | exact id | exact vcNot | exact vcG | exact vcH | (intro _; omega) | exact (fun _ h => h) | (intro h; simp at h; omega) | (simp only [List.length_cons, List.length_nil, List.length_append, List.length_map, List.length_set, List.length_replicate]; omega) | (intro h; simp [h]; done)) | (constructor <;> omega)
              refine fin_ren (ρ := [(11, .to 11), (606, .to 606), (612, .to 612), (300, .frz)]) (keys := [1, 2, 3, 6, 12, 15, 16]) (E' := [(1, .ints fz), (2, .int g), (3, .pto [.int N, .ls (.intss L)]), (6, .loc 606 0), (12, .loc 612 0), (15, .row 11), (16, .int (((k : Int) + 1) + 1))]) (H' := [(11, .row 28 (.undos (((Cn.elTo L fz g k).2) ++ [((Cn.ouV N ((Cn.elTo L fz g k).1) ((k : Int) + 1)), (Cn.ouU N ((Cn.elTo L fz g k).1) ((k : Int) + 1)))]))), (606, .box [.int 0, .im (.val (.slice none 0 0))]), (612, .box [.int (Cn.ouN N ((Cn.elTo L fz g k).1) ((k : Int) + 1)), .intss (Cn.ouX N ((Cn.elTo L fz g k).1) ((k : Int) + 1))])]) (by kernel_rfl) ?_
              refine fin_round (k + 1) ?_ ?_ ?_ ?_
              ·
               show (k + 1) ≤ N.toNat
               omega
              ·
               show N.toNat - (k + 1) < N.toNat - k
               omega
              ·
               exact subE_mk (l := [.ints fz, .int g, .pto [.int N, .ls (.intss L)], .loc 606 0, .loc 612 0, .row 11, .int (((k : Int) + 1) + 1)]) (m := [.ints fz, .int g, .pto [.int N, .ls (.intss L)], .loc 606 0, .loc 612 0, .row 11, .int (((k + 1) : Int) + 1)]) (by kernel_rfl) (by kernel_rfl) (consE rfl (consE rfl (consE rfl (consE rfl (consE rfl (consE rfl (consE (congrArg AV.int (show (((k : Int) + 1) + 1) = (((k + 1) : Int) + 1) from (by first | rfl | omega | (simp; done)))) rfl)))))))
              ·
               exact Eq.trans (show _ = [(11, .row 28 (.undos (((Cn.elTo L fz g k).2) ++ [((Cn.ouV N ((Cn.elTo L fz g k).1) ((k : Int) + 1)), (Cn.ouU N ((Cn.elTo L fz g k).1) ((k : Int) + 1)))]))), (606, .box [.int 0, .im (.val (.slice none 0 0))]), (612, .box [.int (Cn.ouN N ((Cn.elTo L fz g k).1) ((k : Int) + 1)), .intss (Cn.ouX N ((Cn.elTo L fz g k).1) ((k : Int) + 1))])] from by kernel_rfl) (consH (congrArg (fun x => ((11 : Nat), x)) (congrArg (fun x => AObj.row 28 (.undos x)) (show (((Cn.elTo L fz g k).2) ++ [((Cn.ouV N ((Cn.elTo L fz g k).1) ((k : Int) + 1)), (Cn.ouU N ((Cn.elTo L fz g k).1) ((k : Int) + 1)))]) = (Cn.elTo L fz g (k + 1)).2 from (by rw [Cn.to_succ]; first | (rw [Cn.step_skip hs]; done) | (rw [Cn.step_ref hs hy1 hy2]; show _ = _ ++ _; rw [hyV, hyU]; done) | (rw [Cn.step_refno hs hy]; done))))) (consH rfl (consH (congrArg (fun x => ((612 : Nat), x)) (congrArg AObj.box (consE (congrArg AV.int (show (Cn.ouN N ((Cn.elTo L fz g k).1) ((k : Int) + 1)) = N from (by first | rfl | exact hyN))) (consE (congrArg AV.intss (show (Cn.ouX N ((Cn.elTo L fz g k).1) ((k : Int) + 1)) = (Cn.elTo L fz g (k + 1)).1 from (by rw [Cn.to_succ]; first | (rw [Cn.step_skip hs]; done) | (rw [Cn.step_ref hs hy1 hy2]; exact hyX) | (rw [Cn.step_refno hs hy]; done)))) rfl)))) rfl)))
             ·
              skip
              have h8 := hb8
              have hy := Cn.ref_no (Cn.good_chk (by omega) hm3 hi1 (by omega)) (by omega) (by omega) h8
              refine tri_skip ?_
              refine fin_block ?_
              refine fin_then ?_
              refine tri_regD hcx [] [16] [1, 2, 3, 6, 12, 15] [11, 606, 612] [Fit (((k : Int) + 1) + 1)] [(16, .int (((k : Int) + 1) + 1))] [] (by kernel_rfl) ?_ ?_
              ·
               refine (ap ?_ az)
               first | exact True.intro | omega | exact hck | exact hown | exact hm4 | exact (fun _ => hm4) | (have := hj4 (by omega); omega) | exact (fun _ => ⟨hxm _ (Cn.getD_memL (by omega)), by omega, by omega⟩) | exact ⟨by omega, hxs⟩ | (first | omega | exact id | exact vcNot | exact vcG | exact vcH | (intro _; omega) | exact (fun _ h => h) | (intro h; simp at h; omega) | (simp only [List.length_cons, List.length_nil, List.length_append, List.length_map, List.length_set, List.length_replicate]; omega) | (intro h; simp [h]; done)) | (constructor <;> omega)
              refine fin_round (k + 1) ?_ ?_ ?_ ?_
              ·
               show (k + 1) ≤ N.toNat
               omega
              ·
               show N.toNat - (k + 1) < N.toNat - k
               omega
              ·
               exact subE_mk (l := [.ints fz, .int g, .pto [.int N, .ls (.intss L)], .loc 606 0, .loc 612 0, .row 11, .int (((k : Int) + 1) + 1)]) (m := [.ints fz, .int g, .pto [.int N, .ls (.intss L)], .loc 606 0, .loc 612 0, .row 11, .int (((k + 1) : Int) + 1)]) (by kernel_rfl) (by kernel_rfl) (consE rfl (consE rfl (consE rfl (consE rfl (consE rfl (consE rfl (consE (congrArg AV.int (show (((k : Int) + 1) + 1) = (((k + 1) : Int) + 1) from (by first | rfl | omega | (simp; done)))) rfl)))))))
              ·
               exact Eq.trans (show _ = [(11, .row 28 (.undos ((Cn.elTo L fz g k).2))), (606, .box [.int 0, .im (.val (.slice none 0 0))]), (612, .box [.int N, .intss ((Cn.elTo L fz g k).1)])] from by kernel_rfl) (consH (congrArg (fun x => ((11 : Nat), x)) (congrArg (fun x => AObj.row 28 (.undos x)) (show (Cn.elTo L fz g k).2 = (Cn.elTo L fz g (k + 1)).2 from (by rw [Cn.to_succ]; first | (rw [Cn.step_skip hs]; done) | (rw [Cn.step_ref hs hy1 hy2]; show _ = _ ++ _; rw [hyV, hyU]; done) | (rw [Cn.step_refno hs hy]; done))))) (consH rfl (consH (congrArg (fun x => ((612 : Nat), x)) (congrArg AObj.box (consE rfl (consE (congrArg AV.intss (show (Cn.elTo L fz g k).1 = (Cn.elTo L fz g (k + 1)).1 from (by rw [Cn.to_succ]; first | (rw [Cn.step_skip hs]; done) | (rw [Cn.step_ref hs hy1 hy2]; exact hyX) | (rw [Cn.step_refno hs hy]; done)))) rfl)))) rfl)))
         ·
          skip
          have h5 := of_decide_eq_false hb5
          refine tri_exit ?_
          refine fin_then_exit ?_
          refine fin_then_exit ?_
          refine fin_block_same ?_
          refine fin_then ?_
          refine tri_seq ?_
          refine tri_regD hcx [(606, .to 606)] [7, 8] [6] [11] [] [(7, .row 11), (8, .int 0)] [(606, .box [.int N, .intss ((Cn.elTo L fz g k).1)])] (by kernel_rfl) ?_ ?_
          ·
           exact az
          refine fin_then ?_
          refine tri_ret ?_
          refine fin_ren (ρ := [(606, .to 990), (11, .frz)]) (keys := [6, 7, 8]) (E' := [(6, .loc 990 0), (7, .undos ((Cn.elTo L fz g k).2)), (8, .int 0)]) (H' := [(990, .box [.int N, .intss ((Cn.elTo L fz g k).1)])]) (by kernel_rfl) ?_
          exact fin_ret [] rfl rfl trivial hcx (avs := [.agg [.int N, .intss ((Cn.elTo L fz g k).1)], .undos ((Cn.elTo L fz g k).2), .int 0]) (by kernel_rfl) (congrArg AV.tup (consE (congrArg AV.agg (consE (congrArg AV.int (show N = (Cn.elN N L fz g) from (by first | exact hA.symm | exact hB.symm | exact hC.symm | exact hE.symm | (rw [show k = N.toNat from (by omega)]; first | exact hB.symm | exact hC.symm)))) (consE (congrArg AV.intss (show (Cn.elTo L fz g k).1 = (Cn.elX N L fz g) from (by first | exact hA.symm | exact hB.symm | exact hC.symm | exact hE.symm | (rw [show k = N.toNat from (by omega)]; first | exact hB.symm | exact hC.symm)))) rfl))) (consE (congrArg AV.undos (show (Cn.elTo L fz g k).2 = (Cn.elU N L fz g) from (by first | exact hA.symm | exact hB.symm | exact hC.symm | exact hE.symm | (rw [show k = N.toNat from (by omega)]; first | exact hB.symm | exact hC.symm)))) (consE (congrArg AV.int (show 0 = (Cn.elE N L fz g) from (by first | exact hA.symm | exact hB.symm | exact hC.symm | exact hE.symm | (rw [show k = N.toNat from (by omega)]; first | exact hB.symm | exact hC.symm)))) rfl)))) [] rfl
 ·
  cases hσ
end Go.Proofs.Ythhfdjcaafckbaa.En
