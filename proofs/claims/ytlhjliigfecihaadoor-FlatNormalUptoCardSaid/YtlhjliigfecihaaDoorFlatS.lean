/- Package flat, in the reader's words. -/
import Derived.Test.YtlhjliigfecihaaDoorProg
import Derived.Test.YtlhjliigfecihaaDoorEngLeaf
import Derived.Test.YtlhjliigfecihaaDoorEngCallG
import Derived.Test.YtlhjliigfecihaaDoorEngRec
import Derived.Test.YtlhjliigfecihaaDoorTreeH
import Derived.Test.YtlhjliigfecihaaDoorCnfP
namespace Go.Proofs.YtlhjliigfecihaaDoor.En
open Go Go.RowKit
set_option linter.unusedVariables false
set_option linter.unusedSimpArgs false
set_option linter.unnecessarySimpa false
def tyFlat : List (Nat × TD) := [(3, ⟨1, false, [.int .i64 0], [], none, 8, false, 1, 1⟩),
  (4, ⟨1, false, [.bool false], [], none, 1, true, 0, 2⟩),
  (22, ⟨1, false, [.slice none 0 0], [], some 24, 24, false, 0, 0⟩),
  (24, ⟨4, true, [.int .i64 0, .int .i64 0, .int .i64 0, .slice none 0 0], [(0, 3), (1, 3), (2, 3), (3, 22)], none, 48, false, 0, 4⟩),
  (25, ⟨1, false, [.slice none 0 0], [], some 4, 24, false, 0, 0⟩),
  (28, ⟨1, false, [.nilFunc], [], none, 8, false, 0, 0⟩),
  (30, ⟨1, false, [.nilFunc], [], none, 8, false, 0, 0⟩)]
theorem tyFlat_ok : AllTy Tryd.prog tyFlat := ⟨⟨by kernel_rfl, by kernel_rfl⟩, ⟨by kernel_rfl, by kernel_rfl⟩, ⟨by kernel_rfl, by kernel_rfl⟩, ⟨by kernel_rfl, by kernel_rfl⟩, ⟨by kernel_rfl, by kernel_rfl⟩, ⟨by kernel_rfl, by kernel_rfl⟩, ⟨by kernel_rfl, by kernel_rfl⟩, trivial⟩
def fVal_σ (nn : Nat) : CtF
  | [.agg [.im (.val (.int .i64 q)), .im (.val (.int .i64 v)), .im (.val (.int .i64 k)), .im (.ls (.trees l))], .im (.ls (.bools a))], [] => some (l.length ≤ 2932031007317 ∧ Fl.lensL l ∧ a.length ≤ maxLen ∧ Fl.sizeL l < nn, .bool (Fl.valN a q v k l), [])
  | _, _ => none
def cx_fVal1 (nn : Nat) : Cx := ⟨tyFlat, [(12, (coeF [.agg [.id, .id, .id, .ld (.trees [])], .ld (.bools [])] (fVal_σ nn)))]⟩
theorem cx_fVal1_ok (nn : Nat) (hR : Sound Tryd.prog 12 (fVal_σ nn)) : CxOk Tryd.prog (cx_fVal1 nn) := cx_ok tyFlat_ok ⟨(hR.coe [.agg [.id, .id, .id, .ld (.trees [])], .ld (.bools [])] rfl), trivial⟩
def fVal1_σ (nn : Nat) : CtF
  | [.agg [.im (.val (.int .i64 q)), .im (.val (.int .i64 v)), .im (.val (.int .i64 k)), .im (.ls (.trees l))], .pto [.ls (.bools a)]], [] => some (l.length ≤ 2932031007317 ∧ Fl.lensL l ∧ a.length ≤ maxLen ∧ Fl.sizeL l < nn, .bool (Fl.valN a q v k l), [])
  | _, _ => none
theorem fVal1_sound (nn : Nat) (hR : Sound Tryd.prog 12 (fVal_σ nn)) : Sound Tryd.prog 28 (fVal1_σ nn) := by
 refine sound_mk (cx := (cx_fVal1 nn)) (fn := Tryd.f28) Tryd.func28 (by kernel_rfl) rfl ?_
 intro w0 G0 args os p r outs hσ hp hm0 hd0
 have hcx : CxOk Tryd.prog (cx_fVal1 nn) := cx_fVal1_ok nn hR
 unfold fVal1_σ at hσ
 split at hσ
 ·
  rename_i q v k l a
  simp only [Option.some.injEq, Prod.mk.injEq] at hσ
  obtain ⟨rfl, rfl, rfl⟩ := hσ
  obtain ⟨wW, wO, wm, wβ, wd⟩ := w0
  replace hm0 : wm = 0 := hm0
  subst hm0
  replace hd0 : wd = [] := hd0
  subst hd0
  refine ⟨by kernel_rfl, ?_⟩
  change Tri ⟨_, _, _, _, _, _⟩ [(0, .agg [.int q, .int v, .int k, .trees l]), (1, .pto [.ls (.bools a)])] [] _ _
  refine tri_seq ?_
  refine tri_regD hcx [(1000, .frz)] [2] [1] [] [] [(2, .pto [.int q, .int v, .int k, .ls (.trees l)])] [] (by kernel_rfl) ?_ ?_
  ·
   exact az
  refine fin_then ?_
  refine tri_seq ?_
  refine tri_regD hcx [] [3] [] [] [(l.length ≤ 2932031007317 ∧ Fl.lensL l ∧ a.length ≤ maxLen ∧ Fl.sizeL l < nn)] [(3, .bool (Fl.valN a q v k l))] [] (by kernel_rfl) ?_ ?_
  ·
   refine (ap ?_ az)
   exact hp
  refine fin_then ?_
  refine tri_ret ?_
  exact fin_ret [] rfl rfl trivial hcx (avs := [.bool (Fl.valN a q v k l)]) (by kernel_rfl) rfl [] rfl
 ·
  cases hσ
def cx_fIx (nn : Nat) : Cx := ⟨tyFlat, [(12, (coeF [.agg [.id, .id, .id, .ld (.trees [])], .ld (.bools [])] (fVal_σ nn))), (28, (coeF [.agg [.id, .id, .id, .ld (.trees [])], .id] (fVal1_σ nn)))]⟩
theorem cx_fIx_ok (nn : Nat) (hR : Sound Tryd.prog 12 (fVal_σ nn)) : CxOk Tryd.prog (cx_fIx nn) := cx_ok tyFlat_ok ⟨(hR.coe [.agg [.id, .id, .id, .ld (.trees [])], .ld (.bools [])] rfl), ((fVal1_sound nn hR).coe [.agg [.id, .id, .id, .ld (.trees [])], .id] rfl), trivial⟩
def fIx_σ (nn : Nat) : CtF
  | [.im (.ls (.trees s)), .clo 28 [.pto [.ls (.bools a)]]], [] => some (s.length ≤ 2932031007317 ∧ Fl.lensL s ∧ a.length ≤ maxLen ∧ Fl.sizeL s ≤ nn, .int (Cn.idxF (Fl.valT a) s), [])
  | _, _ => none
theorem fIx_sound (nn : Nat) (hR : Sound Tryd.prog 12 (fVal_σ nn)) : Sound Tryd.prog 40 (fIx_σ nn) := by
 refine sound_mk (cx := (cx_fIx nn)) (fn := Tryd.f40) Tryd.func40 (by kernel_rfl) rfl ?_
 intro w0 G0 args os p r outs hσ hp hm0 hd0
 have hcx : CxOk Tryd.prog (cx_fIx nn) := cx_fIx_ok nn hR
 unfold fIx_σ at hσ
 split at hσ
 ·
  rename_i s a
  simp only [Option.some.injEq, Prod.mk.injEq] at hσ
  obtain ⟨rfl, rfl, rfl⟩ := hσ
  obtain ⟨wW, wO, wm, wβ, wd⟩ := w0
  replace hm0 : wm = 0 := hm0
  subst hm0
  replace hd0 : wd = [] := hd0
  subst hd0
  refine ⟨by kernel_rfl, ?_⟩
  change Tri ⟨_, _, _, _, _, _⟩ [(0, .trees s), (1, .clo 28 [.pto [.ls (.bools a)]])] [] _ _
  obtain ⟨hm1, hm2, hm3, hsz⟩ := hp
  have hm9 := hm1
  refine tri_seq ?_
  refine tri_regD hcx [] [] [0, 1] [] [] [] [] (by kernel_rfl) ?_ ?_
  ·
   exact az
  refine fin_then ?_
  refine tri_seq ?_
  refine tri_seq ?_
  refine tri_regD hcx [] [7, 8] [0, 1] [] [] [(7, .int (s.length : Int)), (8, .int 0)] [] (by kernel_rfl) ?_ ?_
  ·
   exact az
  refine fin_then ?_
  refine tri_block ?_
  refine tri_loop (X := Nat) (fun x0 => x0 ≤ s.length ∧ ∀ j, j < x0 → Fl.valT a (s.getD j tree0) = false) (fun x0 => [(0, .trees s), (1, .clo 28 [.pto [.ls (.bools a)]]), (7, .int (s.length : Int)), (8, .int (x0 : Int))]) (fun x0 => []) (fun x0 => s.length - x0) (0) ?_ ?_ ?_ ?_
  ·
   show 0 ≤ s.length ∧ ∀ j, j < 0 → Fl.valT a (s.getD j tree0) = false
   exact ⟨Nat.zero_le _, fun j hj => by omega⟩
  ·
   exact subE_mk (l := [.trees s, .clo 28 [.pto [.ls (.bools a)]], .int (s.length : Int), .int 0]) (m := [.trees s, .clo 28 [.pto [.ls (.bools a)]], .int (s.length : Int), .int (0 : Int)]) (by kernel_rfl) (by kernel_rfl) (consE rfl (consE rfl (consE rfl (consE (congrArg AV.int (show 0 = (0 : Int) from (by first | rfl | omega | (simp; done)))) rfl))))
  ·
   kernel_rfl
  ·
   intro i hI
   replace hI : i ≤ s.length ∧ ∀ j, j < i → Fl.valT a (s.getD j tree0) = false := hI
   change Tri _ [(0, .trees s), (1, .clo 28 [.pto [.ls (.bools a)]]), (7, .int (s.length : Int)), (8, .int (i : Int))] [] _ _
   obtain ⟨hk, hok⟩ := hI
   have hsub : i < s.length → Fl.sizeL (s.getD i tree0).l < Fl.sizeL s := fun h => Fl.size_sub h
   have hlen : i < s.length → _ := fun h => Fl.lens_at hm2 h
   refine tri_seq ?_
   refine tri_regD hcx [] [9] [0, 1, 7, 8] [] [] [(9, .bool (decide ((i : Int) < (s.length : Int))))] [] (by kernel_rfl) ?_ ?_
   ·
    exact az
   refine fin_then ?_
   refine tri_seq ?_
   refine tri_cond (b := (decide ((i : Int) < (s.length : Int)))) (by kernel_rfl) (fun hb0 => ?_) (fun hb0 => ?_)
   ·
    skip
    have h0 := of_decide_eq_true hb0
    refine tri_skip ?_
    refine fin_then ?_
    refine tri_seq ?_
    refine tri_block ?_
    refine tri_seq ?_
    refine tri_regD hcx [] [5] [0, 1, 7, 8] [] [] [(5, .int (i : Int))] [] (by kernel_rfl) ?_ ?_
    ·
     exact az
    refine fin_then ?_
    refine tri_seq ?_
    refine tri_regD hcx [] [16] [5, 0, 1, 7, 8] [] [((0 : Int) ≤ (i : Int) ∧ (i : Int) < (s.length : Int)), (((s.getD i tree0).l).length ≤ 2932031007317 ∧ Fl.lensL ((s.getD i tree0).l) ∧ a.length ≤ maxLen ∧ Fl.sizeL ((s.getD i tree0).l) < nn)] [(16, .bool (Fl.valN a ((s.getD i tree0).kind) ((s.getD i tree0).v) ((s.getD i tree0).k) ((s.getD i tree0).l)))] [] (by kernel_rfl) ?_ ?_
    ·
     refine (ap ?_ (ap ?_ az))
     all_goals
      first | omega | exact id | exact vcNot | exact vcG | exact vcH | (intro _; omega) | exact (fun _ h => h) | (intro h; simp at h; omega) | (simp only [List.length_cons, List.length_nil, List.length_append, List.length_map, List.length_set, List.length_replicate]; omega) | (intro h; simp [h]; done) | (have h8 := hsub (by omega); have h7 := hlen (by omega); exact ⟨h7.1, h7.2, hm3, by omega⟩) | (constructor <;> omega) | (simp only [List.length_cons, List.length_nil]; omega) | done
    refine fin_then ?_
    refine tri_cond (b := (Fl.valN a ((s.getD i tree0).kind) ((s.getD i tree0).v) ((s.getD i tree0).k) ((s.getD i tree0).l))) (by kernel_rfl) (fun hb1 => ?_) (fun hb1 => ?_)
    ·
     skip
     have h1 := hb1
     have hq : Fl.valT a (s.getD i tree0) = true := (Fl.val_at a _).symm.trans h1
     refine tri_seq ?_
     refine tri_regD hcx [] [4] [] [] [] [(4, .int (i : Int))] [] (by kernel_rfl) ?_ ?_
     ·
      exact az
     refine fin_then ?_
     refine tri_ret ?_
     refine fin_block_ret ?_
     refine fin_then_ret ?_
     refine fin_then_ret ?_
     refine fin_block_ret ?_
     refine fin_then_ret ?_
     exact fin_ret [] rfl rfl trivial hcx (avs := [.int (i : Int)]) (by kernel_rfl) (congrArg AV.int (show (i : Int) = (Cn.idxF (Fl.valT a) s) from (by exact (Cn.idxF_yes (p := Fl.valT a) (by omega) hok hq).symm))) [] rfl
    ·
     skip
     have h1 := hb1
     have hq : Fl.valT a (s.getD i tree0) = false := (Fl.val_at a _).symm.trans h1
     refine tri_skip ?_
     refine fin_block ?_
     refine fin_then ?_
     refine tri_regD hcx [] [8] [0, 1, 7] [] [Fit ((i : Int) + 1)] [(8, .int ((i : Int) + 1))] [] (by kernel_rfl) ?_ ?_
     ·
      refine (ap ?_ az)
      first | omega | exact id | exact vcNot | exact vcG | exact vcH | (intro _; omega) | exact (fun _ h => h) | (intro h; simp at h; omega) | (simp only [List.length_cons, List.length_nil, List.length_append, List.length_map, List.length_set, List.length_replicate]; omega) | (intro h; simp [h]; done) | (have h8 := hsub (by omega); have h7 := hlen (by omega); exact ⟨h7.1, h7.2, hm3, by omega⟩) | (constructor <;> omega) | (simp only [List.length_cons, List.length_nil]; omega) | done
     refine fin_round (i + 1) ?_ ?_ ?_ ?_
     ·
      show (i + 1) ≤ s.length ∧ ∀ j, j < (i + 1) → Fl.valT a (s.getD j tree0) = false
      exact ⟨by omega, fun j hj => by rcases (by omega : j < i ∨ j = i) with h | rfl; exact hok j h; exact hq⟩
     ·
      show s.length - (i + 1) < s.length - i
      omega
     ·
      exact subE_mk (l := [.trees s, .clo 28 [.pto [.ls (.bools a)]], .int (s.length : Int), .int ((i : Int) + 1)]) (m := [.trees s, .clo 28 [.pto [.ls (.bools a)]], .int (s.length : Int), .int ((i + 1) : Int)]) (by kernel_rfl) (by kernel_rfl) (consE rfl (consE rfl (consE rfl (consE (congrArg AV.int (show ((i : Int) + 1) = ((i + 1) : Int) from (by first | rfl | omega | (simp; done)))) rfl))))
     ·
      kernel_rfl
   ·
    skip
    have h0 := of_decide_eq_false hb0
    refine tri_exit ?_
    refine fin_then_exit ?_
    refine fin_then_exit ?_
    refine fin_block_same ?_
    refine fin_then ?_
    refine tri_seq ?_
    refine tri_regD hcx [] [4] [] [] [] [(4, .int (-1))] [] (by kernel_rfl) ?_ ?_
    ·
     exact az
    refine fin_then ?_
    refine tri_ret ?_
    exact fin_ret [] rfl rfl trivial hcx (avs := [.int (-1)]) (by kernel_rfl) (congrArg AV.int (show (-1) = (Cn.idxF (Fl.valT a) s) from (by exact (Cn.idxF_no (p := Fl.valT a) (Cn.all_mem (d := tree0) (fun j hj => hok j (by omega)))).symm))) [] rfl
 ·
  cases hσ
def cx_fCt (nn : Nat) : Cx := ⟨tyFlat, [(12, (coeF [.agg [.id, .id, .id, .ld (.trees [])], .ld (.bools [])] (fVal_σ nn))), (28, (coeF [.agg [.id, .id, .id, .ld (.trees [])], .id] (fVal1_σ nn))), (40, (coeF [.ld (.trees []), .id] (fIx_σ nn)))]⟩
theorem cx_fCt_ok (nn : Nat) (hR : Sound Tryd.prog 12 (fVal_σ nn)) : CxOk Tryd.prog (cx_fCt nn) := cx_ok tyFlat_ok ⟨(hR.coe [.agg [.id, .id, .id, .ld (.trees [])], .ld (.bools [])] rfl), ((fVal1_sound nn hR).coe [.agg [.id, .id, .id, .ld (.trees [])], .id] rfl), ((fIx_sound nn hR).coe [.ld (.trees []), .id] rfl), trivial⟩
def fCt_σ (nn : Nat) : CtF
  | [.im (.ls (.trees s)), .clo 28 [.pto [.ls (.bools a)]]], [] => some (s.length ≤ 2932031007317 ∧ Fl.lensL s ∧ a.length ≤ maxLen ∧ Fl.sizeL s ≤ nn, .bool (s.any (Fl.valT a)), [])
  | _, _ => none
theorem fCt_sound (nn : Nat) (hR : Sound Tryd.prog 12 (fVal_σ nn)) : Sound Tryd.prog 29 (fCt_σ nn) := by
 refine sound_mk (cx := (cx_fCt nn)) (fn := Tryd.f29) Tryd.func29 (by kernel_rfl) rfl ?_
 intro w0 G0 args os p r outs hσ hp hm0 hd0
 have hcx : CxOk Tryd.prog (cx_fCt nn) := cx_fCt_ok nn hR
 unfold fCt_σ at hσ
 split at hσ
 ·
  rename_i s a
  simp only [Option.some.injEq, Prod.mk.injEq] at hσ
  obtain ⟨rfl, rfl, rfl⟩ := hσ
  obtain ⟨wW, wO, wm, wβ, wd⟩ := w0
  replace hm0 : wm = 0 := hm0
  subst hm0
  replace hd0 : wd = [] := hd0
  subst hd0
  refine ⟨by kernel_rfl, ?_⟩
  change Tri ⟨_, _, _, _, _, _⟩ [(0, .trees s), (1, .clo 28 [.pto [.ls (.bools a)]])] [] _ _
  refine tri_seq ?_
  refine tri_regD hcx [] [] [0, 1] [] [] [] [] (by kernel_rfl) ?_ ?_
  ·
   exact az
  refine fin_then ?_
  refine tri_seq ?_
  refine tri_regD hcx [] [4] [] [] [(s.length ≤ 2932031007317 ∧ Fl.lensL s ∧ a.length ≤ maxLen ∧ Fl.sizeL s ≤ nn)] [(4, .bool (decide ((Cn.idxF (Fl.valT a) s) ≥ 0)))] [] (by kernel_rfl) ?_ ?_
  ·
   refine (ap ?_ az)
   first | exact hp | (intro h; exact h) | omega
  refine fin_then ?_
  refine tri_ret ?_
  exact fin_ret [] rfl rfl trivial hcx (avs := [.bool (decide ((Cn.idxF (Fl.valT a) s) ≥ 0))]) (by kernel_rfl) (congrArg AV.bool (show (decide ((Cn.idxF (Fl.valT a) s) ≥ 0)) = (s.any (Fl.valT a)) from (by exact Cn.idxF_any (p := Fl.valT a) s))) [] rfl
 ·
  cases hσ
def cx_fKp (nn : Nat) : Cx := ⟨tyFlat, [(12, (coeF [.agg [.id, .id, .id, .ld (.trees [])], .ld (.bools [])] (fVal_σ nn))), (28, (coeF [.agg [.id, .id, .id, .ld (.trees [])], .id] (fVal1_σ nn))), (40, (coeF [.ld (.trees []), .id] (fIx_σ nn))), (29, (coeF [.ld (.trees []), .id] (fCt_σ nn)))]⟩
theorem cx_fKp_ok (nn : Nat) (hR : Sound Tryd.prog 12 (fVal_σ nn)) : CxOk Tryd.prog (cx_fKp nn) := cx_ok tyFlat_ok ⟨(hR.coe [.agg [.id, .id, .id, .ld (.trees [])], .ld (.bools [])] rfl), ((fVal1_sound nn hR).coe [.agg [.id, .id, .id, .ld (.trees [])], .id] rfl), ((fIx_sound nn hR).coe [.ld (.trees []), .id] rfl), ((fCt_sound nn hR).coe [.ld (.trees []), .id] rfl), trivial⟩
def fKp_σ (nn : Nat) : CtF
  | [.im (.ls (.trees s)), .clo 28 [.pto [.ls (.bools a)]]], [] => some (s.length ≤ 2932031007317 ∧ Fl.lensL s ∧ a.length ≤ maxLen ∧ Fl.sizeL s ≤ nn, .row 0, [some (.row 24 (.trees (s.filter (Fl.valT a))))])
  | _, _ => none
theorem fKp_sound (nn : Nat) (hR : Sound Tryd.prog 12 (fVal_σ nn)) : Sound Tryd.prog 30 (fKp_σ nn) := by
 refine sound_mk (cx := (cx_fKp nn)) (fn := Tryd.f30) Tryd.func30 (by kernel_rfl) rfl ?_
 intro w0 G0 args os p r outs hσ hp hm0 hd0
 have hcx : CxOk Tryd.prog (cx_fKp nn) := cx_fKp_ok nn hR
 unfold fKp_σ at hσ
 split at hσ
 ·
  rename_i s a
  simp only [Option.some.injEq, Prod.mk.injEq] at hσ
  obtain ⟨rfl, rfl, rfl⟩ := hσ
  obtain ⟨wW, wO, wm, wβ, wd⟩ := w0
  replace hm0 : wm = 0 := hm0
  subst hm0
  replace hd0 : wd = [] := hd0
  subst hd0
  refine ⟨by kernel_rfl, ?_⟩
  change Tri ⟨_, _, _, _, _, _⟩ [(0, .trees s), (1, .clo 28 [.pto [.ls (.bools a)]])] [] _ _
  obtain ⟨hm1, hm2, hm3, hsz⟩ := hp
  have hm9 := hm1
  refine tri_seq ?_
  refine tri_regD hcx [] [4] [0, 1] [] [] [(4, .im (.val (.slice none 0 0)))] [] (by kernel_rfl) ?_ ?_
  ·
   exact az
  refine fin_then ?_
  refine tri_seq ?_
  refine tri_seq ?_
  refine tri_regD hcx [] [7, 8, 9] [4, 1] [] [] [(7, .trees s), (8, .int (s.length : Int)), (9, .int 0)] [] (by kernel_rfl) ?_ ?_
  ·
   exact az
  refine fin_then ?_
  refine tri_block ?_
  refine tri_row 4 4 24 (.trees []) (by kernel_rfl) (by kernel_rfl) (by kernel_rfl) (by kernel_rfl) (E' := [(7, .trees s), (8, .int (s.length : Int)), (9, .int 0), (4, .row 4), (1, .clo 28 [.pto [.ls (.bools a)]])]) (by kernel_rfl) ?_
  refine tri_loop (X := Nat) (fun x0 => x0 ≤ s.length) (fun x0 => [(1, .clo 28 [.pto [.ls (.bools a)]]), (4, .row 4), (7, .trees s), (8, .int (s.length : Int)), (9, .int (x0 : Int))]) (fun x0 => [(4, .row 24 (.trees ((s.take x0).filter (Fl.valT a))))]) (fun x0 => s.length - x0) (0) ?_ ?_ ?_ ?_
  ·
   show 0 ≤ s.length
   omega
  ·
   exact subE_mk (l := [.clo 28 [.pto [.ls (.bools a)]], .row 4, .trees s, .int (s.length : Int), .int 0]) (m := [.clo 28 [.pto [.ls (.bools a)]], .row 4, .trees s, .int (s.length : Int), .int (0 : Int)]) (by kernel_rfl) (by kernel_rfl) (consE rfl (consE rfl (consE rfl (consE rfl (consE (congrArg AV.int (show 0 = (0 : Int) from (by first | rfl | omega | (simp; done)))) rfl)))))
  ·
   exact Eq.trans (show _ = [(4, .row 24 (.trees []))] from by kernel_rfl) (consH (congrArg (fun x => ((4 : Nat), x)) (congrArg (fun x => AObj.row 24 (.trees x)) (show [] = ((s.take 0).filter (Fl.valT a)) from (by rfl)))) rfl)
  ·
   intro i hI
   replace hI : i ≤ s.length := hI
   change Tri _ [(1, .clo 28 [.pto [.ls (.bools a)]]), (4, .row 4), (7, .trees s), (8, .int (s.length : Int)), (9, .int (i : Int))] [(4, .row 24 (.trees ((s.take i).filter (Fl.valT a))))] _ _
   have hsub : i < s.length → Fl.sizeL (s.getD i tree0).l < Fl.sizeL s := fun h => Fl.size_sub h
   have hlen : i < s.length → _ := fun h => Fl.lens_at hm2 h
   have hfl : ((s.take i).filter (Fl.valT a)).length ≤ i := Nat.le_trans (List.length_filter_le _ _) (by rw [List.length_take]; omega)
   refine tri_seq ?_
   refine tri_regD hcx [] [10] [1, 4, 7, 8, 9] [4] [] [(10, .bool (decide ((i : Int) < (s.length : Int))))] [] (by kernel_rfl) ?_ ?_
   ·
    exact az
   refine fin_then ?_
   refine tri_seq ?_
   refine tri_cond (b := (decide ((i : Int) < (s.length : Int)))) (by kernel_rfl) (fun hb0 => ?_) (fun hb0 => ?_)
   ·
    skip
    have h0 := of_decide_eq_true hb0
    refine tri_skip ?_
    refine fin_then ?_
    refine tri_seq ?_
    refine tri_block ?_
    refine tri_seq ?_
    refine tri_regD hcx [(1002, .to 606)] [6] [1, 4, 7, 8, 9] [4] [((0 : Int) ≤ (i : Int) ∧ (i : Int) < (s.length : Int))] [(6, .loc 606 0)] [(606, .box [.int ((s.getD i tree0).kind), .int ((s.getD i tree0).v), .int ((s.getD i tree0).k), .trees ((s.getD i tree0).l)])] (by kernel_rfl) ?_ ?_
    ·
     refine (ap ?_ az)
     first | omega | exact id | exact vcNot | exact vcG | exact vcH | (intro _; omega) | exact (fun _ h => h) | (intro h; simp at h; omega) | (simp only [List.length_cons, List.length_nil, List.length_append, List.length_map, List.length_set, List.length_replicate]; omega) | (intro h; simp [h]; done) | (have h8 := hsub (by omega); have h7 := hlen (by omega); exact ⟨h7.1, h7.2, hm3, by omega⟩) | (constructor <;> omega) | (simp only [List.length_cons, List.length_nil]; omega) | done
    refine fin_then ?_
    refine tri_seq ?_
    refine tri_regD hcx [] [15] [6, 1, 4, 7, 8, 9] [606, 4] [(((s.getD i tree0).l).length ≤ 2932031007317 ∧ Fl.lensL ((s.getD i tree0).l) ∧ a.length ≤ maxLen ∧ Fl.sizeL ((s.getD i tree0).l) < nn)] [(15, .bool (Fl.valN a ((s.getD i tree0).kind) ((s.getD i tree0).v) ((s.getD i tree0).k) ((s.getD i tree0).l)))] [] (by kernel_rfl) ?_ ?_
    ·
     refine (ap ?_ az)
     first | omega | exact id | exact vcNot | exact vcG | exact vcH | (intro _; omega) | exact (fun _ h => h) | (intro h; simp at h; omega) | (simp only [List.length_cons, List.length_nil, List.length_append, List.length_map, List.length_set, List.length_replicate]; omega) | (intro h; simp [h]; done) | (have h8 := hsub (by omega); have h7 := hlen (by omega); exact ⟨h7.1, h7.2, hm3, by omega⟩) | (constructor <;> omega) | (simp only [List.length_cons, List.length_nil]; omega) | done
    refine fin_then ?_
    refine tri_cond (b := (Fl.valN a ((s.getD i tree0).kind) ((s.getD i tree0).v) ((s.getD i tree0).k) ((s.getD i tree0).l))) (by kernel_rfl) (fun hb1 => ?_) (fun hb1 => ?_)
    ·
     skip
     have h1 := hb1
     have hq : Fl.valT a (s.getD i tree0) = true := (Fl.val_at a _).symm.trans h1
     refine tri_regD hcx [(1003, .to 4)] [4] [1, 7, 8, 9] [] [((((s.take i).filter (Fl.valT a)).length + [(Tree.node ((s.getD i tree0).kind) ((s.getD i tree0).v) ((s.getD i tree0).k) ((s.getD i tree0).l))].length) * 48 ≤ 140737488355328)] [(4, .row 4)] [(4, .row 24 (.trees (((s.take i).filter (Fl.valT a)) ++ [(Tree.node ((s.getD i tree0).kind) ((s.getD i tree0).v) ((s.getD i tree0).k) ((s.getD i tree0).l))])))] (by kernel_rfl) ?_ ?_
     ·
      refine (ap ?_ az)
      first | omega | exact id | exact vcNot | exact vcG | exact vcH | (intro _; omega) | exact (fun _ h => h) | (intro h; simp at h; omega) | (simp only [List.length_cons, List.length_nil, List.length_append, List.length_map, List.length_set, List.length_replicate]; omega) | (intro h; simp [h]; done) | (have h8 := hsub (by omega); have h7 := hlen (by omega); exact ⟨h7.1, h7.2, hm3, by omega⟩) | (constructor <;> omega) | (simp only [List.length_cons, List.length_nil]; omega) | done
     refine fin_block ?_
     refine fin_then ?_
     refine tri_regD hcx [] [9] [4, 1, 7, 8] [4] [Fit ((i : Int) + 1)] [(9, .int ((i : Int) + 1))] [] (by kernel_rfl) ?_ ?_
     ·
      refine (ap ?_ az)
      first | omega | exact id | exact vcNot | exact vcG | exact vcH | (intro _; omega) | exact (fun _ h => h) | (intro h; simp at h; omega) | (simp only [List.length_cons, List.length_nil, List.length_append, List.length_map, List.length_set, List.length_replicate]; omega) | (intro h; simp [h]; done) | (have h8 := hsub (by omega); have h7 := hlen (by omega); exact ⟨h7.1, h7.2, hm3, by omega⟩) | (constructor <;> omega) | (simp only [List.length_cons, List.length_nil]; omega) | done
     refine fin_round (i + 1) ?_ ?_ ?_ ?_
     ·
      show (i + 1) ≤ s.length
      omega
     ·
      show s.length - (i + 1) < s.length - i
      omega
     ·
      exact subE_mk (l := [.clo 28 [.pto [.ls (.bools a)]], .row 4, .trees s, .int (s.length : Int), .int ((i : Int) + 1)]) (m := [.clo 28 [.pto [.ls (.bools a)]], .row 4, .trees s, .int (s.length : Int), .int ((i + 1) : Int)]) (by kernel_rfl) (by kernel_rfl) (consE rfl (consE rfl (consE rfl (consE rfl (consE (congrArg AV.int (show ((i : Int) + 1) = ((i + 1) : Int) from (by first | rfl | omega | (simp; done)))) rfl)))))
     ·
      exact Eq.trans (show _ = [(4, .row 24 (.trees (((s.take i).filter (Fl.valT a)) ++ [(Tree.node ((s.getD i tree0).kind) ((s.getD i tree0).v) ((s.getD i tree0).k) ((s.getD i tree0).l))])))] from by kernel_rfl) (consH (congrArg (fun x => ((4 : Nat), x)) (congrArg (fun x => AObj.row 24 (.trees x)) (show (((s.take i).filter (Fl.valT a)) ++ [(Tree.node ((s.getD i tree0).kind) ((s.getD i tree0).v) ((s.getD i tree0).k) ((s.getD i tree0).l))]) = ((s.take (i + 1)).filter (Fl.valT a)) from (by first | (rw [Fl.node_eta]; exact Fl.filt_yes (by omega) hq) | exact Fl.filt_no (by omega) hq)))) rfl)
    ·
     skip
     have h1 := hb1
     have hq : Fl.valT a (s.getD i tree0) = false := (Fl.val_at a _).symm.trans h1
     refine tri_skip ?_
     refine fin_block ?_
     refine fin_then ?_
     refine tri_regD hcx [] [9] [1, 4, 7, 8] [4] [Fit ((i : Int) + 1)] [(9, .int ((i : Int) + 1))] [] (by kernel_rfl) ?_ ?_
     ·
      refine (ap ?_ az)
      first | omega | exact id | exact vcNot | exact vcG | exact vcH | (intro _; omega) | exact (fun _ h => h) | (intro h; simp at h; omega) | (simp only [List.length_cons, List.length_nil, List.length_append, List.length_map, List.length_set, List.length_replicate]; omega) | (intro h; simp [h]; done) | (have h8 := hsub (by omega); have h7 := hlen (by omega); exact ⟨h7.1, h7.2, hm3, by omega⟩) | (constructor <;> omega) | (simp only [List.length_cons, List.length_nil]; omega) | done
     refine fin_round (i + 1) ?_ ?_ ?_ ?_
     ·
      show (i + 1) ≤ s.length
      omega
     ·
      show s.length - (i + 1) < s.length - i
      omega
     ·
      exact subE_mk (l := [.clo 28 [.pto [.ls (.bools a)]], .row 4, .trees s, .int (s.length : Int), .int ((i : Int) + 1)]) (m := [.clo 28 [.pto [.ls (.bools a)]], .row 4, .trees s, .int (s.length : Int), .int ((i + 1) : Int)]) (by kernel_rfl) (by kernel_rfl) (consE rfl (consE rfl (consE rfl (consE rfl (consE (congrArg AV.int (show ((i : Int) + 1) = ((i + 1) : Int) from (by first | rfl | omega | (simp; done)))) rfl)))))
     ·
      exact Eq.trans (show _ = [(4, .row 24 (.trees ((s.take i).filter (Fl.valT a))))] from by kernel_rfl) (consH (congrArg (fun x => ((4 : Nat), x)) (congrArg (fun x => AObj.row 24 (.trees x)) (show ((s.take i).filter (Fl.valT a)) = ((s.take (i + 1)).filter (Fl.valT a)) from (by first | (rw [Fl.node_eta]; exact Fl.filt_yes (by omega) hq) | exact Fl.filt_no (by omega) hq)))) rfl)
   ·
    skip
    have h0 := of_decide_eq_false hb0
    refine tri_exit ?_
    refine fin_then_exit ?_
    refine fin_then_exit ?_
    refine fin_block_same ?_
    refine fin_then ?_
    refine tri_seq ?_
    refine tri_regD hcx [] [4] [] [4] [] [(4, .row 4)] [] (by kernel_rfl) ?_ ?_
    ·
     exact az
    refine fin_then ?_
    refine tri_ret ?_
    refine fin_ren (ρ := [(4, .to 0)]) (keys := [4]) (E' := [(4, .row 0)]) (H' := [(0, .row 24 (.trees ((s.take i).filter (Fl.valT a))))]) (by kernel_rfl) ?_
    exact fin_ret [] rfl rfl trivial hcx (avs := [.row 0]) (by kernel_rfl) rfl [true] (Eq.trans (show _ = [some (.row 24 (.trees ((s.take i).filter (Fl.valT a))))] from by kernel_rfl) (consO (congrArg some (congrArg (fun x => AObj.row 24 (.trees x)) (show ((s.take i).filter (Fl.valT a)) = (s.filter (Fl.valT a)) from (by rw [show i = s.length by omega, List.take_length])))) rfl))
 ·
  cases hσ
def cx_fVal (nn : Nat) : Cx := ⟨tyFlat, [(12, (coeF [.agg [.id, .id, .id, .ld (.trees [])], .ld (.bools [])] (fVal_σ nn))), (28, (coeF [.agg [.id, .id, .id, .ld (.trees [])], .id] (fVal1_σ nn))), (40, (coeF [.ld (.trees []), .id] (fIx_σ nn))), (29, (coeF [.ld (.trees []), .id] (fCt_σ nn))), (30, (coeF [.ld (.trees []), .id] (fKp_σ nn)))]⟩
theorem cx_fVal_ok (nn : Nat) (hR : Sound Tryd.prog 12 (fVal_σ nn)) : CxOk Tryd.prog (cx_fVal nn) := cx_ok tyFlat_ok ⟨(hR.coe [.agg [.id, .id, .id, .ld (.trees [])], .ld (.bools [])] rfl), ((fVal1_sound nn hR).coe [.agg [.id, .id, .id, .ld (.trees [])], .id] rfl), ((fIx_sound nn hR).coe [.ld (.trees []), .id] rfl), ((fCt_sound nn hR).coe [.ld (.trees []), .id] rfl), ((fKp_sound nn hR).coe [.ld (.trees []), .id] rfl), trivial⟩
theorem fVal_step (nn : Nat) (hR : Sound Tryd.prog 12 (fVal_σ nn)) : Sound Tryd.prog 12 (fVal_σ (nn + 1)) := by
 refine sound_mk (cx := (cx_fVal nn)) (fn := Tryd.f12) Tryd.func12 (by kernel_rfl) rfl ?_
 intro w0 G0 args os p r outs hσ hp hm0 hd0
 have hcx : CxOk Tryd.prog (cx_fVal nn) := cx_fVal_ok nn hR
 have hmx : Tryd.prog.follows .mixedOrders = true := by kernel_rfl
 unfold fVal_σ at hσ
 split at hσ
 ·
  rename_i q v k l a
  simp only [Option.some.injEq, Prod.mk.injEq] at hσ
  obtain ⟨rfl, rfl, rfl⟩ := hσ
  obtain ⟨wW, wO, wm, wβ, wd⟩ := w0
  replace hm0 : wm = 0 := hm0
  subst hm0
  replace hd0 : wd = [] := hd0
  subst hd0
  refine ⟨by kernel_rfl, ?_⟩
  change Tri ⟨_, _, _, _, _, _⟩ [(0, .agg [.int q, .int v, .int k, .trees l]), (1, .bools a)] [] _ _
  obtain ⟨hm1, hm2, hm3, hsz⟩ := hp
  have hm9 := hm1
  have ha9 := hm3
  unfold maxLen at ha9
  refine tri_seq ?_
  refine tri_regD hcx [(1000, .frz), (1001, .frz)] [2, 3] [] [] [] [(2, .pto [.int q, .int v, .int k, .ls (.trees l)]), (3, .pto [.ls (.bools a)])] [] (by kernel_rfl) ?_ ?_
  ·
   exact az
  refine fin_then ?_
  refine tri_seq ?_
  refine tri_regD hcx [] [5] [2, 3] [] [] [(5, .clo 28 [.pto [.ls (.bools a)]])] [] (by kernel_rfl) ?_ ?_
  ·
   exact az
  refine fin_then ?_
  refine tri_seq ?_
  refine tri_seq ?_
  refine tri_regD hcx [] [8] [5, 2, 3] [] [] [(8, .int q)] [] (by kernel_rfl) ?_ ?_
  ·
   exact az
  refine fin_then ?_
  refine tri_block ?_
  refine tri_seq ?_
  refine tri_regD hcx [] [9] [8, 5, 2, 3] [] [] [(9, .bool (q == 1))] [] (by kernel_rfl) ?_ ?_
  ·
   exact az
  refine fin_then ?_
  refine tri_cond (b := (q == 1)) (by kernel_rfl) (fun hb0 => ?_) (fun hb0 => ?_)
  ·
   skip
   have h0 := eq_of_beq hb0
   refine tri_seq ?_
   refine tri_regD hcx [] [4] [] [] [] [(4, .bool (v == 1))] [] (by kernel_rfl) ?_ ?_
   ·
    exact az
   refine fin_then ?_
   refine tri_ret ?_
   refine fin_block_ret ?_
   refine fin_then_ret ?_
   exact fin_ret [] rfl rfl trivial hcx (avs := [.bool (v == 1)]) (by kernel_rfl) (congrArg AV.bool (show (v == 1) = (Fl.valN a q v k l) from (by first | exact Fl.vn1 (by omega) | exact Fl.vn2' (by omega) (by omega) | exact Fl.vn3 (by omega) | exact Fl.vn4 (by omega) | exact Fl.vn5 (by omega) | exact Fl.vn6 (by omega) | exact Fl.vn0 (by omega) (by omega) (by omega) (by omega) (by omega) (by omega) | done))) [] rfl
  ·
   skip
   have h0 := neB hb0
   refine tri_seq ?_
   refine tri_regD hcx [] [14] [8, 5, 2, 3] [] [] [(14, .bool (q == 2))] [] (by kernel_rfl) ?_ ?_
   ·
    exact az
   refine fin_then ?_
   refine tri_cond (b := (q == 2)) (by kernel_rfl) (fun hb1 => ?_) (fun hb1 => ?_)
   ·
    skip
    have h1 := eq_of_beq hb1
    refine tri_seq ?_
    refine tri_regD hcx [] [4] [] [] [((decide (0 < v)) = true → ((decide (0 < v)) = true)), ((decide (0 < v)) = true → ((decide (0 < v)) = true)), ((decide (0 < v)) = true → ((decide (0 < v)) = true)), ((decide (0 < v)) = true → ((decide (0 < v)) = true)), ((decide (0 < v)) = true → (decide (0 < v)) = true), (((decide (0 < v)) && (decide (v < (a.length : Int)))) = true → (((decide (0 < v)) && (decide (v < (a.length : Int)))) = true)), (((decide (0 < v)) && (decide (v < (a.length : Int)))) = true → (((decide (0 < v)) && (decide (v < (a.length : Int)))) = true)), (((decide (0 < v)) && (decide (v < (a.length : Int)))) = true → (((decide (0 < v)) && (decide (v < (a.length : Int)))) = true)), (((decide (0 < v)) && (decide (v < (a.length : Int)))) = true → ((0 : Int) ≤ v ∧ v < (a.length : Int))), (((decide (0 < v)) && (decide (v < (a.length : Int)))) = true → (((decide (0 < v)) && (decide (v < (a.length : Int)))) = true)), (((decide (0 < v)) && (decide (v < (a.length : Int)))) = true → ((decide (0 < v)) && (decide (v < (a.length : Int)))) = true)] [(4, .bool (((decide (0 < v)) && (decide (v < (a.length : Int)))) && (a.getD v.toNat false)))] [] (by kernel_rfl) ?_ ?_
    ·
     refine (ap ?_ (ap ?_ (ap ?_ (ap ?_ (ap (by exact id) (ap ?_ (ap ?_ (ap ?_ (ap ?_ (ap ?_ (ap (by exact id) az)))))))))))
     all_goals
      first | omega | exact id | exact vcNot | exact vcG | exact vcH | (intro _; omega) | exact (fun _ h => h) | (intro h; simp at h; omega) | (simp only [List.length_cons, List.length_nil, List.length_append, List.length_map, List.length_set, List.length_replicate]; omega) | (intro h; simp [h]; done) | exact ⟨hm1, hm2, hm3, by omega⟩ | done
    refine fin_then ?_
    refine tri_ret ?_
    refine fin_block_ret ?_
    refine fin_then_ret ?_
    exact fin_ret [] rfl rfl trivial hcx (avs := [.bool (((decide (0 < v)) && (decide (v < (a.length : Int)))) && (a.getD v.toNat false))]) (by kernel_rfl) (congrArg AV.bool (show (((decide (0 < v)) && (decide (v < (a.length : Int)))) && (a.getD v.toNat false)) = (Fl.valN a q v k l) from (by first | exact Fl.vn1 (by omega) | exact Fl.vn2' (by omega) (by omega) | exact Fl.vn3 (by omega) | exact Fl.vn4 (by omega) | exact Fl.vn5 (by omega) | exact Fl.vn6 (by omega) | exact Fl.vn0 (by omega) (by omega) (by omega) (by omega) (by omega) (by omega) | done))) [] rfl
   ·
    skip
    have h1 := neB hb1
    refine tri_seq ?_
    refine tri_regD hcx [] [33] [8, 5, 2] [] [] [(33, .bool (q == 3))] [] (by kernel_rfl) ?_ ?_
    ·
     exact az
    refine fin_then ?_
    refine tri_cond (b := (q == 3)) (by kernel_rfl) (fun hb2 => ?_) (fun hb2 => ?_)
    ·
     skip
     have h2 := eq_of_beq hb2
     refine tri_seq ?_
     refine tri_regD hcx [] [4] [] [] [(l.length ≤ 2932031007317 ∧ Fl.lensL l ∧ a.length ≤ maxLen ∧ Fl.sizeL l ≤ nn)] [(4, .bool (!(l.any (Fl.valT a))))] [] (by kernel_rfl) ?_ ?_
     ·
      refine (ap ?_ az)
      first | omega | exact id | exact vcNot | exact vcG | exact vcH | (intro _; omega) | exact (fun _ h => h) | (intro h; simp at h; omega) | (simp only [List.length_cons, List.length_nil, List.length_append, List.length_map, List.length_set, List.length_replicate]; omega) | (intro h; simp [h]; done) | exact ⟨hm1, hm2, hm3, by omega⟩ | done
     refine fin_then ?_
     refine tri_ret ?_
     refine fin_block_ret ?_
     refine fin_then_ret ?_
     exact fin_ret [] rfl rfl trivial hcx (avs := [.bool (!(l.any (Fl.valT a)))]) (by kernel_rfl) (congrArg AV.bool (show (!(l.any (Fl.valT a))) = (Fl.valN a q v k l) from (by first | exact Fl.vn1 (by omega) | exact Fl.vn2' (by omega) (by omega) | exact Fl.vn3 (by omega) | exact Fl.vn4 (by omega) | exact Fl.vn5 (by omega) | exact Fl.vn6 (by omega) | exact Fl.vn0 (by omega) (by omega) (by omega) (by omega) (by omega) (by omega) | done))) [] rfl
    ·
     skip
     have h2 := neB hb2
     refine tri_seq ?_
     refine tri_regD hcx [] [40] [8, 5, 2] [] [] [(40, .bool (q == 4))] [] (by kernel_rfl) ?_ ?_
     ·
      exact az
     refine fin_then ?_
     refine tri_cond (b := (q == 4)) (by kernel_rfl) (fun hb3 => ?_) (fun hb3 => ?_)
     ·
      skip
      have h3 := eq_of_beq hb3
      refine tri_seq ?_
      refine tri_drawD [0, 1, 0, 7, 15, 0, 32, 96, 255, 511] hcx hmx [] [4] [] [] [(l.length ≤ 2932031007317 ∧ Fl.lensL l ∧ a.length ≤ maxLen ∧ Fl.sizeL l ≤ nn)] [(4, .bool (((l.filter (Fl.valT a)).length : Int) == (l.length : Int)))] [] (by kernel_rfl) ?_ ?_
      ·
       refine (ap ?_ az)
       first | omega | exact id | exact vcNot | exact vcG | exact vcH | (intro _; omega) | exact (fun _ h => h) | (intro h; simp at h; omega) | (simp only [List.length_cons, List.length_nil, List.length_append, List.length_map, List.length_set, List.length_replicate]; omega) | (intro h; simp [h]; done) | exact ⟨hm1, hm2, hm3, by omega⟩ | done
      refine fin_then ?_
      refine tri_ret ?_
      refine fin_block_ret ?_
      refine fin_then_ret ?_
      exact fin_ret [] rfl rfl trivial hcx (avs := [.bool (((l.filter (Fl.valT a)).length : Int) == (l.length : Int))]) (by kernel_rfl) (congrArg AV.bool (show (((l.filter (Fl.valT a)).length : Int) == (l.length : Int)) = (Fl.valN a q v k l) from (by first | exact Fl.vn1 (by omega) | exact Fl.vn2' (by omega) (by omega) | exact Fl.vn3 (by omega) | exact Fl.vn4 (by omega) | exact Fl.vn5 (by omega) | exact Fl.vn6 (by omega) | exact Fl.vn0 (by omega) (by omega) (by omega) (by omega) (by omega) (by omega) | done))) [] rfl
     ·
      skip
      have h3 := neB hb3
      refine tri_seq ?_
      refine tri_regD hcx [] [51] [8, 5, 2] [] [] [(51, .bool (q == 5))] [] (by kernel_rfl) ?_ ?_
      ·
       exact az
      refine fin_then ?_
      refine tri_cond (b := (q == 5)) (by kernel_rfl) (fun hb4 => ?_) (fun hb4 => ?_)
      ·
       skip
       have h4 := eq_of_beq hb4
       refine tri_seq ?_
       refine tri_regD hcx [] [4] [] [] [(l.length ≤ 2932031007317 ∧ Fl.lensL l ∧ a.length ≤ maxLen ∧ Fl.sizeL l ≤ nn)] [(4, .bool (l.any (Fl.valT a)))] [] (by kernel_rfl) ?_ ?_
       ·
        refine (ap ?_ az)
        first | omega | exact id | exact vcNot | exact vcG | exact vcH | (intro _; omega) | exact (fun _ h => h) | (intro h; simp at h; omega) | (simp only [List.length_cons, List.length_nil, List.length_append, List.length_map, List.length_set, List.length_replicate]; omega) | (intro h; simp [h]; done) | exact ⟨hm1, hm2, hm3, by omega⟩ | done
       refine fin_then ?_
       refine tri_ret ?_
       refine fin_block_ret ?_
       refine fin_then_ret ?_
       exact fin_ret [] rfl rfl trivial hcx (avs := [.bool (l.any (Fl.valT a))]) (by kernel_rfl) (congrArg AV.bool (show (l.any (Fl.valT a)) = (Fl.valN a q v k l) from (by first | exact Fl.vn1 (by omega) | exact Fl.vn2' (by omega) (by omega) | exact Fl.vn3 (by omega) | exact Fl.vn4 (by omega) | exact Fl.vn5 (by omega) | exact Fl.vn6 (by omega) | exact Fl.vn0 (by omega) (by omega) (by omega) (by omega) (by omega) (by omega) | done))) [] rfl
      ·
       skip
       have h4 := neB hb4
       refine tri_seq ?_
       refine tri_regD hcx [] [57] [5, 2] [] [] [(57, .bool (q == 6))] [] (by kernel_rfl) ?_ ?_
       ·
        exact az
       refine fin_then ?_
       refine tri_cond (b := (q == 6)) (by kernel_rfl) (fun hb5 => ?_) (fun hb5 => ?_)
       ·
        skip
        have h5 := eq_of_beq hb5
        refine tri_seq ?_
        refine tri_drawD [0, 1, 0, 7, 15, 0, 32, 127, 255] hcx hmx [] [4] [] [] [(l.length ≤ 2932031007317 ∧ Fl.lensL l ∧ a.length ≤ maxLen ∧ Fl.sizeL l ≤ nn)] [(4, .bool (decide (((l.filter (Fl.valT a)).length : Int) ≥ k)))] [] (by kernel_rfl) ?_ ?_
        ·
         refine (ap ?_ az)
         first | omega | exact id | exact vcNot | exact vcG | exact vcH | (intro _; omega) | exact (fun _ h => h) | (intro h; simp at h; omega) | (simp only [List.length_cons, List.length_nil, List.length_append, List.length_map, List.length_set, List.length_replicate]; omega) | (intro h; simp [h]; done) | exact ⟨hm1, hm2, hm3, by omega⟩ | done
        refine fin_then ?_
        refine tri_ret ?_
        refine fin_block_ret ?_
        refine fin_then_ret ?_
        exact fin_ret [] rfl rfl trivial hcx (avs := [.bool (decide (((l.filter (Fl.valT a)).length : Int) ≥ k))]) (by kernel_rfl) (congrArg AV.bool (show (decide (((l.filter (Fl.valT a)).length : Int) ≥ k)) = (Fl.valN a q v k l) from (by first | exact Fl.vn1 (by omega) | exact Fl.vn2' (by omega) (by omega) | exact Fl.vn3 (by omega) | exact Fl.vn4 (by omega) | exact Fl.vn5 (by omega) | exact Fl.vn6 (by omega) | exact Fl.vn0 (by omega) (by omega) (by omega) (by omega) (by omega) (by omega) | done))) [] rfl
       ·
        skip
        have h5 := neB hb5
        refine tri_skip ?_
        refine fin_block ?_
        refine fin_then ?_
        refine tri_seq ?_
        refine tri_regD hcx [] [4] [] [] [] [(4, .bool false)] [] (by kernel_rfl) ?_ ?_
        ·
         exact az
        refine fin_then ?_
        refine tri_ret ?_
        exact fin_ret [] rfl rfl trivial hcx (avs := [.bool false]) (by kernel_rfl) (congrArg AV.bool (show false = (Fl.valN a q v k l) from (by first | exact Fl.vn1 (by omega) | exact Fl.vn2' (by omega) (by omega) | exact Fl.vn3 (by omega) | exact Fl.vn4 (by omega) | exact Fl.vn5 (by omega) | exact Fl.vn6 (by omega) | exact Fl.vn0 (by omega) (by omega) (by omega) (by omega) (by omega) (by omega) | done))) [] rfl
 ·
  cases hσ
theorem fVal_all : ∀ nn, Sound Tryd.prog 12 (fVal_σ nn) := sound_rec (sound_none (fn := Tryd.f12) Tryd.func12 (by kernel_rfl) rfl (fun args os p r outs hσ hp => by
  unfold fVal_σ at hσ
  split at hσ
  · simp only [Option.some.injEq, Prod.mk.injEq] at hσ
    obtain ⟨rfl, rfl, rfl⟩ := hσ
    exact absurd hp.2.2.2 (Nat.not_lt_zero _)
  · cases hσ)) fVal_step
def fVal_τ : CtF
  | [.agg [.im (.val (.int .i64 q)), .im (.val (.int .i64 v)), .im (.val (.int .i64 k)), .im (.ls (.trees l))], .im (.ls (.bools a))], [] => some (l.length ≤ 2932031007317 ∧ Fl.lensL l ∧ a.length ≤ maxLen, .bool (Fl.valN a q v k l), [])
  | _, _ => none
theorem fVal_sound : Sound Tryd.prog 12 fVal_τ := sound_all fVal_all (fun args os p r outs hσ hp => by
  unfold fVal_τ at hσ
  split at hσ
  · rename_i q v k l a
    simp only [Option.some.injEq, Prod.mk.injEq] at hσ
    obtain ⟨rfl, rfl, rfl⟩ := hσ
    exact ⟨Fl.sizeL l + 1, _, rfl, ⟨hp.1, hp.2.1, hp.2.2, Nat.lt_succ_self _⟩⟩
  · cases hσ)
def fSame_σ (nn : Nat) : CtF
  | [.agg [.im (.val (.int .i64 q)), .im (.val (.int .i64 v)), .im (.val (.int .i64 k)), .im (.ls (.trees l))], .agg [.im (.val (.int .i64 q')), .im (.val (.int .i64 v')), .im (.val (.int .i64 k')), .im (.ls (.trees l'))]], [] => some (l.length ≤ 2932031007317 ∧ Fl.lensL l ∧ Fl.sizeL l < nn, .bool (Fl.sameB (.node q v k l) (.node q' v' k' l')), [])
  | _, _ => none
def cx_fEqF (nn : Nat) : Cx := ⟨tyFlat, [(12, (coeF [.agg [.id, .id, .id, .ld (.trees [])], .ld (.bools [])] fVal_τ)), (27, (coeF [.agg [.id, .id, .id, .ld (.trees [])], .agg [.id, .id, .id, .ld (.trees [])]] (fSame_σ nn)))]⟩
theorem cx_fEqF_ok (nn : Nat) (hR : Sound Tryd.prog 27 (fSame_σ nn)) : CxOk Tryd.prog (cx_fEqF nn) := cx_ok tyFlat_ok ⟨(fVal_sound.coe [.agg [.id, .id, .id, .ld (.trees [])], .ld (.bools [])] rfl), (hR.coe [.agg [.id, .id, .id, .ld (.trees [])], .agg [.id, .id, .id, .ld (.trees [])]] rfl), trivial⟩
def fEqF_σ (nn : Nat) : CtF
  | [.im (.ls (.trees s)), .im (.ls (.trees s')), .clo 27 []], [] => some (s.length ≤ 2932031007317 ∧ Fl.lensL s ∧ Fl.sizeL s ≤ nn, .bool (Fl.sameL s s'), [])
  | _, _ => none
theorem fEqF_sound (nn : Nat) (hR : Sound Tryd.prog 27 (fSame_σ nn)) : Sound Tryd.prog 39 (fEqF_σ nn) := by
 refine sound_mk (cx := (cx_fEqF nn)) (fn := Tryd.f39) Tryd.func39 (by kernel_rfl) rfl ?_
 intro w0 G0 args os p r outs hσ hp hm0 hd0
 have hcx : CxOk Tryd.prog (cx_fEqF nn) := cx_fEqF_ok nn hR
 unfold fEqF_σ at hσ
 split at hσ
 ·
  rename_i s s'
  simp only [Option.some.injEq, Prod.mk.injEq] at hσ
  obtain ⟨rfl, rfl, rfl⟩ := hσ
  obtain ⟨wW, wO, wm, wβ, wd⟩ := w0
  replace hm0 : wm = 0 := hm0
  subst hm0
  replace hd0 : wd = [] := hd0
  subst hd0
  refine ⟨by kernel_rfl, ?_⟩
  change Tri ⟨_, _, _, _, _, _⟩ [(0, .trees s), (1, .trees s'), (2, .clo 27 [])] [] _ _
  obtain ⟨hm1, hm2, hsz⟩ := hp
  have hm9 := hm1
  refine tri_seq ?_
  refine tri_regD hcx [] [] [0, 1, 2] [] [] [] [] (by kernel_rfl) ?_ ?_
  ·
   exact az
  refine fin_then ?_
  refine tri_seq ?_
  refine tri_seq ?_
  refine tri_regD hcx [] [14] [0, 1, 2] [] [] [(14, .bool ((s.length : Int) != (s'.length : Int)))] [] (by kernel_rfl) ?_ ?_
  ·
   exact az
  refine fin_then ?_
  refine tri_cond (b := ((s.length : Int) != (s'.length : Int))) (by kernel_rfl) (fun hb0 => ?_) (fun hb0 => ?_)
  ·
   skip
   have h0 := bne_iff_ne.1 hb0
   refine tri_seq ?_
   refine tri_regD hcx [] [6] [] [] [] [(6, .bool false)] [] (by kernel_rfl) ?_ ?_
   ·
    exact az
   refine fin_then ?_
   refine tri_ret ?_
   refine fin_then_ret ?_
   exact fin_ret [] rfl rfl trivial hcx (avs := [.bool false]) (by kernel_rfl) (congrArg AV.bool (show false = (Fl.sameL s s') from (by exact (Fl.sameL_len (by omega)).symm))) [] rfl
  ·
   skip
   have h0 := bneF hb0
   refine tri_skip ?_
   refine fin_then ?_
   refine tri_seq ?_
   refine tri_seq ?_
   refine tri_regD hcx [] [15, 16, 17] [1, 2] [] [] [(15, .trees s), (16, .int (s.length : Int)), (17, .int 0)] [] (by kernel_rfl) ?_ ?_
   ·
    exact az
   refine fin_then ?_
   refine tri_block ?_
   refine tri_loop (X := Nat) (fun x0 => x0 ≤ s.length ∧ ∀ j, j < x0 → s.getD j tree0 = s'.getD j tree0) (fun x0 => [(1, .trees s'), (2, .clo 27 []), (15, .trees s), (16, .int (s.length : Int)), (17, .int (x0 : Int))]) (fun x0 => []) (fun x0 => s.length - x0) (0) ?_ ?_ ?_ ?_
   ·
    show 0 ≤ s.length ∧ ∀ j, j < 0 → s.getD j tree0 = s'.getD j tree0
    exact ⟨Nat.zero_le _, fun j hj => by omega⟩
   ·
    exact subE_mk (l := [.trees s', .clo 27 [], .trees s, .int (s.length : Int), .int 0]) (m := [.trees s', .clo 27 [], .trees s, .int (s.length : Int), .int (0 : Int)]) (by kernel_rfl) (by kernel_rfl) (consE rfl (consE rfl (consE rfl (consE rfl (consE (congrArg AV.int (show 0 = (0 : Int) from (by first | rfl | omega | (simp; done)))) rfl)))))
   ·
    kernel_rfl
   ·
    intro i hI
    replace hI : i ≤ s.length ∧ ∀ j, j < i → s.getD j tree0 = s'.getD j tree0 := hI
    change Tri _ [(1, .trees s'), (2, .clo 27 []), (15, .trees s), (16, .int (s.length : Int)), (17, .int (i : Int))] [] _ _
    obtain ⟨hk, hok⟩ := hI
    have hsub : i < s.length → Fl.sizeL (s.getD i tree0).l < Fl.sizeL s := fun h => Fl.size_sub h
    have hlen : i < s.length → _ := fun h => Fl.lens_at hm2 h
    refine tri_seq ?_
    refine tri_regD hcx [] [18] [1, 2, 15, 16, 17] [] [] [(18, .bool (decide ((i : Int) < (s.length : Int))))] [] (by kernel_rfl) ?_ ?_
    ·
     exact az
    refine fin_then ?_
    refine tri_seq ?_
    refine tri_cond (b := (decide ((i : Int) < (s.length : Int)))) (by kernel_rfl) (fun hb1 => ?_) (fun hb1 => ?_)
    ·
     skip
     have h1 := of_decide_eq_true hb1
     refine tri_skip ?_
     refine fin_then ?_
     refine tri_seq ?_
     refine tri_block ?_
     refine tri_seq ?_
     refine tri_regD hcx [(1003, .to 608)] [7, 8] [1, 2, 15, 16, 17] [] [((0 : Int) ≤ (i : Int) ∧ (i : Int) < (s.length : Int))] [(7, .int (i : Int)), (8, .loc 608 0)] [(608, .box [.int ((s.getD i tree0).kind), .int ((s.getD i tree0).v), .int ((s.getD i tree0).k), .trees ((s.getD i tree0).l)])] (by kernel_rfl) ?_ ?_
     ·
      refine (ap ?_ az)
      first | omega | exact id | exact vcNot | exact vcG | exact vcH | (intro _; omega) | exact (fun _ h => h) | (intro h; simp at h; omega) | (simp only [List.length_cons, List.length_nil, List.length_append, List.length_map, List.length_set, List.length_replicate]; omega) | (intro h; simp [h]; done) | (have h8 := hsub (by omega); have h7 := hlen (by omega); exact ⟨h7.1, h7.2, by omega⟩) | done
     refine fin_then ?_
     refine tri_seq ?_
     refine tri_regD hcx [(1004, .to 609)] [9] [8, 1, 2, 15, 16, 17] [608] [((0 : Int) ≤ (i : Int) ∧ (i : Int) < (s'.length : Int))] [(9, .loc 609 0)] [(609, .box [.int ((s'.getD i tree0).kind), .int ((s'.getD i tree0).v), .int ((s'.getD i tree0).k), .trees ((s'.getD i tree0).l)])] (by kernel_rfl) ?_ ?_
     ·
      refine (ap ?_ az)
      first | omega | exact id | exact vcNot | exact vcG | exact vcH | (intro _; omega) | exact (fun _ h => h) | (intro h; simp at h; omega) | (simp only [List.length_cons, List.length_nil, List.length_append, List.length_map, List.length_set, List.length_replicate]; omega) | (intro h; simp [h]; done) | (have h8 := hsub (by omega); have h7 := hlen (by omega); exact ⟨h7.1, h7.2, by omega⟩) | done
     refine fin_then ?_
     refine tri_seq ?_
     refine tri_regD hcx [] [30] [1, 2, 15, 16, 17] [] [(((s.getD i tree0).l).length ≤ 2932031007317 ∧ Fl.lensL ((s.getD i tree0).l) ∧ Fl.sizeL ((s.getD i tree0).l) < nn)] [(30, .bool (!(Fl.sameB (.node ((s.getD i tree0).kind) ((s.getD i tree0).v) ((s.getD i tree0).k) ((s.getD i tree0).l)) (.node ((s'.getD i tree0).kind) ((s'.getD i tree0).v) ((s'.getD i tree0).k) ((s'.getD i tree0).l)))))] [] (by kernel_rfl) ?_ ?_
     ·
      refine (ap ?_ az)
      first | omega | exact id | exact vcNot | exact vcG | exact vcH | (intro _; omega) | exact (fun _ h => h) | (intro h; simp at h; omega) | (simp only [List.length_cons, List.length_nil, List.length_append, List.length_map, List.length_set, List.length_replicate]; omega) | (intro h; simp [h]; done) | (have h8 := hsub (by omega); have h7 := hlen (by omega); exact ⟨h7.1, h7.2, by omega⟩) | done
     refine fin_then ?_
     refine tri_cond (b := (!(Fl.sameB (.node ((s.getD i tree0).kind) ((s.getD i tree0).v) ((s.getD i tree0).k) ((s.getD i tree0).l)) (.node ((s'.getD i tree0).kind) ((s'.getD i tree0).v) ((s'.getD i tree0).k) ((s'.getD i tree0).l))))) (by kernel_rfl) (fun hb2 => ?_) (fun hb2 => ?_)
     ·
      skip
      have h2 := hb2
      have hz5 := Fl.same_no h2
      refine tri_seq ?_
      refine tri_regD hcx [] [6] [] [] [] [(6, .bool false)] [] (by kernel_rfl) ?_ ?_
      ·
       exact az
      refine fin_then ?_
      refine tri_ret ?_
      refine fin_block_ret ?_
      refine fin_then_ret ?_
      refine fin_then_ret ?_
      refine fin_block_ret ?_
      refine fin_then_ret ?_
      exact fin_ret [] rfl rfl trivial hcx (avs := [.bool false]) (by kernel_rfl) (congrArg AV.bool (show false = (Fl.sameL s s') from (by exact (Fl.sameL_ne hz5).symm))) [] rfl
     ·
      skip
      have h2 := hb2
      have hz5 := Fl.same_yes h2
      refine tri_skip ?_
      refine fin_block ?_
      refine fin_then ?_
      refine tri_regD hcx [] [17] [1, 2, 15, 16] [] [Fit ((i : Int) + 1)] [(17, .int ((i : Int) + 1))] [] (by kernel_rfl) ?_ ?_
      ·
       refine (ap ?_ az)
       first | omega | exact id | exact vcNot | exact vcG | exact vcH | (intro _; omega) | exact (fun _ h => h) | (intro h; simp at h; omega) | (simp only [List.length_cons, List.length_nil, List.length_append, List.length_map, List.length_set, List.length_replicate]; omega) | (intro h; simp [h]; done) | (have h8 := hsub (by omega); have h7 := hlen (by omega); exact ⟨h7.1, h7.2, by omega⟩) | done
      refine fin_round (i + 1) ?_ ?_ ?_ ?_
      ·
       show (i + 1) ≤ s.length ∧ ∀ j, j < (i + 1) → s.getD j tree0 = s'.getD j tree0
       exact ⟨by omega, fun j hj => by rcases (by omega : j < i ∨ j = i) with h | rfl; exact hok j h; exact hz5⟩
      ·
       show s.length - (i + 1) < s.length - i
       omega
      ·
       exact subE_mk (l := [.trees s', .clo 27 [], .trees s, .int (s.length : Int), .int ((i : Int) + 1)]) (m := [.trees s', .clo 27 [], .trees s, .int (s.length : Int), .int ((i + 1) : Int)]) (by kernel_rfl) (by kernel_rfl) (consE rfl (consE rfl (consE rfl (consE rfl (consE (congrArg AV.int (show ((i : Int) + 1) = ((i + 1) : Int) from (by first | rfl | omega | (simp; done)))) rfl)))))
      ·
       kernel_rfl
    ·
     skip
     have h1 := of_decide_eq_false hb1
     refine tri_exit ?_
     refine fin_then_exit ?_
     refine fin_then_exit ?_
     refine fin_block_same ?_
     refine fin_then ?_
     refine tri_seq ?_
     refine tri_regD hcx [] [6] [] [] [] [(6, .bool true)] [] (by kernel_rfl) ?_ ?_
     ·
      exact az
     refine fin_then ?_
     refine tri_ret ?_
     exact fin_ret [] rfl rfl trivial hcx (avs := [.bool true]) (by kernel_rfl) (congrArg AV.bool (show true = (Fl.sameL s s') from (by exact (Fl.sameL_eq (by omega) (fun j hj => hok j (by omega))).symm))) [] rfl
 ·
  cases hσ
def cx_fSame (nn : Nat) : Cx := ⟨tyFlat, [(12, (coeF [.agg [.id, .id, .id, .ld (.trees [])], .ld (.bools [])] fVal_τ)), (27, (coeF [.agg [.id, .id, .id, .ld (.trees [])], .agg [.id, .id, .id, .ld (.trees [])]] (fSame_σ nn))), (39, (coeF [.ld (.trees []), .ld (.trees []), .id] (fEqF_σ nn)))]⟩
theorem cx_fSame_ok (nn : Nat) (hR : Sound Tryd.prog 27 (fSame_σ nn)) : CxOk Tryd.prog (cx_fSame nn) := cx_ok tyFlat_ok ⟨(fVal_sound.coe [.agg [.id, .id, .id, .ld (.trees [])], .ld (.bools [])] rfl), (hR.coe [.agg [.id, .id, .id, .ld (.trees [])], .agg [.id, .id, .id, .ld (.trees [])]] rfl), ((fEqF_sound nn hR).coe [.ld (.trees []), .ld (.trees []), .id] rfl), trivial⟩
theorem fSame_step (nn : Nat) (hR : Sound Tryd.prog 27 (fSame_σ nn)) : Sound Tryd.prog 27 (fSame_σ (nn + 1)) := by
 refine sound_mk (cx := (cx_fSame nn)) (fn := Tryd.f27) Tryd.func27 (by kernel_rfl) rfl ?_
 intro w0 G0 args os p r outs hσ hp hm0 hd0
 have hcx : CxOk Tryd.prog (cx_fSame nn) := cx_fSame_ok nn hR
 unfold fSame_σ at hσ
 split at hσ
 ·
  rename_i q v k l q' v' k' l'
  simp only [Option.some.injEq, Prod.mk.injEq] at hσ
  obtain ⟨rfl, rfl, rfl⟩ := hσ
  obtain ⟨wW, wO, wm, wβ, wd⟩ := w0
  replace hm0 : wm = 0 := hm0
  subst hm0
  replace hd0 : wd = [] := hd0
  subst hd0
  refine ⟨by kernel_rfl, ?_⟩
  change Tri ⟨_, _, _, _, _, _⟩ [(0, .agg [.int q, .int v, .int k, .trees l]), (1, .agg [.int q', .int v', .int k', .trees l'])] [] _ _
  obtain ⟨hm1, hm2, hsz⟩ := hp
  have hm9 := hm1
  refine tri_seq ?_
  refine tri_regD hcx [(1000, .frz), (1001, .frz)] [2, 3] [] [] [] [(2, .pto [.int q, .int v, .int k, .ls (.trees l)]), (3, .pto [.int q', .int v', .int k', .ls (.trees l')])] [] (by kernel_rfl) ?_ ?_
  ·
   exact az
  refine fin_then ?_
  refine tri_seq ?_
  refine tri_regD hcx [] [4] [] [] [((q == q') = true → ((q == q') = true)), ((q == q') = true → ((q == q') = true)), ((q == q') = true → ((q == q') = true)), ((q == q') = true → ((q == q') = true)), ((q == q') = true → (q == q') = true), (((q == q') && (v == v')) = true → (((q == q') && (v == v')) = true)), (((q == q') && (v == v')) = true → (((q == q') && (v == v')) = true)), (((q == q') && (v == v')) = true → (((q == q') && (v == v')) = true)), (((q == q') && (v == v')) = true → (((q == q') && (v == v')) = true)), (((q == q') && (v == v')) = true → ((q == q') && (v == v')) = true), ((((q == q') && (v == v')) && (k == k')) = true → ((((q == q') && (v == v')) && (k == k')) = true)), ((((q == q') && (v == v')) && (k == k')) = true → ((((q == q') && (v == v')) && (k == k')) = true)), ((((q == q') && (v == v')) && (k == k')) = true → ((((q == q') && (v == v')) && (k == k')) = true)), ((((q == q') && (v == v')) && (k == k')) = true → ((((q == q') && (v == v')) && (k == k')) = true)), ((((q == q') && (v == v')) && (k == k')) = true → (l.length ≤ 2932031007317 ∧ Fl.lensL l ∧ Fl.sizeL l ≤ nn)), ((((q == q') && (v == v')) && (k == k')) = true → (((q == q') && (v == v')) && (k == k')) = true)] [(4, .bool ((((q == q') && (v == v')) && (k == k')) && (Fl.sameL l l')))] [] (by kernel_rfl) ?_ ?_
  ·
   refine (ap ?_ (ap ?_ (ap ?_ (ap ?_ (ap (by exact id) (ap ?_ (ap ?_ (ap ?_ (ap ?_ (ap (by exact id) (ap ?_ (ap ?_ (ap ?_ (ap ?_ (ap ?_ (ap (by exact id) az))))))))))))))))
   all_goals
    first | omega | exact id | exact vcNot | exact vcG | exact vcH | (intro _; omega) | exact (fun _ h => h) | (intro h; simp at h; omega) | (simp only [List.length_cons, List.length_nil, List.length_append, List.length_map, List.length_set, List.length_replicate]; omega) | (intro h; simp [h]; done) | exact (fun _ => ⟨hm1, hm2, by omega⟩) | done
  refine fin_then ?_
  refine tri_ret ?_
  exact fin_ret [] rfl rfl trivial hcx (avs := [.bool ((((q == q') && (v == v')) && (k == k')) && (Fl.sameL l l'))]) (by kernel_rfl) (congrArg AV.bool (show ((((q == q') && (v == v')) && (k == k')) && (Fl.sameL l l')) = (Fl.sameB (.node q v k l) (.node q' v' k' l')) from (by first | rfl | done))) [] rfl
 ·
  cases hσ
theorem fSame_all : ∀ nn, Sound Tryd.prog 27 (fSame_σ nn) := sound_rec (sound_none (fn := Tryd.f27) Tryd.func27 (by kernel_rfl) rfl (fun args os p r outs hσ hp => by
  unfold fSame_σ at hσ
  split at hσ
  · simp only [Option.some.injEq, Prod.mk.injEq] at hσ
    obtain ⟨rfl, rfl, rfl⟩ := hσ
    exact absurd hp.2.2 (Nat.not_lt_zero _)
  · cases hσ)) fSame_step
def fSame_τ : CtF
  | [.agg [.im (.val (.int .i64 q)), .im (.val (.int .i64 v)), .im (.val (.int .i64 k)), .im (.ls (.trees l))], .agg [.im (.val (.int .i64 q')), .im (.val (.int .i64 v')), .im (.val (.int .i64 k')), .im (.ls (.trees l'))]], [] => some (l.length ≤ 2932031007317 ∧ Fl.lensL l, .bool (Fl.sameB (.node q v k l) (.node q' v' k' l')), [])
  | _, _ => none
theorem fSame_sound : Sound Tryd.prog 27 fSame_τ := sound_all fSame_all (fun args os p r outs hσ hp => by
  unfold fSame_τ at hσ
  split at hσ
  · rename_i q v k l q' v' k' l'
    simp only [Option.some.injEq, Prod.mk.injEq] at hσ
    obtain ⟨rfl, rfl, rfl⟩ := hσ
    exact ⟨Fl.sizeL l + 1, _, rfl, ⟨hp.1, hp.2, Nat.lt_succ_self _⟩⟩
  · cases hσ)
def cx_fFormed : Cx := ⟨tyFlat, [(12, (coeF [.agg [.id, .id, .id, .ld (.trees [])], .ld (.bools [])] fVal_τ)), (27, (coeF [.agg [.id, .id, .id, .ld (.trees [])], .agg [.id, .id, .id, .ld (.trees [])]] fSame_τ))]⟩
theorem cx_fFormed_ok : CxOk Tryd.prog cx_fFormed := cx_ok tyFlat_ok ⟨(fVal_sound.coe [.agg [.id, .id, .id, .ld (.trees [])], .ld (.bools [])] rfl), (fSame_sound.coe [.agg [.id, .id, .id, .ld (.trees [])], .agg [.id, .id, .id, .ld (.trees [])]] rfl), trivial⟩
def fFormed_σ : CtF
  | [.agg [.im (.val (.int .i64 q)), .im (.val (.int .i64 v)), .im (.val (.int .i64 k)), .im (.ls (.trees l))], .im (.val (.int .i64 n))], [] => some (l.length ≤ maxLen, .bool (Fl.mayH n q v k l.length), [])
  | _, _ => none
theorem fFormed_sound : Sound Tryd.prog 35 fFormed_σ := by
 refine sound_mk (cx := cx_fFormed) (fn := Tryd.f35) Tryd.func35 (by kernel_rfl) rfl ?_
 intro w0 G0 args os p r outs hσ hp hm0 hd0
 have hcx : CxOk Tryd.prog cx_fFormed := cx_fFormed_ok
 unfold fFormed_σ at hσ
 split at hσ
 ·
  rename_i q v k l n
  simp only [Option.some.injEq, Prod.mk.injEq] at hσ
  obtain ⟨rfl, rfl, rfl⟩ := hσ
  obtain ⟨wW, wO, wm, wβ, wd⟩ := w0
  replace hm0 : wm = 0 := hm0
  subst hm0
  replace hd0 : wd = [] := hd0
  subst hd0
  refine ⟨by kernel_rfl, ?_⟩
  change Tri ⟨_, _, _, _, _, _⟩ [(0, .agg [.int q, .int v, .int k, .trees l]), (1, .int n)] [] _ _
  have hm9 := hp
  unfold maxLen at hm9
  refine tri_seq ?_
  refine tri_regD hcx [(1000, .frz)] [2] [1] [] [] [(2, .pto [.int q, .int v, .int k, .ls (.trees l)])] [] (by kernel_rfl) ?_ ?_
  ·
   exact az
  refine fin_then ?_
  refine tri_seq ?_
  refine tri_seq ?_
  refine tri_regD hcx [] [12] [2, 1] [] [((q != 6) = true → ((q != 6) = true)), ((q != 6) = true → ((q != 6) = true)), ((q != 6) = true → (q != 6) = true)] [(12, .bool ((q != 6) && (k != 0)))] [] (by kernel_rfl) ?_ ?_
  ·
   refine (ap ?_ (ap ?_ (ap (by exact id) az)))
   all_goals
    first | omega | exact id | exact vcNot | exact vcG | exact vcH | (intro _; omega) | exact (fun _ h => h) | (intro h; simp at h; omega) | (simp only [List.length_cons, List.length_nil, List.length_append, List.length_map, List.length_set, List.length_replicate]; omega) | (intro h; simp [h]; done) | (constructor <;> omega) | done
  refine fin_then ?_
  refine tri_cond (b := ((q != 6) && (k != 0))) (by kernel_rfl) (fun hb0 => ?_) (fun hb0 => ?_)
  ·
   skip
   have h0 := hb0
   have hk0 := h0
   refine tri_seq ?_
   refine tri_regD hcx [] [4] [] [] [] [(4, .bool false)] [] (by kernel_rfl) ?_ ?_
   ·
    exact az
   refine fin_then ?_
   refine tri_ret ?_
   refine fin_then_ret ?_
   exact fin_ret [] rfl rfl trivial hcx (avs := [.bool false]) (by kernel_rfl) (congrArg AV.bool (show false = (Fl.mayH n q v k l.length) from (by first | exact Fl.fm0 hk0 | exact Fl.fm1 hk (by omega) | exact Fl.fm2 hk (by omega) (by omega) | exact Fl.fm3 hk (by omega) | exact Fl.fm4 hk (by omega) | exact Fl.fm6 (by omega) | exact Fl.fm9 (by omega) (by omega) (by omega) (by omega) (by omega) (by omega) | done))) [] rfl
  ·
   skip
   have h0 := hb0
   have hk := h0
   refine tri_skip ?_
   refine fin_then ?_
   refine tri_seq ?_
   refine tri_seq ?_
   refine tri_regD hcx [] [14] [2, 1] [] [] [(14, .int q)] [] (by kernel_rfl) ?_ ?_
   ·
    exact az
   refine fin_then ?_
   refine tri_block ?_
   refine tri_seq ?_
   refine tri_regD hcx [] [15] [14, 2, 1] [] [] [(15, .bool (q == 1))] [] (by kernel_rfl) ?_ ?_
   ·
    exact az
   refine fin_then ?_
   refine tri_cond (b := (q == 1)) (by kernel_rfl) (fun hb1 => ?_) (fun hb1 => ?_)
   ·
    skip
    have h1 := eq_of_beq hb1
    refine tri_seq ?_
    refine tri_regD hcx [] [4] [] [] [((!(v == 0)) = true → ((!(v == 0)) = true)), ((!(v == 0)) = true → ((!(v == 0)) = true)), ((v == 0) = false → (!(v == 0)) = true), (((v == 0) || (v == 1)) = true → (((v == 0) || (v == 1)) = true)), (((v == 0) || (v == 1)) = true → (((v == 0) || (v == 1)) = true)), (((v == 0) || (v == 1)) = true → (((v == 0) || (v == 1)) = true)), (((v == 0) || (v == 1)) = true → ((v == 0) || (v == 1)) = true)] [(4, .bool (((v == 0) || (v == 1)) && ((l.length : Int) == 0)))] [] (by kernel_rfl) ?_ ?_
    ·
     refine (ap ?_ (ap ?_ (ap (by exact vcNot) (ap ?_ (ap ?_ (ap ?_ (ap (by exact id) az)))))))
     all_goals
      first | omega | exact id | exact vcNot | exact vcG | exact vcH | (intro _; omega) | exact (fun _ h => h) | (intro h; simp at h; omega) | (simp only [List.length_cons, List.length_nil, List.length_append, List.length_map, List.length_set, List.length_replicate]; omega) | (intro h; simp [h]; done) | (constructor <;> omega) | done
    refine fin_then ?_
    refine tri_ret ?_
    refine fin_block_ret ?_
    refine fin_then_ret ?_
    exact fin_ret [] rfl rfl trivial hcx (avs := [.bool (((v == 0) || (v == 1)) && ((l.length : Int) == 0))]) (by kernel_rfl) (congrArg AV.bool (show (((v == 0) || (v == 1)) && ((l.length : Int) == 0)) = (Fl.mayH n q v k l.length) from (by first | exact Fl.fm0 hk0 | exact Fl.fm1 hk (by omega) | exact Fl.fm2 hk (by omega) (by omega) | exact Fl.fm3 hk (by omega) | exact Fl.fm4 hk (by omega) | exact Fl.fm6 (by omega) | exact Fl.fm9 (by omega) (by omega) (by omega) (by omega) (by omega) (by omega) | done))) [] rfl
   ·
    skip
    have h1 := neB hb1
    refine tri_seq ?_
    refine tri_regD hcx [] [31] [14, 2, 1] [] [] [(31, .bool (q == 2))] [] (by kernel_rfl) ?_ ?_
    ·
     exact az
    refine fin_then ?_
    refine tri_cond (b := (q == 2)) (by kernel_rfl) (fun hb2 => ?_) (fun hb2 => ?_)
    ·
     skip
     have h2 := eq_of_beq hb2
     refine tri_seq ?_
     refine tri_regD hcx [] [4] [] [] [((decide (1 ≤ v)) = true → ((decide (1 ≤ v)) = true)), ((decide (1 ≤ v)) = true → ((decide (1 ≤ v)) = true)), ((decide (1 ≤ v)) = true → ((decide (1 ≤ v)) = true)), ((decide (1 ≤ v)) = true → (decide (1 ≤ v)) = true), (((decide (1 ≤ v)) && (decide (v ≤ n))) = true → (((decide (1 ≤ v)) && (decide (v ≤ n))) = true)), (((decide (1 ≤ v)) && (decide (v ≤ n))) = true → (((decide (1 ≤ v)) && (decide (v ≤ n))) = true)), (((decide (1 ≤ v)) && (decide (v ≤ n))) = true → (((decide (1 ≤ v)) && (decide (v ≤ n))) = true)), (((decide (1 ≤ v)) && (decide (v ≤ n))) = true → ((decide (1 ≤ v)) && (decide (v ≤ n))) = true)] [(4, .bool (((decide (1 ≤ v)) && (decide (v ≤ n))) && ((l.length : Int) == 0)))] [] (by kernel_rfl) ?_ ?_
     ·
      refine (ap ?_ (ap ?_ (ap ?_ (ap (by exact id) (ap ?_ (ap ?_ (ap ?_ (ap (by exact id) az))))))))
      all_goals
       first | omega | exact id | exact vcNot | exact vcG | exact vcH | (intro _; omega) | exact (fun _ h => h) | (intro h; simp at h; omega) | (simp only [List.length_cons, List.length_nil, List.length_append, List.length_map, List.length_set, List.length_replicate]; omega) | (intro h; simp [h]; done) | (constructor <;> omega) | done
     refine fin_then ?_
     refine tri_ret ?_
     refine fin_block_ret ?_
     refine fin_then_ret ?_
     exact fin_ret [] rfl rfl trivial hcx (avs := [.bool (((decide (1 ≤ v)) && (decide (v ≤ n))) && ((l.length : Int) == 0))]) (by kernel_rfl) (congrArg AV.bool (show (((decide (1 ≤ v)) && (decide (v ≤ n))) && ((l.length : Int) == 0)) = (Fl.mayH n q v k l.length) from (by first | exact Fl.fm0 hk0 | exact Fl.fm1 hk (by omega) | exact Fl.fm2 hk (by omega) (by omega) | exact Fl.fm3 hk (by omega) | exact Fl.fm4 hk (by omega) | exact Fl.fm6 (by omega) | exact Fl.fm9 (by omega) (by omega) (by omega) (by omega) (by omega) (by omega) | done))) [] rfl
    ·
     skip
     have h2 := neB hb2
     refine tri_seq ?_
     refine tri_regD hcx [] [48] [14, 2] [] [] [(48, .bool (q == 3))] [] (by kernel_rfl) ?_ ?_
     ·
      exact az
     refine fin_then ?_
     refine tri_cond (b := (q == 3)) (by kernel_rfl) (fun hb3 => ?_) (fun hb3 => ?_)
     ·
      skip
      have h3 := eq_of_beq hb3
      refine tri_seq ?_
      refine tri_regD hcx [] [4] [] [] [((v == 0) = true → ((v == 0) = true)), ((v == 0) = true → ((v == 0) = true)), ((v == 0) = true → ((v == 0) = true)), ((v == 0) = true → (v == 0) = true)] [(4, .bool ((v == 0) && ((l.length : Int) == 1)))] [] (by kernel_rfl) ?_ ?_
      ·
       refine (ap ?_ (ap ?_ (ap ?_ (ap (by exact id) az))))
       all_goals
        first | omega | exact id | exact vcNot | exact vcG | exact vcH | (intro _; omega) | exact (fun _ h => h) | (intro h; simp at h; omega) | (simp only [List.length_cons, List.length_nil, List.length_append, List.length_map, List.length_set, List.length_replicate]; omega) | (intro h; simp [h]; done) | (constructor <;> omega) | done
      refine fin_then ?_
      refine tri_ret ?_
      refine fin_block_ret ?_
      refine fin_then_ret ?_
      exact fin_ret [] rfl rfl trivial hcx (avs := [.bool ((v == 0) && ((l.length : Int) == 1))]) (by kernel_rfl) (congrArg AV.bool (show ((v == 0) && ((l.length : Int) == 1)) = (Fl.mayH n q v k l.length) from (by first | exact Fl.fm0 hk0 | exact Fl.fm1 hk (by omega) | exact Fl.fm2 hk (by omega) (by omega) | exact Fl.fm3 hk (by omega) | exact Fl.fm4 hk (by omega) | exact Fl.fm6 (by omega) | exact Fl.fm9 (by omega) (by omega) (by omega) (by omega) (by omega) (by omega) | done))) [] rfl
     ·
      skip
      have h3 := neB hb3
      refine tri_seq ?_
      refine tri_seq ?_
      refine tri_regD hcx [] [59] [14, 2] [] [] [(59, .bool (q == 4))] [] (by kernel_rfl) ?_ ?_
      ·
       exact az
      refine fin_then ?_
      refine tri_cond (b := (q == 4)) (by kernel_rfl) (fun hb4 => ?_) (fun hb4 => ?_)
      ·
       skip
       have h4 := eq_of_beq hb4
       refine tri_skip ?_
       refine fin_then ?_
       refine tri_cond (b := (q == 4)) (by kernel_rfl) (fun hb5 => ?_) (fun hb5 => ?_)
       ·
        skip
        have h5 := eq_of_beq hb5
        refine tri_seq ?_
        refine tri_regD hcx [] [4] [] [] [] [(4, .bool (v == 0))] [] (by kernel_rfl) ?_ ?_
        ·
         exact az
        refine fin_then ?_
        refine tri_ret ?_
        refine fin_block_ret ?_
        refine fin_then_ret ?_
        exact fin_ret [] rfl rfl trivial hcx (avs := [.bool (v == 0)]) (by kernel_rfl) (congrArg AV.bool (show (v == 0) = (Fl.mayH n q v k l.length) from (by first | exact Fl.fm0 hk0 | exact Fl.fm1 hk (by omega) | exact Fl.fm2 hk (by omega) (by omega) | exact Fl.fm3 hk (by omega) | exact Fl.fm4 hk (by omega) | exact Fl.fm6 (by omega) | exact Fl.fm9 (by omega) (by omega) (by omega) (by omega) (by omega) (by omega) | done))) [] rfl
       ·
        skip
        have h5 := neB hb5
        refine tri_seq ?_
        refine tri_regD hcx [] [65] [2] [] [] [(65, .bool (q == 6))] [] (by kernel_rfl) ?_ ?_
        ·
         exact az
        refine fin_then ?_
        refine tri_cond (b := (q == 6)) (by kernel_rfl) (fun hb6 => ?_) (fun hb6 => ?_)
        ·
         skip
         have h6 := eq_of_beq hb6
         refine tri_seq ?_
         refine tri_regD hcx [] [4] [] [] [((v == 0) = true → ((v == 0) = true)), ((v == 0) = true → ((v == 0) = true)), ((v == 0) = true → (v == 0) = true), (((v == 0) && (decide (0 ≤ k))) = true → (((v == 0) && (decide (0 ≤ k))) = true)), (((v == 0) && (decide (0 ≤ k))) = true → (((v == 0) && (decide (0 ≤ k))) = true)), (((v == 0) && (decide (0 ≤ k))) = true → ((v == 0) && (decide (0 ≤ k))) = true)] [(4, .bool (((v == 0) && (decide (0 ≤ k))) && (decide (k ≤ 1099511627776))))] [] (by kernel_rfl) ?_ ?_
         ·
          refine (ap ?_ (ap ?_ (ap (by exact id) (ap ?_ (ap ?_ (ap (by exact id) az))))))
          all_goals
           first | omega | exact id | exact vcNot | exact vcG | exact vcH | (intro _; omega) | exact (fun _ h => h) | (intro h; simp at h; omega) | (simp only [List.length_cons, List.length_nil, List.length_append, List.length_map, List.length_set, List.length_replicate]; omega) | (intro h; simp [h]; done) | (constructor <;> omega) | done
         refine fin_then ?_
         refine tri_ret ?_
         refine fin_block_ret ?_
         refine fin_then_ret ?_
         exact fin_ret [] rfl rfl trivial hcx (avs := [.bool (((v == 0) && (decide (0 ≤ k))) && (decide (k ≤ 1099511627776)))]) (by kernel_rfl) (congrArg AV.bool (show (((v == 0) && (decide (0 ≤ k))) && (decide (k ≤ 1099511627776))) = (Fl.mayH n q v k l.length) from (by first | exact Fl.fm0 hk0 | exact Fl.fm1 hk (by omega) | exact Fl.fm2 hk (by omega) (by omega) | exact Fl.fm3 hk (by omega) | exact Fl.fm4 hk (by omega) | exact Fl.fm6 (by omega) | exact Fl.fm9 (by omega) (by omega) (by omega) (by omega) (by omega) (by omega) | done))) [] rfl
        ·
         skip
         have h6 := neB hb6
         refine tri_skip ?_
         refine fin_block ?_
         refine fin_then ?_
         refine tri_seq ?_
         refine tri_regD hcx [] [4] [] [] [] [(4, .bool false)] [] (by kernel_rfl) ?_ ?_
         ·
          exact az
         refine fin_then ?_
         refine tri_ret ?_
         exact fin_ret [] rfl rfl trivial hcx (avs := [.bool false]) (by kernel_rfl) (congrArg AV.bool (show false = (Fl.mayH n q v k l.length) from (by first | exact Fl.fm0 hk0 | exact Fl.fm1 hk (by omega) | exact Fl.fm2 hk (by omega) (by omega) | exact Fl.fm3 hk (by omega) | exact Fl.fm4 hk (by omega) | exact Fl.fm6 (by omega) | exact Fl.fm9 (by omega) (by omega) (by omega) (by omega) (by omega) (by omega) | done))) [] rfl
      ·
       skip
       have h4 := neB hb4
       refine tri_regD hcx [] [59] [14, 2] [] [] [(59, .bool (q == 5))] [] (by kernel_rfl) ?_ ?_
       ·
        exact az
       refine fin_then ?_
       refine tri_cond (b := (q == 5)) (by kernel_rfl) (fun hb7 => ?_) (fun hb7 => ?_)
       ·
        skip
        have h7 := eq_of_beq hb7
        refine tri_seq ?_
        refine tri_regD hcx [] [4] [] [] [] [(4, .bool (v == 0))] [] (by kernel_rfl) ?_ ?_
        ·
         exact az
        refine fin_then ?_
        refine tri_ret ?_
        refine fin_block_ret ?_
        refine fin_then_ret ?_
        exact fin_ret [] rfl rfl trivial hcx (avs := [.bool (v == 0)]) (by kernel_rfl) (congrArg AV.bool (show (v == 0) = (Fl.mayH n q v k l.length) from (by first | exact Fl.fm0 hk0 | exact Fl.fm1 hk (by omega) | exact Fl.fm2 hk (by omega) (by omega) | exact Fl.fm3 hk (by omega) | exact Fl.fm4 hk (by omega) | exact Fl.fm6 (by omega) | exact Fl.fm9 (by omega) (by omega) (by omega) (by omega) (by omega) (by omega) | done))) [] rfl
       ·
        skip
        have h7 := neB hb7
        refine tri_seq ?_
        refine tri_regD hcx [] [65] [2] [] [] [(65, .bool (q == 6))] [] (by kernel_rfl) ?_ ?_
        ·
         exact az
        refine fin_then ?_
        refine tri_cond (b := (q == 6)) (by kernel_rfl) (fun hb8 => ?_) (fun hb8 => ?_)
        ·
         skip
         have h8 := eq_of_beq hb8
         refine tri_seq ?_
         refine tri_regD hcx [] [4] [] [] [((v == 0) = true → ((v == 0) = true)), ((v == 0) = true → ((v == 0) = true)), ((v == 0) = true → (v == 0) = true), (((v == 0) && (decide (0 ≤ k))) = true → (((v == 0) && (decide (0 ≤ k))) = true)), (((v == 0) && (decide (0 ≤ k))) = true → (((v == 0) && (decide (0 ≤ k))) = true)), (((v == 0) && (decide (0 ≤ k))) = true → ((v == 0) && (decide (0 ≤ k))) = true)] [(4, .bool (((v == 0) && (decide (0 ≤ k))) && (decide (k ≤ 1099511627776))))] [] (by kernel_rfl) ?_ ?_
         ·
          refine (ap ?_ (ap ?_ (ap (by exact id) (ap ?_ (ap ?_ (ap (by exact id) az))))))
          all_goals
           first | omega | exact id | exact vcNot | exact vcG | exact vcH | (intro _; omega) | exact (fun _ h => h) | (intro h; simp at h; omega) | (simp only [List.length_cons, List.length_nil, List.length_append, List.length_map, List.length_set, List.length_replicate]; omega) | (intro h; simp [h]; done) | (constructor <;> omega) | done
         refine fin_then ?_
         refine tri_ret ?_
         refine fin_block_ret ?_
         refine fin_then_ret ?_
         exact fin_ret [] rfl rfl trivial hcx (avs := [.bool (((v == 0) && (decide (0 ≤ k))) && (decide (k ≤ 1099511627776)))]) (by kernel_rfl) (congrArg AV.bool (show (((v == 0) && (decide (0 ≤ k))) && (decide (k ≤ 1099511627776))) = (Fl.mayH n q v k l.length) from (by first | exact Fl.fm0 hk0 | exact Fl.fm1 hk (by omega) | exact Fl.fm2 hk (by omega) (by omega) | exact Fl.fm3 hk (by omega) | exact Fl.fm4 hk (by omega) | exact Fl.fm6 (by omega) | exact Fl.fm9 (by omega) (by omega) (by omega) (by omega) (by omega) (by omega) | done))) [] rfl
        ·
         skip
         have h8 := neB hb8
         refine tri_skip ?_
         refine fin_block ?_
         refine fin_then ?_
         refine tri_seq ?_
         refine tri_regD hcx [] [4] [] [] [] [(4, .bool false)] [] (by kernel_rfl) ?_ ?_
         ·
          exact az
         refine fin_then ?_
         refine tri_ret ?_
         exact fin_ret [] rfl rfl trivial hcx (avs := [.bool false]) (by kernel_rfl) (congrArg AV.bool (show false = (Fl.mayH n q v k l.length) from (by first | exact Fl.fm0 hk0 | exact Fl.fm1 hk (by omega) | exact Fl.fm2 hk (by omega) (by omega) | exact Fl.fm3 hk (by omega) | exact Fl.fm4 hk (by omega) | exact Fl.fm6 (by omega) | exact Fl.fm9 (by omega) (by omega) (by omega) (by omega) (by omega) (by omega) | done))) [] rfl
 ·
  cases hσ
def cx_fConst : Cx := ⟨tyFlat, [(12, (coeF [.agg [.id, .id, .id, .ld (.trees [])], .ld (.bools [])] fVal_τ)), (27, (coeF [.agg [.id, .id, .id, .ld (.trees [])], .agg [.id, .id, .id, .ld (.trees [])]] fSame_τ)), (35, (coeF [.agg [.id, .id, .id, .ld (.trees [])], .id] fFormed_σ))]⟩
theorem cx_fConst_ok : CxOk Tryd.prog cx_fConst := cx_ok tyFlat_ok ⟨(fVal_sound.coe [.agg [.id, .id, .id, .ld (.trees [])], .ld (.bools [])] rfl), (fSame_sound.coe [.agg [.id, .id, .id, .ld (.trees [])], .agg [.id, .id, .id, .ld (.trees [])]] rfl), (fFormed_sound.coe [.agg [.id, .id, .id, .ld (.trees [])], .id] rfl), trivial⟩
def fConst_σ : CtF
  | [.im (.val (.int .i64 v))], [] => some (True, .agg [.int 1, .int v, .int 0, .trees []], [])
  | _, _ => none
theorem fConst_sound : Sound Tryd.prog 41 fConst_σ := by
 refine sound_mk (cx := cx_fConst) (fn := Tryd.f41) Tryd.func41 (by kernel_rfl) rfl ?_
 intro w0 G0 args os p r outs hσ hp hm0 hd0
 have hcx : CxOk Tryd.prog cx_fConst := cx_fConst_ok
 unfold fConst_σ at hσ
 split at hσ
 ·
  rename_i v
  simp only [Option.some.injEq, Prod.mk.injEq] at hσ
  obtain ⟨rfl, rfl, rfl⟩ := hσ
  obtain ⟨wW, wO, wm, wβ, wd⟩ := w0
  replace hm0 : wm = 0 := hm0
  subst hm0
  replace hd0 : wd = [] := hd0
  subst hd0
  refine ⟨by kernel_rfl, ?_⟩
  change Tri ⟨_, _, _, _, _, _⟩ [(0, .int v)] [] _ _
  refine tri_seq ?_
  refine tri_regD hcx [(1000, .to 602)] [2] [0] [] [] [(2, .loc 602 0)] [(602, .box [.int 0, .int 0, .int 0, .im (.val (.slice none 0 0))])] (by kernel_rfl) ?_ ?_
  ·
   exact az
  refine fin_then ?_
  refine tri_seq ?_
  refine tri_regD hcx [(602, .to 602)] [] [2] [] [] [] [(602, .box [.int 1, .int v, .int 0, .im (.val (.slice none 0 0))])] (by kernel_rfl) ?_ ?_
  ·
   exact az
  refine fin_then ?_
  refine tri_ret ?_
  refine fin_rowB 602 3 700 0 (.trees []) (by kernel_rfl) (by kernel_rfl) (by kernel_rfl) (by kernel_rfl) (H' := [(602, .box [.int 1, .int v, .int 0, .row 700])]) (by kernel_rfl) ?_
  refine fin_ren (ρ := [(602, .to 990), (700, .frz)]) (keys := [2]) (E' := [(2, .loc 990 0)]) (H' := [(990, .box [.int 1, .int v, .int 0, .trees []])]) (by kernel_rfl) ?_
  exact fin_ret [] rfl rfl trivial hcx (avs := [.agg [.int 1, .int v, .int 0, .trees []]]) (by kernel_rfl) rfl [] rfl
 ·
  cases hσ
def cx_fKnown : Cx := ⟨tyFlat, [(12, (coeF [.agg [.id, .id, .id, .ld (.trees [])], .ld (.bools [])] fVal_τ)), (27, (coeF [.agg [.id, .id, .id, .ld (.trees [])], .agg [.id, .id, .id, .ld (.trees [])]] fSame_τ)), (35, (coeF [.agg [.id, .id, .id, .ld (.trees [])], .id] fFormed_σ)), (41, fConst_σ)]⟩
theorem cx_fKnown_ok : CxOk Tryd.prog cx_fKnown := cx_ok tyFlat_ok ⟨(fVal_sound.coe [.agg [.id, .id, .id, .ld (.trees [])], .ld (.bools [])] rfl), (fSame_sound.coe [.agg [.id, .id, .id, .ld (.trees [])], .agg [.id, .id, .id, .ld (.trees [])]] rfl), (fFormed_sound.coe [.agg [.id, .id, .id, .ld (.trees [])], .id] rfl), fConst_sound, trivial⟩
def fKnown_σ : CtF
  | [.agg [.im (.val (.int .i64 q)), .im (.val (.int .i64 v)), .im (.val (.int .i64 k)), .im (.ls (.trees l))]], [] => some (True, .bool (q == 1), [])
  | _, _ => none
theorem fKnown_sound : Sound Tryd.prog 44 fKnown_σ := by
 refine sound_mk (cx := cx_fKnown) (fn := Tryd.f44) Tryd.func44 (by kernel_rfl) rfl ?_
 intro w0 G0 args os p r outs hσ hp hm0 hd0
 have hcx : CxOk Tryd.prog cx_fKnown := cx_fKnown_ok
 unfold fKnown_σ at hσ
 split at hσ
 ·
  rename_i q v k l
  simp only [Option.some.injEq, Prod.mk.injEq] at hσ
  obtain ⟨rfl, rfl, rfl⟩ := hσ
  obtain ⟨wW, wO, wm, wβ, wd⟩ := w0
  replace hm0 : wm = 0 := hm0
  subst hm0
  replace hd0 : wd = [] := hd0
  subst hd0
  refine ⟨by kernel_rfl, ?_⟩
  change Tri ⟨_, _, _, _, _, _⟩ [(0, .agg [.int q, .int v, .int k, .trees l])] [] _ _
  refine tri_seq ?_
  refine tri_regD hcx [(1000, .frz)] [1] [] [] [] [(1, .pto [.int q, .int v, .int k, .ls (.trees l)])] [] (by kernel_rfl) ?_ ?_
  ·
   exact az
  refine fin_then ?_
  refine tri_seq ?_
  refine tri_regD hcx [] [2] [] [] [] [(2, .bool (q == 1))] [] (by kernel_rfl) ?_ ?_
  ·
   exact az
  refine fin_then ?_
  refine tri_ret ?_
  exact fin_ret [] rfl rfl trivial hcx (avs := [.bool (q == 1)]) (by kernel_rfl) rfl [] rfl
 ·
  cases hσ
def cx_fOpen : Cx := ⟨tyFlat, [(12, (coeF [.agg [.id, .id, .id, .ld (.trees [])], .ld (.bools [])] fVal_τ)), (27, (coeF [.agg [.id, .id, .id, .ld (.trees [])], .agg [.id, .id, .id, .ld (.trees [])]] fSame_τ)), (35, (coeF [.agg [.id, .id, .id, .ld (.trees [])], .id] fFormed_σ)), (41, fConst_σ), (44, (coeF [.agg [.id, .id, .id, .ld (.trees [])]] fKnown_σ))]⟩
theorem cx_fOpen_ok : CxOk Tryd.prog cx_fOpen := cx_ok tyFlat_ok ⟨(fVal_sound.coe [.agg [.id, .id, .id, .ld (.trees [])], .ld (.bools [])] rfl), (fSame_sound.coe [.agg [.id, .id, .id, .ld (.trees [])], .agg [.id, .id, .id, .ld (.trees [])]] rfl), (fFormed_sound.coe [.agg [.id, .id, .id, .ld (.trees [])], .id] rfl), fConst_sound, (fKnown_sound.coe [.agg [.id, .id, .id, .ld (.trees [])]] rfl), trivial⟩
def fOpen_σ : CtF
  | [.agg [.im (.val (.int .i64 q)), .im (.val (.int .i64 v)), .im (.val (.int .i64 k)), .im (.ls (.trees l))]], [] => some (True, .bool (q != 1), [])
  | _, _ => none
theorem fOpen_sound : Sound Tryd.prog 45 fOpen_σ := by
 refine sound_mk (cx := cx_fOpen) (fn := Tryd.f45) Tryd.func45 (by kernel_rfl) rfl ?_
 intro w0 G0 args os p r outs hσ hp hm0 hd0
 have hcx : CxOk Tryd.prog cx_fOpen := cx_fOpen_ok
 unfold fOpen_σ at hσ
 split at hσ
 ·
  rename_i q v k l
  simp only [Option.some.injEq, Prod.mk.injEq] at hσ
  obtain ⟨rfl, rfl, rfl⟩ := hσ
  obtain ⟨wW, wO, wm, wβ, wd⟩ := w0
  replace hm0 : wm = 0 := hm0
  subst hm0
  replace hd0 : wd = [] := hd0
  subst hd0
  refine ⟨by kernel_rfl, ?_⟩
  change Tri ⟨_, _, _, _, _, _⟩ [(0, .agg [.int q, .int v, .int k, .trees l])] [] _ _
  refine tri_seq ?_
  refine tri_regD hcx [(1000, .frz)] [1] [] [] [] [(1, .pto [.int q, .int v, .int k, .ls (.trees l)])] [] (by kernel_rfl) ?_ ?_
  ·
   exact az
  refine fin_then ?_
  refine tri_seq ?_
  refine tri_regD hcx [] [2] [] [] [] [(2, .bool (q != 1))] [] (by kernel_rfl) ?_ ?_
  ·
   exact az
  refine fin_then ?_
  refine tri_ret ?_
  exact fin_ret [] rfl rfl trivial hcx (avs := [.bool (q != 1)]) (by kernel_rfl) rfl [] rfl
 ·
  cases hσ
def cx_fMade1 : Cx := ⟨tyFlat, [(12, (coeF [.agg [.id, .id, .id, .ld (.trees [])], .ld (.bools [])] fVal_τ)), (27, (coeF [.agg [.id, .id, .id, .ld (.trees [])], .agg [.id, .id, .id, .ld (.trees [])]] fSame_τ)), (35, (coeF [.agg [.id, .id, .id, .ld (.trees [])], .id] fFormed_σ)), (41, fConst_σ), (44, (coeF [.agg [.id, .id, .id, .ld (.trees [])]] fKnown_σ)), (45, (coeF [.agg [.id, .id, .id, .ld (.trees [])]] fOpen_σ))]⟩
theorem cx_fMade1_ok : CxOk Tryd.prog cx_fMade1 := cx_ok tyFlat_ok ⟨(fVal_sound.coe [.agg [.id, .id, .id, .ld (.trees [])], .ld (.bools [])] rfl), (fSame_sound.coe [.agg [.id, .id, .id, .ld (.trees [])], .agg [.id, .id, .id, .ld (.trees [])]] rfl), (fFormed_sound.coe [.agg [.id, .id, .id, .ld (.trees [])], .id] rfl), fConst_sound, (fKnown_sound.coe [.agg [.id, .id, .id, .ld (.trees [])]] rfl), (fOpen_sound.coe [.agg [.id, .id, .id, .ld (.trees [])]] rfl), trivial⟩
def fMade1_σ : CtF
  | [.agg [.im (.val (.int .i64 q)), .im (.val (.int .i64 v)), .im (.val (.int .i64 k)), .im (.ls (.trees l))]], [] => some (True, .bool ((q == 1) && (v == 1)), [])
  | _, _ => none
theorem fMade1_sound : Sound Tryd.prog 43 fMade1_σ := by
 refine sound_mk (cx := cx_fMade1) (fn := Tryd.f43) Tryd.func43 (by kernel_rfl) rfl ?_
 intro w0 G0 args os p r outs hσ hp hm0 hd0
 have hcx : CxOk Tryd.prog cx_fMade1 := cx_fMade1_ok
 unfold fMade1_σ at hσ
 split at hσ
 ·
  rename_i q v k l
  simp only [Option.some.injEq, Prod.mk.injEq] at hσ
  obtain ⟨rfl, rfl, rfl⟩ := hσ
  obtain ⟨wW, wO, wm, wβ, wd⟩ := w0
  replace hm0 : wm = 0 := hm0
  subst hm0
  replace hd0 : wd = [] := hd0
  subst hd0
  refine ⟨by kernel_rfl, ?_⟩
  change Tri ⟨_, _, _, _, _, _⟩ [(0, .agg [.int q, .int v, .int k, .trees l])] [] _ _
  refine tri_seq ?_
  refine tri_regD hcx [(1000, .frz)] [1] [] [] [] [(1, .pto [.int q, .int v, .int k, .ls (.trees l)])] [] (by kernel_rfl) ?_ ?_
  ·
   exact az
  refine fin_then ?_
  refine tri_seq ?_
  refine tri_regD hcx [] [2] [] [] [(True), ((q == 1) = true → ((q == 1) = true)), ((q == 1) = true → ((q == 1) = true)), ((q == 1) = true → (q == 1) = true)] [(2, .bool ((q == 1) && (v == 1)))] [] (by kernel_rfl) ?_ ?_
  ·
   refine (ap ?_ (ap ?_ (ap ?_ (ap (by exact id) az))))
   all_goals
    first | exact True.intro | exact hp | exact (fun _ => True.intro) | exact (fun h => h) | exact (fun _ h => h)
  refine fin_then ?_
  refine tri_ret ?_
  exact fin_ret [] rfl rfl trivial hcx (avs := [.bool ((q == 1) && (v == 1))]) (by kernel_rfl) rfl [] rfl
 ·
  cases hσ
def cx_fKpOpen : Cx := ⟨tyFlat, [(12, (coeF [.agg [.id, .id, .id, .ld (.trees [])], .ld (.bools [])] fVal_τ)), (27, (coeF [.agg [.id, .id, .id, .ld (.trees [])], .agg [.id, .id, .id, .ld (.trees [])]] fSame_τ)), (35, (coeF [.agg [.id, .id, .id, .ld (.trees [])], .id] fFormed_σ)), (41, fConst_σ), (44, (coeF [.agg [.id, .id, .id, .ld (.trees [])]] fKnown_σ)), (45, (coeF [.agg [.id, .id, .id, .ld (.trees [])]] fOpen_σ)), (43, (coeF [.agg [.id, .id, .id, .ld (.trees [])]] fMade1_σ))]⟩
theorem cx_fKpOpen_ok : CxOk Tryd.prog cx_fKpOpen := cx_ok tyFlat_ok ⟨(fVal_sound.coe [.agg [.id, .id, .id, .ld (.trees [])], .ld (.bools [])] rfl), (fSame_sound.coe [.agg [.id, .id, .id, .ld (.trees [])], .agg [.id, .id, .id, .ld (.trees [])]] rfl), (fFormed_sound.coe [.agg [.id, .id, .id, .ld (.trees [])], .id] rfl), fConst_sound, (fKnown_sound.coe [.agg [.id, .id, .id, .ld (.trees [])]] rfl), (fOpen_sound.coe [.agg [.id, .id, .id, .ld (.trees [])]] rfl), (fMade1_sound.coe [.agg [.id, .id, .id, .ld (.trees [])]] rfl), trivial⟩
def fKpOpen_σ : CtF
  | [.im (.ls (.trees s)), .clo 45 []], [] => some (s.length ≤ 2932031007317, .row 0, [some (.row 24 (.trees (s.filter (fun x : Tree => x.kind != 1))))])
  | _, _ => none
theorem fKpOpen_sound : Sound Tryd.prog 30 fKpOpen_σ := by
 refine sound_mk (cx := cx_fKpOpen) (fn := Tryd.f30) Tryd.func30 (by kernel_rfl) rfl ?_
 intro w0 G0 args os p r outs hσ hp hm0 hd0
 have hcx : CxOk Tryd.prog cx_fKpOpen := cx_fKpOpen_ok
 unfold fKpOpen_σ at hσ
 split at hσ
 ·
  rename_i s
  simp only [Option.some.injEq, Prod.mk.injEq] at hσ
  obtain ⟨rfl, rfl, rfl⟩ := hσ
  obtain ⟨wW, wO, wm, wβ, wd⟩ := w0
  replace hm0 : wm = 0 := hm0
  subst hm0
  replace hd0 : wd = [] := hd0
  subst hd0
  refine ⟨by kernel_rfl, ?_⟩
  change Tri ⟨_, _, _, _, _, _⟩ [(0, .trees s), (1, .clo 45 [])] [] _ _
  have hm9 := hp
  refine tri_seq ?_
  refine tri_regD hcx [] [4] [0, 1] [] [] [(4, .im (.val (.slice none 0 0)))] [] (by kernel_rfl) ?_ ?_
  ·
   exact az
  refine fin_then ?_
  refine tri_seq ?_
  refine tri_seq ?_
  refine tri_regD hcx [] [7, 8, 9] [4, 1] [] [] [(7, .trees s), (8, .int (s.length : Int)), (9, .int 0)] [] (by kernel_rfl) ?_ ?_
  ·
   exact az
  refine fin_then ?_
  refine tri_block ?_
  refine tri_row 4 4 24 (.trees []) (by kernel_rfl) (by kernel_rfl) (by kernel_rfl) (by kernel_rfl) (E' := [(7, .trees s), (8, .int (s.length : Int)), (9, .int 0), (4, .row 4), (1, .clo 45 [])]) (by kernel_rfl) ?_
  refine tri_loop (X := Nat) (fun x0 => x0 ≤ s.length) (fun x0 => [(1, .clo 45 []), (4, .row 4), (7, .trees s), (8, .int (s.length : Int)), (9, .int (x0 : Int))]) (fun x0 => [(4, .row 24 (.trees ((s.take x0).filter (fun x : Tree => x.kind != 1))))]) (fun x0 => s.length - x0) (0) ?_ ?_ ?_ ?_
  ·
   show 0 ≤ s.length
   omega
  ·
   exact subE_mk (l := [.clo 45 [], .row 4, .trees s, .int (s.length : Int), .int 0]) (m := [.clo 45 [], .row 4, .trees s, .int (s.length : Int), .int (0 : Int)]) (by kernel_rfl) (by kernel_rfl) (consE rfl (consE rfl (consE rfl (consE rfl (consE (congrArg AV.int (show 0 = (0 : Int) from (by first | rfl | omega | (simp; done)))) rfl)))))
  ·
   exact Eq.trans (show _ = [(4, .row 24 (.trees []))] from by kernel_rfl) (consH (congrArg (fun x => ((4 : Nat), x)) (congrArg (fun x => AObj.row 24 (.trees x)) (show [] = ((s.take 0).filter (fun x : Tree => x.kind != 1)) from (by rfl)))) rfl)
  ·
   intro i hI
   replace hI : i ≤ s.length := hI
   change Tri _ [(1, .clo 45 []), (4, .row 4), (7, .trees s), (8, .int (s.length : Int)), (9, .int (i : Int))] [(4, .row 24 (.trees ((s.take i).filter (fun x : Tree => x.kind != 1))))] _ _
   have hfl : ((s.take i).filter (fun x : Tree => x.kind != 1)).length ≤ i := Nat.le_trans (List.length_filter_le _ _) (by rw [List.length_take]; omega)
   refine tri_seq ?_
   refine tri_regD hcx [] [10] [1, 4, 7, 8, 9] [4] [] [(10, .bool (decide ((i : Int) < (s.length : Int))))] [] (by kernel_rfl) ?_ ?_
   ·
    exact az
   refine fin_then ?_
   refine tri_seq ?_
   refine tri_cond (b := (decide ((i : Int) < (s.length : Int)))) (by kernel_rfl) (fun hb0 => ?_) (fun hb0 => ?_)
   ·
    skip
    have h0 := of_decide_eq_true hb0
    refine tri_skip ?_
    refine fin_then ?_
    refine tri_seq ?_
    refine tri_block ?_
    refine tri_seq ?_
    refine tri_regD hcx [(1002, .to 606)] [6] [1, 4, 7, 8, 9] [4] [((0 : Int) ≤ (i : Int) ∧ (i : Int) < (s.length : Int))] [(6, .loc 606 0)] [(606, .box [.int ((s.getD i tree0).kind), .int ((s.getD i tree0).v), .int ((s.getD i tree0).k), .trees ((s.getD i tree0).l)])] (by kernel_rfl) ?_ ?_
    ·
     refine (ap ?_ az)
     first | omega | exact id | exact vcNot | exact vcG | exact vcH | (intro _; omega) | exact (fun _ h => h) | (intro h; simp at h; omega) | (simp only [List.length_cons, List.length_nil, List.length_append, List.length_map, List.length_set, List.length_replicate]; omega) | (intro h; simp [h]; done) | exact True.intro | (constructor <;> omega) | (simp only [List.length_cons, List.length_nil]; omega) | done
    refine fin_then ?_
    refine tri_seq ?_
    refine tri_regD hcx [] [15] [6, 1, 4, 7, 8, 9] [606, 4] [(True)] [(15, .bool (((s.getD i tree0).kind) != 1))] [] (by kernel_rfl) ?_ ?_
    ·
     refine (ap ?_ az)
     first | omega | exact id | exact vcNot | exact vcG | exact vcH | (intro _; omega) | exact (fun _ h => h) | (intro h; simp at h; omega) | (simp only [List.length_cons, List.length_nil, List.length_append, List.length_map, List.length_set, List.length_replicate]; omega) | (intro h; simp [h]; done) | exact True.intro | (constructor <;> omega) | (simp only [List.length_cons, List.length_nil]; omega) | done
    refine fin_then ?_
    refine tri_cond (b := (((s.getD i tree0).kind) != 1)) (by kernel_rfl) (fun hb1 => ?_) (fun hb1 => ?_)
    ·
     skip
     have h1 := hb1
     have hq : (fun x : Tree => x.kind != 1) (s.getD i tree0) = true := h1
     refine tri_regD hcx [(1003, .to 4)] [4] [1, 7, 8, 9] [] [((((s.take i).filter (fun x : Tree => x.kind != 1)).length + [(Tree.node ((s.getD i tree0).kind) ((s.getD i tree0).v) ((s.getD i tree0).k) ((s.getD i tree0).l))].length) * 48 ≤ 140737488355328)] [(4, .row 4)] [(4, .row 24 (.trees (((s.take i).filter (fun x : Tree => x.kind != 1)) ++ [(Tree.node ((s.getD i tree0).kind) ((s.getD i tree0).v) ((s.getD i tree0).k) ((s.getD i tree0).l))])))] (by kernel_rfl) ?_ ?_
     ·
      refine (ap ?_ az)
      first | omega | exact id | exact vcNot | exact vcG | exact vcH | (intro _; omega) | exact (fun _ h => h) | (intro h; simp at h; omega) | (simp only [List.length_cons, List.length_nil, List.length_append, List.length_map, List.length_set, List.length_replicate]; omega) | (intro h; simp [h]; done) | exact True.intro | (constructor <;> omega) | (simp only [List.length_cons, List.length_nil]; omega) | done
     refine fin_block ?_
     refine fin_then ?_
     refine tri_regD hcx [] [9] [4, 1, 7, 8] [4] [Fit ((i : Int) + 1)] [(9, .int ((i : Int) + 1))] [] (by kernel_rfl) ?_ ?_
     ·
      refine (ap ?_ az)
      first | omega | exact id | exact vcNot | exact vcG | exact vcH | (intro _; omega) | exact (fun _ h => h) | (intro h; simp at h; omega) | (simp only [List.length_cons, List.length_nil, List.length_append, List.length_map, List.length_set, List.length_replicate]; omega) | (intro h; simp [h]; done) | exact True.intro | (constructor <;> omega) | (simp only [List.length_cons, List.length_nil]; omega) | done
     refine fin_round (i + 1) ?_ ?_ ?_ ?_
     ·
      show (i + 1) ≤ s.length
      omega
     ·
      show s.length - (i + 1) < s.length - i
      omega
     ·
      exact subE_mk (l := [.clo 45 [], .row 4, .trees s, .int (s.length : Int), .int ((i : Int) + 1)]) (m := [.clo 45 [], .row 4, .trees s, .int (s.length : Int), .int ((i + 1) : Int)]) (by kernel_rfl) (by kernel_rfl) (consE rfl (consE rfl (consE rfl (consE rfl (consE (congrArg AV.int (show ((i : Int) + 1) = ((i + 1) : Int) from (by first | rfl | omega | (simp; done)))) rfl)))))
     ·
      exact Eq.trans (show _ = [(4, .row 24 (.trees (((s.take i).filter (fun x : Tree => x.kind != 1)) ++ [(Tree.node ((s.getD i tree0).kind) ((s.getD i tree0).v) ((s.getD i tree0).k) ((s.getD i tree0).l))])))] from by kernel_rfl) (consH (congrArg (fun x => ((4 : Nat), x)) (congrArg (fun x => AObj.row 24 (.trees x)) (show (((s.take i).filter (fun x : Tree => x.kind != 1)) ++ [(Tree.node ((s.getD i tree0).kind) ((s.getD i tree0).v) ((s.getD i tree0).k) ((s.getD i tree0).l))]) = ((s.take (i + 1)).filter (fun x : Tree => x.kind != 1)) from (by first | (rw [Fl.node_eta]; exact Fl.filtP_yes (by omega) hq) | exact Fl.filtP_no (by omega) hq)))) rfl)
    ·
     skip
     have h1 := hb1
     have hq : (fun x : Tree => x.kind != 1) (s.getD i tree0) = false := h1
     refine tri_skip ?_
     refine fin_block ?_
     refine fin_then ?_
     refine tri_regD hcx [] [9] [1, 4, 7, 8] [4] [Fit ((i : Int) + 1)] [(9, .int ((i : Int) + 1))] [] (by kernel_rfl) ?_ ?_
     ·
      refine (ap ?_ az)
      first | omega | exact id | exact vcNot | exact vcG | exact vcH | (intro _; omega) | exact (fun _ h => h) | (intro h; simp at h; omega) | (simp only [List.length_cons, List.length_nil, List.length_append, List.length_map, List.length_set, List.length_replicate]; omega) | (intro h; simp [h]; done) | exact True.intro | (constructor <;> omega) | (simp only [List.length_cons, List.length_nil]; omega) | done
     refine fin_round (i + 1) ?_ ?_ ?_ ?_
     ·
      show (i + 1) ≤ s.length
      omega
     ·
      show s.length - (i + 1) < s.length - i
      omega
     ·
      exact subE_mk (l := [.clo 45 [], .row 4, .trees s, .int (s.length : Int), .int ((i : Int) + 1)]) (m := [.clo 45 [], .row 4, .trees s, .int (s.length : Int), .int ((i + 1) : Int)]) (by kernel_rfl) (by kernel_rfl) (consE rfl (consE rfl (consE rfl (consE rfl (consE (congrArg AV.int (show ((i : Int) + 1) = ((i + 1) : Int) from (by first | rfl | omega | (simp; done)))) rfl)))))
     ·
      exact Eq.trans (show _ = [(4, .row 24 (.trees ((s.take i).filter (fun x : Tree => x.kind != 1))))] from by kernel_rfl) (consH (congrArg (fun x => ((4 : Nat), x)) (congrArg (fun x => AObj.row 24 (.trees x)) (show ((s.take i).filter (fun x : Tree => x.kind != 1)) = ((s.take (i + 1)).filter (fun x : Tree => x.kind != 1)) from (by first | (rw [Fl.node_eta]; exact Fl.filtP_yes (by omega) hq) | exact Fl.filtP_no (by omega) hq)))) rfl)
   ·
    skip
    have h0 := of_decide_eq_false hb0
    refine tri_exit ?_
    refine fin_then_exit ?_
    refine fin_then_exit ?_
    refine fin_block_same ?_
    refine fin_then ?_
    refine tri_seq ?_
    refine tri_regD hcx [] [4] [] [4] [] [(4, .row 4)] [] (by kernel_rfl) ?_ ?_
    ·
     exact az
    refine fin_then ?_
    refine tri_ret ?_
    refine fin_ren (ρ := [(4, .to 0)]) (keys := [4]) (E' := [(4, .row 0)]) (H' := [(0, .row 24 (.trees ((s.take i).filter (fun x : Tree => x.kind != 1))))]) (by kernel_rfl) ?_
    exact fin_ret [] rfl rfl trivial hcx (avs := [.row 0]) (by kernel_rfl) rfl [true] (Eq.trans (show _ = [some (.row 24 (.trees ((s.take i).filter (fun x : Tree => x.kind != 1))))] from by kernel_rfl) (consO (congrArg some (congrArg (fun x => AObj.row 24 (.trees x)) (show ((s.take i).filter (fun x : Tree => x.kind != 1)) = (s.filter (fun x : Tree => x.kind != 1)) from (by rw [show i = s.length by omega, List.take_length])))) rfl))
 ·
  cases hσ
def cx_fKpMade : Cx := ⟨tyFlat, [(12, (coeF [.agg [.id, .id, .id, .ld (.trees [])], .ld (.bools [])] fVal_τ)), (27, (coeF [.agg [.id, .id, .id, .ld (.trees [])], .agg [.id, .id, .id, .ld (.trees [])]] fSame_τ)), (35, (coeF [.agg [.id, .id, .id, .ld (.trees [])], .id] fFormed_σ)), (41, fConst_σ), (44, (coeF [.agg [.id, .id, .id, .ld (.trees [])]] fKnown_σ)), (45, (coeF [.agg [.id, .id, .id, .ld (.trees [])]] fOpen_σ)), (43, (coeF [.agg [.id, .id, .id, .ld (.trees [])]] fMade1_σ)), (30, (coeF [.ld (.trees []), .id] fKpOpen_σ))]⟩
theorem cx_fKpMade_ok : CxOk Tryd.prog cx_fKpMade := cx_ok tyFlat_ok ⟨(fVal_sound.coe [.agg [.id, .id, .id, .ld (.trees [])], .ld (.bools [])] rfl), (fSame_sound.coe [.agg [.id, .id, .id, .ld (.trees [])], .agg [.id, .id, .id, .ld (.trees [])]] rfl), (fFormed_sound.coe [.agg [.id, .id, .id, .ld (.trees [])], .id] rfl), fConst_sound, (fKnown_sound.coe [.agg [.id, .id, .id, .ld (.trees [])]] rfl), (fOpen_sound.coe [.agg [.id, .id, .id, .ld (.trees [])]] rfl), (fMade1_sound.coe [.agg [.id, .id, .id, .ld (.trees [])]] rfl), (fKpOpen_sound.coe [.ld (.trees []), .id] rfl), trivial⟩
def fKpMade_σ : CtF
  | [.im (.ls (.trees s)), .clo 43 []], [] => some (s.length ≤ 2932031007317, .row 0, [some (.row 24 (.trees (s.filter (fun x : Tree => (x.kind == 1) && (x.v == 1)))))])
  | _, _ => none
theorem fKpMade_sound : Sound Tryd.prog 30 fKpMade_σ := by
 refine sound_mk (cx := cx_fKpMade) (fn := Tryd.f30) Tryd.func30 (by kernel_rfl) rfl ?_
 intro w0 G0 args os p r outs hσ hp hm0 hd0
 have hcx : CxOk Tryd.prog cx_fKpMade := cx_fKpMade_ok
 unfold fKpMade_σ at hσ
 split at hσ
 ·
  rename_i s
  simp only [Option.some.injEq, Prod.mk.injEq] at hσ
  obtain ⟨rfl, rfl, rfl⟩ := hσ
  obtain ⟨wW, wO, wm, wβ, wd⟩ := w0
  replace hm0 : wm = 0 := hm0
  subst hm0
  replace hd0 : wd = [] := hd0
  subst hd0
  refine ⟨by kernel_rfl, ?_⟩
  change Tri ⟨_, _, _, _, _, _⟩ [(0, .trees s), (1, .clo 43 [])] [] _ _
  have hm9 := hp
  refine tri_seq ?_
  refine tri_regD hcx [] [4] [0, 1] [] [] [(4, .im (.val (.slice none 0 0)))] [] (by kernel_rfl) ?_ ?_
  ·
   exact az
  refine fin_then ?_
  refine tri_seq ?_
  refine tri_seq ?_
  refine tri_regD hcx [] [7, 8, 9] [4, 1] [] [] [(7, .trees s), (8, .int (s.length : Int)), (9, .int 0)] [] (by kernel_rfl) ?_ ?_
  ·
   exact az
  refine fin_then ?_
  refine tri_block ?_
  refine tri_row 4 4 24 (.trees []) (by kernel_rfl) (by kernel_rfl) (by kernel_rfl) (by kernel_rfl) (E' := [(7, .trees s), (8, .int (s.length : Int)), (9, .int 0), (4, .row 4), (1, .clo 43 [])]) (by kernel_rfl) ?_
  refine tri_loop (X := Nat) (fun x0 => x0 ≤ s.length) (fun x0 => [(1, .clo 43 []), (4, .row 4), (7, .trees s), (8, .int (s.length : Int)), (9, .int (x0 : Int))]) (fun x0 => [(4, .row 24 (.trees ((s.take x0).filter (fun x : Tree => (x.kind == 1) && (x.v == 1)))))]) (fun x0 => s.length - x0) (0) ?_ ?_ ?_ ?_
  ·
   show 0 ≤ s.length
   omega
  ·
   exact subE_mk (l := [.clo 43 [], .row 4, .trees s, .int (s.length : Int), .int 0]) (m := [.clo 43 [], .row 4, .trees s, .int (s.length : Int), .int (0 : Int)]) (by kernel_rfl) (by kernel_rfl) (consE rfl (consE rfl (consE rfl (consE rfl (consE (congrArg AV.int (show 0 = (0 : Int) from (by first | rfl | omega | (simp; done)))) rfl)))))
  ·
   exact Eq.trans (show _ = [(4, .row 24 (.trees []))] from by kernel_rfl) (consH (congrArg (fun x => ((4 : Nat), x)) (congrArg (fun x => AObj.row 24 (.trees x)) (show [] = ((s.take 0).filter (fun x : Tree => (x.kind == 1) && (x.v == 1))) from (by rfl)))) rfl)
  ·
   intro i hI
   replace hI : i ≤ s.length := hI
   change Tri _ [(1, .clo 43 []), (4, .row 4), (7, .trees s), (8, .int (s.length : Int)), (9, .int (i : Int))] [(4, .row 24 (.trees ((s.take i).filter (fun x : Tree => (x.kind == 1) && (x.v == 1)))))] _ _
   have hfl : ((s.take i).filter (fun x : Tree => (x.kind == 1) && (x.v == 1))).length ≤ i := Nat.le_trans (List.length_filter_le _ _) (by rw [List.length_take]; omega)
   refine tri_seq ?_
   refine tri_regD hcx [] [10] [1, 4, 7, 8, 9] [4] [] [(10, .bool (decide ((i : Int) < (s.length : Int))))] [] (by kernel_rfl) ?_ ?_
   ·
    exact az
   refine fin_then ?_
   refine tri_seq ?_
   refine tri_cond (b := (decide ((i : Int) < (s.length : Int)))) (by kernel_rfl) (fun hb0 => ?_) (fun hb0 => ?_)
   ·
    skip
    have h0 := of_decide_eq_true hb0
    refine tri_skip ?_
    refine fin_then ?_
    refine tri_seq ?_
    refine tri_block ?_
    refine tri_seq ?_
    refine tri_regD hcx [(1002, .to 606)] [6] [1, 4, 7, 8, 9] [4] [((0 : Int) ≤ (i : Int) ∧ (i : Int) < (s.length : Int))] [(6, .loc 606 0)] [(606, .box [.int ((s.getD i tree0).kind), .int ((s.getD i tree0).v), .int ((s.getD i tree0).k), .trees ((s.getD i tree0).l)])] (by kernel_rfl) ?_ ?_
    ·
     refine (ap ?_ az)
     first | omega | exact id | exact vcNot | exact vcG | exact vcH | (intro _; omega) | exact (fun _ h => h) | (intro h; simp at h; omega) | (simp only [List.length_cons, List.length_nil, List.length_append, List.length_map, List.length_set, List.length_replicate]; omega) | (intro h; simp [h]; done) | exact True.intro | (constructor <;> omega) | (simp only [List.length_cons, List.length_nil]; omega) | done
    refine fin_then ?_
    refine tri_seq ?_
    refine tri_regD hcx [] [15] [6, 1, 4, 7, 8, 9] [606, 4] [(True)] [(15, .bool ((((s.getD i tree0).kind) == 1) && (((s.getD i tree0).v) == 1)))] [] (by kernel_rfl) ?_ ?_
    ·
     refine (ap ?_ az)
     first | omega | exact id | exact vcNot | exact vcG | exact vcH | (intro _; omega) | exact (fun _ h => h) | (intro h; simp at h; omega) | (simp only [List.length_cons, List.length_nil, List.length_append, List.length_map, List.length_set, List.length_replicate]; omega) | (intro h; simp [h]; done) | exact True.intro | (constructor <;> omega) | (simp only [List.length_cons, List.length_nil]; omega) | done
    refine fin_then ?_
    refine tri_cond (b := ((((s.getD i tree0).kind) == 1) && (((s.getD i tree0).v) == 1))) (by kernel_rfl) (fun hb1 => ?_) (fun hb1 => ?_)
    ·
     skip
     have h1 := hb1
     have hq : (fun x : Tree => (x.kind == 1) && (x.v == 1)) (s.getD i tree0) = true := h1
     refine tri_regD hcx [(1003, .to 4)] [4] [1, 7, 8, 9] [] [((((s.take i).filter (fun x : Tree => (x.kind == 1) && (x.v == 1))).length + [(Tree.node ((s.getD i tree0).kind) ((s.getD i tree0).v) ((s.getD i tree0).k) ((s.getD i tree0).l))].length) * 48 ≤ 140737488355328)] [(4, .row 4)] [(4, .row 24 (.trees (((s.take i).filter (fun x : Tree => (x.kind == 1) && (x.v == 1))) ++ [(Tree.node ((s.getD i tree0).kind) ((s.getD i tree0).v) ((s.getD i tree0).k) ((s.getD i tree0).l))])))] (by kernel_rfl) ?_ ?_
     ·
      refine (ap ?_ az)
      first | omega | exact id | exact vcNot | exact vcG | exact vcH | (intro _; omega) | exact (fun _ h => h) | (intro h; simp at h; omega) | (simp only [List.length_cons, List.length_nil, List.length_append, List.length_map, List.length_set, List.length_replicate]; omega) | (intro h; simp [h]; done) | exact True.intro | (constructor <;> omega) | (simp only [List.length_cons, List.length_nil]; omega) | done
     refine fin_block ?_
     refine fin_then ?_
     refine tri_regD hcx [] [9] [4, 1, 7, 8] [4] [Fit ((i : Int) + 1)] [(9, .int ((i : Int) + 1))] [] (by kernel_rfl) ?_ ?_
     ·
      refine (ap ?_ az)
      first | omega | exact id | exact vcNot | exact vcG | exact vcH | (intro _; omega) | exact (fun _ h => h) | (intro h; simp at h; omega) | (simp only [List.length_cons, List.length_nil, List.length_append, List.length_map, List.length_set, List.length_replicate]; omega) | (intro h; simp [h]; done) | exact True.intro | (constructor <;> omega) | (simp only [List.length_cons, List.length_nil]; omega) | done
     refine fin_round (i + 1) ?_ ?_ ?_ ?_
     ·
      show (i + 1) ≤ s.length
      omega
     ·
      show s.length - (i + 1) < s.length - i
      omega
     ·
      exact subE_mk (l := [.clo 43 [], .row 4, .trees s, .int (s.length : Int), .int ((i : Int) + 1)]) (m := [.clo 43 [], .row 4, .trees s, .int (s.length : Int), .int ((i + 1) : Int)]) (by kernel_rfl) (by kernel_rfl) (consE rfl (consE rfl (consE rfl (consE rfl (consE (congrArg AV.int (show ((i : Int) + 1) = ((i + 1) : Int) from (by first | rfl | omega | (simp; done)))) rfl)))))
     ·
      exact Eq.trans (show _ = [(4, .row 24 (.trees (((s.take i).filter (fun x : Tree => (x.kind == 1) && (x.v == 1))) ++ [(Tree.node ((s.getD i tree0).kind) ((s.getD i tree0).v) ((s.getD i tree0).k) ((s.getD i tree0).l))])))] from by kernel_rfl) (consH (congrArg (fun x => ((4 : Nat), x)) (congrArg (fun x => AObj.row 24 (.trees x)) (show (((s.take i).filter (fun x : Tree => (x.kind == 1) && (x.v == 1))) ++ [(Tree.node ((s.getD i tree0).kind) ((s.getD i tree0).v) ((s.getD i tree0).k) ((s.getD i tree0).l))]) = ((s.take (i + 1)).filter (fun x : Tree => (x.kind == 1) && (x.v == 1))) from (by first | (rw [Fl.node_eta]; exact Fl.filtP_yes (by omega) hq) | exact Fl.filtP_no (by omega) hq)))) rfl)
    ·
     skip
     have h1 := hb1
     have hq : (fun x : Tree => (x.kind == 1) && (x.v == 1)) (s.getD i tree0) = false := h1
     refine tri_skip ?_
     refine fin_block ?_
     refine fin_then ?_
     refine tri_regD hcx [] [9] [1, 4, 7, 8] [4] [Fit ((i : Int) + 1)] [(9, .int ((i : Int) + 1))] [] (by kernel_rfl) ?_ ?_
     ·
      refine (ap ?_ az)
      first | omega | exact id | exact vcNot | exact vcG | exact vcH | (intro _; omega) | exact (fun _ h => h) | (intro h; simp at h; omega) | (simp only [List.length_cons, List.length_nil, List.length_append, List.length_map, List.length_set, List.length_replicate]; omega) | (intro h; simp [h]; done) | exact True.intro | (constructor <;> omega) | (simp only [List.length_cons, List.length_nil]; omega) | done
     refine fin_round (i + 1) ?_ ?_ ?_ ?_
     ·
      show (i + 1) ≤ s.length
      omega
     ·
      show s.length - (i + 1) < s.length - i
      omega
     ·
      exact subE_mk (l := [.clo 43 [], .row 4, .trees s, .int (s.length : Int), .int ((i : Int) + 1)]) (m := [.clo 43 [], .row 4, .trees s, .int (s.length : Int), .int ((i + 1) : Int)]) (by kernel_rfl) (by kernel_rfl) (consE rfl (consE rfl (consE rfl (consE rfl (consE (congrArg AV.int (show ((i : Int) + 1) = ((i + 1) : Int) from (by first | rfl | omega | (simp; done)))) rfl)))))
     ·
      exact Eq.trans (show _ = [(4, .row 24 (.trees ((s.take i).filter (fun x : Tree => (x.kind == 1) && (x.v == 1)))))] from by kernel_rfl) (consH (congrArg (fun x => ((4 : Nat), x)) (congrArg (fun x => AObj.row 24 (.trees x)) (show ((s.take i).filter (fun x : Tree => (x.kind == 1) && (x.v == 1))) = ((s.take (i + 1)).filter (fun x : Tree => (x.kind == 1) && (x.v == 1))) from (by first | (rw [Fl.node_eta]; exact Fl.filtP_yes (by omega) hq) | exact Fl.filtP_no (by omega) hq)))) rfl)
   ·
    skip
    have h0 := of_decide_eq_false hb0
    refine tri_exit ?_
    refine fin_then_exit ?_
    refine fin_then_exit ?_
    refine fin_block_same ?_
    refine fin_then ?_
    refine tri_seq ?_
    refine tri_regD hcx [] [4] [] [4] [] [(4, .row 4)] [] (by kernel_rfl) ?_ ?_
    ·
     exact az
    refine fin_then ?_
    refine tri_ret ?_
    refine fin_ren (ρ := [(4, .to 0)]) (keys := [4]) (E' := [(4, .row 0)]) (H' := [(0, .row 24 (.trees ((s.take i).filter (fun x : Tree => (x.kind == 1) && (x.v == 1)))))]) (by kernel_rfl) ?_
    exact fin_ret [] rfl rfl trivial hcx (avs := [.row 0]) (by kernel_rfl) rfl [true] (Eq.trans (show _ = [some (.row 24 (.trees ((s.take i).filter (fun x : Tree => (x.kind == 1) && (x.v == 1)))))] from by kernel_rfl) (consO (congrArg some (congrArg (fun x => AObj.row 24 (.trees x)) (show ((s.take i).filter (fun x : Tree => (x.kind == 1) && (x.v == 1))) = (s.filter (fun x : Tree => (x.kind == 1) && (x.v == 1))) from (by rw [show i = s.length by omega, List.take_length])))) rfl))
 ·
  cases hσ
end Go.Proofs.YtlhjliigfecihaaDoor.En
