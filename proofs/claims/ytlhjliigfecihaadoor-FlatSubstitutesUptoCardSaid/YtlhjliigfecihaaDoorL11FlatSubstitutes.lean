/- The law FlatSubstitutes of layer 11: it returns true. Conditions: lists within memory. -/
import Derived.Test.YtlhjliigfecihaaDoorLive11S
import Derived.Test.YtlhjliigfecihaaDoorLaw11P
namespace Go.Proofs.YtlhjliigfecihaaDoor.En
open Go Go.RowKit
set_option linter.unusedVariables false
set_option linter.unusedSimpArgs false
set_option linter.unnecessarySimpa false
def tyLFlatSubstitutes : List (Nat × TD) := [(3, ⟨1, false, [.int .i64 0], [], none, 8, false, 1, 1⟩),
  (4, ⟨1, false, [.bool false], [], none, 1, true, 0, 2⟩),
  (22, ⟨1, false, [.slice none 0 0], [], some 24, 24, false, 0, 0⟩),
  (24, ⟨4, true, [.int .i64 0, .int .i64 0, .int .i64 0, .slice none 0 0], [(0, 3), (1, 3), (2, 3), (3, 22)], none, 48, false, 0, 4⟩),
  (25, ⟨1, false, [.slice none 0 0], [], some 4, 24, false, 0, 0⟩),
  (31, ⟨1, false, [.int .i64 0], [], none, 8, false, 1, 1⟩),
  (36, ⟨1, false, [.slice none 0 0], [], some 3, 24, false, 0, 3⟩)]
theorem tyLFlatSubstitutes_ok : AllTy Tryd.prog tyLFlatSubstitutes := ⟨⟨by kernel_rfl, by kernel_rfl⟩, ⟨by kernel_rfl, by kernel_rfl⟩, ⟨by kernel_rfl, by kernel_rfl⟩, ⟨by kernel_rfl, by kernel_rfl⟩, ⟨by kernel_rfl, by kernel_rfl⟩, ⟨by kernel_rfl, by kernel_rfl⟩, ⟨by kernel_rfl, by kernel_rfl⟩, trivial⟩
def lPut_σ (nn : Nat) : CtF
  | [.agg [.im (.val (.int .i64 q)), .im (.val (.int .i64 v)), .im (.val (.int .i64 k)), .im (.ls (.trees l))], .im (.val (.int .i64 n)), .im (.val (.int .i64 c))], [] => some (l.length ≤ 2932031007317 ∧ Fl.lensL l ∧ Fl.sizeL l ≤ 1000000 ∧ Fl.sizeL l < nn, .agg [.int ((Fl.putT n c (.node q v k l)).kind), .int ((Fl.putT n c (.node q v k l)).v), .int ((Fl.putT n c (.node q v k l)).k), .trees ((Fl.putT n c (.node q v k l)).l)], [])
  | _, _ => none
def cx_lPut (nn : Nat) : Cx := ⟨tyLFlatSubstitutes, [(25, lV_σ), (26, lConst_σ), (21, (coeF [.id, .id, .ld (.trees [])] lOf_σ)), (20, (coeF [.agg [.id, .id, .id, .ld (.trees [])]] lNot_σ)), (15, (coeF [.agg [.id, .id, .id, .ld (.trees [])]] fSimple_σ)), (27, (coeF [.agg [.id, .id, .id, .ld (.trees [])], .agg [.id, .id, .id, .ld (.trees [])]] fSame_τ)), (12, (coeF [.agg [.id, .id, .id, .ld (.trees [])], .ld (.bools [])] fVal_τ)), (24, (coeF [.agg [.id, .id, .id, .ld (.trees [])]] fSize_σ)), (17, (coeF [.agg [.id, .id, .id, .ld (.trees [])], .id] fChk_σ)), (23, (coeF [.agg [.id, .id, .id, .ld (.trees [])]] fVars_σ)), (36, (coeF [.agg [.id, .id, .id, .ld (.trees [])], .id] rWeigh)), (10, lLive_σ), (11, (coeF [.agg [.id, .id, .id, .ld (.trees [])], .ld (.bools [])] lFew_σ)), (19, (coeF [.agg [.id, .id, .id, .ld (.trees [])]] rFew_σ)), (22, (coeF [.agg [.id, .id, .id, .ld (.trees [])], .id, .id] (lPut_σ nn)))]⟩
theorem cx_lPut_ok (nn : Nat) (hR : Sound Tryd.prog 22 (lPut_σ nn)) : CxOk Tryd.prog (cx_lPut nn) := cx_ok tyLFlatSubstitutes_ok ⟨lV_sound, lConst_sound, (lOf_sound.coe [.id, .id, .ld (.trees [])] rfl), (lNot_sound.coe [.agg [.id, .id, .id, .ld (.trees [])]] rfl), (fSimple_sound.coe [.agg [.id, .id, .id, .ld (.trees [])]] rfl), (fSame_sound.coe [.agg [.id, .id, .id, .ld (.trees [])], .agg [.id, .id, .id, .ld (.trees [])]] rfl), (fVal_sound.coe [.agg [.id, .id, .id, .ld (.trees [])], .ld (.bools [])] rfl), (fSize_sound.coe [.agg [.id, .id, .id, .ld (.trees [])]] rfl), (fChk_sound.coe [.agg [.id, .id, .id, .ld (.trees [])], .id] rfl), (fVars_sound.coe [.agg [.id, .id, .id, .ld (.trees [])]] rfl), (rWeigh_sound.coe [.agg [.id, .id, .id, .ld (.trees [])], .id] rfl), lLive_sound, (lFew_sound.coe [.agg [.id, .id, .id, .ld (.trees [])], .ld (.bools [])] rfl), (rFew_sound.coe [.agg [.id, .id, .id, .ld (.trees [])]] rfl), (hR.coe [.agg [.id, .id, .id, .ld (.trees [])], .id, .id] rfl), trivial⟩
theorem lPut_step (nn : Nat) (hR : Sound Tryd.prog 22 (lPut_σ nn)) : Sound Tryd.prog 22 (lPut_σ (nn + 1)) := by
 refine sound_mk (cx := (cx_lPut nn)) (fn := Tryd.f22) Tryd.func22 (by kernel_rfl) rfl ?_
 intro w0 G0 args os p r outs hσ hp hm0 hd0
 have hcx : CxOk Tryd.prog (cx_lPut nn) := cx_lPut_ok nn hR
 unfold lPut_σ at hσ
 split at hσ
 ·
  rename_i q v k l n c
  simp only [Option.some.injEq, Prod.mk.injEq] at hσ
  obtain ⟨rfl, rfl, rfl⟩ := hσ
  obtain ⟨wW, wO, wm, wβ, wd⟩ := w0
  replace hm0 : wm = 0 := hm0
  subst hm0
  replace hd0 : wd = [] := hd0
  subst hd0
  refine ⟨by kernel_rfl, ?_⟩
  change Tri ⟨_, _, _, _, _, _⟩ [(0, .agg [.int q, .int v, .int k, .trees l]), (1, .int n), (2, .int c)] [] _ _
  obtain ⟨hm1, hm2, hm3, hsz⟩ := hp
  have hm9 := hm1
  refine tri_seq ?_
  refine tri_regD hcx [(1000, .to 603), (1001, .to 606)] [3, 6] [1, 2] [] [] [(3, .loc 603 0), (6, .loc 606 0)] [(603, .box [.int q, .int v, .int k, .trees l]), (606, .box [.int 0, .int 0, .int 0, .im (.val (.slice none 0 0))])] (by kernel_rfl) ?_ ?_
  ·
   exact az
  refine fin_then ?_
  refine tri_seq ?_
  refine tri_seq ?_
  refine tri_regD hcx [] [17] [3, 6, 1, 2] [603, 606] [((q == 2) = true → ((q == 2) = true)), ((q == 2) = true → ((q == 2) = true)), ((q == 2) = true → ((q == 2) = true)), ((q == 2) = true → (q == 2) = true)] [(17, .bool ((q == 2) && (v == n)))] [] (by kernel_rfl) ?_ ?_
  ·
   refine (ap ?_ (ap ?_ (ap ?_ (ap (by exact id) az))))
   all_goals
    first | omega | exact id | exact vcNot | exact vcG | exact vcH | (intro _; omega) | exact (fun _ h => h) | (intro h; simp at h; omega) | (simp only [List.length_cons, List.length_nil, List.length_append, List.length_map, List.length_set, List.length_replicate]; omega) | (intro h; simp [h]; done) | (have h8 := hsub (by omega); have h7 := hlen (by omega); exact ⟨h7.1, h7.2, by omega, by omega⟩) | (constructor <;> omega) | (simp only [List.length_cons, List.length_nil]; omega) | exact True.intro | done
  refine fin_then ?_
  refine tri_cond (b := ((q == 2) && (v == n))) (by kernel_rfl) (fun hb0 => ?_) (fun hb0 => ?_)
  ·
   skip
   have h0 := hb0
   have hb := h0
   refine tri_seq ?_
   refine tri_regD hcx [(606, .to 606)] [] [6] [] [(True)] [] [(606, .box [.int 1, .int c, .int 0, .trees []])] (by kernel_rfl) ?_ ?_
   ·
    refine (ap ?_ az)
    first | omega | exact id | exact vcNot | exact vcG | exact vcH | (intro _; omega) | exact (fun _ h => h) | (intro h; simp at h; omega) | (simp only [List.length_cons, List.length_nil, List.length_append, List.length_map, List.length_set, List.length_replicate]; omega) | (intro h; simp [h]; done) | (have h8 := hsub (by omega); have h7 := hlen (by omega); exact ⟨h7.1, h7.2, by omega, by omega⟩) | (constructor <;> omega) | (simp only [List.length_cons, List.length_nil]; omega) | exact True.intro | done
   refine fin_then ?_
   refine tri_ret ?_
   refine fin_then_ret ?_
   exact fin_ret [] rfl rfl trivial hcx (avs := [.agg [.int 1, .int c, .int 0, .trees []]]) (by kernel_rfl) (congrArg AV.agg (consE (congrArg AV.int (show 1 = (Fl.putT n c (.node q v k l)).kind from (by first | (rw [Fl.put_yes hb]; rfl) | (rw [Fl.put_no hb (i := i) (by omega)]; rfl) | done))) (consE (congrArg AV.int (show c = (Fl.putT n c (.node q v k l)).v from (by first | (rw [Fl.put_yes hb]; rfl) | (rw [Fl.put_no hb (i := i) (by omega)]; rfl) | done))) (consE (congrArg AV.int (show 0 = (Fl.putT n c (.node q v k l)).k from (by first | (rw [Fl.put_yes hb]; rfl) | (rw [Fl.put_no hb (i := i) (by omega)]; rfl) | done))) (consE (congrArg AV.trees (show [] = (Fl.putT n c (.node q v k l)).l from (by first | (rw [Fl.put_yes hb]; rfl) | (rw [Fl.put_no hb (i := i) (by omega)]; rfl) | done))) rfl))))) [] rfl
  ·
   skip
   have h0 := hb0
   have hb := h0
   refine tri_skip ?_
   refine fin_then ?_
   refine tri_seq ?_
   refine tri_regD hcx [(1000, .to 220)] [7] [3, 6, 1, 2] [603, 606] [] [(7, .row 220)] [(220, .row 24 (.trees []))] (by kernel_rfl) ?_ ?_
   ·
    exact az
   refine fin_then ?_
   refine tri_seq ?_
   refine tri_seq ?_
   refine tri_regD hcx [] [8] [7, 3, 6, 1, 2] [220, 603, 606] [] [(8, .int 0)] [] (by kernel_rfl) ?_ ?_
   ·
    exact az
   refine fin_then ?_
   refine tri_block ?_
   refine tri_ren (ρ := [(603, .to 603), (606, .to 606), (220, .to 700)]) (keys := [1, 2, 3, 6, 7, 8]) (E' := [(1, .int n), (2, .int c), (3, .loc 603 0), (6, .loc 606 0), (7, .row 700), (8, .int 0)]) (H' := [(603, .box [.int q, .int v, .int k, .trees l]), (606, .box [.int 0, .int 0, .int 0, .im (.val (.slice none 0 0))]), (700, .row 24 (.trees []))]) (by kernel_rfl) ?_
   refine tri_loop (X := Nat) (fun x0 => x0 ≤ l.length) (fun x0 => [(1, .int n), (2, .int c), (3, .loc 603 0), (6, .loc 606 0), (7, .row 700), (8, .int (x0 : Int))]) (fun x0 => [(603, .box [.int q, .int v, .int k, .trees l]), (606, .box [.int 0, .int 0, .int 0, .im (.val (.slice none 0 0))]), (700, .row 24 (.trees ((l.take x0).map (Fl.putT n c))))]) (fun x0 => l.length - x0) (0) ?_ ?_ ?_ ?_
   ·
    show 0 ≤ l.length
    omega
   ·
    exact subE_mk (l := [.int n, .int c, .loc 603 0, .loc 606 0, .row 700, .int 0]) (m := [.int n, .int c, .loc 603 0, .loc 606 0, .row 700, .int (0 : Int)]) (by kernel_rfl) (by kernel_rfl) (consE rfl (consE rfl (consE rfl (consE rfl (consE rfl (consE (congrArg AV.int (show 0 = (0 : Int) from (by first | rfl | omega | (simp; done)))) rfl))))))
   ·
    exact Eq.trans (show _ = [(603, .box [.int q, .int v, .int k, .trees l]), (606, .box [.int 0, .int 0, .int 0, .im (.val (.slice none 0 0))]), (700, .row 24 (.trees []))] from by kernel_rfl) (consH rfl (consH rfl (consH (congrArg (fun x => ((700 : Nat), x)) (congrArg (fun x => AObj.row 24 (.trees x)) (show [] = ((l.take 0).map (Fl.putT n c)) from (by rfl)))) rfl)))
   ·
    intro i hI
    replace hI : i ≤ l.length := hI
    change Tri _ [(1, .int n), (2, .int c), (3, .loc 603 0), (6, .loc 606 0), (7, .row 700), (8, .int (i : Int))] [(603, .box [.int q, .int v, .int k, .trees l]), (606, .box [.int 0, .int 0, .int 0, .im (.val (.slice none 0 0))]), (700, .row 24 (.trees ((l.take i).map (Fl.putT n c))))] _ _
    have hml : (((l.take i).map (Fl.putT n c)).length) ≤ i := by rw [List.length_map, List.length_take]; omega
    have hsub : i < l.length → Fl.sizeL (l.getD i tree0).l < Fl.sizeL l := fun h => Fl.size_sub h
    have hlen : i < l.length → _ := fun h => Fl.lens_at hm2 h
    refine tri_seq ?_
    refine tri_seq ?_
    refine tri_regD hcx [] [25] [1, 2, 3, 6, 7, 8] [603, 606, 700] [] [(25, .bool (decide ((i : Int) < (l.length : Int))))] [] (by kernel_rfl) ?_ ?_
    ·
     exact az
    refine fin_then ?_
    refine tri_cond (b := (decide ((i : Int) < (l.length : Int)))) (by kernel_rfl) (fun hb1 => ?_) (fun hb1 => ?_)
    ·
     skip
     have h1 := of_decide_eq_true hb1
     refine tri_skip ?_
     refine fin_then ?_
     refine tri_seq ?_
     refine tri_block ?_
     refine tri_regD hcx [(1010, .to 700)] [7] [1, 2, 3, 6, 8] [603, 606] [((0 : Int) ≤ (i : Int) ∧ (i : Int) < (l.length : Int)), (((l.getD i tree0).l).length ≤ 2932031007317 ∧ Fl.lensL ((l.getD i tree0).l) ∧ Fl.sizeL ((l.getD i tree0).l) ≤ 1000000 ∧ Fl.sizeL ((l.getD i tree0).l) < nn), ((((l.take i).map (Fl.putT n c)).length + [(Tree.node ((Fl.putT n c (.node ((l.getD i tree0).kind) ((l.getD i tree0).v) ((l.getD i tree0).k) ((l.getD i tree0).l))).kind) ((Fl.putT n c (.node ((l.getD i tree0).kind) ((l.getD i tree0).v) ((l.getD i tree0).k) ((l.getD i tree0).l))).v) ((Fl.putT n c (.node ((l.getD i tree0).kind) ((l.getD i tree0).v) ((l.getD i tree0).k) ((l.getD i tree0).l))).k) ((Fl.putT n c (.node ((l.getD i tree0).kind) ((l.getD i tree0).v) ((l.getD i tree0).k) ((l.getD i tree0).l))).l))].length) * 48 ≤ 140737488355328)] [(7, .row 700)] [(700, .row 24 (.trees (((l.take i).map (Fl.putT n c)) ++ [(Tree.node ((Fl.putT n c (.node ((l.getD i tree0).kind) ((l.getD i tree0).v) ((l.getD i tree0).k) ((l.getD i tree0).l))).kind) ((Fl.putT n c (.node ((l.getD i tree0).kind) ((l.getD i tree0).v) ((l.getD i tree0).k) ((l.getD i tree0).l))).v) ((Fl.putT n c (.node ((l.getD i tree0).kind) ((l.getD i tree0).v) ((l.getD i tree0).k) ((l.getD i tree0).l))).k) ((Fl.putT n c (.node ((l.getD i tree0).kind) ((l.getD i tree0).v) ((l.getD i tree0).k) ((l.getD i tree0).l))).l))])))] (by kernel_rfl) ?_ ?_
     ·
      refine (ap ?_ (ap ?_ (ap ?_ az)))
      all_goals
       first | omega | exact id | exact vcNot | exact vcG | exact vcH | (intro _; omega) | exact (fun _ h => h) | (intro h; simp at h; omega) | (simp only [List.length_cons, List.length_nil, List.length_append, List.length_map, List.length_set, List.length_replicate]; omega) | (intro h; simp [h]; done) | (have h8 := hsub (by omega); have h7 := hlen (by omega); exact ⟨h7.1, h7.2, by omega, by omega⟩) | (constructor <;> omega) | (simp only [List.length_cons, List.length_nil]; omega) | exact True.intro | done
     refine fin_block ?_
     refine fin_then ?_
     refine tri_regD hcx [] [8] [7, 1, 2, 3, 6] [700, 603, 606] [Fit ((i : Int) + 1)] [(8, .int ((i : Int) + 1))] [] (by kernel_rfl) ?_ ?_
     ·
      refine (ap ?_ az)
      first | omega | exact id | exact vcNot | exact vcG | exact vcH | (intro _; omega) | exact (fun _ h => h) | (intro h; simp at h; omega) | (simp only [List.length_cons, List.length_nil, List.length_append, List.length_map, List.length_set, List.length_replicate]; omega) | (intro h; simp [h]; done) | (have h8 := hsub (by omega); have h7 := hlen (by omega); exact ⟨h7.1, h7.2, by omega, by omega⟩) | (constructor <;> omega) | (simp only [List.length_cons, List.length_nil]; omega) | exact True.intro | done
     refine fin_ren (ρ := [(603, .to 603), (606, .to 606), (700, .to 700)]) (keys := [1, 2, 3, 6, 7, 8]) (E' := [(1, .int n), (2, .int c), (3, .loc 603 0), (6, .loc 606 0), (7, .row 700), (8, .int ((i : Int) + 1))]) (H' := [(603, .box [.int q, .int v, .int k, .trees l]), (606, .box [.int 0, .int 0, .int 0, .im (.val (.slice none 0 0))]), (700, .row 24 (.trees (((l.take i).map (Fl.putT n c)) ++ [(Tree.node ((Fl.putT n c (.node ((l.getD i tree0).kind) ((l.getD i tree0).v) ((l.getD i tree0).k) ((l.getD i tree0).l))).kind) ((Fl.putT n c (.node ((l.getD i tree0).kind) ((l.getD i tree0).v) ((l.getD i tree0).k) ((l.getD i tree0).l))).v) ((Fl.putT n c (.node ((l.getD i tree0).kind) ((l.getD i tree0).v) ((l.getD i tree0).k) ((l.getD i tree0).l))).k) ((Fl.putT n c (.node ((l.getD i tree0).kind) ((l.getD i tree0).v) ((l.getD i tree0).k) ((l.getD i tree0).l))).l))])))]) (by kernel_rfl) ?_
     refine fin_round (i + 1) ?_ ?_ ?_ ?_
     ·
      show (i + 1) ≤ l.length
      omega
     ·
      show l.length - (i + 1) < l.length - i
      omega
     ·
      exact subE_mk (l := [.int n, .int c, .loc 603 0, .loc 606 0, .row 700, .int ((i : Int) + 1)]) (m := [.int n, .int c, .loc 603 0, .loc 606 0, .row 700, .int ((i + 1) : Int)]) (by kernel_rfl) (by kernel_rfl) (consE rfl (consE rfl (consE rfl (consE rfl (consE rfl (consE (congrArg AV.int (show ((i : Int) + 1) = ((i + 1) : Int) from (by first | rfl | omega | (simp; done)))) rfl))))))
     ·
      exact Eq.trans (show _ = [(603, .box [.int q, .int v, .int k, .trees l]), (606, .box [.int 0, .int 0, .int 0, .im (.val (.slice none 0 0))]), (700, .row 24 (.trees (((l.take i).map (Fl.putT n c)) ++ [(Tree.node ((Fl.putT n c (.node ((l.getD i tree0).kind) ((l.getD i tree0).v) ((l.getD i tree0).k) ((l.getD i tree0).l))).kind) ((Fl.putT n c (.node ((l.getD i tree0).kind) ((l.getD i tree0).v) ((l.getD i tree0).k) ((l.getD i tree0).l))).v) ((Fl.putT n c (.node ((l.getD i tree0).kind) ((l.getD i tree0).v) ((l.getD i tree0).k) ((l.getD i tree0).l))).k) ((Fl.putT n c (.node ((l.getD i tree0).kind) ((l.getD i tree0).v) ((l.getD i tree0).k) ((l.getD i tree0).l))).l))])))] from by kernel_rfl) (consH rfl (consH rfl (consH (congrArg (fun x => ((700 : Nat), x)) (congrArg (fun x => AObj.row 24 (.trees x)) (show (((l.take i).map (Fl.putT n c)) ++ [(Tree.node ((Fl.putT n c (.node ((l.getD i tree0).kind) ((l.getD i tree0).v) ((l.getD i tree0).k) ((l.getD i tree0).l))).kind) ((Fl.putT n c (.node ((l.getD i tree0).kind) ((l.getD i tree0).v) ((l.getD i tree0).k) ((l.getD i tree0).l))).v) ((Fl.putT n c (.node ((l.getD i tree0).kind) ((l.getD i tree0).v) ((l.getD i tree0).k) ((l.getD i tree0).l))).k) ((Fl.putT n c (.node ((l.getD i tree0).kind) ((l.getD i tree0).v) ((l.getD i tree0).k) ((l.getD i tree0).l))).l))]) = ((l.take (i + 1)).map (Fl.putT n c)) from (by (rw [Fl.node_eta, Fl.node_eta]; exact Fl.put_step (by omega)))))) rfl)))
    ·
     skip
     have h1 := of_decide_eq_false hb1
     refine tri_exit ?_
     refine fin_then_exit ?_
     refine fin_then_exit ?_
     refine fin_block_same ?_
     refine fin_then ?_
     refine tri_seq ?_
     refine tri_ren (ρ := [(603, .to 603), (606, .to 606), (700, .frz)]) (keys := [25, 1, 2, 3, 6, 7, 8]) (E' := [(25, .bool (decide ((i : Int) < (l.length : Int)))), (1, .int n), (2, .int c), (3, .loc 603 0), (6, .loc 606 0), (7, .trees ((l.take i).map (Fl.putT n c))), (8, .int (i : Int))]) (H' := [(603, .box [.int q, .int v, .int k, .trees l]), (606, .box [.int 0, .int 0, .int 0, .im (.val (.slice none 0 0))])]) (by kernel_rfl) ?_
     refine tri_regD hcx [(603, .to 603)] [] [3, 6] [606] [] [] [(603, .box [.int q, .int v, .int k, .trees ((l.take i).map (Fl.putT n c))])] (by kernel_rfl) ?_ ?_
     ·
      exact az
     refine fin_then ?_
     refine tri_seq ?_
     refine tri_regD hcx [(606, .to 606)] [] [6] [] [] [] [(606, .box [.int q, .int v, .int k, .trees ((l.take i).map (Fl.putT n c))])] (by kernel_rfl) ?_ ?_
     ·
      exact az
     refine fin_then ?_
     refine tri_ret ?_
     exact fin_ret [] rfl rfl trivial hcx (avs := [.agg [.int q, .int v, .int k, .trees ((l.take i).map (Fl.putT n c))]]) (by kernel_rfl) (congrArg AV.agg (consE (congrArg AV.int (show q = (Fl.putT n c (.node q v k l)).kind from (by first | (rw [Fl.put_yes hb]; rfl) | (rw [Fl.put_no hb (i := i) (by omega)]; rfl) | done))) (consE (congrArg AV.int (show v = (Fl.putT n c (.node q v k l)).v from (by first | (rw [Fl.put_yes hb]; rfl) | (rw [Fl.put_no hb (i := i) (by omega)]; rfl) | done))) (consE (congrArg AV.int (show k = (Fl.putT n c (.node q v k l)).k from (by first | (rw [Fl.put_yes hb]; rfl) | (rw [Fl.put_no hb (i := i) (by omega)]; rfl) | done))) (consE (congrArg AV.trees (show ((l.take i).map (Fl.putT n c)) = (Fl.putT n c (.node q v k l)).l from (by first | (rw [Fl.put_yes hb]; rfl) | (rw [Fl.put_no hb (i := i) (by omega)]; rfl) | done))) rfl))))) [] rfl
 ·
  cases hσ
theorem lPut_all : ∀ nn, Sound Tryd.prog 22 (lPut_σ nn) := sound_rec (sound_none (fn := Tryd.f22) Tryd.func22 (by kernel_rfl) rfl (fun args os p r outs hσ hp => by
  unfold lPut_σ at hσ
  split at hσ
  · simp only [Option.some.injEq, Prod.mk.injEq] at hσ
    obtain ⟨rfl, rfl, rfl⟩ := hσ
    exact absurd hp.2.2.2 (Nat.not_lt_zero _)
  · cases hσ)) lPut_step
def lPut_τ : CtF
  | [.agg [.im (.val (.int .i64 q)), .im (.val (.int .i64 v)), .im (.val (.int .i64 k)), .im (.ls (.trees l))], .im (.val (.int .i64 n)), .im (.val (.int .i64 c))], [] => some (l.length ≤ 2932031007317 ∧ Fl.lensL l ∧ Fl.sizeL l ≤ 1000000, .agg [.int ((Fl.putT n c (.node q v k l)).kind), .int ((Fl.putT n c (.node q v k l)).v), .int ((Fl.putT n c (.node q v k l)).k), .trees ((Fl.putT n c (.node q v k l)).l)], [])
  | _, _ => none
theorem lPut_sound : Sound Tryd.prog 22 lPut_τ := sound_all lPut_all (fun args os p r outs hσ hp => by
  unfold lPut_τ at hσ
  split at hσ
  · rename_i q v k l n c
    simp only [Option.some.injEq, Prod.mk.injEq] at hσ
    obtain ⟨rfl, rfl, rfl⟩ := hσ
    exact ⟨Fl.sizeL l + 1, _, rfl, ⟨hp.1, hp.2.1, hp.2.2, Nat.lt_succ_self _⟩⟩
  · cases hσ)
def cx_lFlatSubstitutes : Cx := ⟨tyLFlatSubstitutes, [(25, lV_σ), (26, lConst_σ), (21, (coeF [.id, .id, .ld (.trees [])] lOf_σ)), (20, (coeF [.agg [.id, .id, .id, .ld (.trees [])]] lNot_σ)), (15, (coeF [.agg [.id, .id, .id, .ld (.trees [])]] fSimple_σ)), (27, (coeF [.agg [.id, .id, .id, .ld (.trees [])], .agg [.id, .id, .id, .ld (.trees [])]] fSame_τ)), (12, (coeF [.agg [.id, .id, .id, .ld (.trees [])], .ld (.bools [])] fVal_τ)), (24, (coeF [.agg [.id, .id, .id, .ld (.trees [])]] fSize_σ)), (17, (coeF [.agg [.id, .id, .id, .ld (.trees [])], .id] fChk_σ)), (23, (coeF [.agg [.id, .id, .id, .ld (.trees [])]] fVars_σ)), (36, (coeF [.agg [.id, .id, .id, .ld (.trees [])], .id] rWeigh)), (10, lLive_σ), (11, (coeF [.agg [.id, .id, .id, .ld (.trees [])], .ld (.bools [])] lFew_σ)), (19, (coeF [.agg [.id, .id, .id, .ld (.trees [])]] rFew_σ)), (22, (coeF [.agg [.id, .id, .id, .ld (.trees [])], .id, .id] lPut_τ))]⟩
theorem cx_lFlatSubstitutes_ok : CxOk Tryd.prog cx_lFlatSubstitutes := cx_ok tyLFlatSubstitutes_ok ⟨lV_sound, lConst_sound, (lOf_sound.coe [.id, .id, .ld (.trees [])] rfl), (lNot_sound.coe [.agg [.id, .id, .id, .ld (.trees [])]] rfl), (fSimple_sound.coe [.agg [.id, .id, .id, .ld (.trees [])]] rfl), (fSame_sound.coe [.agg [.id, .id, .id, .ld (.trees [])], .agg [.id, .id, .id, .ld (.trees [])]] rfl), (fVal_sound.coe [.agg [.id, .id, .id, .ld (.trees [])], .ld (.bools [])] rfl), (fSize_sound.coe [.agg [.id, .id, .id, .ld (.trees [])]] rfl), (fChk_sound.coe [.agg [.id, .id, .id, .ld (.trees [])], .id] rfl), (fVars_sound.coe [.agg [.id, .id, .id, .ld (.trees [])]] rfl), (rWeigh_sound.coe [.agg [.id, .id, .id, .ld (.trees [])], .id] rfl), lLive_sound, (lFew_sound.coe [.agg [.id, .id, .id, .ld (.trees [])], .ld (.bools [])] rfl), (rFew_sound.coe [.agg [.id, .id, .id, .ld (.trees [])]] rfl), (lPut_sound.coe [.agg [.id, .id, .id, .ld (.trees [])], .id, .id] rfl), trivial⟩
def lFlatSubstitutes_σ : CtF
  | [.agg [.im (.val (.int .i64 q)), .im (.val (.int .i64 v)), .im (.val (.int .i64 k)), .im (.ls (.trees l))], .im (.val (.int .i64 n)), .im (.val (.bool is)), .im (.ls (.bools a))], [] => some (l.length ≤ 2932031007317 ∧ Fl.lensL l ∧ Fl.sizeL l ≤ 1000000 ∧ a.length ≤ maxLen, .bool true, [])
  | _, _ => none
theorem lFlatSubstitutes_sound : Sound Tryd.prog 8 lFlatSubstitutes_σ := by
 refine sound_mk (cx := cx_lFlatSubstitutes) (fn := Tryd.f8) Tryd.func8 (by kernel_rfl) rfl ?_
 intro w0 G0 args os p r outs hσ hp hm0 hd0
 have hcx : CxOk Tryd.prog cx_lFlatSubstitutes := cx_lFlatSubstitutes_ok
 have hmx : Tryd.prog.follows .mixedOrders = true := by kernel_rfl
 unfold lFlatSubstitutes_σ at hσ
 split at hσ
 ·
  rename_i q v k l n is a
  simp only [Option.some.injEq, Prod.mk.injEq] at hσ
  obtain ⟨rfl, rfl, rfl⟩ := hσ
  obtain ⟨wW, wO, wm, wβ, wd⟩ := w0
  replace hm0 : wm = 0 := hm0
  subst hm0
  replace hd0 : wd = [] := hd0
  subst hd0
  refine ⟨by kernel_rfl, ?_⟩
  change Tri ⟨_, _, _, _, _, _⟩ [(0, .agg [.int q, .int v, .int k, .trees l]), (1, .int n), (2, .bool is), (3, .bools a)] [] _ _
  obtain ⟨hm1, hm2, hsz, hm3⟩ := hp
  have hst := Fl.size_node q v k l
  obtain ⟨hvl, hpo, hys⟩ := Fl.sub_ok (q := q) (v := v) (k := k) (m := n) (is := is) hsz
  refine tri_seq ?_
  refine tri_regD hcx [(1000, .frz)] [4] [1, 2, 3] [] [] [(4, .pto [.int q, .int v, .int k, .ls (.trees l)])] [] (by kernel_rfl) ?_ ?_
  ·
   exact az
  refine fin_then ?_
  refine tri_seq ?_
  refine tri_seq ?_
  refine tri_regD hcx [] [15] [4, 1, 2, 3] [] [(True)] [(15, .bool (!true))] [] (by kernel_rfl) ?_ ?_
  ·
   refine (ap ?_ az)
   first | exact hpo | exact hys.1 | exact ⟨hys.2.1, hys.2.2, hm3⟩ | exact ⟨hm1, hm2, by simp only [List.length_append, List.length_nil, List.length_set]; unfold maxLen; omega⟩ | omega | exact id | exact vcNot | exact vcG | exact vcH | (intro _; omega) | exact (fun _ h => h) | (intro h; simp at h; omega) | (simp only [List.length_cons, List.length_nil, List.length_append, List.length_map, List.length_set, List.length_replicate]; omega) | (intro h; simp [h]; done) | exact True.intro | exact (fun _ => True.intro) | exact ⟨hm1, hm2, hsz⟩ | exact Fl.simN_lens hsz | (intro _; omega) | (simp only [List.length_append, List.length_nil, List.length_cons]; omega) | (simp only [List.length_append, List.length_nil, List.length_set]; unfold maxLen; omega) | (unfold maxLen; constructor <;> omega) | done
  refine fin_then ?_
  refine tri_cond (b := (!true)) (by kernel_rfl) (fun hb0 => ?_) (fun hb0 => ?_)
  ·
   skip
   have h0 := (notB_t hb0)
   exact absurd h0 (by decide)
  ·
   skip
   have h0 := (notB_f hb0)
   refine tri_skip ?_
   refine fin_then ?_
   refine tri_seq ?_
   refine tri_seq ?_
   refine tri_regD hcx [] [34] [4, 1, 2, 3] [] [(a.length ≤ maxLen), ((!(!(Fl.fewT l && decide ((a.length : Int) ≤ 1000)))) = true → ((!(!(Fl.fewT l && decide ((a.length : Int) ≤ 1000)))) = true)), ((!(!(Fl.fewT l && decide ((a.length : Int) ≤ 1000)))) = true → (Fl.sizeT (.node q v k l) ≤ 1000000000000000)), ((!(!(Fl.fewT l && decide ((a.length : Int) ≤ 1000)))) = true → ((!(!(Fl.fewT l && decide ((a.length : Int) ≤ 1000)))) = true)), ((!(Fl.fewT l && decide ((a.length : Int) ≤ 1000))) = false → (!(!(Fl.fewT l && decide ((a.length : Int) ≤ 1000)))) = true), ((!((!(Fl.fewT l && decide ((a.length : Int) ≤ 1000))) || ((Fl.chkN (65536 : Int) q v k l) != 0))) = true → ((!((!(Fl.fewT l && decide ((a.length : Int) ≤ 1000))) || ((Fl.chkN (65536 : Int) q v k l) != 0))) = true)), (((!(Fl.fewT l && decide ((a.length : Int) ≤ 1000))) || ((Fl.chkN (65536 : Int) q v k l) != 0)) = false → (!((!(Fl.fewT l && decide ((a.length : Int) ≤ 1000))) || ((Fl.chkN (65536 : Int) q v k l) != 0))) = true), ((!(((!(Fl.fewT l && decide ((a.length : Int) ≤ 1000))) || ((Fl.chkN (65536 : Int) q v k l) != 0)) || (decide (n < 1)))) = true → ((!(((!(Fl.fewT l && decide ((a.length : Int) ≤ 1000))) || ((Fl.chkN (65536 : Int) q v k l) != 0)) || (decide (n < 1)))) = true)), ((!(((!(Fl.fewT l && decide ((a.length : Int) ≤ 1000))) || ((Fl.chkN (65536 : Int) q v k l) != 0)) || (decide (n < 1)))) = true → ((!(((!(Fl.fewT l && decide ((a.length : Int) ≤ 1000))) || ((Fl.chkN (65536 : Int) q v k l) != 0)) || (decide (n < 1)))) = true)), ((!(((!(Fl.fewT l && decide ((a.length : Int) ≤ 1000))) || ((Fl.chkN (65536 : Int) q v k l) != 0)) || (decide (n < 1)))) = true → ((!(((!(Fl.fewT l && decide ((a.length : Int) ≤ 1000))) || ((Fl.chkN (65536 : Int) q v k l) != 0)) || (decide (n < 1)))) = true)), ((((!(Fl.fewT l && decide ((a.length : Int) ≤ 1000))) || ((Fl.chkN (65536 : Int) q v k l) != 0)) || (decide (n < 1))) = false → (!(((!(Fl.fewT l && decide ((a.length : Int) ≤ 1000))) || ((Fl.chkN (65536 : Int) q v k l) != 0)) || (decide (n < 1)))) = true)] [(34, .bool ((((!(Fl.fewT l && decide ((a.length : Int) ≤ 1000))) || ((Fl.chkN (65536 : Int) q v k l) != 0)) || (decide (n < 1))) || (decide (n ≥ (a.length : Int)))))] [] (by kernel_rfl) ?_ ?_
   ·
    refine (ap ?_ (ap ?_ (ap ?_ (ap ?_ (ap (by exact vcNot) (ap ?_ (ap (by exact vcNot) (ap ?_ (ap ?_ (ap ?_ (ap (by exact vcNot) az)))))))))))
    all_goals
     first | exact hpo | exact hys.1 | exact ⟨hys.2.1, hys.2.2, hm3⟩ | exact ⟨hm1, hm2, by simp only [List.length_append, List.length_nil, List.length_set]; unfold maxLen; omega⟩ | omega | exact id | exact vcNot | exact vcG | exact vcH | (intro _; omega) | exact (fun _ h => h) | (intro h; simp at h; omega) | (simp only [List.length_cons, List.length_nil, List.length_append, List.length_map, List.length_set, List.length_replicate]; omega) | (intro h; simp [h]; done) | exact True.intro | exact (fun _ => True.intro) | exact ⟨hm1, hm2, hsz⟩ | exact Fl.simN_lens hsz | (intro _; omega) | (simp only [List.length_append, List.length_nil, List.length_cons]; omega) | (simp only [List.length_append, List.length_nil, List.length_set]; unfold maxLen; omega) | (unfold maxLen; constructor <;> omega) | done
   refine fin_then ?_
   refine tri_cond (b := ((((!(Fl.fewT l && decide ((a.length : Int) ≤ 1000))) || ((Fl.chkN (65536 : Int) q v k l) != 0)) || (decide (n < 1))) || (decide (n ≥ (a.length : Int))))) (by kernel_rfl) (fun hb1 => ?_) (fun hb1 => ?_)
   ·
    skip
    have h1 := hb1
    skip
    refine tri_seq ?_
    refine tri_regD hcx [] [8] [] [] [] [(8, .bool true)] [] (by kernel_rfl) ?_ ?_
    ·
     exact az
    refine fin_then ?_
    refine tri_ret ?_
    refine fin_then_ret ?_
    exact fin_ret [] rfl rfl trivial hcx (avs := [.bool true]) (by kernel_rfl) rfl [] rfl
   ·
    skip
    have h1 := hb1
    obtain ⟨h0, hn1, hn2, ha1⟩ := Fl.sub_pre h1
    refine tri_skip ?_
    refine fin_then ?_
    refine tri_seq ?_
    refine tri_regD hcx [(1002, .to 237)] [9] [4, 1, 2, 3] [] [((([] : List Bool).length + a.length) * 1 ≤ 140737488355328)] [(9, .row 237)] [(237, .row 4 (.bools ([] ++ a)))] (by kernel_rfl) ?_ ?_
    ·
     refine (ap ?_ az)
     first | exact hpo | exact hys.1 | exact ⟨hys.2.1, hys.2.2, hm3⟩ | exact ⟨hm1, hm2, by simp only [List.length_append, List.length_nil, List.length_set]; unfold maxLen; omega⟩ | omega | exact id | exact vcNot | exact vcG | exact vcH | (intro _; omega) | exact (fun _ h => h) | (intro h; simp at h; omega) | (simp only [List.length_cons, List.length_nil, List.length_append, List.length_map, List.length_set, List.length_replicate]; omega) | (intro h; simp [h]; done) | exact True.intro | exact (fun _ => True.intro) | exact ⟨hm1, hm2, hsz⟩ | exact Fl.simN_lens hsz | (intro _; omega) | (simp only [List.length_append, List.length_nil, List.length_cons]; omega) | (simp only [List.length_append, List.length_nil, List.length_set]; unfold maxLen; omega) | (unfold maxLen; constructor <;> omega) | done
    refine fin_then ?_
    refine tri_seq ?_
    refine tri_regD hcx [(237, .to 237)] [] [9, 4, 1, 2, 3] [] [((0 : Int) ≤ n ∧ n < (([] ++ a).length : Int)), (n.toNat < ([] ++ a).length)] [] [(237, .row 4 (.bools (([] ++ a).set n.toNat is)))] (by kernel_rfl) ?_ ?_
    ·
     refine (ap ?_ (ap ?_ az))
     all_goals
      first | exact hpo | exact hys.1 | exact ⟨hys.2.1, hys.2.2, hm3⟩ | exact ⟨hm1, hm2, by simp only [List.length_append, List.length_nil, List.length_set]; unfold maxLen; omega⟩ | omega | exact id | exact vcNot | exact vcG | exact vcH | (intro _; omega) | exact (fun _ h => h) | (intro h; simp at h; omega) | (simp only [List.length_cons, List.length_nil, List.length_append, List.length_map, List.length_set, List.length_replicate]; omega) | (intro h; simp [h]; done) | exact True.intro | exact (fun _ => True.intro) | exact ⟨hm1, hm2, hsz⟩ | exact Fl.simN_lens hsz | (intro _; omega) | (simp only [List.length_append, List.length_nil, List.length_cons]; omega) | (simp only [List.length_append, List.length_nil, List.length_set]; unfold maxLen; omega) | (unfold maxLen; constructor <;> omega) | done
    refine fin_then ?_
    refine tri_seq ?_
    refine tri_regD hcx [] [10] [9, 4, 1, 2, 3] [237] [] [(10, .int 0)] [] (by kernel_rfl) ?_ ?_
    ·
     exact az
    refine fin_then ?_
    refine tri_join (X := Unit) (fun _ => True) (fun _ => [(10, .int (bif is then 1 else 0)), (9, .row 237), (4, .pto [.int q, .int v, .int k, .ls (.trees l)]), (1, .int n), (3, .bools a)]) (fun _ => [(237, .row 4 (.bools (([] ++ a).set n.toNat is)))]) ?_ (fun _ _ => ?_)
    ·
     skip
     refine tri_seq ?_
     refine tri_regD hcx [] [42] [10, 9, 4, 1, 3] [237] [] [(42, .bool is)] [] (by kernel_rfl) ?_ ?_
     ·
      exact az
     refine fin_then ?_
     refine tri_cond (b := is) (by kernel_rfl) (fun hb2 => ?_) (fun hb2 => ?_)
     ·
      skip
      have h2 := hb2
      refine tri_regD hcx [] [10] [9, 4, 1, 3] [237] [] [(10, .int 1)] [] (by kernel_rfl) ?_ ?_
      ·
       exact az
      refine fin_join () trivial ?_ ?_
      ·
       exact subE_mk (l := [.int 1, .row 237, .pto [.int q, .int v, .int k, .ls (.trees l)], .int n, .bools a]) (m := [.int (bif is then 1 else 0), .row 237, .pto [.int q, .int v, .int k, .ls (.trees l)], .int n, .bools a]) (by kernel_rfl) (by kernel_rfl) (consE (congrArg AV.int (show 1 = (bif is then 1 else 0) from (by simp only [hb2, cond_true, cond_false]))) rfl)
      ·
       kernel_rfl
     ·
      skip
      have h2 := hb2
      refine tri_skip ?_
      refine fin_join () trivial ?_ ?_
      ·
       exact subE_mk (l := [.int 0, .row 237, .pto [.int q, .int v, .int k, .ls (.trees l)], .int n, .bools a]) (m := [.int (bif is then 1 else 0), .row 237, .pto [.int q, .int v, .int k, .ls (.trees l)], .int n, .bools a]) (by kernel_rfl) (by kernel_rfl) (consE (congrArg AV.int (show 0 = (bif is then 1 else 0) from (by simp only [hb2, cond_true, cond_false]))) rfl)
      ·
       kernel_rfl
    refine tri_seq ?_
    refine tri_regD hcx [(1005, .to 611)] [11] [9, 4, 1, 3] [237] [(l.length ≤ 2932031007317 ∧ Fl.lensL l ∧ Fl.sizeL l ≤ 1000000), (((Fl.sbP q v k n is l).l).length ≤ 2932031007317 ∧ Fl.lensL ((Fl.sbP q v k n is l).l) ∧ Fl.sizeL ((Fl.sbP q v k n is l).l) ≤ 1000000)] [(11, .loc 611 0)] [(611, .box [.int ((Fl.sbY q v k n is l).kind), .int ((Fl.sbY q v k n is l).v), .int ((Fl.sbY q v k n is l).k), .trees ((Fl.sbY q v k n is l).l)])] (by kernel_rfl) ?_ ?_
    ·
     refine (ap ?_ (ap ?_ az))
     all_goals
      first | exact hpo | exact hys.1 | exact ⟨hys.2.1, hys.2.2, hm3⟩ | exact ⟨hm1, hm2, by simp only [List.length_append, List.length_nil, List.length_set]; unfold maxLen; omega⟩ | omega | exact id | exact vcNot | exact vcG | exact vcH | (intro _; omega) | exact (fun _ h => h) | (intro h; simp at h; omega) | (simp only [List.length_cons, List.length_nil, List.length_append, List.length_map, List.length_set, List.length_replicate]; omega) | (intro h; simp [h]; done) | exact True.intro | exact (fun _ => True.intro) | exact ⟨hm1, hm2, hsz⟩ | exact Fl.simN_lens hsz | (intro _; omega) | (simp only [List.length_append, List.length_nil, List.length_cons]; omega) | (simp only [List.length_append, List.length_nil, List.length_set]; unfold maxLen; omega) | (unfold maxLen; constructor <;> omega) | done
    refine fin_then ?_
    refine tri_seq ?_
    refine tri_regD hcx [(237, .frz), (1001, .frz)] [9, 12] [11, 4, 1, 3] [611] [(Fl.sizeT (.node ((Fl.sbY q v k n is l).kind) ((Fl.sbY q v k n is l).v) ((Fl.sbY q v k n is l).k) ((Fl.sbY q v k n is l).l)) ≤ 1000000000000)] [(9, .bools (([] ++ a).set n.toNat is)), (12, .ints (Fl.sbV q v k n is l))] [] (by kernel_rfl) ?_ ?_
    ·
     refine (ap ?_ az)
     first | exact hpo | exact hys.1 | exact ⟨hys.2.1, hys.2.2, hm3⟩ | exact ⟨hm1, hm2, by simp only [List.length_append, List.length_nil, List.length_set]; unfold maxLen; omega⟩ | omega | exact id | exact vcNot | exact vcG | exact vcH | (intro _; omega) | exact (fun _ h => h) | (intro h; simp at h; omega) | (simp only [List.length_cons, List.length_nil, List.length_append, List.length_map, List.length_set, List.length_replicate]; omega) | (intro h; simp [h]; done) | exact True.intro | exact (fun _ => True.intro) | exact ⟨hm1, hm2, hsz⟩ | exact Fl.simN_lens hsz | (intro _; omega) | (simp only [List.length_append, List.length_nil, List.length_cons]; omega) | (simp only [List.length_append, List.length_nil, List.length_set]; unfold maxLen; omega) | (unfold maxLen; constructor <;> omega) | done
    refine fin_then ?_
    refine tri_seq ?_
    refine tri_seq ?_
    refine tri_regD hcx [] [13] [9, 12, 11, 4, 1, 3] [611] [] [(13, .int 0)] [] (by kernel_rfl) ?_ ?_
    ·
     exact az
    refine fin_then ?_
    refine tri_block ?_
    refine tri_loop (X := Nat) (fun x0 => True) (fun x0 => [(1, .int n), (3, .bools a), (4, .pto [.int q, .int v, .int k, .ls (.trees l)]), (9, .bools (([] ++ a).set n.toNat is)), (11, .loc 611 0), (12, .ints (Fl.sbV q v k n is l)), (13, .int (x0 : Int))]) (fun x0 => [(611, .box [.int ((Fl.sbY q v k n is l).kind), .int ((Fl.sbY q v k n is l).v), .int ((Fl.sbY q v k n is l).k), .trees ((Fl.sbY q v k n is l).l)])]) (fun x0 => (Fl.sbV q v k n is l).length - x0) (0) ?_ ?_ ?_ ?_
    ·
     show True
     exact True.intro
    ·
     exact subE_mk (l := [.int n, .bools a, .pto [.int q, .int v, .int k, .ls (.trees l)], .bools (([] ++ a).set n.toNat is), .loc 611 0, .ints (Fl.sbV q v k n is l), .int 0]) (m := [.int n, .bools a, .pto [.int q, .int v, .int k, .ls (.trees l)], .bools (([] ++ a).set n.toNat is), .loc 611 0, .ints (Fl.sbV q v k n is l), .int (0 : Int)]) (by kernel_rfl) (by kernel_rfl) (consE rfl (consE rfl (consE rfl (consE rfl (consE rfl (consE rfl (consE (congrArg AV.int (show 0 = (0 : Int) from (by first | rfl | omega | (simp; done)))) rfl)))))))
    ·
     kernel_rfl
    ·
     intro i hI
     replace hI : True := hI
     change Tri _ [(1, .int n), (3, .bools a), (4, .pto [.int q, .int v, .int k, .ls (.trees l)]), (9, .bools (([] ++ a).set n.toNat is)), (11, .loc 611 0), (12, .ints (Fl.sbV q v k n is l)), (13, .int (i : Int))] [(611, .box [.int ((Fl.sbY q v k n is l).kind), .int ((Fl.sbY q v k n is l).v), .int ((Fl.sbY q v k n is l).k), .trees ((Fl.sbY q v k n is l).l)])] _ _
     refine tri_seq ?_
     refine tri_seq ?_
     refine tri_regD hcx [] [53] [1, 3, 4, 9, 11, 12, 13] [611] [] [(53, .bool (decide ((i : Int) < ((Fl.sbV q v k n is l).length : Int))))] [] (by kernel_rfl) ?_ ?_
     ·
      exact az
     refine fin_then ?_
     refine tri_cond (b := (decide ((i : Int) < ((Fl.sbV q v k n is l).length : Int)))) (by kernel_rfl) (fun hb3 => ?_) (fun hb3 => ?_)
     ·
      skip
      have h3 := of_decide_eq_true hb3
      refine tri_skip ?_
      refine fin_then ?_
      refine tri_seq ?_
      refine tri_block ?_
      refine tri_seq ?_
      refine tri_regD hcx [] [61] [1, 3, 4, 9, 11, 12, 13] [611] [((0 : Int) ≤ (i : Int) ∧ (i : Int) < ((Fl.sbV q v k n is l).length : Int))] [(61, .bool (((Fl.sbV q v k n is l).getD i 0) == n))] [] (by kernel_rfl) ?_ ?_
      ·
       refine (ap ?_ az)
       first | exact hpo | exact hys.1 | exact ⟨hys.2.1, hys.2.2, hm3⟩ | exact ⟨hm1, hm2, by simp only [List.length_append, List.length_nil, List.length_set]; unfold maxLen; omega⟩ | omega | exact id | exact vcNot | exact vcG | exact vcH | (intro _; omega) | exact (fun _ h => h) | (intro h; simp at h; omega) | (simp only [List.length_cons, List.length_nil, List.length_append, List.length_map, List.length_set, List.length_replicate]; omega) | (intro h; simp [h]; done) | exact True.intro | exact (fun _ => True.intro) | exact ⟨hm1, hm2, hsz⟩ | exact Fl.simN_lens hsz | (intro _; omega) | (simp only [List.length_append, List.length_nil, List.length_cons]; omega) | (simp only [List.length_append, List.length_nil, List.length_set]; unfold maxLen; omega) | (unfold maxLen; constructor <;> omega) | done
      refine fin_then ?_
      refine tri_cond (b := (((Fl.sbV q v k n is l).getD i 0) == n)) (by kernel_rfl) (fun hb4 => ?_) (fun hb4 => ?_)
      ·
       skip
       have h4 := eq_of_beq hb4
       exact (Fl.sub_no h0 (by omega) h4).elim
      ·
       skip
       have h4 := neB hb4
       refine tri_skip ?_
       refine fin_block ?_
       refine fin_then ?_
       refine tri_regD hcx [] [13] [1, 3, 4, 9, 11, 12] [611] [Fit ((i : Int) + 1)] [(13, .int ((i : Int) + 1))] [] (by kernel_rfl) ?_ ?_
       ·
        refine (ap ?_ az)
        first | exact hpo | exact hys.1 | exact ⟨hys.2.1, hys.2.2, hm3⟩ | exact ⟨hm1, hm2, by simp only [List.length_append, List.length_nil, List.length_set]; unfold maxLen; omega⟩ | omega | exact id | exact vcNot | exact vcG | exact vcH | (intro _; omega) | exact (fun _ h => h) | (intro h; simp at h; omega) | (simp only [List.length_cons, List.length_nil, List.length_append, List.length_map, List.length_set, List.length_replicate]; omega) | (intro h; simp [h]; done) | exact True.intro | exact (fun _ => True.intro) | exact ⟨hm1, hm2, hsz⟩ | exact Fl.simN_lens hsz | (intro _; omega) | (simp only [List.length_append, List.length_nil, List.length_cons]; omega) | (simp only [List.length_append, List.length_nil, List.length_set]; unfold maxLen; omega) | (unfold maxLen; constructor <;> omega) | done
       refine fin_round (i + 1) ?_ ?_ ?_ ?_
       ·
        show True
        exact True.intro
       ·
        show (Fl.sbV q v k n is l).length - (i + 1) < (Fl.sbV q v k n is l).length - i
        omega
       ·
        exact subE_mk (l := [.int n, .bools a, .pto [.int q, .int v, .int k, .ls (.trees l)], .bools (([] ++ a).set n.toNat is), .loc 611 0, .ints (Fl.sbV q v k n is l), .int ((i : Int) + 1)]) (m := [.int n, .bools a, .pto [.int q, .int v, .int k, .ls (.trees l)], .bools (([] ++ a).set n.toNat is), .loc 611 0, .ints (Fl.sbV q v k n is l), .int ((i + 1) : Int)]) (by kernel_rfl) (by kernel_rfl) (consE rfl (consE rfl (consE rfl (consE rfl (consE rfl (consE rfl (consE (congrArg AV.int (show ((i : Int) + 1) = ((i + 1) : Int) from (by first | rfl | omega | (simp; done)))) rfl)))))))
       ·
        kernel_rfl
     ·
      skip
      have h3 := of_decide_eq_false hb3
      refine tri_exit ?_
      refine fin_then_exit ?_
      refine fin_then_exit ?_
      refine fin_block_same ?_
      refine fin_then ?_
      refine tri_seq ?_
      refine tri_drawD [0, 0, 3, 0, 0, 31, 63, 127] hcx hmx [] [8] [] [] [(((Fl.sbY q v k n is l).l).length ≤ 2932031007317 ∧ Fl.lensL ((Fl.sbY q v k n is l).l) ∧ a.length ≤ maxLen), (l.length ≤ 2932031007317 ∧ Fl.lensL l ∧ (([] ++ a).set n.toNat is).length ≤ maxLen)] [(8, .bool ((Fl.valN a ((Fl.sbY q v k n is l).kind) ((Fl.sbY q v k n is l).v) ((Fl.sbY q v k n is l).k) ((Fl.sbY q v k n is l).l)) == (Fl.valN (([] ++ a).set n.toNat is) q v k l)))] [] (by kernel_rfl) ?_ ?_
      ·
       refine (ap ?_ (ap ?_ az))
       all_goals
        first | exact hpo | exact hys.1 | exact ⟨hys.2.1, hys.2.2, hm3⟩ | exact ⟨hm1, hm2, by simp only [List.length_append, List.length_nil, List.length_set]; unfold maxLen; omega⟩ | omega | exact id | exact vcNot | exact vcG | exact vcH | (intro _; omega) | exact (fun _ h => h) | (intro h; simp at h; omega) | (simp only [List.length_cons, List.length_nil, List.length_append, List.length_map, List.length_set, List.length_replicate]; omega) | (intro h; simp [h]; done) | exact True.intro | exact (fun _ => True.intro) | exact ⟨hm1, hm2, hsz⟩ | exact Fl.simN_lens hsz | (intro _; omega) | (simp only [List.length_append, List.length_nil, List.length_cons]; omega) | (simp only [List.length_append, List.length_nil, List.length_set]; unfold maxLen; omega) | (unfold maxLen; constructor <;> omega) | done
      refine fin_then ?_
      refine tri_ret ?_
      exact fin_ret [] rfl rfl trivial hcx (avs := [.bool ((Fl.valN a ((Fl.sbY q v k n is l).kind) ((Fl.sbY q v k n is l).v) ((Fl.sbY q v k n is l).k) ((Fl.sbY q v k n is l).l)) == (Fl.valN (([] ++ a).set n.toNat is) q v k l))]) (by kernel_rfl) (congrArg AV.bool (show ((Fl.valN a ((Fl.sbY q v k n is l).kind) ((Fl.sbY q v k n is l).v) ((Fl.sbY q v k n is l).k) ((Fl.sbY q v k n is l).l)) == (Fl.valN (([] ++ a).set n.toNat is) q v k l)) = true from (by exact Fl.sub_end h0 hn1 hn2))) [] rfl
 ·
  cases hσ
end Go.Proofs.YtlhjliigfecihaaDoor.En
