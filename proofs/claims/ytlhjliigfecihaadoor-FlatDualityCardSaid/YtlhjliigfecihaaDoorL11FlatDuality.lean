/- The law FlatDuality of layer 11: it returns true. Conditions: lists within memory. -/
import Derived.Test.YtlhjliigfecihaaDoorLive11S
import Derived.Test.YtlhjliigfecihaaDoorLaw11P
namespace Go.Proofs.YtlhjliigfecihaaDoor.En
open Go Go.RowKit
set_option linter.unusedVariables false
set_option linter.unusedSimpArgs false
set_option linter.unnecessarySimpa false
def tyLFlatDuality : List (Nat × TD) := [(3, ⟨1, false, [.int .i64 0], [], none, 8, false, 1, 1⟩),
  (4, ⟨1, false, [.bool false], [], none, 1, true, 0, 2⟩),
  (22, ⟨1, false, [.slice none 0 0], [], some 24, 24, false, 0, 0⟩),
  (24, ⟨4, true, [.int .i64 0, .int .i64 0, .int .i64 0, .slice none 0 0], [(0, 3), (1, 3), (2, 3), (3, 22)], none, 48, false, 0, 4⟩),
  (25, ⟨1, false, [.slice none 0 0], [], some 4, 24, false, 0, 0⟩)]
theorem tyLFlatDuality_ok : AllTy Tryd.prog tyLFlatDuality := ⟨⟨by kernel_rfl, by kernel_rfl⟩, ⟨by kernel_rfl, by kernel_rfl⟩, ⟨by kernel_rfl, by kernel_rfl⟩, ⟨by kernel_rfl, by kernel_rfl⟩, ⟨by kernel_rfl, by kernel_rfl⟩, trivial⟩
def cx_lFlatDuality : Cx := ⟨tyLFlatDuality, [(25, lV_σ), (26, lConst_σ), (21, (coeF [.id, .id, .ld (.trees [])] lOf_σ)), (20, (coeF [.agg [.id, .id, .id, .ld (.trees [])]] lNot_σ)), (15, (coeF [.agg [.id, .id, .id, .ld (.trees [])]] fSimple_σ)), (27, (coeF [.agg [.id, .id, .id, .ld (.trees [])], .agg [.id, .id, .id, .ld (.trees [])]] fSame_τ)), (12, (coeF [.agg [.id, .id, .id, .ld (.trees [])], .ld (.bools [])] fVal_τ)), (24, (coeF [.agg [.id, .id, .id, .ld (.trees [])]] fSize_σ)), (17, (coeF [.agg [.id, .id, .id, .ld (.trees [])], .id] fChk_σ)), (23, (coeF [.agg [.id, .id, .id, .ld (.trees [])]] fVars_σ)), (36, (coeF [.agg [.id, .id, .id, .ld (.trees [])], .id] rWeigh)), (10, lLive_σ), (11, (coeF [.agg [.id, .id, .id, .ld (.trees [])], .ld (.bools [])] lFew_σ)), (19, (coeF [.agg [.id, .id, .id, .ld (.trees [])]] rFew_σ))]⟩
theorem cx_lFlatDuality_ok : CxOk Tryd.prog cx_lFlatDuality := cx_ok tyLFlatDuality_ok ⟨lV_sound, lConst_sound, (lOf_sound.coe [.id, .id, .ld (.trees [])] rfl), (lNot_sound.coe [.agg [.id, .id, .id, .ld (.trees [])]] rfl), (fSimple_sound.coe [.agg [.id, .id, .id, .ld (.trees [])]] rfl), (fSame_sound.coe [.agg [.id, .id, .id, .ld (.trees [])], .agg [.id, .id, .id, .ld (.trees [])]] rfl), (fVal_sound.coe [.agg [.id, .id, .id, .ld (.trees [])], .ld (.bools [])] rfl), (fSize_sound.coe [.agg [.id, .id, .id, .ld (.trees [])]] rfl), (fChk_sound.coe [.agg [.id, .id, .id, .ld (.trees [])], .id] rfl), (fVars_sound.coe [.agg [.id, .id, .id, .ld (.trees [])]] rfl), (rWeigh_sound.coe [.agg [.id, .id, .id, .ld (.trees [])], .id] rfl), lLive_sound, (lFew_sound.coe [.agg [.id, .id, .id, .ld (.trees [])], .ld (.bools [])] rfl), (rFew_sound.coe [.agg [.id, .id, .id, .ld (.trees [])]] rfl), trivial⟩
def lFlatDuality_σ : CtF
  | [.im (.ls (.trees l)), .im (.val (.int .i64 k)), .im (.ls (.bools a))], [] => some (l.length ≤ 2932031007317 ∧ Fl.lensL l ∧ a.length ≤ maxLen ∧ Fit k, .bool true, [])
  | _, _ => none
theorem lFlatDuality_sound : Sound Tryd.prog 7 lFlatDuality_σ := by
 refine sound_mk (cx := cx_lFlatDuality) (fn := Tryd.f7) Tryd.func7 (by kernel_rfl) rfl ?_
 intro w0 G0 args os p r outs hσ hp hm0 hd0
 have hcx : CxOk Tryd.prog cx_lFlatDuality := cx_lFlatDuality_ok
 have hmx : Tryd.prog.follows .mixedOrders = true := by kernel_rfl
 unfold lFlatDuality_σ at hσ
 split at hσ
 ·
  rename_i l k a
  simp only [Option.some.injEq, Prod.mk.injEq] at hσ
  obtain ⟨rfl, rfl, rfl⟩ := hσ
  obtain ⟨wW, wO, wm, wβ, wd⟩ := w0
  replace hm0 : wm = 0 := hm0
  subst hm0
  replace hd0 : wd = [] := hd0
  subst hd0
  refine ⟨by kernel_rfl, ?_⟩
  change Tri ⟨_, _, _, _, _, _⟩ [(0, .trees l), (1, .int k), (2, .bools a)] [] _ _
  obtain ⟨hm1, hm2, hm3, hm4⟩ := hp
  have hm9 := hm1
  refine tri_seq ?_
  refine tri_regD hcx [] [] [0, 1, 2] [] [] [] [] (by kernel_rfl) ?_ ?_
  ·
   exact az
  refine fin_then ?_
  refine tri_seq ?_
  refine tri_seq ?_
  refine tri_regD hcx [] [13] [0, 1, 2] [] [(True)] [(13, .bool (!true))] [] (by kernel_rfl) ?_ ?_
  ·
   refine (ap ?_ az)
   first | omega | exact id | exact vcNot | exact vcG | exact vcH | (intro _; omega) | exact (fun _ h => h) | (intro h; simp at h; omega) | (simp only [List.length_cons, List.length_nil, List.length_append, List.length_map, List.length_set, List.length_replicate]; omega) | (intro h; simp [h]; done) | exact True.intro | exact (fun _ => True.intro) | exact ⟨by omega, hmo, hm3⟩ | exact ⟨hm1, hm2, hm3⟩ | exact ⟨(hlen (by omega)).1, (hlen (by omega)).2, hm3⟩ | exact ⟨(by simp only [List.length_cons, List.length_nil]; omega), by simp only [Fl.lensL, Fl.lensT]; exact ⟨hlen (by omega), True.intro⟩, hm3⟩ | exact (fun _ => ⟨(hlen (by omega)).1, (hlen (by omega)).2, hm3⟩) | exact (fun _ => ⟨(by simp only [List.length_cons, List.length_nil]; omega), by simp only [Fl.lensL, Fl.lensT, List.length_cons, List.length_nil]; exact ⟨⟨by omega, hlen (by omega), True.intro⟩, True.intro⟩, hm3⟩) | (intro _; constructor <;> omega) | (simp only [List.length_cons, List.length_nil]; omega) | done
  refine fin_then ?_
  refine tri_cond (b := (!true)) (by kernel_rfl) (fun hb0 => ?_) (fun hb0 => ?_)
  ·
   skip
   have h0 := (notB_t hb0)
   exact absurd h0 (by decide)
  ·
   skip
   have h0 := (notB_f hb0)
   refine tri_skip ?_
   refine fin_then ?_
   refine tri_seq ?_
   refine tri_seq ?_
   refine tri_regD hcx [] [29] [0, 1, 2] [] [((!(decide ((l.length : Int) > 20))) = true → ((!(decide ((l.length : Int) > 20))) = true)), ((!(decide ((l.length : Int) > 20))) = true → ((!(decide ((l.length : Int) > 20))) = true)), ((decide ((l.length : Int) > 20)) = false → (!(decide ((l.length : Int) > 20))) = true), ((!((decide ((l.length : Int) > 20)) || (decide ((a.length : Int) > 1000)))) = true → ((!((decide ((l.length : Int) > 20)) || (decide ((a.length : Int) > 1000)))) = true)), (((decide ((l.length : Int) > 20)) || (decide ((a.length : Int) > 1000))) = false → (!((decide ((l.length : Int) > 20)) || (decide ((a.length : Int) > 1000)))) = true), ((!(((decide ((l.length : Int) > 20)) || (decide ((a.length : Int) > 1000))) || (decide (k < (-1000))))) = true → ((!(((decide ((l.length : Int) > 20)) || (decide ((a.length : Int) > 1000))) || (decide (k < (-1000))))) = true)), ((((decide ((l.length : Int) > 20)) || (decide ((a.length : Int) > 1000))) || (decide (k < (-1000)))) = false → (!(((decide ((l.length : Int) > 20)) || (decide ((a.length : Int) > 1000))) || (decide (k < (-1000))))) = true)] [(29, .bool ((((decide ((l.length : Int) > 20)) || (decide ((a.length : Int) > 1000))) || (decide (k < (-1000)))) || (decide (k > 1000))))] [] (by kernel_rfl) ?_ ?_
   ·
    refine (ap ?_ (ap ?_ (ap (by exact vcNot) (ap ?_ (ap (by exact vcNot) (ap ?_ (ap (by exact vcNot) az)))))))
    all_goals
     first | omega | exact id | exact vcNot | exact vcG | exact vcH | (intro _; omega) | exact (fun _ h => h) | (intro h; simp at h; omega) | (simp only [List.length_cons, List.length_nil, List.length_append, List.length_map, List.length_set, List.length_replicate]; omega) | (intro h; simp [h]; done) | exact True.intro | exact (fun _ => True.intro) | exact ⟨by omega, hmo, hm3⟩ | exact ⟨hm1, hm2, hm3⟩ | exact ⟨(hlen (by omega)).1, (hlen (by omega)).2, hm3⟩ | exact ⟨(by simp only [List.length_cons, List.length_nil]; omega), by simp only [Fl.lensL, Fl.lensT]; exact ⟨hlen (by omega), True.intro⟩, hm3⟩ | exact (fun _ => ⟨(hlen (by omega)).1, (hlen (by omega)).2, hm3⟩) | exact (fun _ => ⟨(by simp only [List.length_cons, List.length_nil]; omega), by simp only [Fl.lensL, Fl.lensT, List.length_cons, List.length_nil]; exact ⟨⟨by omega, hlen (by omega), True.intro⟩, True.intro⟩, hm3⟩) | (intro _; constructor <;> omega) | (simp only [List.length_cons, List.length_nil]; omega) | done
   refine fin_then ?_
   refine tri_cond (b := ((((decide ((l.length : Int) > 20)) || (decide ((a.length : Int) > 1000))) || (decide (k < (-1000)))) || (decide (k > 1000)))) (by kernel_rfl) (fun hb1 => ?_) (fun hb1 => ?_)
   ·
    skip
    have h1 := hb1
    skip
    refine tri_seq ?_
    refine tri_regD hcx [] [6] [] [] [] [(6, .bool true)] [] (by kernel_rfl) ?_ ?_
    ·
     exact az
    refine fin_then ?_
    refine tri_ret ?_
    refine fin_then_ret ?_
    exact fin_ret [] rfl rfl trivial hcx (avs := [.bool true]) (by kernel_rfl) rfl [] rfl
   ·
    skip
    have h1 := hb1
    try simp only [Bool.or_eq_true, Bool.or_eq_false_iff, Bool.and_eq_true, Bool.and_eq_false_iff, Bool.not_eq_true', Bool.not_eq_false', decide_eq_true_eq, decide_eq_false_iff_not, bne_iff_ne, bne_eq_false_iff_eq, beq_iff_eq, beq_eq_false_iff_ne] at h1
    have hbd : l.length ≤ 20 ∧ a.length ≤ 1000 ∧ -1000 ≤ k ∧ k ≤ 1000 := by omega
    refine tri_skip ?_
    refine fin_then ?_
    refine tri_seq ?_
    refine tri_regD hcx [(1000, .to 230)] [7] [0, 1, 2] [] [] [(7, .row 230)] [(230, .row 24 (.trees []))] (by kernel_rfl) ?_ ?_
    ·
     exact az
    refine fin_then ?_
    refine tri_seq ?_
    refine tri_seq ?_
    refine tri_regD hcx [] [8] [7, 0, 1, 2] [230] [] [(8, .int 0)] [] (by kernel_rfl) ?_ ?_
    ·
     exact az
    refine fin_then ?_
    refine tri_block ?_
    refine tri_ren (ρ := [(230, .to 700)]) (keys := [0, 1, 2, 7, 8]) (E' := [(0, .trees l), (1, .int k), (2, .bools a), (7, .row 700), (8, .int 0)]) (H' := [(700, .row 24 (.trees []))]) (by kernel_rfl) ?_
    refine tri_loop (X := Nat) (fun x0 => x0 ≤ l.length) (fun x0 => [(0, .trees l), (1, .int k), (2, .bools a), (7, .row 700), (8, .int (x0 : Int))]) (fun x0 => [(700, .row 24 (.trees ((l.take x0).map Fl.notN)))]) (fun x0 => l.length - x0) (0) ?_ ?_ ?_ ?_
    ·
     show 0 ≤ l.length
     omega
    ·
     exact subE_mk (l := [.trees l, .int k, .bools a, .row 700, .int 0]) (m := [.trees l, .int k, .bools a, .row 700, .int (0 : Int)]) (by kernel_rfl) (by kernel_rfl) (consE rfl (consE rfl (consE rfl (consE rfl (consE (congrArg AV.int (show 0 = (0 : Int) from (by first | rfl | omega | (simp; done)))) rfl)))))
    ·
     exact Eq.trans (show _ = [(700, .row 24 (.trees []))] from by kernel_rfl) (consH (congrArg (fun x => ((700 : Nat), x)) (congrArg (fun x => AObj.row 24 (.trees x)) (show [] = ((l.take 0).map Fl.notN) from (by rfl)))) rfl)
    ·
     intro i hI
     replace hI : i ≤ l.length := hI
     change Tri _ [(0, .trees l), (1, .int k), (2, .bools a), (7, .row 700), (8, .int (i : Int))] [(700, .row 24 (.trees ((l.take i).map Fl.notN)))] _ _
     have hml : ((l.take i).map Fl.notN).length ≤ i := by rw [List.length_map, List.length_take]; omega
     have hmo : Fl.lensL ((l.take i).map Fl.notN) := Fl.lens_not hm2 i
     have hlen : i < l.length → _ := fun h => Fl.lens_at hm2 h
     refine tri_seq ?_
     refine tri_seq ?_
     refine tri_regD hcx [] [34] [0, 1, 2, 7, 8] [700] [] [(34, .bool (decide ((i : Int) < (l.length : Int))))] [] (by kernel_rfl) ?_ ?_
     ·
      exact az
     refine fin_then ?_
     refine tri_cond (b := (decide ((i : Int) < (l.length : Int)))) (by kernel_rfl) (fun hb2 => ?_) (fun hb2 => ?_)
     ·
      skip
      have h2 := of_decide_eq_true hb2
      refine tri_skip ?_
      refine fin_then ?_
      refine tri_seq ?_
      refine tri_block ?_
      refine tri_seq ?_
      refine tri_seq ?_
      refine tri_regD hcx [] [42] [0, 1, 2, 7, 8] [700] [((0 : Int) ≤ (i : Int) ∧ (i : Int) < (l.length : Int)), (True)] [(42, .bool (!(Fl.fewT ((l.getD i tree0).l))))] [] (by kernel_rfl) ?_ ?_
      ·
       refine (ap ?_ (ap ?_ az))
       all_goals
        first | omega | exact id | exact vcNot | exact vcG | exact vcH | (intro _; omega) | exact (fun _ h => h) | (intro h; simp at h; omega) | (simp only [List.length_cons, List.length_nil, List.length_append, List.length_map, List.length_set, List.length_replicate]; omega) | (intro h; simp [h]; done) | exact True.intro | exact (fun _ => True.intro) | exact ⟨by omega, hmo, hm3⟩ | exact ⟨hm1, hm2, hm3⟩ | exact ⟨(hlen (by omega)).1, (hlen (by omega)).2, hm3⟩ | exact ⟨(by simp only [List.length_cons, List.length_nil]; omega), by simp only [Fl.lensL, Fl.lensT]; exact ⟨hlen (by omega), True.intro⟩, hm3⟩ | exact (fun _ => ⟨(hlen (by omega)).1, (hlen (by omega)).2, hm3⟩) | exact (fun _ => ⟨(by simp only [List.length_cons, List.length_nil]; omega), by simp only [Fl.lensL, Fl.lensT, List.length_cons, List.length_nil]; exact ⟨⟨by omega, hlen (by omega), True.intro⟩, True.intro⟩, hm3⟩) | (intro _; constructor <;> omega) | (simp only [List.length_cons, List.length_nil]; omega) | done
      refine fin_then ?_
      refine tri_cond (b := (!(Fl.fewT ((l.getD i tree0).l)))) (by kernel_rfl) (fun hb3 => ?_) (fun hb3 => ?_)
      ·
       skip
       have h3 := hb3
       skip
       refine tri_seq ?_
       refine tri_regD hcx [] [6] [] [] [] [(6, .bool true)] [] (by kernel_rfl) ?_ ?_
       ·
        exact az
       refine fin_then ?_
       refine tri_ret ?_
       refine fin_then_ret ?_
       refine fin_block_ret ?_
       refine fin_then_ret ?_
       refine fin_then_ret ?_
       refine fin_block_ret ?_
       refine fin_then_ret ?_
       exact fin_ret [] rfl rfl trivial hcx (avs := [.bool true]) (by kernel_rfl) rfl [] rfl
      ·
       skip
       have h3 := hb3
       skip
       refine tri_skip ?_
       refine fin_then ?_
       refine tri_seq ?_
       refine tri_regD hcx [(1007, .to 700)] [7] [0, 1, 2, 8] [] [((0 : Int) ≤ (i : Int) ∧ (i : Int) < (l.length : Int)), (True), ((((l.take i).map Fl.notN).length + [(Tree.node 3 0 0 [Tree.node ((l.getD i tree0).kind) ((l.getD i tree0).v) ((l.getD i tree0).k) ((l.getD i tree0).l)])].length) * 48 ≤ 140737488355328)] [(7, .row 700)] [(700, .row 24 (.trees (((l.take i).map Fl.notN) ++ [(Tree.node 3 0 0 [Tree.node ((l.getD i tree0).kind) ((l.getD i tree0).v) ((l.getD i tree0).k) ((l.getD i tree0).l)])])))] (by kernel_rfl) ?_ ?_
       ·
        refine (ap ?_ (ap ?_ (ap ?_ az)))
        all_goals
         first | omega | exact id | exact vcNot | exact vcG | exact vcH | (intro _; omega) | exact (fun _ h => h) | (intro h; simp at h; omega) | (simp only [List.length_cons, List.length_nil, List.length_append, List.length_map, List.length_set, List.length_replicate]; omega) | (intro h; simp [h]; done) | exact True.intro | exact (fun _ => True.intro) | exact ⟨by omega, hmo, hm3⟩ | exact ⟨hm1, hm2, hm3⟩ | exact ⟨(hlen (by omega)).1, (hlen (by omega)).2, hm3⟩ | exact ⟨(by simp only [List.length_cons, List.length_nil]; omega), by simp only [Fl.lensL, Fl.lensT]; exact ⟨hlen (by omega), True.intro⟩, hm3⟩ | exact (fun _ => ⟨(hlen (by omega)).1, (hlen (by omega)).2, hm3⟩) | exact (fun _ => ⟨(by simp only [List.length_cons, List.length_nil]; omega), by simp only [Fl.lensL, Fl.lensT, List.length_cons, List.length_nil]; exact ⟨⟨by omega, hlen (by omega), True.intro⟩, True.intro⟩, hm3⟩) | (intro _; constructor <;> omega) | (simp only [List.length_cons, List.length_nil]; omega) | done
       refine fin_then ?_
       refine tri_seq ?_
       refine tri_drawD [0, 0, 3, 7, 15, 0, 63, 0, 0, 384, 896, 0, 4095, 8191, 16383, 32767, 32767, 131071, 262143, 524287, 1048575, 32767, 4194303, 32767, 32767, 25198591, 58753023, 32767, 268435455, 536870911, 1073741823] hcx hmx [] [81] [7, 0, 1, 2, 8] [700] [((0 : Int) ≤ (i : Int) ∧ (i : Int) < (l.length : Int)), (True), ([Tree.node ((l.getD i tree0).kind) ((l.getD i tree0).v) ((l.getD i tree0).k) ((l.getD i tree0).l)].length ≤ 2932031007317 ∧ Fl.lensL [Tree.node ((l.getD i tree0).kind) ((l.getD i tree0).v) ((l.getD i tree0).k) ((l.getD i tree0).l)] ∧ a.length ≤ maxLen), ((0 : Int) ≤ (i : Int) ∧ (i : Int) < (l.length : Int)), (((l.getD i tree0).l).length ≤ 2932031007317 ∧ Fl.lensL ((l.getD i tree0).l) ∧ a.length ≤ maxLen), ((!((Fl.valN a (3 : Int) (0 : Int) (0 : Int) [Tree.node ((l.getD i tree0).kind) ((l.getD i tree0).v) ((l.getD i tree0).k) ((l.getD i tree0).l)]) == (Fl.valN a ((l.getD i tree0).kind) ((l.getD i tree0).v) ((l.getD i tree0).k) ((l.getD i tree0).l)))) = true → ((!((Fl.valN a (3 : Int) (0 : Int) (0 : Int) [Tree.node ((l.getD i tree0).kind) ((l.getD i tree0).v) ((l.getD i tree0).k) ((l.getD i tree0).l)]) == (Fl.valN a ((l.getD i tree0).kind) ((l.getD i tree0).v) ((l.getD i tree0).k) ((l.getD i tree0).l)))) = true)), ((!((Fl.valN a (3 : Int) (0 : Int) (0 : Int) [Tree.node ((l.getD i tree0).kind) ((l.getD i tree0).v) ((l.getD i tree0).k) ((l.getD i tree0).l)]) == (Fl.valN a ((l.getD i tree0).kind) ((l.getD i tree0).v) ((l.getD i tree0).k) ((l.getD i tree0).l)))) = true → ((!((Fl.valN a (3 : Int) (0 : Int) (0 : Int) [Tree.node ((l.getD i tree0).kind) ((l.getD i tree0).v) ((l.getD i tree0).k) ((l.getD i tree0).l)]) == (Fl.valN a ((l.getD i tree0).kind) ((l.getD i tree0).v) ((l.getD i tree0).k) ((l.getD i tree0).l)))) = true)), ((!((Fl.valN a (3 : Int) (0 : Int) (0 : Int) [Tree.node ((l.getD i tree0).kind) ((l.getD i tree0).v) ((l.getD i tree0).k) ((l.getD i tree0).l)]) == (Fl.valN a ((l.getD i tree0).kind) ((l.getD i tree0).v) ((l.getD i tree0).k) ((l.getD i tree0).l)))) = true → ((0 : Int) ≤ (i : Int) ∧ (i : Int) < (l.length : Int))), ((!((Fl.valN a (3 : Int) (0 : Int) (0 : Int) [Tree.node ((l.getD i tree0).kind) ((l.getD i tree0).v) ((l.getD i tree0).k) ((l.getD i tree0).l)]) == (Fl.valN a ((l.getD i tree0).kind) ((l.getD i tree0).v) ((l.getD i tree0).k) ((l.getD i tree0).l)))) = true → ((!((Fl.valN a (3 : Int) (0 : Int) (0 : Int) [Tree.node ((l.getD i tree0).kind) ((l.getD i tree0).v) ((l.getD i tree0).k) ((l.getD i tree0).l)]) == (Fl.valN a ((l.getD i tree0).kind) ((l.getD i tree0).v) ((l.getD i tree0).k) ((l.getD i tree0).l)))) = true)), ((!((Fl.valN a (3 : Int) (0 : Int) (0 : Int) [Tree.node ((l.getD i tree0).kind) ((l.getD i tree0).v) ((l.getD i tree0).k) ((l.getD i tree0).l)]) == (Fl.valN a ((l.getD i tree0).kind) ((l.getD i tree0).v) ((l.getD i tree0).k) ((l.getD i tree0).l)))) = true → ((!((Fl.valN a (3 : Int) (0 : Int) (0 : Int) [Tree.node ((l.getD i tree0).kind) ((l.getD i tree0).v) ((l.getD i tree0).k) ((l.getD i tree0).l)]) == (Fl.valN a ((l.getD i tree0).kind) ((l.getD i tree0).v) ((l.getD i tree0).k) ((l.getD i tree0).l)))) = true)), ((!((Fl.valN a (3 : Int) (0 : Int) (0 : Int) [Tree.node ((l.getD i tree0).kind) ((l.getD i tree0).v) ((l.getD i tree0).k) ((l.getD i tree0).l)]) == (Fl.valN a ((l.getD i tree0).kind) ((l.getD i tree0).v) ((l.getD i tree0).k) ((l.getD i tree0).l)))) = true → (True)), ((!((Fl.valN a (3 : Int) (0 : Int) (0 : Int) [Tree.node ((l.getD i tree0).kind) ((l.getD i tree0).v) ((l.getD i tree0).k) ((l.getD i tree0).l)]) == (Fl.valN a ((l.getD i tree0).kind) ((l.getD i tree0).v) ((l.getD i tree0).k) ((l.getD i tree0).l)))) = true → ((!((Fl.valN a (3 : Int) (0 : Int) (0 : Int) [Tree.node ((l.getD i tree0).kind) ((l.getD i tree0).v) ((l.getD i tree0).k) ((l.getD i tree0).l)]) == (Fl.valN a ((l.getD i tree0).kind) ((l.getD i tree0).v) ((l.getD i tree0).k) ((l.getD i tree0).l)))) = true)), ((!((Fl.valN a (3 : Int) (0 : Int) (0 : Int) [Tree.node ((l.getD i tree0).kind) ((l.getD i tree0).v) ((l.getD i tree0).k) ((l.getD i tree0).l)]) == (Fl.valN a ((l.getD i tree0).kind) ((l.getD i tree0).v) ((l.getD i tree0).k) ((l.getD i tree0).l)))) = true → (True)), ((!((Fl.valN a (3 : Int) (0 : Int) (0 : Int) [Tree.node ((l.getD i tree0).kind) ((l.getD i tree0).v) ((l.getD i tree0).k) ((l.getD i tree0).l)]) == (Fl.valN a ((l.getD i tree0).kind) ((l.getD i tree0).v) ((l.getD i tree0).k) ((l.getD i tree0).l)))) = true → ((!((Fl.valN a (3 : Int) (0 : Int) (0 : Int) [Tree.node ((l.getD i tree0).kind) ((l.getD i tree0).v) ((l.getD i tree0).k) ((l.getD i tree0).l)]) == (Fl.valN a ((l.getD i tree0).kind) ((l.getD i tree0).v) ((l.getD i tree0).k) ((l.getD i tree0).l)))) = true)), ((!((Fl.valN a (3 : Int) (0 : Int) (0 : Int) [Tree.node ((l.getD i tree0).kind) ((l.getD i tree0).v) ((l.getD i tree0).k) ((l.getD i tree0).l)]) == (Fl.valN a ((l.getD i tree0).kind) ((l.getD i tree0).v) ((l.getD i tree0).k) ((l.getD i tree0).l)))) = true → ((!((Fl.valN a (3 : Int) (0 : Int) (0 : Int) [Tree.node ((l.getD i tree0).kind) ((l.getD i tree0).v) ((l.getD i tree0).k) ((l.getD i tree0).l)]) == (Fl.valN a ((l.getD i tree0).kind) ((l.getD i tree0).v) ((l.getD i tree0).k) ((l.getD i tree0).l)))) = true)), ((!((Fl.valN a (3 : Int) (0 : Int) (0 : Int) [Tree.node ((l.getD i tree0).kind) ((l.getD i tree0).v) ((l.getD i tree0).k) ((l.getD i tree0).l)]) == (Fl.valN a ((l.getD i tree0).kind) ((l.getD i tree0).v) ((l.getD i tree0).k) ((l.getD i tree0).l)))) = true → ([Tree.node (3 : Int) (0 : Int) (0 : Int) [Tree.node ((l.getD i tree0).kind) ((l.getD i tree0).v) ((l.getD i tree0).k) ((l.getD i tree0).l)]].length ≤ 2932031007317 ∧ Fl.lensL [Tree.node (3 : Int) (0 : Int) (0 : Int) [Tree.node ((l.getD i tree0).kind) ((l.getD i tree0).v) ((l.getD i tree0).k) ((l.getD i tree0).l)]] ∧ a.length ≤ maxLen)), ((!((Fl.valN a (3 : Int) (0 : Int) (0 : Int) [Tree.node ((l.getD i tree0).kind) ((l.getD i tree0).v) ((l.getD i tree0).k) ((l.getD i tree0).l)]) == (Fl.valN a ((l.getD i tree0).kind) ((l.getD i tree0).v) ((l.getD i tree0).k) ((l.getD i tree0).l)))) = true → ((!((Fl.valN a (3 : Int) (0 : Int) (0 : Int) [Tree.node ((l.getD i tree0).kind) ((l.getD i tree0).v) ((l.getD i tree0).k) ((l.getD i tree0).l)]) == (Fl.valN a ((l.getD i tree0).kind) ((l.getD i tree0).v) ((l.getD i tree0).k) ((l.getD i tree0).l)))) = true)), ((!((Fl.valN a (3 : Int) (0 : Int) (0 : Int) [Tree.node ((l.getD i tree0).kind) ((l.getD i tree0).v) ((l.getD i tree0).k) ((l.getD i tree0).l)]) == (Fl.valN a ((l.getD i tree0).kind) ((l.getD i tree0).v) ((l.getD i tree0).k) ((l.getD i tree0).l)))) = true → ((!((Fl.valN a (3 : Int) (0 : Int) (0 : Int) [Tree.node ((l.getD i tree0).kind) ((l.getD i tree0).v) ((l.getD i tree0).k) ((l.getD i tree0).l)]) == (Fl.valN a ((l.getD i tree0).kind) ((l.getD i tree0).v) ((l.getD i tree0).k) ((l.getD i tree0).l)))) = true)), ((!((Fl.valN a (3 : Int) (0 : Int) (0 : Int) [Tree.node ((l.getD i tree0).kind) ((l.getD i tree0).v) ((l.getD i tree0).k) ((l.getD i tree0).l)]) == (Fl.valN a ((l.getD i tree0).kind) ((l.getD i tree0).v) ((l.getD i tree0).k) ((l.getD i tree0).l)))) = true → ((0 : Int) ≤ (i : Int) ∧ (i : Int) < (l.length : Int))), ((!((Fl.valN a (3 : Int) (0 : Int) (0 : Int) [Tree.node ((l.getD i tree0).kind) ((l.getD i tree0).v) ((l.getD i tree0).k) ((l.getD i tree0).l)]) == (Fl.valN a ((l.getD i tree0).kind) ((l.getD i tree0).v) ((l.getD i tree0).k) ((l.getD i tree0).l)))) = true → ((!((Fl.valN a (3 : Int) (0 : Int) (0 : Int) [Tree.node ((l.getD i tree0).kind) ((l.getD i tree0).v) ((l.getD i tree0).k) ((l.getD i tree0).l)]) == (Fl.valN a ((l.getD i tree0).kind) ((l.getD i tree0).v) ((l.getD i tree0).k) ((l.getD i tree0).l)))) = true)), ((!((Fl.valN a (3 : Int) (0 : Int) (0 : Int) [Tree.node ((l.getD i tree0).kind) ((l.getD i tree0).v) ((l.getD i tree0).k) ((l.getD i tree0).l)]) == (Fl.valN a ((l.getD i tree0).kind) ((l.getD i tree0).v) ((l.getD i tree0).k) ((l.getD i tree0).l)))) = true → ((!((Fl.valN a (3 : Int) (0 : Int) (0 : Int) [Tree.node ((l.getD i tree0).kind) ((l.getD i tree0).v) ((l.getD i tree0).k) ((l.getD i tree0).l)]) == (Fl.valN a ((l.getD i tree0).kind) ((l.getD i tree0).v) ((l.getD i tree0).k) ((l.getD i tree0).l)))) = true)), ((!((Fl.valN a (3 : Int) (0 : Int) (0 : Int) [Tree.node ((l.getD i tree0).kind) ((l.getD i tree0).v) ((l.getD i tree0).k) ((l.getD i tree0).l)]) == (Fl.valN a ((l.getD i tree0).kind) ((l.getD i tree0).v) ((l.getD i tree0).k) ((l.getD i tree0).l)))) = true → ((!((Fl.valN a (3 : Int) (0 : Int) (0 : Int) [Tree.node ((l.getD i tree0).kind) ((l.getD i tree0).v) ((l.getD i tree0).k) ((l.getD i tree0).l)]) == (Fl.valN a ((l.getD i tree0).kind) ((l.getD i tree0).v) ((l.getD i tree0).k) ((l.getD i tree0).l)))) = true)), ((!((Fl.valN a (3 : Int) (0 : Int) (0 : Int) [Tree.node ((l.getD i tree0).kind) ((l.getD i tree0).v) ((l.getD i tree0).k) ((l.getD i tree0).l)]) == (Fl.valN a ((l.getD i tree0).kind) ((l.getD i tree0).v) ((l.getD i tree0).k) ((l.getD i tree0).l)))) = true → (((l.getD i tree0).l).length ≤ 2932031007317 ∧ Fl.lensL ((l.getD i tree0).l) ∧ a.length ≤ maxLen)), ((!((Fl.valN a (3 : Int) (0 : Int) (0 : Int) [Tree.node ((l.getD i tree0).kind) ((l.getD i tree0).v) ((l.getD i tree0).k) ((l.getD i tree0).l)]) == (Fl.valN a ((l.getD i tree0).kind) ((l.getD i tree0).v) ((l.getD i tree0).k) ((l.getD i tree0).l)))) = true → ((!((Fl.valN a (3 : Int) (0 : Int) (0 : Int) [Tree.node ((l.getD i tree0).kind) ((l.getD i tree0).v) ((l.getD i tree0).k) ((l.getD i tree0).l)]) == (Fl.valN a ((l.getD i tree0).kind) ((l.getD i tree0).v) ((l.getD i tree0).k) ((l.getD i tree0).l)))) = true)), ((!((Fl.valN a (3 : Int) (0 : Int) (0 : Int) [Tree.node ((l.getD i tree0).kind) ((l.getD i tree0).v) ((l.getD i tree0).k) ((l.getD i tree0).l)]) == (Fl.valN a ((l.getD i tree0).kind) ((l.getD i tree0).v) ((l.getD i tree0).k) ((l.getD i tree0).l)))) = true → ((!((Fl.valN a (3 : Int) (0 : Int) (0 : Int) [Tree.node ((l.getD i tree0).kind) ((l.getD i tree0).v) ((l.getD i tree0).k) ((l.getD i tree0).l)]) == (Fl.valN a ((l.getD i tree0).kind) ((l.getD i tree0).v) ((l.getD i tree0).k) ((l.getD i tree0).l)))) = true)), (((Fl.valN a (3 : Int) (0 : Int) (0 : Int) [Tree.node ((l.getD i tree0).kind) ((l.getD i tree0).v) ((l.getD i tree0).k) ((l.getD i tree0).l)]) == (Fl.valN a ((l.getD i tree0).kind) ((l.getD i tree0).v) ((l.getD i tree0).k) ((l.getD i tree0).l))) = false → (!((Fl.valN a (3 : Int) (0 : Int) (0 : Int) [Tree.node ((l.getD i tree0).kind) ((l.getD i tree0).v) ((l.getD i tree0).k) ((l.getD i tree0).l)]) == (Fl.valN a ((l.getD i tree0).kind) ((l.getD i tree0).v) ((l.getD i tree0).k) ((l.getD i tree0).l)))) = true)] [(81, .bool (((Fl.valN a (3 : Int) (0 : Int) (0 : Int) [Tree.node ((l.getD i tree0).kind) ((l.getD i tree0).v) ((l.getD i tree0).k) ((l.getD i tree0).l)]) == (Fl.valN a ((l.getD i tree0).kind) ((l.getD i tree0).v) ((l.getD i tree0).k) ((l.getD i tree0).l))) || (!((Fl.valN a (3 : Int) (0 : Int) (0 : Int) [Tree.node (3 : Int) (0 : Int) (0 : Int) [Tree.node ((l.getD i tree0).kind) ((l.getD i tree0).v) ((l.getD i tree0).k) ((l.getD i tree0).l)]]) == (Fl.valN a ((l.getD i tree0).kind) ((l.getD i tree0).v) ((l.getD i tree0).k) ((l.getD i tree0).l))))))] [] (by kernel_rfl) ?_ ?_
       ·
        refine (ap ?_ (ap ?_ (ap ?_ (ap ?_ (ap ?_ (ap ?_ (ap ?_ (ap ?_ (ap ?_ (ap ?_ (ap ?_ (ap ?_ (ap ?_ (ap ?_ (ap ?_ (ap ?_ (ap ?_ (ap ?_ (ap ?_ (ap ?_ (ap ?_ (ap ?_ (ap ?_ (ap ?_ (ap ?_ (ap (by exact vcNot) az))))))))))))))))))))))))))
        all_goals
         first | omega | exact id | exact vcNot | exact vcG | exact vcH | (intro _; omega) | exact (fun _ h => h) | (intro h; simp at h; omega) | (simp only [List.length_cons, List.length_nil, List.length_append, List.length_map, List.length_set, List.length_replicate]; omega) | (intro h; simp [h]; done) | exact True.intro | exact (fun _ => True.intro) | exact ⟨by omega, hmo, hm3⟩ | exact ⟨hm1, hm2, hm3⟩ | exact ⟨(hlen (by omega)).1, (hlen (by omega)).2, hm3⟩ | exact ⟨(by simp only [List.length_cons, List.length_nil]; omega), by simp only [Fl.lensL, Fl.lensT]; exact ⟨hlen (by omega), True.intro⟩, hm3⟩ | exact (fun _ => ⟨(hlen (by omega)).1, (hlen (by omega)).2, hm3⟩) | exact (fun _ => ⟨(by simp only [List.length_cons, List.length_nil]; omega), by simp only [Fl.lensL, Fl.lensT, List.length_cons, List.length_nil]; exact ⟨⟨by omega, hlen (by omega), True.intro⟩, True.intro⟩, hm3⟩) | (intro _; constructor <;> omega) | (simp only [List.length_cons, List.length_nil]; omega) | done
       refine fin_then ?_
       refine tri_cond (b := (((Fl.valN a (3 : Int) (0 : Int) (0 : Int) [Tree.node ((l.getD i tree0).kind) ((l.getD i tree0).v) ((l.getD i tree0).k) ((l.getD i tree0).l)]) == (Fl.valN a ((l.getD i tree0).kind) ((l.getD i tree0).v) ((l.getD i tree0).k) ((l.getD i tree0).l))) || (!((Fl.valN a (3 : Int) (0 : Int) (0 : Int) [Tree.node (3 : Int) (0 : Int) (0 : Int) [Tree.node ((l.getD i tree0).kind) ((l.getD i tree0).v) ((l.getD i tree0).k) ((l.getD i tree0).l)]]) == (Fl.valN a ((l.getD i tree0).kind) ((l.getD i tree0).v) ((l.getD i tree0).k) ((l.getD i tree0).l)))))) (by kernel_rfl) (fun hb4 => ?_) (fun hb4 => ?_)
       ·
        skip
        have h4 := hb4
        exact absurd (Fl.dual_in.symm.trans h4) (by decide)
       ·
        skip
        have h4 := hb4
        skip
        refine tri_skip ?_
        refine fin_block ?_
        refine fin_then ?_
        refine tri_regD hcx [] [8] [7, 0, 1, 2] [700] [Fit ((i : Int) + 1)] [(8, .int ((i : Int) + 1))] [] (by kernel_rfl) ?_ ?_
        ·
         refine (ap ?_ az)
         first | omega | exact id | exact vcNot | exact vcG | exact vcH | (intro _; omega) | exact (fun _ h => h) | (intro h; simp at h; omega) | (simp only [List.length_cons, List.length_nil, List.length_append, List.length_map, List.length_set, List.length_replicate]; omega) | (intro h; simp [h]; done) | exact True.intro | exact (fun _ => True.intro) | exact ⟨by omega, hmo, hm3⟩ | exact ⟨hm1, hm2, hm3⟩ | exact ⟨(hlen (by omega)).1, (hlen (by omega)).2, hm3⟩ | exact ⟨(by simp only [List.length_cons, List.length_nil]; omega), by simp only [Fl.lensL, Fl.lensT]; exact ⟨hlen (by omega), True.intro⟩, hm3⟩ | exact (fun _ => ⟨(hlen (by omega)).1, (hlen (by omega)).2, hm3⟩) | exact (fun _ => ⟨(by simp only [List.length_cons, List.length_nil]; omega), by simp only [Fl.lensL, Fl.lensT, List.length_cons, List.length_nil]; exact ⟨⟨by omega, hlen (by omega), True.intro⟩, True.intro⟩, hm3⟩) | (intro _; constructor <;> omega) | (simp only [List.length_cons, List.length_nil]; omega) | done
        refine fin_round (i + 1) ?_ ?_ ?_ ?_
        ·
         show (i + 1) ≤ l.length
         omega
        ·
         show l.length - (i + 1) < l.length - i
         omega
        ·
         exact subE_mk (l := [.trees l, .int k, .bools a, .row 700, .int ((i : Int) + 1)]) (m := [.trees l, .int k, .bools a, .row 700, .int ((i + 1) : Int)]) (by kernel_rfl) (by kernel_rfl) (consE rfl (consE rfl (consE rfl (consE rfl (consE (congrArg AV.int (show ((i : Int) + 1) = ((i + 1) : Int) from (by first | rfl | omega | (simp; done)))) rfl)))))
        ·
         exact Eq.trans (show _ = [(700, .row 24 (.trees (((l.take i).map Fl.notN) ++ [(Tree.node 3 0 0 [Tree.node ((l.getD i tree0).kind) ((l.getD i tree0).v) ((l.getD i tree0).k) ((l.getD i tree0).l)])])))] from by kernel_rfl) (consH (congrArg (fun x => ((700 : Nat), x)) (congrArg (fun x => AObj.row 24 (.trees x)) (show (((l.take i).map Fl.notN) ++ [(Tree.node 3 0 0 [Tree.node ((l.getD i tree0).kind) ((l.getD i tree0).v) ((l.getD i tree0).k) ((l.getD i tree0).l)])]) = ((l.take (i + 1)).map Fl.notN) from (by exact Fl.map_not_step (by omega))))) rfl)
     ·
      skip
      have h2 := of_decide_eq_false hb2
      refine tri_exit ?_
      refine fin_then_exit ?_
      refine fin_then_exit ?_
      refine fin_block_same ?_
      refine fin_then ?_
      refine tri_seq ?_
      refine tri_ren (ρ := [(700, .frz)]) (keys := [34, 0, 1, 2, 7, 8]) (E' := [(34, .bool (decide ((i : Int) < (l.length : Int)))), (0, .trees l), (1, .int k), (2, .bools a), (7, .trees ((l.take i).map Fl.notN)), (8, .int (i : Int))]) (H' := []) (by kernel_rfl) ?_
      refine tri_regD hcx [] [9] [0, 1, 2, 7] [] [(True), (((l.take i).map Fl.notN).length ≤ 2932031007317 ∧ Fl.lensL ((l.take i).map Fl.notN) ∧ a.length ≤ maxLen), (True), (l.length ≤ 2932031007317 ∧ Fl.lensL l ∧ a.length ≤ maxLen)] [(9, .bool (!((Fl.valN a (4 : Int) (0 : Int) (0 : Int) ((l.take i).map Fl.notN)) == (Fl.valN a (5 : Int) (0 : Int) (0 : Int) l))))] [] (by kernel_rfl) ?_ ?_
      ·
       refine (ap ?_ (ap ?_ (ap ?_ (ap ?_ az))))
       all_goals
        first | omega | exact id | exact vcNot | exact vcG | exact vcH | (intro _; omega) | exact (fun _ h => h) | (intro h; simp at h; omega) | (simp only [List.length_cons, List.length_nil, List.length_append, List.length_map, List.length_set, List.length_replicate]; omega) | (intro h; simp [h]; done) | exact True.intro | exact (fun _ => True.intro) | exact ⟨by omega, hmo, hm3⟩ | exact ⟨hm1, hm2, hm3⟩ | exact ⟨(hlen (by omega)).1, (hlen (by omega)).2, hm3⟩ | exact ⟨(by simp only [List.length_cons, List.length_nil]; omega), by simp only [Fl.lensL, Fl.lensT]; exact ⟨hlen (by omega), True.intro⟩, hm3⟩ | exact (fun _ => ⟨(hlen (by omega)).1, (hlen (by omega)).2, hm3⟩) | exact (fun _ => ⟨(by simp only [List.length_cons, List.length_nil]; omega), by simp only [Fl.lensL, Fl.lensT, List.length_cons, List.length_nil]; exact ⟨⟨by omega, hlen (by omega), True.intro⟩, True.intro⟩, hm3⟩) | (intro _; constructor <;> omega) | (simp only [List.length_cons, List.length_nil]; omega) | done
      refine fin_then ?_
      refine tri_seq ?_
      refine tri_regD hcx [] [10] [9, 0, 1, 2, 7] [] [(True), (((l.take i).map Fl.notN).length ≤ 2932031007317 ∧ Fl.lensL ((l.take i).map Fl.notN) ∧ a.length ≤ maxLen), (True), (l.length ≤ 2932031007317 ∧ Fl.lensL l ∧ a.length ≤ maxLen)] [(10, .bool (!((Fl.valN a (5 : Int) (0 : Int) (0 : Int) ((l.take i).map Fl.notN)) == (Fl.valN a (4 : Int) (0 : Int) (0 : Int) l))))] [] (by kernel_rfl) ?_ ?_
      ·
       refine (ap ?_ (ap ?_ (ap ?_ (ap ?_ az))))
       all_goals
        first | omega | exact id | exact vcNot | exact vcG | exact vcH | (intro _; omega) | exact (fun _ h => h) | (intro h; simp at h; omega) | (simp only [List.length_cons, List.length_nil, List.length_append, List.length_map, List.length_set, List.length_replicate]; omega) | (intro h; simp [h]; done) | exact True.intro | exact (fun _ => True.intro) | exact ⟨by omega, hmo, hm3⟩ | exact ⟨hm1, hm2, hm3⟩ | exact ⟨(hlen (by omega)).1, (hlen (by omega)).2, hm3⟩ | exact ⟨(by simp only [List.length_cons, List.length_nil]; omega), by simp only [Fl.lensL, Fl.lensT]; exact ⟨hlen (by omega), True.intro⟩, hm3⟩ | exact (fun _ => ⟨(hlen (by omega)).1, (hlen (by omega)).2, hm3⟩) | exact (fun _ => ⟨(by simp only [List.length_cons, List.length_nil]; omega), by simp only [Fl.lensL, Fl.lensT, List.length_cons, List.length_nil]; exact ⟨⟨by omega, hlen (by omega), True.intro⟩, True.intro⟩, hm3⟩) | (intro _; constructor <;> omega) | (simp only [List.length_cons, List.length_nil]; omega) | done
      refine fin_then ?_
      refine tri_seq ?_
      refine tri_regD hcx [] [11] [10, 9] [] [(True), (l.length ≤ 2932031007317 ∧ Fl.lensL l ∧ a.length ≤ maxLen), Fit ((l.length : Int) - k), Fit (((l.length : Int) - k) + 1), (True), (((l.take i).map Fl.notN).length ≤ 2932031007317 ∧ Fl.lensL ((l.take i).map Fl.notN) ∧ a.length ≤ maxLen)] [(11, .bool (!((Fl.valN a (6 : Int) (0 : Int) k l) == (Fl.valN a (6 : Int) (0 : Int) (((l.length : Int) - k) + 1) ((l.take i).map Fl.notN)))))] [] (by kernel_rfl) ?_ ?_
      ·
       refine (ap ?_ (ap ?_ (ap ?_ (ap ?_ (ap ?_ (ap ?_ az))))))
       all_goals
        first | omega | exact id | exact vcNot | exact vcG | exact vcH | (intro _; omega) | exact (fun _ h => h) | (intro h; simp at h; omega) | (simp only [List.length_cons, List.length_nil, List.length_append, List.length_map, List.length_set, List.length_replicate]; omega) | (intro h; simp [h]; done) | exact True.intro | exact (fun _ => True.intro) | exact ⟨by omega, hmo, hm3⟩ | exact ⟨hm1, hm2, hm3⟩ | exact ⟨(hlen (by omega)).1, (hlen (by omega)).2, hm3⟩ | exact ⟨(by simp only [List.length_cons, List.length_nil]; omega), by simp only [Fl.lensL, Fl.lensT]; exact ⟨hlen (by omega), True.intro⟩, hm3⟩ | exact (fun _ => ⟨(hlen (by omega)).1, (hlen (by omega)).2, hm3⟩) | exact (fun _ => ⟨(by simp only [List.length_cons, List.length_nil]; omega), by simp only [Fl.lensL, Fl.lensT, List.length_cons, List.length_nil]; exact ⟨⟨by omega, hlen (by omega), True.intro⟩, True.intro⟩, hm3⟩) | (intro _; constructor <;> omega) | (simp only [List.length_cons, List.length_nil]; omega) | done
      refine fin_then ?_
      refine tri_seq ?_
      refine tri_regD hcx [] [6] [] [] [((!((Fl.valN a (4 : Int) (0 : Int) (0 : Int) ((l.take i).map Fl.notN)) == (Fl.valN a (5 : Int) (0 : Int) (0 : Int) l))) = true → (!((Fl.valN a (4 : Int) (0 : Int) (0 : Int) ((l.take i).map Fl.notN)) == (Fl.valN a (5 : Int) (0 : Int) (0 : Int) l))) = true), (((!((Fl.valN a (4 : Int) (0 : Int) (0 : Int) ((l.take i).map Fl.notN)) == (Fl.valN a (5 : Int) (0 : Int) (0 : Int) l))) && (!((Fl.valN a (5 : Int) (0 : Int) (0 : Int) ((l.take i).map Fl.notN)) == (Fl.valN a (4 : Int) (0 : Int) (0 : Int) l)))) = true → ((!((Fl.valN a (4 : Int) (0 : Int) (0 : Int) ((l.take i).map Fl.notN)) == (Fl.valN a (5 : Int) (0 : Int) (0 : Int) l))) && (!((Fl.valN a (5 : Int) (0 : Int) (0 : Int) ((l.take i).map Fl.notN)) == (Fl.valN a (4 : Int) (0 : Int) (0 : Int) l)))) = true)] [(6, .bool (((!((Fl.valN a (4 : Int) (0 : Int) (0 : Int) ((l.take i).map Fl.notN)) == (Fl.valN a (5 : Int) (0 : Int) (0 : Int) l))) && (!((Fl.valN a (5 : Int) (0 : Int) (0 : Int) ((l.take i).map Fl.notN)) == (Fl.valN a (4 : Int) (0 : Int) (0 : Int) l)))) && (!((Fl.valN a (6 : Int) (0 : Int) k l) == (Fl.valN a (6 : Int) (0 : Int) (((l.length : Int) - k) + 1) ((l.take i).map Fl.notN))))))] [] (by kernel_rfl) ?_ ?_
      ·
       refine (ap ?_ (ap ?_ az))
       all_goals
        exact id
      refine fin_then ?_
      refine tri_ret ?_
      exact fin_ret [] rfl rfl trivial hcx (avs := [.bool (((!((Fl.valN a (4 : Int) (0 : Int) (0 : Int) ((l.take i).map Fl.notN)) == (Fl.valN a (5 : Int) (0 : Int) (0 : Int) l))) && (!((Fl.valN a (5 : Int) (0 : Int) (0 : Int) ((l.take i).map Fl.notN)) == (Fl.valN a (4 : Int) (0 : Int) (0 : Int) l)))) && (!((Fl.valN a (6 : Int) (0 : Int) k l) == (Fl.valN a (6 : Int) (0 : Int) (((l.length : Int) - k) + 1) ((l.take i).map Fl.notN)))))]) (by kernel_rfl) (congrArg AV.bool (show (((!((Fl.valN a (4 : Int) (0 : Int) (0 : Int) ((l.take i).map Fl.notN)) == (Fl.valN a (5 : Int) (0 : Int) (0 : Int) l))) && (!((Fl.valN a (5 : Int) (0 : Int) (0 : Int) ((l.take i).map Fl.notN)) == (Fl.valN a (4 : Int) (0 : Int) (0 : Int) l)))) && (!((Fl.valN a (6 : Int) (0 : Int) k l) == (Fl.valN a (6 : Int) (0 : Int) (((l.length : Int) - k) + 1) ((l.take i).map Fl.notN))))) = true from (by exact Fl.dual_end (l := l) (i := i) (by omega)))) [] rfl
 ·
  cases hσ
end Go.Proofs.YtlhjliigfecihaaDoor.En
