/- The reference of layer 11: simplification, in the reader's words. -/
import Derived.Test.YtlhjliigfecihaaDoorProg
import Derived.Test.YtlhjliigfecihaaDoorEngLeaf
import Derived.Test.YtlhjliigfecihaaDoorEngCallG
import Derived.Test.YtlhjliigfecihaaDoorEngRec
import Derived.Test.YtlhjliigfecihaaDoorTreeM
namespace Go.Proofs.YtlhjliigfecihaaDoor.En
open Go Go.RowKit
set_option linter.unusedVariables false
set_option linter.unusedSimpArgs false
set_option linter.unnecessarySimpa false
def tyR11b : List (Nat × TD) := [(3, ⟨1, false, [.int .i64 0], [], none, 8, false, 1, 1⟩),
  (22, ⟨1, false, [.slice none 0 0], [], some 24, 24, false, 0, 0⟩),
  (24, ⟨4, true, [.int .i64 0, .int .i64 0, .int .i64 0, .slice none 0 0], [(0, 3), (1, 3), (2, 3), (3, 22)], none, 48, false, 0, 4⟩)]
theorem tyR11b_ok : AllTy Tryd.prog tyR11b := ⟨⟨by kernel_rfl, by kernel_rfl⟩, ⟨by kernel_rfl, by kernel_rfl⟩, ⟨by kernel_rfl, by kernel_rfl⟩, trivial⟩
def cx_rConst : Cx := ⟨tyR11b, []⟩
theorem cx_rConst_ok : CxOk Tryd.prog cx_rConst := cx_ok tyR11b_ok trivial
def rConst_σ : CtF
  | [.im (.val (.int .i64 v))], [] => some (True, .agg [.int 1, .int v, .int 0, .trees []], [])
  | _, _ => none
theorem rConst_sound : Sound Tryd.prog 48 rConst_σ := by
 refine sound_mk (cx := cx_rConst) (fn := Tryd.f48) Tryd.func48 (by kernel_rfl) rfl ?_
 intro w0 G0 args os p r outs hσ hp hm0 hd0
 have hcx : CxOk Tryd.prog cx_rConst := cx_rConst_ok
 unfold rConst_σ at hσ
 split at hσ
 ·
  rename_i v
  simp only [Option.some.injEq, Prod.mk.injEq] at hσ
  obtain ⟨rfl, rfl, rfl⟩ := hσ
  obtain ⟨wW, wO, wm, wβ, wd⟩ := w0
  replace hm0 : wm = 0 := hm0
  subst hm0
  replace hd0 : wd = [] := hd0
  subst hd0
  refine ⟨by kernel_rfl, ?_⟩
  change Tri ⟨_, _, _, _, _, _⟩ [(0, .int v)] [] _ _
  refine tri_seq ?_
  refine tri_regD hcx [(1000, .to 602)] [2] [0] [] [] [(2, .loc 602 0)] [(602, .box [.int 0, .int 0, .int 0, .im (.val (.slice none 0 0))])] (by kernel_rfl) ?_ ?_
  ·
   exact az
  refine fin_then ?_
  refine tri_seq ?_
  refine tri_regD hcx [(602, .to 602)] [] [2] [] [] [] [(602, .box [.int 1, .int v, .int 0, .im (.val (.slice none 0 0))])] (by kernel_rfl) ?_ ?_
  ·
   exact az
  refine fin_then ?_
  refine tri_ret ?_
  refine fin_rowB 602 3 700 0 (.trees []) (by kernel_rfl) (by kernel_rfl) (by kernel_rfl) (by kernel_rfl) (H' := [(602, .box [.int 1, .int v, .int 0, .row 700])]) (by kernel_rfl) ?_
  refine fin_ren (ρ := [(602, .to 990), (700, .frz)]) (keys := [2]) (E' := [(2, .loc 990 0)]) (H' := [(990, .box [.int 1, .int v, .int 0, .trees []])]) (by kernel_rfl) ?_
  exact fin_ret [] rfl rfl trivial hcx (avs := [.agg [.int 1, .int v, .int 0, .trees []]]) (by kernel_rfl) rfl [] rfl
 ·
  cases hσ
def cx_rJoin : Cx := ⟨tyR11b, [(48, rConst_σ)]⟩
theorem cx_rJoin_ok : CxOk Tryd.prog cx_rJoin := cx_ok tyR11b_ok ⟨rConst_sound, trivial⟩
def rJoin_σ : CtF
  | [.im (.val (.int .i64 kind)), .im (.val (.int .i64 whole)), .im (.ls (.trees l))], [] => some (l.length ≤ 2932031007317 ∧ Fl.lensL l ∧ Fl.sizeL l ≤ 1000000 ∧ (whole = 0 ∨ whole = 1) ∧ kind ≠ 1, .agg [.int ((Fl.joinT kind whole l).kind), .int ((Fl.joinT kind whole l).v), .int ((Fl.joinT kind whole l).k), .trees ((Fl.joinT kind whole l).l)], [])
  | _, _ => none
theorem rJoin_sound : Sound Tryd.prog 49 rJoin_σ := by
 refine sound_mk (cx := cx_rJoin) (fn := Tryd.f49) Tryd.func49 (by kernel_rfl) rfl ?_
 intro w0 G0 args os p r outs hσ hp hm0 hd0
 have hcx : CxOk Tryd.prog cx_rJoin := cx_rJoin_ok
 unfold rJoin_σ at hσ
 split at hσ
 ·
  rename_i kind whole l
  simp only [Option.some.injEq, Prod.mk.injEq] at hσ
  obtain ⟨rfl, rfl, rfl⟩ := hσ
  obtain ⟨wW, wO, wm, wβ, wd⟩ := w0
  replace hm0 : wm = 0 := hm0
  subst hm0
  replace hd0 : wd = [] := hd0
  subst hd0
  refine ⟨by kernel_rfl, ?_⟩
  change Tri ⟨_, _, _, _, _, _⟩ [(0, .int kind), (1, .int whole), (2, .trees l)] [] _ _
  obtain ⟨hm1, hm2, hm3, hw, hk1⟩ := hp
  have hm9 := hm1
  refine tri_seq ?_
  refine tri_regD hcx [(1000, .to 606)] [6] [0, 1, 2] [] [] [(6, .loc 606 0)] [(606, .box [.int 0, .int 0, .int 0, .im (.val (.slice none 0 0))])] (by kernel_rfl) ?_ ?_
  ·
   exact az
  refine fin_then ?_
  refine tri_seq ?_
  refine tri_regD hcx [(1000, .to 210)] [7] [6, 0, 1, 2] [606] [] [(7, .row 210)] [(210, .row 24 (.trees []))] (by kernel_rfl) ?_ ?_
  ·
   exact az
  refine fin_then ?_
  refine tri_seq ?_
  refine tri_seq ?_
  refine tri_regD hcx [] [8] [7, 6, 0, 1, 2] [210, 606] [] [(8, .int 0)] [] (by kernel_rfl) ?_ ?_
  ·
   exact az
  refine fin_then ?_
  refine tri_block ?_
  refine tri_ren (ρ := [(606, .to 606), (210, .to 700)]) (keys := [0, 1, 2, 6, 7, 8]) (E' := [(0, .int kind), (1, .int whole), (2, .trees l), (6, .loc 606 0), (7, .row 700), (8, .int 0)]) (H' := [(606, .box [.int 0, .int 0, .int 0, .im (.val (.slice none 0 0))]), (700, .row 24 (.trees []))]) (by kernel_rfl) ?_
  refine tri_loop (X := Nat) (fun x0 => x0 ≤ l.length ∧ ∀ j, j < x0 → (l.getD j tree0).kind = 1 → (l.getD j tree0).v = whole) (fun x0 => [(0, .int kind), (1, .int whole), (2, .trees l), (6, .loc 606 0), (7, .row 700), (8, .int (x0 : Int))]) (fun x0 => [(606, .box [.int 0, .int 0, .int 0, .im (.val (.slice none 0 0))]), (700, .row 24 (.trees (Fl.outJ kind (l.take x0))))]) (fun x0 => l.length - x0) (0) ?_ ?_ ?_ ?_
  ·
   show 0 ≤ l.length ∧ ∀ j, j < 0 → (l.getD j tree0).kind = 1 → (l.getD j tree0).v = whole
   exact ⟨Nat.zero_le _, fun j hj => by omega⟩
  ·
   exact subE_mk (l := [.int kind, .int whole, .trees l, .loc 606 0, .row 700, .int 0]) (m := [.int kind, .int whole, .trees l, .loc 606 0, .row 700, .int (0 : Int)]) (by kernel_rfl) (by kernel_rfl) (consE rfl (consE rfl (consE rfl (consE rfl (consE rfl (consE (congrArg AV.int (show 0 = (0 : Int) from (by first | rfl | omega | (simp; done)))) rfl))))))
  ·
   exact Eq.trans (show _ = [(606, .box [.int 0, .int 0, .int 0, .im (.val (.slice none 0 0))]), (700, .row 24 (.trees []))] from by kernel_rfl) (consH rfl (consH (congrArg (fun x => ((700 : Nat), x)) (congrArg (fun x => AObj.row 24 (.trees x)) (show [] = (Fl.outJ kind (l.take 0)) from (by rfl)))) rfl))
  ·
   intro i hI
   replace hI : i ≤ l.length ∧ ∀ j, j < i → (l.getD j tree0).kind = 1 → (l.getD j tree0).v = whole := hI
   change Tri _ [(0, .int kind), (1, .int whole), (2, .trees l), (6, .loc 606 0), (7, .row 700), (8, .int (i : Int))] [(606, .box [.int 0, .int 0, .int 0, .im (.val (.slice none 0 0))]), (700, .row 24 (.trees (Fl.outJ kind (l.take i))))] _ _
   obtain ⟨hk, hok⟩ := hI
   have hol : (Fl.outJ kind (l.take i)).length ≤ Fl.sizeL l := Fl.out_len_take i
   have hsub : i < l.length → Fl.sizeL (l.getD i tree0).l < Fl.sizeL l := fun h => Fl.size_sub h
   have hlen : i < l.length → _ := fun h => Fl.lens_at hm2 h
   have hll : i < l.length → (l.getD i tree0).l.length ≤ Fl.sizeL (l.getD i tree0).l := fun _ => Fl.len_size _
   refine tri_seq ?_
   refine tri_seq ?_
   refine tri_regD hcx [] [14] [0, 1, 2, 6, 7, 8] [606, 700] [] [(14, .bool (decide ((i : Int) < (l.length : Int))))] [] (by kernel_rfl) ?_ ?_
   ·
    exact az
   refine fin_then ?_
   refine tri_cond (b := (decide ((i : Int) < (l.length : Int)))) (by kernel_rfl) (fun hb0 => ?_) (fun hb0 => ?_)
   ·
    skip
    have h0 := of_decide_eq_true hb0
    refine tri_skip ?_
    refine fin_then ?_
    refine tri_seq ?_
    refine tri_block ?_
    refine tri_seq ?_
    refine tri_regD hcx [(1004, .to 609)] [9] [0, 1, 2, 6, 7, 8] [606, 700] [((0 : Int) ≤ (i : Int) ∧ (i : Int) < (l.length : Int))] [(9, .loc 609 0)] [(609, .box [.int ((l.getD i tree0).kind), .int ((l.getD i tree0).v), .int ((l.getD i tree0).k), .trees ((l.getD i tree0).l)])] (by kernel_rfl) ?_ ?_
    ·
     refine (ap ?_ az)
     first | omega | exact id | exact vcNot | exact vcG | exact vcH | (intro _; omega) | exact (fun _ h => h) | (intro h; simp at h; omega) | (simp only [List.length_cons, List.length_nil, List.length_append, List.length_map, List.length_set, List.length_replicate]; omega) | (intro h; simp [h]; done) | (have h8 := hsub (by omega); have h7 := hll (by omega); constructor <;> omega) | (have h8 := hsub (by omega); have h7 := hll (by omega); omega) | (constructor <;> omega) | (simp only [List.length_cons, List.length_nil]; omega) | exact True.intro | done
    refine fin_then ?_
    refine tri_seq ?_
    refine tri_regD hcx [] [24] [9, 0, 1, 2, 6, 7, 8] [609, 606, 700] [] [(24, .bool (((l.getD i tree0).kind) == kind))] [] (by kernel_rfl) ?_ ?_
    ·
     exact az
    refine fin_then ?_
    refine tri_cond (b := (((l.getD i tree0).kind) == kind)) (by kernel_rfl) (fun hb1 => ?_) (fun hb1 => ?_)
    ·
     skip
     have h1 := eq_of_beq hb1
     refine tri_regD hcx [(1003, .to 700)] [7] [0, 1, 2, 6, 8] [606] [(((Fl.outJ kind (l.take i)).length + ((l.getD i tree0).l).length) * 48 ≤ 140737488355328)] [(7, .row 700)] [(700, .row 24 (.trees ((Fl.outJ kind (l.take i)) ++ ((l.getD i tree0).l))))] (by kernel_rfl) ?_ ?_
     ·
      refine (ap ?_ az)
      first | omega | exact id | exact vcNot | exact vcG | exact vcH | (intro _; omega) | exact (fun _ h => h) | (intro h; simp at h; omega) | (simp only [List.length_cons, List.length_nil, List.length_append, List.length_map, List.length_set, List.length_replicate]; omega) | (intro h; simp [h]; done) | (have h8 := hsub (by omega); have h7 := hll (by omega); constructor <;> omega) | (have h8 := hsub (by omega); have h7 := hll (by omega); omega) | (constructor <;> omega) | (simp only [List.length_cons, List.length_nil]; omega) | exact True.intro | done
     refine fin_block ?_
     refine fin_then ?_
     refine tri_regD hcx [] [8] [7, 0, 1, 2, 6] [700, 606] [Fit ((i : Int) + 1)] [(8, .int ((i : Int) + 1))] [] (by kernel_rfl) ?_ ?_
     ·
      refine (ap ?_ az)
      first | omega | exact id | exact vcNot | exact vcG | exact vcH | (intro _; omega) | exact (fun _ h => h) | (intro h; simp at h; omega) | (simp only [List.length_cons, List.length_nil, List.length_append, List.length_map, List.length_set, List.length_replicate]; omega) | (intro h; simp [h]; done) | (have h8 := hsub (by omega); have h7 := hll (by omega); constructor <;> omega) | (have h8 := hsub (by omega); have h7 := hll (by omega); omega) | (constructor <;> omega) | (simp only [List.length_cons, List.length_nil]; omega) | exact True.intro | done
     refine fin_ren (ρ := [(606, .to 606), (700, .to 700)]) (keys := [0, 1, 2, 6, 7, 8]) (E' := [(0, .int kind), (1, .int whole), (2, .trees l), (6, .loc 606 0), (7, .row 700), (8, .int ((i : Int) + 1))]) (H' := [(606, .box [.int 0, .int 0, .int 0, .im (.val (.slice none 0 0))]), (700, .row 24 (.trees ((Fl.outJ kind (l.take i)) ++ ((l.getD i tree0).l))))]) (by kernel_rfl) ?_
     refine fin_round (i + 1) ?_ ?_ ?_ ?_
     ·
      show (i + 1) ≤ l.length ∧ ∀ j, j < (i + 1) → (l.getD j tree0).kind = 1 → (l.getD j tree0).v = whole
      exact ⟨by omega, fun j hj hj1 => by rcases (by omega : j < i ∨ j = i) with h | rfl; exact hok j h hj1; omega⟩
     ·
      show l.length - (i + 1) < l.length - i
      omega
     ·
      exact subE_mk (l := [.int kind, .int whole, .trees l, .loc 606 0, .row 700, .int ((i : Int) + 1)]) (m := [.int kind, .int whole, .trees l, .loc 606 0, .row 700, .int ((i + 1) : Int)]) (by kernel_rfl) (by kernel_rfl) (consE rfl (consE rfl (consE rfl (consE rfl (consE rfl (consE (congrArg AV.int (show ((i : Int) + 1) = ((i + 1) : Int) from (by first | rfl | omega | (simp; done)))) rfl))))))
     ·
      exact Eq.trans (show _ = [(606, .box [.int 0, .int 0, .int 0, .im (.val (.slice none 0 0))]), (700, .row 24 (.trees ((Fl.outJ kind (l.take i)) ++ ((l.getD i tree0).l))))] from by kernel_rfl) (consH rfl (consH (congrArg (fun x => ((700 : Nat), x)) (congrArg (fun x => AObj.row 24 (.trees x)) (show ((Fl.outJ kind (l.take i)) ++ ((l.getD i tree0).l)) = (Fl.outJ kind (l.take (i + 1))) from (by first | exact Fl.out_same (by omega) (by omega) | (rw [Fl.node_eta]; exact Fl.out_open (by omega) (by omega) (by omega)) | exact Fl.out_skip (by omega) (by omega) (by omega))))) rfl))
    ·
     skip
     have h1 := neB hb1
     refine tri_seq ?_
     refine tri_regD hcx [] [31] [9, 0, 1, 2, 6, 7, 8] [609, 606, 700] [] [(31, .bool (((l.getD i tree0).kind) != 1))] [] (by kernel_rfl) ?_ ?_
     ·
      exact az
     refine fin_then ?_
     refine tri_cond (b := (((l.getD i tree0).kind) != 1)) (by kernel_rfl) (fun hb2 => ?_) (fun hb2 => ?_)
     ·
      skip
      have h2 := bne_iff_ne.1 hb2
      refine tri_regD hcx [(1003, .to 700)] [7] [0, 1, 2, 6, 8] [606] [(((Fl.outJ kind (l.take i)).length + [(Tree.node ((l.getD i tree0).kind) ((l.getD i tree0).v) ((l.getD i tree0).k) ((l.getD i tree0).l))].length) * 48 ≤ 140737488355328)] [(7, .row 700)] [(700, .row 24 (.trees ((Fl.outJ kind (l.take i)) ++ [(Tree.node ((l.getD i tree0).kind) ((l.getD i tree0).v) ((l.getD i tree0).k) ((l.getD i tree0).l))])))] (by kernel_rfl) ?_ ?_
      ·
       refine (ap ?_ az)
       first | omega | exact id | exact vcNot | exact vcG | exact vcH | (intro _; omega) | exact (fun _ h => h) | (intro h; simp at h; omega) | (simp only [List.length_cons, List.length_nil, List.length_append, List.length_map, List.length_set, List.length_replicate]; omega) | (intro h; simp [h]; done) | (have h8 := hsub (by omega); have h7 := hll (by omega); constructor <;> omega) | (have h8 := hsub (by omega); have h7 := hll (by omega); omega) | (constructor <;> omega) | (simp only [List.length_cons, List.length_nil]; omega) | exact True.intro | done
      refine fin_block ?_
      refine fin_then ?_
      refine tri_regD hcx [] [8] [7, 0, 1, 2, 6] [700, 606] [Fit ((i : Int) + 1)] [(8, .int ((i : Int) + 1))] [] (by kernel_rfl) ?_ ?_
      ·
       refine (ap ?_ az)
       first | omega | exact id | exact vcNot | exact vcG | exact vcH | (intro _; omega) | exact (fun _ h => h) | (intro h; simp at h; omega) | (simp only [List.length_cons, List.length_nil, List.length_append, List.length_map, List.length_set, List.length_replicate]; omega) | (intro h; simp [h]; done) | (have h8 := hsub (by omega); have h7 := hll (by omega); constructor <;> omega) | (have h8 := hsub (by omega); have h7 := hll (by omega); omega) | (constructor <;> omega) | (simp only [List.length_cons, List.length_nil]; omega) | exact True.intro | done
      refine fin_ren (ρ := [(606, .to 606), (700, .to 700)]) (keys := [0, 1, 2, 6, 7, 8]) (E' := [(0, .int kind), (1, .int whole), (2, .trees l), (6, .loc 606 0), (7, .row 700), (8, .int ((i : Int) + 1))]) (H' := [(606, .box [.int 0, .int 0, .int 0, .im (.val (.slice none 0 0))]), (700, .row 24 (.trees ((Fl.outJ kind (l.take i)) ++ [(Tree.node ((l.getD i tree0).kind) ((l.getD i tree0).v) ((l.getD i tree0).k) ((l.getD i tree0).l))])))]) (by kernel_rfl) ?_
      refine fin_round (i + 1) ?_ ?_ ?_ ?_
      ·
       show (i + 1) ≤ l.length ∧ ∀ j, j < (i + 1) → (l.getD j tree0).kind = 1 → (l.getD j tree0).v = whole
       exact ⟨by omega, fun j hj hj1 => by rcases (by omega : j < i ∨ j = i) with h | rfl; exact hok j h hj1; omega⟩
      ·
       show l.length - (i + 1) < l.length - i
       omega
      ·
       exact subE_mk (l := [.int kind, .int whole, .trees l, .loc 606 0, .row 700, .int ((i : Int) + 1)]) (m := [.int kind, .int whole, .trees l, .loc 606 0, .row 700, .int ((i + 1) : Int)]) (by kernel_rfl) (by kernel_rfl) (consE rfl (consE rfl (consE rfl (consE rfl (consE rfl (consE (congrArg AV.int (show ((i : Int) + 1) = ((i + 1) : Int) from (by first | rfl | omega | (simp; done)))) rfl))))))
      ·
       exact Eq.trans (show _ = [(606, .box [.int 0, .int 0, .int 0, .im (.val (.slice none 0 0))]), (700, .row 24 (.trees ((Fl.outJ kind (l.take i)) ++ [(Tree.node ((l.getD i tree0).kind) ((l.getD i tree0).v) ((l.getD i tree0).k) ((l.getD i tree0).l))])))] from by kernel_rfl) (consH rfl (consH (congrArg (fun x => ((700 : Nat), x)) (congrArg (fun x => AObj.row 24 (.trees x)) (show ((Fl.outJ kind (l.take i)) ++ [(Tree.node ((l.getD i tree0).kind) ((l.getD i tree0).v) ((l.getD i tree0).k) ((l.getD i tree0).l))]) = (Fl.outJ kind (l.take (i + 1))) from (by first | exact Fl.out_same (by omega) (by omega) | (rw [Fl.node_eta]; exact Fl.out_open (by omega) (by omega) (by omega)) | exact Fl.out_skip (by omega) (by omega) (by omega))))) rfl))
     ·
      skip
      have h2 := bneF hb2
      refine tri_seq ?_
      refine tri_regD hcx [] [39] [0, 1, 2, 6, 7, 8] [606, 700] [] [(39, .bool (((l.getD i tree0).v) != whole))] [] (by kernel_rfl) ?_ ?_
      ·
       exact az
      refine fin_then ?_
      refine tri_cond (b := (((l.getD i tree0).v) != whole)) (by kernel_rfl) (fun hb3 => ?_) (fun hb3 => ?_)
      ·
       skip
       have h3 := bne_iff_ne.1 hb3
       refine tri_seq ?_
       refine tri_regD hcx [(606, .to 606)] [] [6] [] [Fit (1 - whole), (True)] [] [(606, .box [.int 1, .int (1 - whole), .int 0, .trees []])] (by kernel_rfl) ?_ ?_
       ·
        refine (ap ?_ (ap ?_ az))
        all_goals
         first | omega | exact id | exact vcNot | exact vcG | exact vcH | (intro _; omega) | exact (fun _ h => h) | (intro h; simp at h; omega) | (simp only [List.length_cons, List.length_nil, List.length_append, List.length_map, List.length_set, List.length_replicate]; omega) | (intro h; simp [h]; done) | (have h8 := hsub (by omega); have h7 := hll (by omega); constructor <;> omega) | (have h8 := hsub (by omega); have h7 := hll (by omega); omega) | (constructor <;> omega) | (simp only [List.length_cons, List.length_nil]; omega) | exact True.intro | done
       refine fin_then ?_
       refine tri_ret ?_
       refine fin_block_ret ?_
       refine fin_then_ret ?_
       refine fin_then_ret ?_
       refine fin_block_ret ?_
       refine fin_then_ret ?_
       exact fin_ret [] rfl rfl trivial hcx (avs := [.agg [.int 1, .int (1 - whole), .int 0, .trees []]]) (by kernel_rfl) (congrArg AV.agg (consE (congrArg AV.int (show 1 = (Fl.joinT kind whole l).kind from (by first | (rw [Fl.join_bad (i := i) (by omega) (by omega) (by omega)]; rfl) | (rw [Fl.join_0i (i := i) (by omega) hok (by omega)]; rfl) | (rw [Fl.join_1i (i := i) (by omega) hok (by omega)]; done) | (rw [Fl.join_2i (i := i) (by omega) hok (by omega) (by omega)]; rfl) | done))) (consE (congrArg AV.int (show (1 - whole) = (Fl.joinT kind whole l).v from (by first | (rw [Fl.join_bad (i := i) (by omega) (by omega) (by omega)]; rfl) | (rw [Fl.join_0i (i := i) (by omega) hok (by omega)]; rfl) | (rw [Fl.join_1i (i := i) (by omega) hok (by omega)]; done) | (rw [Fl.join_2i (i := i) (by omega) hok (by omega) (by omega)]; rfl) | done))) (consE (congrArg AV.int (show 0 = (Fl.joinT kind whole l).k from (by first | (rw [Fl.join_bad (i := i) (by omega) (by omega) (by omega)]; rfl) | (rw [Fl.join_0i (i := i) (by omega) hok (by omega)]; rfl) | (rw [Fl.join_1i (i := i) (by omega) hok (by omega)]; done) | (rw [Fl.join_2i (i := i) (by omega) hok (by omega) (by omega)]; rfl) | done))) (consE (congrArg AV.trees (show [] = (Fl.joinT kind whole l).l from (by first | (rw [Fl.join_bad (i := i) (by omega) (by omega) (by omega)]; rfl) | (rw [Fl.join_0i (i := i) (by omega) hok (by omega)]; rfl) | (rw [Fl.join_1i (i := i) (by omega) hok (by omega)]; done) | (rw [Fl.join_2i (i := i) (by omega) hok (by omega) (by omega)]; rfl) | done))) rfl))))) [] rfl
      ·
       skip
       have h3 := bneF hb3
       refine tri_skip ?_
       refine fin_block ?_
       refine fin_then ?_
       refine tri_regD hcx [] [8] [0, 1, 2, 6, 7] [606, 700] [Fit ((i : Int) + 1)] [(8, .int ((i : Int) + 1))] [] (by kernel_rfl) ?_ ?_
       ·
        refine (ap ?_ az)
        first | omega | exact id | exact vcNot | exact vcG | exact vcH | (intro _; omega) | exact (fun _ h => h) | (intro h; simp at h; omega) | (simp only [List.length_cons, List.length_nil, List.length_append, List.length_map, List.length_set, List.length_replicate]; omega) | (intro h; simp [h]; done) | (have h8 := hsub (by omega); have h7 := hll (by omega); constructor <;> omega) | (have h8 := hsub (by omega); have h7 := hll (by omega); omega) | (constructor <;> omega) | (simp only [List.length_cons, List.length_nil]; omega) | exact True.intro | done
       refine fin_round (i + 1) ?_ ?_ ?_ ?_
       ·
        show (i + 1) ≤ l.length ∧ ∀ j, j < (i + 1) → (l.getD j tree0).kind = 1 → (l.getD j tree0).v = whole
        exact ⟨by omega, fun j hj hj1 => by rcases (by omega : j < i ∨ j = i) with h | rfl; exact hok j h hj1; omega⟩
       ·
        show l.length - (i + 1) < l.length - i
        omega
       ·
        exact subE_mk (l := [.int kind, .int whole, .trees l, .loc 606 0, .row 700, .int ((i : Int) + 1)]) (m := [.int kind, .int whole, .trees l, .loc 606 0, .row 700, .int ((i + 1) : Int)]) (by kernel_rfl) (by kernel_rfl) (consE rfl (consE rfl (consE rfl (consE rfl (consE rfl (consE (congrArg AV.int (show ((i : Int) + 1) = ((i + 1) : Int) from (by first | rfl | omega | (simp; done)))) rfl))))))
       ·
        exact Eq.trans (show _ = [(606, .box [.int 0, .int 0, .int 0, .im (.val (.slice none 0 0))]), (700, .row 24 (.trees (Fl.outJ kind (l.take i))))] from by kernel_rfl) (consH rfl (consH (congrArg (fun x => ((700 : Nat), x)) (congrArg (fun x => AObj.row 24 (.trees x)) (show (Fl.outJ kind (l.take i)) = (Fl.outJ kind (l.take (i + 1))) from (by first | exact Fl.out_same (by omega) (by omega) | (rw [Fl.node_eta]; exact Fl.out_open (by omega) (by omega) (by omega)) | exact Fl.out_skip (by omega) (by omega) (by omega))))) rfl))
   ·
    skip
    have h0 := of_decide_eq_false hb0
    refine tri_exit ?_
    refine fin_then_exit ?_
    refine fin_then_exit ?_
    refine fin_block_same ?_
    refine fin_then ?_
    refine tri_seq ?_
    refine tri_seq ?_
    refine tri_ren (ρ := [(606, .to 606), (700, .frz)]) (keys := [14, 0, 1, 2, 6, 7, 8]) (E' := [(14, .bool (decide ((i : Int) < (l.length : Int)))), (0, .int kind), (1, .int whole), (2, .trees l), (6, .loc 606 0), (7, .trees (Fl.outJ kind (l.take i))), (8, .int (i : Int))]) (H' := [(606, .box [.int 0, .int 0, .int 0, .im (.val (.slice none 0 0))])]) (by kernel_rfl) ?_
    refine tri_regD hcx [] [45] [0, 1, 6, 7] [606] [] [(45, .bool (((Fl.outJ kind (l.take i)).length : Int) == 0))] [] (by kernel_rfl) ?_ ?_
    ·
     exact az
    refine fin_then ?_
    refine tri_cond (b := (((Fl.outJ kind (l.take i)).length : Int) == 0)) (by kernel_rfl) (fun hb4 => ?_) (fun hb4 => ?_)
    ·
     skip
     have h4 := eq_of_beq hb4
     refine tri_seq ?_
     refine tri_regD hcx [(606, .to 606)] [] [6] [] [(True)] [] [(606, .box [.int 1, .int whole, .int 0, .trees []])] (by kernel_rfl) ?_ ?_
     ·
      refine (ap ?_ az)
      first | omega | exact id | exact vcNot | exact vcG | exact vcH | (intro _; omega) | exact (fun _ h => h) | (intro h; simp at h; omega) | (simp only [List.length_cons, List.length_nil, List.length_append, List.length_map, List.length_set, List.length_replicate]; omega) | (intro h; simp [h]; done) | (have h8 := hsub (by omega); have h7 := hll (by omega); constructor <;> omega) | (have h8 := hsub (by omega); have h7 := hll (by omega); omega) | (constructor <;> omega) | (simp only [List.length_cons, List.length_nil]; omega) | exact True.intro | done
     refine fin_then ?_
     refine tri_ret ?_
     refine fin_then_ret ?_
     exact fin_ret [] rfl rfl trivial hcx (avs := [.agg [.int 1, .int whole, .int 0, .trees []]]) (by kernel_rfl) (congrArg AV.agg (consE (congrArg AV.int (show 1 = (Fl.joinT kind whole l).kind from (by first | (rw [Fl.join_bad (i := i) (by omega) (by omega) (by omega)]; rfl) | (rw [Fl.join_0i (i := i) (by omega) hok (by omega)]; rfl) | (rw [Fl.join_1i (i := i) (by omega) hok (by omega)]; done) | (rw [Fl.join_2i (i := i) (by omega) hok (by omega) (by omega)]; rfl) | done))) (consE (congrArg AV.int (show whole = (Fl.joinT kind whole l).v from (by first | (rw [Fl.join_bad (i := i) (by omega) (by omega) (by omega)]; rfl) | (rw [Fl.join_0i (i := i) (by omega) hok (by omega)]; rfl) | (rw [Fl.join_1i (i := i) (by omega) hok (by omega)]; done) | (rw [Fl.join_2i (i := i) (by omega) hok (by omega) (by omega)]; rfl) | done))) (consE (congrArg AV.int (show 0 = (Fl.joinT kind whole l).k from (by first | (rw [Fl.join_bad (i := i) (by omega) (by omega) (by omega)]; rfl) | (rw [Fl.join_0i (i := i) (by omega) hok (by omega)]; rfl) | (rw [Fl.join_1i (i := i) (by omega) hok (by omega)]; done) | (rw [Fl.join_2i (i := i) (by omega) hok (by omega) (by omega)]; rfl) | done))) (consE (congrArg AV.trees (show [] = (Fl.joinT kind whole l).l from (by first | (rw [Fl.join_bad (i := i) (by omega) (by omega) (by omega)]; rfl) | (rw [Fl.join_0i (i := i) (by omega) hok (by omega)]; rfl) | (rw [Fl.join_1i (i := i) (by omega) hok (by omega)]; done) | (rw [Fl.join_2i (i := i) (by omega) hok (by omega) (by omega)]; rfl) | done))) rfl))))) [] rfl
    ·
     skip
     have h4 := neB hb4
     refine tri_skip ?_
     refine fin_then ?_
     refine tri_seq ?_
     refine tri_seq ?_
     refine tri_regD hcx [] [50] [0, 6, 7] [606] [] [(50, .bool (((Fl.outJ kind (l.take i)).length : Int) == 1))] [] (by kernel_rfl) ?_ ?_
     ·
      exact az
     refine fin_then ?_
     refine tri_cond (b := (((Fl.outJ kind (l.take i)).length : Int) == 1)) (by kernel_rfl) (fun hb5 => ?_) (fun hb5 => ?_)
     ·
      skip
      have h5 := eq_of_beq hb5
      refine tri_seq ?_
      refine tri_regD hcx [(606, .to 606)] [] [6] [] [((0 : Int) ≤ 0 ∧ 0 < ((Fl.outJ kind (l.take i)).length : Int))] [] [(606, .box [.int (((Fl.outJ kind (l.take i)).getD 0 tree0).kind), .int (((Fl.outJ kind (l.take i)).getD 0 tree0).v), .int (((Fl.outJ kind (l.take i)).getD 0 tree0).k), .trees (((Fl.outJ kind (l.take i)).getD 0 tree0).l)])] (by kernel_rfl) ?_ ?_
      ·
       refine (ap ?_ az)
       first | omega | exact id | exact vcNot | exact vcG | exact vcH | (intro _; omega) | exact (fun _ h => h) | (intro h; simp at h; omega) | (simp only [List.length_cons, List.length_nil, List.length_append, List.length_map, List.length_set, List.length_replicate]; omega) | (intro h; simp [h]; done) | (have h8 := hsub (by omega); have h7 := hll (by omega); constructor <;> omega) | (have h8 := hsub (by omega); have h7 := hll (by omega); omega) | (constructor <;> omega) | (simp only [List.length_cons, List.length_nil]; omega) | exact True.intro | done
      refine fin_then ?_
      refine tri_ret ?_
      refine fin_then_ret ?_
      exact fin_ret [] rfl rfl trivial hcx (avs := [.agg [.int (((Fl.outJ kind (l.take i)).getD 0 tree0).kind), .int (((Fl.outJ kind (l.take i)).getD 0 tree0).v), .int (((Fl.outJ kind (l.take i)).getD 0 tree0).k), .trees (((Fl.outJ kind (l.take i)).getD 0 tree0).l)]]) (by kernel_rfl) (congrArg AV.agg (consE (congrArg AV.int (show ((Fl.outJ kind (l.take i)).getD 0 tree0).kind = (Fl.joinT kind whole l).kind from (by first | (rw [Fl.join_bad (i := i) (by omega) (by omega) (by omega)]; rfl) | (rw [Fl.join_0i (i := i) (by omega) hok (by omega)]; rfl) | (rw [Fl.join_1i (i := i) (by omega) hok (by omega)]; done) | (rw [Fl.join_2i (i := i) (by omega) hok (by omega) (by omega)]; rfl) | done))) (consE (congrArg AV.int (show ((Fl.outJ kind (l.take i)).getD 0 tree0).v = (Fl.joinT kind whole l).v from (by first | (rw [Fl.join_bad (i := i) (by omega) (by omega) (by omega)]; rfl) | (rw [Fl.join_0i (i := i) (by omega) hok (by omega)]; rfl) | (rw [Fl.join_1i (i := i) (by omega) hok (by omega)]; done) | (rw [Fl.join_2i (i := i) (by omega) hok (by omega) (by omega)]; rfl) | done))) (consE (congrArg AV.int (show ((Fl.outJ kind (l.take i)).getD 0 tree0).k = (Fl.joinT kind whole l).k from (by first | (rw [Fl.join_bad (i := i) (by omega) (by omega) (by omega)]; rfl) | (rw [Fl.join_0i (i := i) (by omega) hok (by omega)]; rfl) | (rw [Fl.join_1i (i := i) (by omega) hok (by omega)]; done) | (rw [Fl.join_2i (i := i) (by omega) hok (by omega) (by omega)]; rfl) | done))) (consE (congrArg AV.trees (show ((Fl.outJ kind (l.take i)).getD 0 tree0).l = (Fl.joinT kind whole l).l from (by first | (rw [Fl.join_bad (i := i) (by omega) (by omega) (by omega)]; rfl) | (rw [Fl.join_0i (i := i) (by omega) hok (by omega)]; rfl) | (rw [Fl.join_1i (i := i) (by omega) hok (by omega)]; done) | (rw [Fl.join_2i (i := i) (by omega) hok (by omega) (by omega)]; rfl) | done))) rfl))))) [] rfl
     ·
      skip
      have h5 := neB hb5
      refine tri_skip ?_
      refine fin_then ?_
      refine tri_seq ?_
      refine tri_regD hcx [(606, .to 606)] [] [6] [] [] [] [(606, .box [.int kind, .int 0, .int 0, .trees (Fl.outJ kind (l.take i))])] (by kernel_rfl) ?_ ?_
      ·
       exact az
      refine fin_then ?_
      refine tri_ret ?_
      exact fin_ret [] rfl rfl trivial hcx (avs := [.agg [.int kind, .int 0, .int 0, .trees (Fl.outJ kind (l.take i))]]) (by kernel_rfl) (congrArg AV.agg (consE (congrArg AV.int (show kind = (Fl.joinT kind whole l).kind from (by first | (rw [Fl.join_bad (i := i) (by omega) (by omega) (by omega)]; rfl) | (rw [Fl.join_0i (i := i) (by omega) hok (by omega)]; rfl) | (rw [Fl.join_1i (i := i) (by omega) hok (by omega)]; done) | (rw [Fl.join_2i (i := i) (by omega) hok (by omega) (by omega)]; rfl) | done))) (consE (congrArg AV.int (show 0 = (Fl.joinT kind whole l).v from (by first | (rw [Fl.join_bad (i := i) (by omega) (by omega) (by omega)]; rfl) | (rw [Fl.join_0i (i := i) (by omega) hok (by omega)]; rfl) | (rw [Fl.join_1i (i := i) (by omega) hok (by omega)]; done) | (rw [Fl.join_2i (i := i) (by omega) hok (by omega) (by omega)]; rfl) | done))) (consE (congrArg AV.int (show 0 = (Fl.joinT kind whole l).k from (by first | (rw [Fl.join_bad (i := i) (by omega) (by omega) (by omega)]; rfl) | (rw [Fl.join_0i (i := i) (by omega) hok (by omega)]; rfl) | (rw [Fl.join_1i (i := i) (by omega) hok (by omega)]; done) | (rw [Fl.join_2i (i := i) (by omega) hok (by omega) (by omega)]; rfl) | done))) (consE (congrArg AV.trees (show (Fl.outJ kind (l.take i)) = (Fl.joinT kind whole l).l from (by first | (rw [Fl.join_bad (i := i) (by omega) (by omega) (by omega)]; rfl) | (rw [Fl.join_0i (i := i) (by omega) hok (by omega)]; rfl) | (rw [Fl.join_1i (i := i) (by omega) hok (by omega)]; done) | (rw [Fl.join_2i (i := i) (by omega) hok (by omega) (by omega)]; rfl) | done))) rfl))))) [] rfl
 ·
  cases hσ
def cx_rLeast : Cx := ⟨tyR11b, [(48, rConst_σ), (49, (coeF [.id, .id, .ld (.trees [])] rJoin_σ))]⟩
theorem cx_rLeast_ok : CxOk Tryd.prog cx_rLeast := cx_ok tyR11b_ok ⟨rConst_sound, (rJoin_sound.coe [.id, .id, .ld (.trees [])] rfl), trivial⟩
def rLeast_σ : CtF
  | [.im (.val (.int .i64 k)), .im (.ls (.trees l))], [] => some (l.length ≤ 2932031007317 ∧ Fl.lensL l ∧ Fl.sizeL l ≤ 1000000 ∧ -1000000000000000 ≤ k ∧ k ≤ 1099511627776, .agg [.int ((Fl.leastT k l).kind), .int ((Fl.leastT k l).v), .int ((Fl.leastT k l).k), .trees ((Fl.leastT k l).l)], [])
  | _, _ => none
theorem rLeast_sound : Sound Tryd.prog 50 rLeast_σ := by
 refine sound_mk (cx := cx_rLeast) (fn := Tryd.f50) Tryd.func50 (by kernel_rfl) rfl ?_
 intro w0 G0 args os p r outs hσ hp hm0 hd0
 have hcx : CxOk Tryd.prog cx_rLeast := cx_rLeast_ok
 unfold rLeast_σ at hσ
 split at hσ
 ·
  rename_i k l
  simp only [Option.some.injEq, Prod.mk.injEq] at hσ
  obtain ⟨rfl, rfl, rfl⟩ := hσ
  obtain ⟨wW, wO, wm, wβ, wd⟩ := w0
  replace hm0 : wm = 0 := hm0
  subst hm0
  replace hd0 : wd = [] := hd0
  subst hd0
  refine ⟨by kernel_rfl, ?_⟩
  change Tri ⟨_, _, _, _, _, _⟩ [(0, .int k), (1, .trees l)] [] _ _
  obtain ⟨hm1, hm2, hm3, hk1, hk2⟩ := hp
  have hm9 := hm1
  refine tri_seq ?_
  refine tri_regD hcx [(1000, .to 604)] [4] [0, 1] [] [] [(4, .loc 604 0)] [(604, .box [.int 0, .int 0, .int 0, .im (.val (.slice none 0 0))])] (by kernel_rfl) ?_ ?_
  ·
   exact az
  refine fin_then ?_
  refine tri_seq ?_
  refine tri_regD hcx [(1000, .to 208)] [5] [4, 0, 1] [604] [] [(5, .row 208)] [(208, .row 24 (.trees []))] (by kernel_rfl) ?_ ?_
  ·
   exact az
  refine fin_then ?_
  refine tri_seq ?_
  refine tri_seq ?_
  refine tri_regD hcx [] [6] [5, 4, 0, 1] [208, 604] [] [(6, .int 0)] [] (by kernel_rfl) ?_ ?_
  ·
   exact az
  refine fin_then ?_
  refine tri_block ?_
  refine tri_ren (ρ := [(604, .to 604), (208, .to 700)]) (keys := [0, 1, 4, 5, 6]) (E' := [(0, .int k), (1, .trees l), (4, .loc 604 0), (5, .row 700), (6, .int 0)]) (H' := [(604, .box [.int 0, .int 0, .int 0, .im (.val (.slice none 0 0))]), (700, .row 24 (.trees []))]) (by kernel_rfl) ?_
  refine tri_loop (X := Nat) (fun x0 => x0 ≤ l.length) (fun x0 => [(0, .int (k - ((Fl.onesL (l.take x0) : Nat) : Int))), (1, .trees l), (4, .loc 604 0), (5, .row 700), (6, .int (x0 : Int))]) (fun x0 => [(604, .box [.int 0, .int 0, .int 0, .im (.val (.slice none 0 0))]), (700, .row 24 (.trees (Fl.restL (l.take x0))))]) (fun x0 => l.length - x0) (0) ?_ ?_ ?_ ?_
  ·
   show 0 ≤ l.length
   omega
  ·
   exact subE_mk (l := [.int k, .trees l, .loc 604 0, .row 700, .int 0]) (m := [.int (k - ((Fl.onesL (l.take 0) : Nat) : Int)), .trees l, .loc 604 0, .row 700, .int (0 : Int)]) (by kernel_rfl) (by kernel_rfl) (consE (congrArg AV.int (show k = (k - ((Fl.onesL (l.take 0) : Nat) : Int)) from (by (show _ = k - ((0 : Nat) : Int); simp)))) (consE rfl (consE rfl (consE rfl (consE (congrArg AV.int (show 0 = (0 : Int) from (by first | rfl | omega | (simp; done)))) rfl)))))
  ·
   exact Eq.trans (show _ = [(604, .box [.int 0, .int 0, .int 0, .im (.val (.slice none 0 0))]), (700, .row 24 (.trees []))] from by kernel_rfl) (consH rfl (consH (congrArg (fun x => ((700 : Nat), x)) (congrArg (fun x => AObj.row 24 (.trees x)) (show [] = (Fl.restL (l.take 0)) from (by rfl)))) rfl))
  ·
   intro i hI
   replace hI : i ≤ l.length := hI
   change Tri _ [(0, .int (k - ((Fl.onesL (l.take i) : Nat) : Int))), (1, .trees l), (4, .loc 604 0), (5, .row 700), (6, .int (i : Int))] [(604, .box [.int 0, .int 0, .int 0, .im (.val (.slice none 0 0))]), (700, .row 24 (.trees (Fl.restL (l.take i))))] _ _
   have hol := Fl.ones_le (l := l) i
   have hrl := Fl.rest_le (l := l) i
   have hrs := Fl.rest_sz (l := l) i
   have hro := Fl.rest_ok hm2 i
   refine tri_seq ?_
   refine tri_seq ?_
   refine tri_regD hcx [] [12] [0, 1, 4, 5, 6] [604, 700] [] [(12, .bool (decide ((i : Int) < (l.length : Int))))] [] (by kernel_rfl) ?_ ?_
   ·
    exact az
   refine fin_then ?_
   refine tri_cond (b := (decide ((i : Int) < (l.length : Int)))) (by kernel_rfl) (fun hb0 => ?_) (fun hb0 => ?_)
   ·
    skip
    have h0 := of_decide_eq_true hb0
    refine tri_skip ?_
    refine fin_then ?_
    refine tri_seq ?_
    refine tri_block ?_
    refine tri_seq ?_
    refine tri_regD hcx [] [20] [0, 1, 4, 5, 6] [604, 700] [((0 : Int) ≤ (i : Int) ∧ (i : Int) < (l.length : Int))] [(20, .bool (((l.getD i tree0).kind) != 1))] [] (by kernel_rfl) ?_ ?_
    ·
     refine (ap ?_ az)
     first | omega | exact id | exact vcNot | exact vcG | exact vcH | (intro _; omega) | exact (fun _ h => h) | (intro h; simp at h; omega) | (simp only [List.length_cons, List.length_nil, List.length_append, List.length_map, List.length_set, List.length_replicate]; omega) | (intro h; simp [h]; done) | (constructor <;> omega) | (simp only [List.length_cons, List.length_nil]; omega) | exact True.intro | exact ⟨by omega, hro, by omega, by omega, by omega⟩ | done
    refine fin_then ?_
    refine tri_cond (b := (((l.getD i tree0).kind) != 1)) (by kernel_rfl) (fun hb1 => ?_) (fun hb1 => ?_)
    ·
     skip
     have h1 := bne_iff_ne.1 hb1
     refine tri_regD hcx [(1006, .to 700)] [5] [0, 1, 4, 6] [604] [((0 : Int) ≤ (i : Int) ∧ (i : Int) < (l.length : Int)), (((Fl.restL (l.take i)).length + [(Tree.node ((l.getD i tree0).kind) ((l.getD i tree0).v) ((l.getD i tree0).k) ((l.getD i tree0).l))].length) * 48 ≤ 140737488355328)] [(5, .row 700)] [(700, .row 24 (.trees ((Fl.restL (l.take i)) ++ [(Tree.node ((l.getD i tree0).kind) ((l.getD i tree0).v) ((l.getD i tree0).k) ((l.getD i tree0).l))])))] (by kernel_rfl) ?_ ?_
     ·
      refine (ap ?_ (ap ?_ az))
      all_goals
       first | omega | exact id | exact vcNot | exact vcG | exact vcH | (intro _; omega) | exact (fun _ h => h) | (intro h; simp at h; omega) | (simp only [List.length_cons, List.length_nil, List.length_append, List.length_map, List.length_set, List.length_replicate]; omega) | (intro h; simp [h]; done) | (constructor <;> omega) | (simp only [List.length_cons, List.length_nil]; omega) | exact True.intro | exact ⟨by omega, hro, by omega, by omega, by omega⟩ | done
     refine fin_block ?_
     refine fin_then ?_
     refine tri_regD hcx [] [6] [5, 0, 1, 4] [700, 604] [Fit ((i : Int) + 1)] [(6, .int ((i : Int) + 1))] [] (by kernel_rfl) ?_ ?_
     ·
      refine (ap ?_ az)
      first | omega | exact id | exact vcNot | exact vcG | exact vcH | (intro _; omega) | exact (fun _ h => h) | (intro h; simp at h; omega) | (simp only [List.length_cons, List.length_nil, List.length_append, List.length_map, List.length_set, List.length_replicate]; omega) | (intro h; simp [h]; done) | (constructor <;> omega) | (simp only [List.length_cons, List.length_nil]; omega) | exact True.intro | exact ⟨by omega, hro, by omega, by omega, by omega⟩ | done
     refine fin_ren (ρ := [(604, .to 604), (700, .to 700)]) (keys := [0, 1, 4, 5, 6]) (E' := [(0, .int (k - ((Fl.onesL (l.take i) : Nat) : Int))), (1, .trees l), (4, .loc 604 0), (5, .row 700), (6, .int ((i : Int) + 1))]) (H' := [(604, .box [.int 0, .int 0, .int 0, .im (.val (.slice none 0 0))]), (700, .row 24 (.trees ((Fl.restL (l.take i)) ++ [(Tree.node ((l.getD i tree0).kind) ((l.getD i tree0).v) ((l.getD i tree0).k) ((l.getD i tree0).l))])))]) (by kernel_rfl) ?_
     refine fin_round (i + 1) ?_ ?_ ?_ ?_
     ·
      show (i + 1) ≤ l.length
      omega
     ·
      show l.length - (i + 1) < l.length - i
      omega
     ·
      exact subE_mk (l := [.int (k - ((Fl.onesL (l.take i) : Nat) : Int)), .trees l, .loc 604 0, .row 700, .int ((i : Int) + 1)]) (m := [.int (k - ((Fl.onesL (l.take (i + 1)) : Nat) : Int)), .trees l, .loc 604 0, .row 700, .int ((i + 1) : Int)]) (by kernel_rfl) (by kernel_rfl) (consE (congrArg AV.int (show (k - ((Fl.onesL (l.take i) : Nat) : Int)) = (k - ((Fl.onesL (l.take (i + 1)) : Nat) : Int)) from (by (rw [Fl.ones_take (by omega)]; first | (rw [if_pos (by omega)]; omega) | (rw [if_neg (by omega)]; simp))))) (consE rfl (consE rfl (consE rfl (consE (congrArg AV.int (show ((i : Int) + 1) = ((i + 1) : Int) from (by first | rfl | omega | (simp; done)))) rfl)))))
     ·
      exact Eq.trans (show _ = [(604, .box [.int 0, .int 0, .int 0, .im (.val (.slice none 0 0))]), (700, .row 24 (.trees ((Fl.restL (l.take i)) ++ [(Tree.node ((l.getD i tree0).kind) ((l.getD i tree0).v) ((l.getD i tree0).k) ((l.getD i tree0).l))])))] from by kernel_rfl) (consH rfl (consH (congrArg (fun x => ((700 : Nat), x)) (congrArg (fun x => AObj.row 24 (.trees x)) (show ((Fl.restL (l.take i)) ++ [(Tree.node ((l.getD i tree0).kind) ((l.getD i tree0).v) ((l.getD i tree0).k) ((l.getD i tree0).l))]) = (Fl.restL (l.take (i + 1))) from (by first | (rw [Fl.node_eta]; exact Fl.rest_y (by omega) (by omega)) | exact Fl.rest_n (by omega) (by omega))))) rfl))
    ·
     skip
     have h1 := bneF hb1
     refine tri_seq ?_
     refine tri_regD hcx [] [33] [0, 1, 4, 5, 6] [604, 700] [((0 : Int) ≤ (i : Int) ∧ (i : Int) < (l.length : Int))] [(33, .bool (((l.getD i tree0).v) == 1))] [] (by kernel_rfl) ?_ ?_
     ·
      refine (ap ?_ az)
      first | omega | exact id | exact vcNot | exact vcG | exact vcH | (intro _; omega) | exact (fun _ h => h) | (intro h; simp at h; omega) | (simp only [List.length_cons, List.length_nil, List.length_append, List.length_map, List.length_set, List.length_replicate]; omega) | (intro h; simp [h]; done) | (constructor <;> omega) | (simp only [List.length_cons, List.length_nil]; omega) | exact True.intro | exact ⟨by omega, hro, by omega, by omega, by omega⟩ | done
     refine fin_then ?_
     refine tri_cond (b := (((l.getD i tree0).v) == 1)) (by kernel_rfl) (fun hb2 => ?_) (fun hb2 => ?_)
     ·
      skip
      have h2 := eq_of_beq hb2
      refine tri_regD hcx [] [0] [1, 4, 5, 6] [604, 700] [Fit ((k - ((Fl.onesL (l.take i) : Nat) : Int)) - 1)] [(0, .int ((k - ((Fl.onesL (l.take i) : Nat) : Int)) - 1))] [] (by kernel_rfl) ?_ ?_
      ·
       refine (ap ?_ az)
       first | omega | exact id | exact vcNot | exact vcG | exact vcH | (intro _; omega) | exact (fun _ h => h) | (intro h; simp at h; omega) | (simp only [List.length_cons, List.length_nil, List.length_append, List.length_map, List.length_set, List.length_replicate]; omega) | (intro h; simp [h]; done) | (constructor <;> omega) | (simp only [List.length_cons, List.length_nil]; omega) | exact True.intro | exact ⟨by omega, hro, by omega, by omega, by omega⟩ | done
      refine fin_block ?_
      refine fin_then ?_
      refine tri_regD hcx [] [6] [0, 1, 4, 5] [604, 700] [Fit ((i : Int) + 1)] [(6, .int ((i : Int) + 1))] [] (by kernel_rfl) ?_ ?_
      ·
       refine (ap ?_ az)
       first | omega | exact id | exact vcNot | exact vcG | exact vcH | (intro _; omega) | exact (fun _ h => h) | (intro h; simp at h; omega) | (simp only [List.length_cons, List.length_nil, List.length_append, List.length_map, List.length_set, List.length_replicate]; omega) | (intro h; simp [h]; done) | (constructor <;> omega) | (simp only [List.length_cons, List.length_nil]; omega) | exact True.intro | exact ⟨by omega, hro, by omega, by omega, by omega⟩ | done
      refine fin_round (i + 1) ?_ ?_ ?_ ?_
      ·
       show (i + 1) ≤ l.length
       omega
      ·
       show l.length - (i + 1) < l.length - i
       omega
      ·
       exact subE_mk (l := [.int ((k - ((Fl.onesL (l.take i) : Nat) : Int)) - 1), .trees l, .loc 604 0, .row 700, .int ((i : Int) + 1)]) (m := [.int (k - ((Fl.onesL (l.take (i + 1)) : Nat) : Int)), .trees l, .loc 604 0, .row 700, .int ((i + 1) : Int)]) (by kernel_rfl) (by kernel_rfl) (consE (congrArg AV.int (show ((k - ((Fl.onesL (l.take i) : Nat) : Int)) - 1) = (k - ((Fl.onesL (l.take (i + 1)) : Nat) : Int)) from (by (rw [Fl.ones_take (by omega)]; first | (rw [if_pos (by omega)]; omega) | (rw [if_neg (by omega)]; simp))))) (consE rfl (consE rfl (consE rfl (consE (congrArg AV.int (show ((i : Int) + 1) = ((i + 1) : Int) from (by first | rfl | omega | (simp; done)))) rfl)))))
      ·
       exact Eq.trans (show _ = [(604, .box [.int 0, .int 0, .int 0, .im (.val (.slice none 0 0))]), (700, .row 24 (.trees (Fl.restL (l.take i))))] from by kernel_rfl) (consH rfl (consH (congrArg (fun x => ((700 : Nat), x)) (congrArg (fun x => AObj.row 24 (.trees x)) (show (Fl.restL (l.take i)) = (Fl.restL (l.take (i + 1))) from (by first | (rw [Fl.node_eta]; exact Fl.rest_y (by omega) (by omega)) | exact Fl.rest_n (by omega) (by omega))))) rfl))
     ·
      skip
      have h2 := neB hb2
      refine tri_skip ?_
      refine fin_block ?_
      refine fin_then ?_
      refine tri_regD hcx [] [6] [0, 1, 4, 5] [604, 700] [Fit ((i : Int) + 1)] [(6, .int ((i : Int) + 1))] [] (by kernel_rfl) ?_ ?_
      ·
       refine (ap ?_ az)
       first | omega | exact id | exact vcNot | exact vcG | exact vcH | (intro _; omega) | exact (fun _ h => h) | (intro h; simp at h; omega) | (simp only [List.length_cons, List.length_nil, List.length_append, List.length_map, List.length_set, List.length_replicate]; omega) | (intro h; simp [h]; done) | (constructor <;> omega) | (simp only [List.length_cons, List.length_nil]; omega) | exact True.intro | exact ⟨by omega, hro, by omega, by omega, by omega⟩ | done
      refine fin_round (i + 1) ?_ ?_ ?_ ?_
      ·
       show (i + 1) ≤ l.length
       omega
      ·
       show l.length - (i + 1) < l.length - i
       omega
      ·
       exact subE_mk (l := [.int (k - ((Fl.onesL (l.take i) : Nat) : Int)), .trees l, .loc 604 0, .row 700, .int ((i : Int) + 1)]) (m := [.int (k - ((Fl.onesL (l.take (i + 1)) : Nat) : Int)), .trees l, .loc 604 0, .row 700, .int ((i + 1) : Int)]) (by kernel_rfl) (by kernel_rfl) (consE (congrArg AV.int (show (k - ((Fl.onesL (l.take i) : Nat) : Int)) = (k - ((Fl.onesL (l.take (i + 1)) : Nat) : Int)) from (by (rw [Fl.ones_take (by omega)]; first | (rw [if_pos (by omega)]; omega) | (rw [if_neg (by omega)]; simp))))) (consE rfl (consE rfl (consE rfl (consE (congrArg AV.int (show ((i : Int) + 1) = ((i + 1) : Int) from (by first | rfl | omega | (simp; done)))) rfl)))))
      ·
       exact Eq.trans (show _ = [(604, .box [.int 0, .int 0, .int 0, .im (.val (.slice none 0 0))]), (700, .row 24 (.trees (Fl.restL (l.take i))))] from by kernel_rfl) (consH rfl (consH (congrArg (fun x => ((700 : Nat), x)) (congrArg (fun x => AObj.row 24 (.trees x)) (show (Fl.restL (l.take i)) = (Fl.restL (l.take (i + 1))) from (by first | (rw [Fl.node_eta]; exact Fl.rest_y (by omega) (by omega)) | exact Fl.rest_n (by omega) (by omega))))) rfl))
   ·
    skip
    have h0 := of_decide_eq_false hb0
    refine tri_exit ?_
    refine fin_then_exit ?_
    refine fin_then_exit ?_
    refine fin_block_same ?_
    refine fin_then ?_
    refine tri_seq ?_
    refine tri_ren (ρ := [(604, .to 604), (700, .frz)]) (keys := [12, 0, 1, 4, 5, 6]) (E' := [(12, .bool (decide ((i : Int) < (l.length : Int)))), (0, .int (k - ((Fl.onesL (l.take i) : Nat) : Int))), (1, .trees l), (4, .loc 604 0), (5, .trees (Fl.restL (l.take i))), (6, .int (i : Int))]) (H' := [(604, .box [.int 0, .int 0, .int 0, .im (.val (.slice none 0 0))])]) (by kernel_rfl) ?_
    refine tri_regD hcx [] [7] [0, 4, 5] [604] [] [(7, .int ((Fl.restL (l.take i)).length : Int))] [] (by kernel_rfl) ?_ ?_
    ·
     exact az
    refine fin_then ?_
    refine tri_seq ?_
    refine tri_seq ?_
    refine tri_regD hcx [] [39] [7, 0, 4, 5] [604] [] [(39, .bool (decide ((k - ((Fl.onesL (l.take i) : Nat) : Int)) ≤ 0)))] [] (by kernel_rfl) ?_ ?_
    ·
     exact az
    refine fin_then ?_
    refine tri_cond (b := (decide ((k - ((Fl.onesL (l.take i) : Nat) : Int)) ≤ 0))) (by kernel_rfl) (fun hb3 => ?_) (fun hb3 => ?_)
    ·
     skip
     have h3 := of_decide_eq_true hb3
     refine tri_seq ?_
     refine tri_regD hcx [(604, .to 604)] [] [4] [] [(True)] [] [(604, .box [.int 1, .int (1 : Int), .int 0, .trees []])] (by kernel_rfl) ?_ ?_
     ·
      refine (ap ?_ az)
      first | omega | exact id | exact vcNot | exact vcG | exact vcH | (intro _; omega) | exact (fun _ h => h) | (intro h; simp at h; omega) | (simp only [List.length_cons, List.length_nil, List.length_append, List.length_map, List.length_set, List.length_replicate]; omega) | (intro h; simp [h]; done) | (constructor <;> omega) | (simp only [List.length_cons, List.length_nil]; omega) | exact True.intro | exact ⟨by omega, hro, by omega, by omega, by omega⟩ | done
     refine fin_then ?_
     refine tri_ret ?_
     refine fin_then_ret ?_
     exact fin_ret [] rfl rfl trivial hcx (avs := [.agg [.int 1, .int (1 : Int), .int 0, .trees []]]) (by kernel_rfl) (congrArg AV.agg (consE (congrArg AV.int (show 1 = (Fl.leastT k l).kind from (by first | (rw [Fl.least_1 (i := i) (by omega) (by omega)]; rfl) | (rw [Fl.least_2 (i := i) (by omega) (by omega) (by omega)]; rfl) | (rw [Fl.least_3 (i := i) (by omega) (by omega) (by omega) (by omega)]; done) | (rw [Fl.least_4 (i := i) (by omega) (by omega) (by omega) (by omega) (by omega)]; done) | (rw [Fl.least_5 (i := i) (by omega) (by omega) (by omega) (by omega) (by omega)]; rfl) | done))) (consE (congrArg AV.int (show (1 : Int) = (Fl.leastT k l).v from (by first | (rw [Fl.least_1 (i := i) (by omega) (by omega)]; rfl) | (rw [Fl.least_2 (i := i) (by omega) (by omega) (by omega)]; rfl) | (rw [Fl.least_3 (i := i) (by omega) (by omega) (by omega) (by omega)]; done) | (rw [Fl.least_4 (i := i) (by omega) (by omega) (by omega) (by omega) (by omega)]; done) | (rw [Fl.least_5 (i := i) (by omega) (by omega) (by omega) (by omega) (by omega)]; rfl) | done))) (consE (congrArg AV.int (show 0 = (Fl.leastT k l).k from (by first | (rw [Fl.least_1 (i := i) (by omega) (by omega)]; rfl) | (rw [Fl.least_2 (i := i) (by omega) (by omega) (by omega)]; rfl) | (rw [Fl.least_3 (i := i) (by omega) (by omega) (by omega) (by omega)]; done) | (rw [Fl.least_4 (i := i) (by omega) (by omega) (by omega) (by omega) (by omega)]; done) | (rw [Fl.least_5 (i := i) (by omega) (by omega) (by omega) (by omega) (by omega)]; rfl) | done))) (consE (congrArg AV.trees (show [] = (Fl.leastT k l).l from (by first | (rw [Fl.least_1 (i := i) (by omega) (by omega)]; rfl) | (rw [Fl.least_2 (i := i) (by omega) (by omega) (by omega)]; rfl) | (rw [Fl.least_3 (i := i) (by omega) (by omega) (by omega) (by omega)]; done) | (rw [Fl.least_4 (i := i) (by omega) (by omega) (by omega) (by omega) (by omega)]; done) | (rw [Fl.least_5 (i := i) (by omega) (by omega) (by omega) (by omega) (by omega)]; rfl) | done))) rfl))))) [] rfl
    ·
     skip
     have h3 := of_decide_eq_false hb3
     refine tri_skip ?_
     refine fin_then ?_
     refine tri_seq ?_
     refine tri_seq ?_
     refine tri_regD hcx [] [43] [7, 0, 4, 5] [604] [] [(43, .bool (decide ((k - ((Fl.onesL (l.take i) : Nat) : Int)) > ((Fl.restL (l.take i)).length : Int))))] [] (by kernel_rfl) ?_ ?_
     ·
      exact az
     refine fin_then ?_
     refine tri_cond (b := (decide ((k - ((Fl.onesL (l.take i) : Nat) : Int)) > ((Fl.restL (l.take i)).length : Int)))) (by kernel_rfl) (fun hb4 => ?_) (fun hb4 => ?_)
     ·
      skip
      have h4 := of_decide_eq_true hb4
      refine tri_seq ?_
      refine tri_regD hcx [(604, .to 604)] [] [4] [] [(True)] [] [(604, .box [.int 1, .int (0 : Int), .int 0, .trees []])] (by kernel_rfl) ?_ ?_
      ·
       refine (ap ?_ az)
       first | omega | exact id | exact vcNot | exact vcG | exact vcH | (intro _; omega) | exact (fun _ h => h) | (intro h; simp at h; omega) | (simp only [List.length_cons, List.length_nil, List.length_append, List.length_map, List.length_set, List.length_replicate]; omega) | (intro h; simp [h]; done) | (constructor <;> omega) | (simp only [List.length_cons, List.length_nil]; omega) | exact True.intro | exact ⟨by omega, hro, by omega, by omega, by omega⟩ | done
      refine fin_then ?_
      refine tri_ret ?_
      refine fin_then_ret ?_
      exact fin_ret [] rfl rfl trivial hcx (avs := [.agg [.int 1, .int (0 : Int), .int 0, .trees []]]) (by kernel_rfl) (congrArg AV.agg (consE (congrArg AV.int (show 1 = (Fl.leastT k l).kind from (by first | (rw [Fl.least_1 (i := i) (by omega) (by omega)]; rfl) | (rw [Fl.least_2 (i := i) (by omega) (by omega) (by omega)]; rfl) | (rw [Fl.least_3 (i := i) (by omega) (by omega) (by omega) (by omega)]; done) | (rw [Fl.least_4 (i := i) (by omega) (by omega) (by omega) (by omega) (by omega)]; done) | (rw [Fl.least_5 (i := i) (by omega) (by omega) (by omega) (by omega) (by omega)]; rfl) | done))) (consE (congrArg AV.int (show (0 : Int) = (Fl.leastT k l).v from (by first | (rw [Fl.least_1 (i := i) (by omega) (by omega)]; rfl) | (rw [Fl.least_2 (i := i) (by omega) (by omega) (by omega)]; rfl) | (rw [Fl.least_3 (i := i) (by omega) (by omega) (by omega) (by omega)]; done) | (rw [Fl.least_4 (i := i) (by omega) (by omega) (by omega) (by omega) (by omega)]; done) | (rw [Fl.least_5 (i := i) (by omega) (by omega) (by omega) (by omega) (by omega)]; rfl) | done))) (consE (congrArg AV.int (show 0 = (Fl.leastT k l).k from (by first | (rw [Fl.least_1 (i := i) (by omega) (by omega)]; rfl) | (rw [Fl.least_2 (i := i) (by omega) (by omega) (by omega)]; rfl) | (rw [Fl.least_3 (i := i) (by omega) (by omega) (by omega) (by omega)]; done) | (rw [Fl.least_4 (i := i) (by omega) (by omega) (by omega) (by omega) (by omega)]; done) | (rw [Fl.least_5 (i := i) (by omega) (by omega) (by omega) (by omega) (by omega)]; rfl) | done))) (consE (congrArg AV.trees (show [] = (Fl.leastT k l).l from (by first | (rw [Fl.least_1 (i := i) (by omega) (by omega)]; rfl) | (rw [Fl.least_2 (i := i) (by omega) (by omega) (by omega)]; rfl) | (rw [Fl.least_3 (i := i) (by omega) (by omega) (by omega) (by omega)]; done) | (rw [Fl.least_4 (i := i) (by omega) (by omega) (by omega) (by omega) (by omega)]; done) | (rw [Fl.least_5 (i := i) (by omega) (by omega) (by omega) (by omega) (by omega)]; rfl) | done))) rfl))))) [] rfl
     ·
      skip
      have h4 := of_decide_eq_false hb4
      refine tri_skip ?_
      refine fin_then ?_
      refine tri_seq ?_
      refine tri_seq ?_
      refine tri_regD hcx [] [47] [0, 4, 5] [604] [] [(47, .bool ((k - ((Fl.onesL (l.take i) : Nat) : Int)) == ((Fl.restL (l.take i)).length : Int)))] [] (by kernel_rfl) ?_ ?_
      ·
       exact az
      refine fin_then ?_
      refine tri_cond (b := ((k - ((Fl.onesL (l.take i) : Nat) : Int)) == ((Fl.restL (l.take i)).length : Int))) (by kernel_rfl) (fun hb5 => ?_) (fun hb5 => ?_)
      ·
       skip
       have h5 := eq_of_beq hb5
       refine tri_seq ?_
       refine tri_regD hcx [(604, .to 604)] [] [4] [] [((Fl.restL (l.take i)).length ≤ 2932031007317 ∧ Fl.lensL (Fl.restL (l.take i)) ∧ Fl.sizeL (Fl.restL (l.take i)) ≤ 1000000 ∧ ((1 : Int) = 0 ∨ (1 : Int) = 1) ∧ (4 : Int) ≠ 1)] [] [(604, .box [.int ((Fl.joinT (4 : Int) (1 : Int) (Fl.restL (l.take i))).kind), .int ((Fl.joinT (4 : Int) (1 : Int) (Fl.restL (l.take i))).v), .int ((Fl.joinT (4 : Int) (1 : Int) (Fl.restL (l.take i))).k), .trees ((Fl.joinT (4 : Int) (1 : Int) (Fl.restL (l.take i))).l)])] (by kernel_rfl) ?_ ?_
       ·
        refine (ap ?_ az)
        first | omega | exact id | exact vcNot | exact vcG | exact vcH | (intro _; omega) | exact (fun _ h => h) | (intro h; simp at h; omega) | (simp only [List.length_cons, List.length_nil, List.length_append, List.length_map, List.length_set, List.length_replicate]; omega) | (intro h; simp [h]; done) | (constructor <;> omega) | (simp only [List.length_cons, List.length_nil]; omega) | exact True.intro | exact ⟨by omega, hro, by omega, by omega, by omega⟩ | done
       refine fin_then ?_
       refine tri_ret ?_
       refine fin_then_ret ?_
       exact fin_ret [] rfl rfl trivial hcx (avs := [.agg [.int ((Fl.joinT (4 : Int) (1 : Int) (Fl.restL (l.take i))).kind), .int ((Fl.joinT (4 : Int) (1 : Int) (Fl.restL (l.take i))).v), .int ((Fl.joinT (4 : Int) (1 : Int) (Fl.restL (l.take i))).k), .trees ((Fl.joinT (4 : Int) (1 : Int) (Fl.restL (l.take i))).l)]]) (by kernel_rfl) (congrArg AV.agg (consE (congrArg AV.int (show (Fl.joinT (4 : Int) (1 : Int) (Fl.restL (l.take i))).kind = (Fl.leastT k l).kind from (by first | (rw [Fl.least_1 (i := i) (by omega) (by omega)]; rfl) | (rw [Fl.least_2 (i := i) (by omega) (by omega) (by omega)]; rfl) | (rw [Fl.least_3 (i := i) (by omega) (by omega) (by omega) (by omega)]; done) | (rw [Fl.least_4 (i := i) (by omega) (by omega) (by omega) (by omega) (by omega)]; done) | (rw [Fl.least_5 (i := i) (by omega) (by omega) (by omega) (by omega) (by omega)]; rfl) | done))) (consE (congrArg AV.int (show (Fl.joinT (4 : Int) (1 : Int) (Fl.restL (l.take i))).v = (Fl.leastT k l).v from (by first | (rw [Fl.least_1 (i := i) (by omega) (by omega)]; rfl) | (rw [Fl.least_2 (i := i) (by omega) (by omega) (by omega)]; rfl) | (rw [Fl.least_3 (i := i) (by omega) (by omega) (by omega) (by omega)]; done) | (rw [Fl.least_4 (i := i) (by omega) (by omega) (by omega) (by omega) (by omega)]; done) | (rw [Fl.least_5 (i := i) (by omega) (by omega) (by omega) (by omega) (by omega)]; rfl) | done))) (consE (congrArg AV.int (show (Fl.joinT (4 : Int) (1 : Int) (Fl.restL (l.take i))).k = (Fl.leastT k l).k from (by first | (rw [Fl.least_1 (i := i) (by omega) (by omega)]; rfl) | (rw [Fl.least_2 (i := i) (by omega) (by omega) (by omega)]; rfl) | (rw [Fl.least_3 (i := i) (by omega) (by omega) (by omega) (by omega)]; done) | (rw [Fl.least_4 (i := i) (by omega) (by omega) (by omega) (by omega) (by omega)]; done) | (rw [Fl.least_5 (i := i) (by omega) (by omega) (by omega) (by omega) (by omega)]; rfl) | done))) (consE (congrArg AV.trees (show (Fl.joinT (4 : Int) (1 : Int) (Fl.restL (l.take i))).l = (Fl.leastT k l).l from (by first | (rw [Fl.least_1 (i := i) (by omega) (by omega)]; rfl) | (rw [Fl.least_2 (i := i) (by omega) (by omega) (by omega)]; rfl) | (rw [Fl.least_3 (i := i) (by omega) (by omega) (by omega) (by omega)]; done) | (rw [Fl.least_4 (i := i) (by omega) (by omega) (by omega) (by omega) (by omega)]; done) | (rw [Fl.least_5 (i := i) (by omega) (by omega) (by omega) (by omega) (by omega)]; rfl) | done))) rfl))))) [] rfl
      ·
       skip
       have h5 := neB hb5
       refine tri_skip ?_
       refine fin_then ?_
       refine tri_seq ?_
       refine tri_seq ?_
       refine tri_regD hcx [] [51] [0, 4, 5] [604] [] [(51, .bool ((k - ((Fl.onesL (l.take i) : Nat) : Int)) == 1))] [] (by kernel_rfl) ?_ ?_
       ·
        exact az
       refine fin_then ?_
       refine tri_cond (b := ((k - ((Fl.onesL (l.take i) : Nat) : Int)) == 1)) (by kernel_rfl) (fun hb6 => ?_) (fun hb6 => ?_)
       ·
        skip
        have h6 := eq_of_beq hb6
        refine tri_seq ?_
        refine tri_regD hcx [(604, .to 604)] [] [4] [] [((Fl.restL (l.take i)).length ≤ 2932031007317 ∧ Fl.lensL (Fl.restL (l.take i)) ∧ Fl.sizeL (Fl.restL (l.take i)) ≤ 1000000 ∧ ((0 : Int) = 0 ∨ (0 : Int) = 1) ∧ (5 : Int) ≠ 1)] [] [(604, .box [.int ((Fl.joinT (5 : Int) (0 : Int) (Fl.restL (l.take i))).kind), .int ((Fl.joinT (5 : Int) (0 : Int) (Fl.restL (l.take i))).v), .int ((Fl.joinT (5 : Int) (0 : Int) (Fl.restL (l.take i))).k), .trees ((Fl.joinT (5 : Int) (0 : Int) (Fl.restL (l.take i))).l)])] (by kernel_rfl) ?_ ?_
        ·
         refine (ap ?_ az)
         first | omega | exact id | exact vcNot | exact vcG | exact vcH | (intro _; omega) | exact (fun _ h => h) | (intro h; simp at h; omega) | (simp only [List.length_cons, List.length_nil, List.length_append, List.length_map, List.length_set, List.length_replicate]; omega) | (intro h; simp [h]; done) | (constructor <;> omega) | (simp only [List.length_cons, List.length_nil]; omega) | exact True.intro | exact ⟨by omega, hro, by omega, by omega, by omega⟩ | done
        refine fin_then ?_
        refine tri_ret ?_
        refine fin_then_ret ?_
        exact fin_ret [] rfl rfl trivial hcx (avs := [.agg [.int ((Fl.joinT (5 : Int) (0 : Int) (Fl.restL (l.take i))).kind), .int ((Fl.joinT (5 : Int) (0 : Int) (Fl.restL (l.take i))).v), .int ((Fl.joinT (5 : Int) (0 : Int) (Fl.restL (l.take i))).k), .trees ((Fl.joinT (5 : Int) (0 : Int) (Fl.restL (l.take i))).l)]]) (by kernel_rfl) (congrArg AV.agg (consE (congrArg AV.int (show (Fl.joinT (5 : Int) (0 : Int) (Fl.restL (l.take i))).kind = (Fl.leastT k l).kind from (by first | (rw [Fl.least_1 (i := i) (by omega) (by omega)]; rfl) | (rw [Fl.least_2 (i := i) (by omega) (by omega) (by omega)]; rfl) | (rw [Fl.least_3 (i := i) (by omega) (by omega) (by omega) (by omega)]; done) | (rw [Fl.least_4 (i := i) (by omega) (by omega) (by omega) (by omega) (by omega)]; done) | (rw [Fl.least_5 (i := i) (by omega) (by omega) (by omega) (by omega) (by omega)]; rfl) | done))) (consE (congrArg AV.int (show (Fl.joinT (5 : Int) (0 : Int) (Fl.restL (l.take i))).v = (Fl.leastT k l).v from (by first | (rw [Fl.least_1 (i := i) (by omega) (by omega)]; rfl) | (rw [Fl.least_2 (i := i) (by omega) (by omega) (by omega)]; rfl) | (rw [Fl.least_3 (i := i) (by omega) (by omega) (by omega) (by omega)]; done) | (rw [Fl.least_4 (i := i) (by omega) (by omega) (by omega) (by omega) (by omega)]; done) | (rw [Fl.least_5 (i := i) (by omega) (by omega) (by omega) (by omega) (by omega)]; rfl) | done))) (consE (congrArg AV.int (show (Fl.joinT (5 : Int) (0 : Int) (Fl.restL (l.take i))).k = (Fl.leastT k l).k from (by first | (rw [Fl.least_1 (i := i) (by omega) (by omega)]; rfl) | (rw [Fl.least_2 (i := i) (by omega) (by omega) (by omega)]; rfl) | (rw [Fl.least_3 (i := i) (by omega) (by omega) (by omega) (by omega)]; done) | (rw [Fl.least_4 (i := i) (by omega) (by omega) (by omega) (by omega) (by omega)]; done) | (rw [Fl.least_5 (i := i) (by omega) (by omega) (by omega) (by omega) (by omega)]; rfl) | done))) (consE (congrArg AV.trees (show (Fl.joinT (5 : Int) (0 : Int) (Fl.restL (l.take i))).l = (Fl.leastT k l).l from (by first | (rw [Fl.least_1 (i := i) (by omega) (by omega)]; rfl) | (rw [Fl.least_2 (i := i) (by omega) (by omega) (by omega)]; rfl) | (rw [Fl.least_3 (i := i) (by omega) (by omega) (by omega) (by omega)]; done) | (rw [Fl.least_4 (i := i) (by omega) (by omega) (by omega) (by omega) (by omega)]; done) | (rw [Fl.least_5 (i := i) (by omega) (by omega) (by omega) (by omega) (by omega)]; rfl) | done))) rfl))))) [] rfl
       ·
        skip
        have h6 := neB hb6
        refine tri_skip ?_
        refine fin_then ?_
        refine tri_seq ?_
        refine tri_regD hcx [(604, .to 604)] [] [4] [] [] [] [(604, .box [.int 6, .int 0, .int (k - ((Fl.onesL (l.take i) : Nat) : Int)), .trees (Fl.restL (l.take i))])] (by kernel_rfl) ?_ ?_
        ·
         exact az
        refine fin_then ?_
        refine tri_ret ?_
        exact fin_ret [] rfl rfl trivial hcx (avs := [.agg [.int 6, .int 0, .int (k - ((Fl.onesL (l.take i) : Nat) : Int)), .trees (Fl.restL (l.take i))]]) (by kernel_rfl) (congrArg AV.agg (consE (congrArg AV.int (show 6 = (Fl.leastT k l).kind from (by first | (rw [Fl.least_1 (i := i) (by omega) (by omega)]; rfl) | (rw [Fl.least_2 (i := i) (by omega) (by omega) (by omega)]; rfl) | (rw [Fl.least_3 (i := i) (by omega) (by omega) (by omega) (by omega)]; done) | (rw [Fl.least_4 (i := i) (by omega) (by omega) (by omega) (by omega) (by omega)]; done) | (rw [Fl.least_5 (i := i) (by omega) (by omega) (by omega) (by omega) (by omega)]; rfl) | done))) (consE (congrArg AV.int (show 0 = (Fl.leastT k l).v from (by first | (rw [Fl.least_1 (i := i) (by omega) (by omega)]; rfl) | (rw [Fl.least_2 (i := i) (by omega) (by omega) (by omega)]; rfl) | (rw [Fl.least_3 (i := i) (by omega) (by omega) (by omega) (by omega)]; done) | (rw [Fl.least_4 (i := i) (by omega) (by omega) (by omega) (by omega) (by omega)]; done) | (rw [Fl.least_5 (i := i) (by omega) (by omega) (by omega) (by omega) (by omega)]; rfl) | done))) (consE (congrArg AV.int (show (k - ((Fl.onesL (l.take i) : Nat) : Int)) = (Fl.leastT k l).k from (by first | (rw [Fl.least_1 (i := i) (by omega) (by omega)]; rfl) | (rw [Fl.least_2 (i := i) (by omega) (by omega) (by omega)]; rfl) | (rw [Fl.least_3 (i := i) (by omega) (by omega) (by omega) (by omega)]; done) | (rw [Fl.least_4 (i := i) (by omega) (by omega) (by omega) (by omega) (by omega)]; done) | (rw [Fl.least_5 (i := i) (by omega) (by omega) (by omega) (by omega) (by omega)]; rfl) | done))) (consE (congrArg AV.trees (show (Fl.restL (l.take i)) = (Fl.leastT k l).l from (by first | (rw [Fl.least_1 (i := i) (by omega) (by omega)]; rfl) | (rw [Fl.least_2 (i := i) (by omega) (by omega) (by omega)]; rfl) | (rw [Fl.least_3 (i := i) (by omega) (by omega) (by omega) (by omega)]; done) | (rw [Fl.least_4 (i := i) (by omega) (by omega) (by omega) (by omega) (by omega)]; done) | (rw [Fl.least_5 (i := i) (by omega) (by omega) (by omega) (by omega) (by omega)]; rfl) | done))) rfl))))) [] rfl
 ·
  cases hσ
def rSimp_σ (nn : Nat) : CtF
  | [.agg [.im (.val (.int .i64 q)), .im (.val (.int .i64 v)), .im (.val (.int .i64 k)), .im (.ls (.trees l))]], [] => some (l.length ≤ 2932031007317 ∧ Fl.lensL l ∧ Fl.sizeL l ≤ 1000000 ∧ Fl.mayN 65536 q v k l = true ∧ Fl.sizeL l < nn, .agg [.int ((Fl.simpT (.node q v k l)).kind), .int ((Fl.simpT (.node q v k l)).v), .int ((Fl.simpT (.node q v k l)).k), .trees ((Fl.simpT (.node q v k l)).l)], [])
  | _, _ => none
def cx_rSimp (nn : Nat) : Cx := ⟨tyR11b, [(48, rConst_σ), (49, (coeF [.id, .id, .ld (.trees [])] rJoin_σ)), (50, (coeF [.id, .ld (.trees [])] rLeast_σ)), (33, (coeF [.agg [.id, .id, .id, .ld (.trees [])]] (rSimp_σ nn)))]⟩
theorem cx_rSimp_ok (nn : Nat) (hR : Sound Tryd.prog 33 (rSimp_σ nn)) : CxOk Tryd.prog (cx_rSimp nn) := cx_ok tyR11b_ok ⟨rConst_sound, (rJoin_sound.coe [.id, .id, .ld (.trees [])] rfl), (rLeast_sound.coe [.id, .ld (.trees [])] rfl), (hR.coe [.agg [.id, .id, .id, .ld (.trees [])]] rfl), trivial⟩
theorem rSimp_step (nn : Nat) (hR : Sound Tryd.prog 33 (rSimp_σ nn)) : Sound Tryd.prog 33 (rSimp_σ (nn + 1)) := by
 refine sound_mk (cx := (cx_rSimp nn)) (fn := Tryd.f33) Tryd.func33 (by kernel_rfl) rfl ?_
 intro w0 G0 args os p r outs hσ hp hm0 hd0
 have hcx : CxOk Tryd.prog (cx_rSimp nn) := cx_rSimp_ok nn hR
 unfold rSimp_σ at hσ
 split at hσ
 ·
  rename_i q v k l
  simp only [Option.some.injEq, Prod.mk.injEq] at hσ
  obtain ⟨rfl, rfl, rfl⟩ := hσ
  obtain ⟨wW, wO, wm, wβ, wd⟩ := w0
  replace hm0 : wm = 0 := hm0
  subst hm0
  replace hd0 : wd = [] := hd0
  subst hd0
  refine ⟨by kernel_rfl, ?_⟩
  change Tri ⟨_, _, _, _, _, _⟩ [(0, .agg [.int q, .int v, .int k, .trees l])] [] _ _
  obtain ⟨hm1, hm2, hm3, hmay, hsz⟩ := hp
  have hm9 := hm1
  obtain ⟨hH, hC⟩ := Fl.may_parts hmay
  refine tri_seq ?_
  refine tri_regD hcx [(1001, .to 602), (1000, .frz)] [1, 2] [] [] [] [(1, .pto [.int q, .int v, .int k, .ls (.trees l)]), (2, .loc 602 0)] [(602, .box [.int 0, .int 0, .int 0, .im (.val (.slice none 0 0))])] (by kernel_rfl) ?_ ?_
  ·
   exact az
  refine fin_then ?_
  refine tri_seq ?_
  refine tri_regD hcx [(1000, .to 205)] [3] [1, 2] [602] [] [(3, .row 205)] [(205, .row 24 (.trees []))] (by kernel_rfl) ?_ ?_
  ·
   exact az
  refine fin_then ?_
  refine tri_seq ?_
  refine tri_seq ?_
  refine tri_regD hcx [] [4] [3, 1, 2] [205, 602] [] [(4, .int 0)] [] (by kernel_rfl) ?_ ?_
  ·
   exact az
  refine fin_then ?_
  refine tri_block ?_
  refine tri_ren (ρ := [(602, .to 602), (205, .to 700)]) (keys := [1, 2, 3, 4]) (E' := [(1, .pto [.int q, .int v, .int k, .ls (.trees l)]), (2, .loc 602 0), (3, .row 700), (4, .int 0)]) (H' := [(602, .box [.int 0, .int 0, .int 0, .im (.val (.slice none 0 0))]), (700, .row 24 (.trees []))]) (by kernel_rfl) ?_
  refine tri_loop (X := Nat) (fun x0 => x0 ≤ l.length) (fun x0 => [(1, .pto [.int q, .int v, .int k, .ls (.trees l)]), (2, .loc 602 0), (3, .row 700), (4, .int (x0 : Int))]) (fun x0 => [(602, .box [.int 0, .int 0, .int 0, .im (.val (.slice none 0 0))]), (700, .row 24 (.trees ((l.take x0).map Fl.simpT)))]) (fun x0 => l.length - x0) (0) ?_ ?_ ?_ ?_
  ·
   show 0 ≤ l.length
   omega
  ·
   exact subE_mk (l := [.pto [.int q, .int v, .int k, .ls (.trees l)], .loc 602 0, .row 700, .int 0]) (m := [.pto [.int q, .int v, .int k, .ls (.trees l)], .loc 602 0, .row 700, .int (0 : Int)]) (by kernel_rfl) (by kernel_rfl) (consE rfl (consE rfl (consE rfl (consE (congrArg AV.int (show 0 = (0 : Int) from (by first | rfl | omega | (simp; done)))) rfl))))
  ·
   exact Eq.trans (show _ = [(602, .box [.int 0, .int 0, .int 0, .im (.val (.slice none 0 0))]), (700, .row 24 (.trees []))] from by kernel_rfl) (consH rfl (consH (congrArg (fun x => ((700 : Nat), x)) (congrArg (fun x => AObj.row 24 (.trees x)) (show [] = ((l.take 0).map Fl.simpT) from (by rfl)))) rfl))
  ·
   intro i hI
   replace hI : i ≤ l.length := hI
   change Tri _ [(1, .pto [.int q, .int v, .int k, .ls (.trees l)]), (2, .loc 602 0), (3, .row 700), (4, .int (i : Int))] [(602, .box [.int 0, .int 0, .int 0, .im (.val (.slice none 0 0))]), (700, .row 24 (.trees ((l.take i).map Fl.simpT)))] _ _
   have hml : i ≤ l.length → _ := fun h => Fl.map_len (l := l) h
   have hms := Fl.map_size (l := l) i
   have hmo : Fl.lensL ((l.take i).map Fl.simpT) := Fl.lensL_size (by omega)
   have hsub : i < l.length → Fl.sizeL (l.getD i tree0).l < Fl.sizeL l := fun h => Fl.size_sub h
   have hlen : i < l.length → _ := fun h => Fl.lens_at hm2 h
   have hml9 : ((l.take i).map Fl.simpT).length = i := Fl.map_len (by omega)
   refine tri_seq ?_
   refine tri_seq ?_
   refine tri_regD hcx [] [10] [1, 2, 3, 4] [602, 700] [] [(10, .bool (decide ((i : Int) < (l.length : Int))))] [] (by kernel_rfl) ?_ ?_
   ·
    exact az
   refine fin_then ?_
   refine tri_cond (b := (decide ((i : Int) < (l.length : Int)))) (by kernel_rfl) (fun hb0 => ?_) (fun hb0 => ?_)
   ·
    skip
    have h0 := of_decide_eq_true hb0
    refine tri_skip ?_
    refine fin_then ?_
    refine tri_seq ?_
    refine tri_block ?_
    refine tri_regD hcx [(1008, .to 700)] [3] [1, 2, 4] [602] [((0 : Int) ≤ (i : Int) ∧ (i : Int) < (l.length : Int)), (((l.getD i tree0).l).length ≤ 2932031007317 ∧ Fl.lensL ((l.getD i tree0).l) ∧ Fl.sizeL ((l.getD i tree0).l) ≤ 1000000 ∧ Fl.mayN 65536 ((l.getD i tree0).kind) ((l.getD i tree0).v) ((l.getD i tree0).k) ((l.getD i tree0).l) = true ∧ Fl.sizeL ((l.getD i tree0).l) < nn), ((((l.take i).map Fl.simpT).length + [(Tree.node ((Fl.simpT (.node ((l.getD i tree0).kind) ((l.getD i tree0).v) ((l.getD i tree0).k) ((l.getD i tree0).l))).kind) ((Fl.simpT (.node ((l.getD i tree0).kind) ((l.getD i tree0).v) ((l.getD i tree0).k) ((l.getD i tree0).l))).v) ((Fl.simpT (.node ((l.getD i tree0).kind) ((l.getD i tree0).v) ((l.getD i tree0).k) ((l.getD i tree0).l))).k) ((Fl.simpT (.node ((l.getD i tree0).kind) ((l.getD i tree0).v) ((l.getD i tree0).k) ((l.getD i tree0).l))).l))].length) * 48 ≤ 140737488355328)] [(3, .row 700)] [(700, .row 24 (.trees (((l.take i).map Fl.simpT) ++ [(Tree.node ((Fl.simpT (.node ((l.getD i tree0).kind) ((l.getD i tree0).v) ((l.getD i tree0).k) ((l.getD i tree0).l))).kind) ((Fl.simpT (.node ((l.getD i tree0).kind) ((l.getD i tree0).v) ((l.getD i tree0).k) ((l.getD i tree0).l))).v) ((Fl.simpT (.node ((l.getD i tree0).kind) ((l.getD i tree0).v) ((l.getD i tree0).k) ((l.getD i tree0).l))).k) ((Fl.simpT (.node ((l.getD i tree0).kind) ((l.getD i tree0).v) ((l.getD i tree0).k) ((l.getD i tree0).l))).l))])))] (by kernel_rfl) ?_ ?_
    ·
     refine (ap ?_ (ap ?_ (ap ?_ az)))
     all_goals
      first | omega | exact id | exact vcNot | exact vcG | exact vcH | (intro _; omega) | exact (fun _ h => h) | (intro h; simp at h; omega) | (simp only [List.length_cons, List.length_nil, List.length_append, List.length_map, List.length_set, List.length_replicate]; omega) | (intro h; simp [h]; done) | (have h8 := hsub (by omega); have h7 := hlen (by omega); exact ⟨h7.1, h7.2, by omega, (Fl.may_at _ _).trans (hC _ (by omega)), by omega⟩) | (constructor <;> omega) | (simp only [List.length_cons, List.length_nil]; omega) | exact True.intro | exact ⟨by omega, hmo, by omega, by omega, by omega⟩ | done
    refine fin_block ?_
    refine fin_then ?_
    refine tri_regD hcx [] [4] [3, 1, 2] [700, 602] [Fit ((i : Int) + 1)] [(4, .int ((i : Int) + 1))] [] (by kernel_rfl) ?_ ?_
    ·
     refine (ap ?_ az)
     first | omega | exact id | exact vcNot | exact vcG | exact vcH | (intro _; omega) | exact (fun _ h => h) | (intro h; simp at h; omega) | (simp only [List.length_cons, List.length_nil, List.length_append, List.length_map, List.length_set, List.length_replicate]; omega) | (intro h; simp [h]; done) | (have h8 := hsub (by omega); have h7 := hlen (by omega); exact ⟨h7.1, h7.2, by omega, (Fl.may_at _ _).trans (hC _ (by omega)), by omega⟩) | (constructor <;> omega) | (simp only [List.length_cons, List.length_nil]; omega) | exact True.intro | exact ⟨by omega, hmo, by omega, by omega, by omega⟩ | done
    refine fin_ren (ρ := [(602, .to 602), (700, .to 700)]) (keys := [1, 2, 3, 4]) (E' := [(1, .pto [.int q, .int v, .int k, .ls (.trees l)]), (2, .loc 602 0), (3, .row 700), (4, .int ((i : Int) + 1))]) (H' := [(602, .box [.int 0, .int 0, .int 0, .im (.val (.slice none 0 0))]), (700, .row 24 (.trees (((l.take i).map Fl.simpT) ++ [(Tree.node ((Fl.simpT (.node ((l.getD i tree0).kind) ((l.getD i tree0).v) ((l.getD i tree0).k) ((l.getD i tree0).l))).kind) ((Fl.simpT (.node ((l.getD i tree0).kind) ((l.getD i tree0).v) ((l.getD i tree0).k) ((l.getD i tree0).l))).v) ((Fl.simpT (.node ((l.getD i tree0).kind) ((l.getD i tree0).v) ((l.getD i tree0).k) ((l.getD i tree0).l))).k) ((Fl.simpT (.node ((l.getD i tree0).kind) ((l.getD i tree0).v) ((l.getD i tree0).k) ((l.getD i tree0).l))).l))])))]) (by kernel_rfl) ?_
    refine fin_round (i + 1) ?_ ?_ ?_ ?_
    ·
     show (i + 1) ≤ l.length
     omega
    ·
     show l.length - (i + 1) < l.length - i
     omega
    ·
     exact subE_mk (l := [.pto [.int q, .int v, .int k, .ls (.trees l)], .loc 602 0, .row 700, .int ((i : Int) + 1)]) (m := [.pto [.int q, .int v, .int k, .ls (.trees l)], .loc 602 0, .row 700, .int ((i + 1) : Int)]) (by kernel_rfl) (by kernel_rfl) (consE rfl (consE rfl (consE rfl (consE (congrArg AV.int (show ((i : Int) + 1) = ((i + 1) : Int) from (by first | rfl | omega | (simp; done)))) rfl))))
    ·
     exact Eq.trans (show _ = [(602, .box [.int 0, .int 0, .int 0, .im (.val (.slice none 0 0))]), (700, .row 24 (.trees (((l.take i).map Fl.simpT) ++ [(Tree.node ((Fl.simpT (.node ((l.getD i tree0).kind) ((l.getD i tree0).v) ((l.getD i tree0).k) ((l.getD i tree0).l))).kind) ((Fl.simpT (.node ((l.getD i tree0).kind) ((l.getD i tree0).v) ((l.getD i tree0).k) ((l.getD i tree0).l))).v) ((Fl.simpT (.node ((l.getD i tree0).kind) ((l.getD i tree0).v) ((l.getD i tree0).k) ((l.getD i tree0).l))).k) ((Fl.simpT (.node ((l.getD i tree0).kind) ((l.getD i tree0).v) ((l.getD i tree0).k) ((l.getD i tree0).l))).l))])))] from by kernel_rfl) (consH rfl (consH (congrArg (fun x => ((700 : Nat), x)) (congrArg (fun x => AObj.row 24 (.trees x)) (show (((l.take i).map Fl.simpT) ++ [(Tree.node ((Fl.simpT (.node ((l.getD i tree0).kind) ((l.getD i tree0).v) ((l.getD i tree0).k) ((l.getD i tree0).l))).kind) ((Fl.simpT (.node ((l.getD i tree0).kind) ((l.getD i tree0).v) ((l.getD i tree0).k) ((l.getD i tree0).l))).v) ((Fl.simpT (.node ((l.getD i tree0).kind) ((l.getD i tree0).v) ((l.getD i tree0).k) ((l.getD i tree0).l))).k) ((Fl.simpT (.node ((l.getD i tree0).kind) ((l.getD i tree0).v) ((l.getD i tree0).k) ((l.getD i tree0).l))).l))]) = ((l.take (i + 1)).map Fl.simpT) from (by (rw [Fl.node_eta, Fl.node_eta]; exact Fl.map_step (by omega)))))) rfl))
   ·
    skip
    have h0 := of_decide_eq_false hb0
    refine tri_exit ?_
    refine fin_then_exit ?_
    refine fin_then_exit ?_
    refine fin_block_same ?_
    refine fin_then ?_
    refine tri_seq ?_
    refine tri_seq ?_
    refine tri_ren (ρ := [(602, .to 602), (700, .frz)]) (keys := [10, 1, 2, 3, 4]) (E' := [(10, .bool (decide ((i : Int) < (l.length : Int)))), (1, .pto [.int q, .int v, .int k, .ls (.trees l)]), (2, .loc 602 0), (3, .trees ((l.take i).map Fl.simpT)), (4, .int (i : Int))]) (H' := [(602, .box [.int 0, .int 0, .int 0, .im (.val (.slice none 0 0))])]) (by kernel_rfl) ?_
    refine tri_regD hcx [] [23] [1, 2, 3] [602] [] [(23, .int q)] [] (by kernel_rfl) ?_ ?_
    ·
     exact az
    refine fin_then ?_
    refine tri_block ?_
    refine tri_seq ?_
    refine tri_regD hcx [] [24] [23, 1, 2, 3] [602] [] [(24, .bool (q == 3))] [] (by kernel_rfl) ?_ ?_
    ·
     exact az
    refine fin_then ?_
    refine tri_cond (b := (q == 3)) (by kernel_rfl) (fun hb1 => ?_) (fun hb1 => ?_)
    ·
     skip
     have h1 := eq_of_beq hb1
     have h1l := Fl.may_3 hH (by omega)
     have h1m : ((l.take i).map Fl.simpT).length = 1 := by omega
     refine tri_seq ?_
     refine tri_seq ?_
     refine tri_regD hcx [] [30] [2, 3] [602] [((0 : Int) ≤ 0 ∧ 0 < (((l.take i).map Fl.simpT).length : Int))] [(30, .bool (((((l.take i).map Fl.simpT).getD 0 tree0).kind) == 1))] [] (by kernel_rfl) ?_ ?_
     ·
      refine (ap ?_ az)
      first | omega | exact id | exact vcNot | exact vcG | exact vcH | (intro _; omega) | exact (fun _ h => h) | (intro h; simp at h; omega) | (simp only [List.length_cons, List.length_nil, List.length_append, List.length_map, List.length_set, List.length_replicate]; omega) | (intro h; simp [h]; done) | (have h8 := hsub (by omega); have h7 := hlen (by omega); exact ⟨h7.1, h7.2, by omega, (Fl.may_at _ _).trans (hC _ (by omega)), by omega⟩) | (constructor <;> omega) | (simp only [List.length_cons, List.length_nil]; omega) | exact True.intro | exact ⟨by omega, hmo, by omega, by omega, by omega⟩ | done
     refine fin_then ?_
     refine tri_cond (b := (((((l.take i).map Fl.simpT).getD 0 tree0).kind) == 1)) (by kernel_rfl) (fun hb2 => ?_) (fun hb2 => ?_)
     ·
      skip
      have h2 := eq_of_beq hb2
      have hv01 : (((l.take i).map Fl.simpT).getD 0 tree0).v = 0 ∨ (((l.take i).map Fl.simpT).getD 0 tree0).v = 1 := Fl.sub_k1 (l := l) (i := i) (by omega) (by omega) hC (by omega)
      refine tri_seq ?_
      refine tri_regD hcx [(602, .to 602)] [] [2] [] [((0 : Int) ≤ 0 ∧ 0 < (((l.take i).map Fl.simpT).length : Int)), Fit (1 - (((l.take i).map Fl.simpT).getD 0 tree0).v), (True)] [] [(602, .box [.int 1, .int (1 - (((l.take i).map Fl.simpT).getD 0 tree0).v), .int 0, .trees []])] (by kernel_rfl) ?_ ?_
      ·
       refine (ap ?_ (ap ?_ (ap ?_ az)))
       all_goals
        first | omega | exact id | exact vcNot | exact vcG | exact vcH | (intro _; omega) | exact (fun _ h => h) | (intro h; simp at h; omega) | (simp only [List.length_cons, List.length_nil, List.length_append, List.length_map, List.length_set, List.length_replicate]; omega) | (intro h; simp [h]; done) | (have h8 := hsub (by omega); have h7 := hlen (by omega); exact ⟨h7.1, h7.2, by omega, (Fl.may_at _ _).trans (hC _ (by omega)), by omega⟩) | (constructor <;> omega) | (simp only [List.length_cons, List.length_nil]; omega) | exact True.intro | exact ⟨by omega, hmo, by omega, by omega, by omega⟩ | done
      refine fin_then ?_
      refine tri_ret ?_
      refine fin_then_ret ?_
      refine fin_block_ret ?_
      refine fin_then_ret ?_
      exact fin_ret [] rfl rfl trivial hcx (avs := [.agg [.int 1, .int (1 - (((l.take i).map Fl.simpT).getD 0 tree0).v), .int 0, .trees []]]) (by kernel_rfl) (congrArg AV.agg (consE (congrArg AV.int (show 1 = (Fl.simpT (.node q v k l)).kind from (by first | (rw [Fl.simp_3a (i := i) (by omega) (by omega) (by omega)]; rfl) | (rw [Fl.simp_3b (i := i) (by omega) (by omega) (by omega) (by omega)]; done) | (rw [Fl.simp_3c (i := i) (by omega) (by omega) (by omega) (by omega)]; first | rfl | (show q = 3; omega)) | (rw [Fl.simp_4 (i := i) (by omega) (by omega)]; done) | (rw [Fl.simp_5 (i := i) (by omega) (by omega)]; done) | (rw [Fl.simp_6 (i := i) (by omega) (by omega)]; done) | (rw [Fl.simp_0 (i := i) (by omega) (by omega) (by omega) (by omega) (by omega)]; rfl) | done))) (consE (congrArg AV.int (show (1 - (((l.take i).map Fl.simpT).getD 0 tree0).v) = (Fl.simpT (.node q v k l)).v from (by first | (rw [Fl.simp_3a (i := i) (by omega) (by omega) (by omega)]; rfl) | (rw [Fl.simp_3b (i := i) (by omega) (by omega) (by omega) (by omega)]; done) | (rw [Fl.simp_3c (i := i) (by omega) (by omega) (by omega) (by omega)]; first | rfl | (show q = 3; omega)) | (rw [Fl.simp_4 (i := i) (by omega) (by omega)]; done) | (rw [Fl.simp_5 (i := i) (by omega) (by omega)]; done) | (rw [Fl.simp_6 (i := i) (by omega) (by omega)]; done) | (rw [Fl.simp_0 (i := i) (by omega) (by omega) (by omega) (by omega) (by omega)]; rfl) | done))) (consE (congrArg AV.int (show 0 = (Fl.simpT (.node q v k l)).k from (by first | (rw [Fl.simp_3a (i := i) (by omega) (by omega) (by omega)]; rfl) | (rw [Fl.simp_3b (i := i) (by omega) (by omega) (by omega) (by omega)]; done) | (rw [Fl.simp_3c (i := i) (by omega) (by omega) (by omega) (by omega)]; first | rfl | (show q = 3; omega)) | (rw [Fl.simp_4 (i := i) (by omega) (by omega)]; done) | (rw [Fl.simp_5 (i := i) (by omega) (by omega)]; done) | (rw [Fl.simp_6 (i := i) (by omega) (by omega)]; done) | (rw [Fl.simp_0 (i := i) (by omega) (by omega) (by omega) (by omega) (by omega)]; rfl) | done))) (consE (congrArg AV.trees (show [] = (Fl.simpT (.node q v k l)).l from (by first | (rw [Fl.simp_3a (i := i) (by omega) (by omega) (by omega)]; rfl) | (rw [Fl.simp_3b (i := i) (by omega) (by omega) (by omega) (by omega)]; done) | (rw [Fl.simp_3c (i := i) (by omega) (by omega) (by omega) (by omega)]; first | rfl | (show q = 3; omega)) | (rw [Fl.simp_4 (i := i) (by omega) (by omega)]; done) | (rw [Fl.simp_5 (i := i) (by omega) (by omega)]; done) | (rw [Fl.simp_6 (i := i) (by omega) (by omega)]; done) | (rw [Fl.simp_0 (i := i) (by omega) (by omega) (by omega) (by omega) (by omega)]; rfl) | done))) rfl))))) [] rfl
     ·
      skip
      have h2 := neB hb2
      refine tri_skip ?_
      refine fin_then ?_
      refine tri_seq ?_
      refine tri_seq ?_
      refine tri_regD hcx [] [41] [2, 3] [602] [((0 : Int) ≤ 0 ∧ 0 < (((l.take i).map Fl.simpT).length : Int))] [(41, .bool (((((l.take i).map Fl.simpT).getD 0 tree0).kind) == 3))] [] (by kernel_rfl) ?_ ?_
      ·
       refine (ap ?_ az)
       first | omega | exact id | exact vcNot | exact vcG | exact vcH | (intro _; omega) | exact (fun _ h => h) | (intro h; simp at h; omega) | (simp only [List.length_cons, List.length_nil, List.length_append, List.length_map, List.length_set, List.length_replicate]; omega) | (intro h; simp [h]; done) | (have h8 := hsub (by omega); have h7 := hlen (by omega); exact ⟨h7.1, h7.2, by omega, (Fl.may_at _ _).trans (hC _ (by omega)), by omega⟩) | (constructor <;> omega) | (simp only [List.length_cons, List.length_nil]; omega) | exact True.intro | exact ⟨by omega, hmo, by omega, by omega, by omega⟩ | done
      refine fin_then ?_
      refine tri_cond (b := (((((l.take i).map Fl.simpT).getD 0 tree0).kind) == 3)) (by kernel_rfl) (fun hb3 => ?_) (fun hb3 => ?_)
      ·
       skip
       have h3 := eq_of_beq hb3
       have hn1 : (((l.take i).map Fl.simpT).getD 0 tree0).l.length = 1 := Fl.sub_not (l := l) (i := i) (by omega) (by omega) hC (by omega)
       refine tri_seq ?_
       refine tri_regD hcx [(602, .to 602)] [] [2] [] [((0 : Int) ≤ 0 ∧ 0 < (((l.take i).map Fl.simpT).length : Int)), ((0 : Int) ≤ 0 ∧ 0 < (((((l.take i).map Fl.simpT).getD 0 tree0).l).length : Int))] [] [(602, .box [.int ((((((l.take i).map Fl.simpT).getD 0 tree0).l).getD 0 tree0).kind), .int ((((((l.take i).map Fl.simpT).getD 0 tree0).l).getD 0 tree0).v), .int ((((((l.take i).map Fl.simpT).getD 0 tree0).l).getD 0 tree0).k), .trees ((((((l.take i).map Fl.simpT).getD 0 tree0).l).getD 0 tree0).l)])] (by kernel_rfl) ?_ ?_
       ·
        refine (ap ?_ (ap ?_ az))
        all_goals
         first | omega | exact id | exact vcNot | exact vcG | exact vcH | (intro _; omega) | exact (fun _ h => h) | (intro h; simp at h; omega) | (simp only [List.length_cons, List.length_nil, List.length_append, List.length_map, List.length_set, List.length_replicate]; omega) | (intro h; simp [h]; done) | (have h8 := hsub (by omega); have h7 := hlen (by omega); exact ⟨h7.1, h7.2, by omega, (Fl.may_at _ _).trans (hC _ (by omega)), by omega⟩) | (constructor <;> omega) | (simp only [List.length_cons, List.length_nil]; omega) | exact True.intro | exact ⟨by omega, hmo, by omega, by omega, by omega⟩ | done
       refine fin_then ?_
       refine tri_ret ?_
       refine fin_then_ret ?_
       refine fin_block_ret ?_
       refine fin_then_ret ?_
       exact fin_ret [] rfl rfl trivial hcx (avs := [.agg [.int ((((((l.take i).map Fl.simpT).getD 0 tree0).l).getD 0 tree0).kind), .int ((((((l.take i).map Fl.simpT).getD 0 tree0).l).getD 0 tree0).v), .int ((((((l.take i).map Fl.simpT).getD 0 tree0).l).getD 0 tree0).k), .trees ((((((l.take i).map Fl.simpT).getD 0 tree0).l).getD 0 tree0).l)]]) (by kernel_rfl) (congrArg AV.agg (consE (congrArg AV.int (show (((((l.take i).map Fl.simpT).getD 0 tree0).l).getD 0 tree0).kind = (Fl.simpT (.node q v k l)).kind from (by first | (rw [Fl.simp_3a (i := i) (by omega) (by omega) (by omega)]; rfl) | (rw [Fl.simp_3b (i := i) (by omega) (by omega) (by omega) (by omega)]; done) | (rw [Fl.simp_3c (i := i) (by omega) (by omega) (by omega) (by omega)]; first | rfl | (show q = 3; omega)) | (rw [Fl.simp_4 (i := i) (by omega) (by omega)]; done) | (rw [Fl.simp_5 (i := i) (by omega) (by omega)]; done) | (rw [Fl.simp_6 (i := i) (by omega) (by omega)]; done) | (rw [Fl.simp_0 (i := i) (by omega) (by omega) (by omega) (by omega) (by omega)]; rfl) | done))) (consE (congrArg AV.int (show (((((l.take i).map Fl.simpT).getD 0 tree0).l).getD 0 tree0).v = (Fl.simpT (.node q v k l)).v from (by first | (rw [Fl.simp_3a (i := i) (by omega) (by omega) (by omega)]; rfl) | (rw [Fl.simp_3b (i := i) (by omega) (by omega) (by omega) (by omega)]; done) | (rw [Fl.simp_3c (i := i) (by omega) (by omega) (by omega) (by omega)]; first | rfl | (show q = 3; omega)) | (rw [Fl.simp_4 (i := i) (by omega) (by omega)]; done) | (rw [Fl.simp_5 (i := i) (by omega) (by omega)]; done) | (rw [Fl.simp_6 (i := i) (by omega) (by omega)]; done) | (rw [Fl.simp_0 (i := i) (by omega) (by omega) (by omega) (by omega) (by omega)]; rfl) | done))) (consE (congrArg AV.int (show (((((l.take i).map Fl.simpT).getD 0 tree0).l).getD 0 tree0).k = (Fl.simpT (.node q v k l)).k from (by first | (rw [Fl.simp_3a (i := i) (by omega) (by omega) (by omega)]; rfl) | (rw [Fl.simp_3b (i := i) (by omega) (by omega) (by omega) (by omega)]; done) | (rw [Fl.simp_3c (i := i) (by omega) (by omega) (by omega) (by omega)]; first | rfl | (show q = 3; omega)) | (rw [Fl.simp_4 (i := i) (by omega) (by omega)]; done) | (rw [Fl.simp_5 (i := i) (by omega) (by omega)]; done) | (rw [Fl.simp_6 (i := i) (by omega) (by omega)]; done) | (rw [Fl.simp_0 (i := i) (by omega) (by omega) (by omega) (by omega) (by omega)]; rfl) | done))) (consE (congrArg AV.trees (show (((((l.take i).map Fl.simpT).getD 0 tree0).l).getD 0 tree0).l = (Fl.simpT (.node q v k l)).l from (by first | (rw [Fl.simp_3a (i := i) (by omega) (by omega) (by omega)]; rfl) | (rw [Fl.simp_3b (i := i) (by omega) (by omega) (by omega) (by omega)]; done) | (rw [Fl.simp_3c (i := i) (by omega) (by omega) (by omega) (by omega)]; first | rfl | (show q = 3; omega)) | (rw [Fl.simp_4 (i := i) (by omega) (by omega)]; done) | (rw [Fl.simp_5 (i := i) (by omega) (by omega)]; done) | (rw [Fl.simp_6 (i := i) (by omega) (by omega)]; done) | (rw [Fl.simp_0 (i := i) (by omega) (by omega) (by omega) (by omega) (by omega)]; rfl) | done))) rfl))))) [] rfl
      ·
       skip
       have h3 := neB hb3
       refine tri_skip ?_
       refine fin_then ?_
       refine tri_seq ?_
       refine tri_regD hcx [(602, .to 602)] [] [2] [] [] [] [(602, .box [.int 3, .int 0, .int 0, .trees ((l.take i).map Fl.simpT)])] (by kernel_rfl) ?_ ?_
       ·
        exact az
       refine fin_then ?_
       refine tri_ret ?_
       refine fin_block_ret ?_
       refine fin_then_ret ?_
       exact fin_ret [] rfl rfl trivial hcx (avs := [.agg [.int 3, .int 0, .int 0, .trees ((l.take i).map Fl.simpT)]]) (by kernel_rfl) (congrArg AV.agg (consE (congrArg AV.int (show 3 = (Fl.simpT (.node q v k l)).kind from (by first | (rw [Fl.simp_3a (i := i) (by omega) (by omega) (by omega)]; rfl) | (rw [Fl.simp_3b (i := i) (by omega) (by omega) (by omega) (by omega)]; done) | (rw [Fl.simp_3c (i := i) (by omega) (by omega) (by omega) (by omega)]; first | rfl | (show q = 3; omega)) | (rw [Fl.simp_4 (i := i) (by omega) (by omega)]; done) | (rw [Fl.simp_5 (i := i) (by omega) (by omega)]; done) | (rw [Fl.simp_6 (i := i) (by omega) (by omega)]; done) | (rw [Fl.simp_0 (i := i) (by omega) (by omega) (by omega) (by omega) (by omega)]; rfl) | done))) (consE (congrArg AV.int (show 0 = (Fl.simpT (.node q v k l)).v from (by first | (rw [Fl.simp_3a (i := i) (by omega) (by omega) (by omega)]; rfl) | (rw [Fl.simp_3b (i := i) (by omega) (by omega) (by omega) (by omega)]; done) | (rw [Fl.simp_3c (i := i) (by omega) (by omega) (by omega) (by omega)]; first | rfl | (show q = 3; omega)) | (rw [Fl.simp_4 (i := i) (by omega) (by omega)]; done) | (rw [Fl.simp_5 (i := i) (by omega) (by omega)]; done) | (rw [Fl.simp_6 (i := i) (by omega) (by omega)]; done) | (rw [Fl.simp_0 (i := i) (by omega) (by omega) (by omega) (by omega) (by omega)]; rfl) | done))) (consE (congrArg AV.int (show 0 = (Fl.simpT (.node q v k l)).k from (by first | (rw [Fl.simp_3a (i := i) (by omega) (by omega) (by omega)]; rfl) | (rw [Fl.simp_3b (i := i) (by omega) (by omega) (by omega) (by omega)]; done) | (rw [Fl.simp_3c (i := i) (by omega) (by omega) (by omega) (by omega)]; first | rfl | (show q = 3; omega)) | (rw [Fl.simp_4 (i := i) (by omega) (by omega)]; done) | (rw [Fl.simp_5 (i := i) (by omega) (by omega)]; done) | (rw [Fl.simp_6 (i := i) (by omega) (by omega)]; done) | (rw [Fl.simp_0 (i := i) (by omega) (by omega) (by omega) (by omega) (by omega)]; rfl) | done))) (consE (congrArg AV.trees (show ((l.take i).map Fl.simpT) = (Fl.simpT (.node q v k l)).l from (by first | (rw [Fl.simp_3a (i := i) (by omega) (by omega) (by omega)]; rfl) | (rw [Fl.simp_3b (i := i) (by omega) (by omega) (by omega) (by omega)]; done) | (rw [Fl.simp_3c (i := i) (by omega) (by omega) (by omega) (by omega)]; first | rfl | (show q = 3; omega)) | (rw [Fl.simp_4 (i := i) (by omega) (by omega)]; done) | (rw [Fl.simp_5 (i := i) (by omega) (by omega)]; done) | (rw [Fl.simp_6 (i := i) (by omega) (by omega)]; done) | (rw [Fl.simp_0 (i := i) (by omega) (by omega) (by omega) (by omega) (by omega)]; rfl) | done))) rfl))))) [] rfl
    ·
     skip
     have h1 := neB hb1
     refine tri_seq ?_
     refine tri_regD hcx [] [50] [23, 1, 2, 3] [602] [] [(50, .bool (q == 4))] [] (by kernel_rfl) ?_ ?_
     ·
      exact az
     refine fin_then ?_
     refine tri_cond (b := (q == 4)) (by kernel_rfl) (fun hb4 => ?_) (fun hb4 => ?_)
     ·
      skip
      have h4 := eq_of_beq hb4
      refine tri_seq ?_
      refine tri_regD hcx [(602, .to 602)] [] [2] [] [(((l.take i).map Fl.simpT).length ≤ 2932031007317 ∧ Fl.lensL ((l.take i).map Fl.simpT) ∧ Fl.sizeL ((l.take i).map Fl.simpT) ≤ 1000000 ∧ ((1 : Int) = 0 ∨ (1 : Int) = 1) ∧ (4 : Int) ≠ 1)] [] [(602, .box [.int ((Fl.joinT (4 : Int) (1 : Int) ((l.take i).map Fl.simpT)).kind), .int ((Fl.joinT (4 : Int) (1 : Int) ((l.take i).map Fl.simpT)).v), .int ((Fl.joinT (4 : Int) (1 : Int) ((l.take i).map Fl.simpT)).k), .trees ((Fl.joinT (4 : Int) (1 : Int) ((l.take i).map Fl.simpT)).l)])] (by kernel_rfl) ?_ ?_
      ·
       refine (ap ?_ az)
       first | omega | exact id | exact vcNot | exact vcG | exact vcH | (intro _; omega) | exact (fun _ h => h) | (intro h; simp at h; omega) | (simp only [List.length_cons, List.length_nil, List.length_append, List.length_map, List.length_set, List.length_replicate]; omega) | (intro h; simp [h]; done) | (have h8 := hsub (by omega); have h7 := hlen (by omega); exact ⟨h7.1, h7.2, by omega, (Fl.may_at _ _).trans (hC _ (by omega)), by omega⟩) | (constructor <;> omega) | (simp only [List.length_cons, List.length_nil]; omega) | exact True.intro | exact ⟨by omega, hmo, by omega, by omega, by omega⟩ | done
      refine fin_then ?_
      refine tri_ret ?_
      refine fin_block_ret ?_
      refine fin_then_ret ?_
      exact fin_ret [] rfl rfl trivial hcx (avs := [.agg [.int ((Fl.joinT (4 : Int) (1 : Int) ((l.take i).map Fl.simpT)).kind), .int ((Fl.joinT (4 : Int) (1 : Int) ((l.take i).map Fl.simpT)).v), .int ((Fl.joinT (4 : Int) (1 : Int) ((l.take i).map Fl.simpT)).k), .trees ((Fl.joinT (4 : Int) (1 : Int) ((l.take i).map Fl.simpT)).l)]]) (by kernel_rfl) (congrArg AV.agg (consE (congrArg AV.int (show (Fl.joinT (4 : Int) (1 : Int) ((l.take i).map Fl.simpT)).kind = (Fl.simpT (.node q v k l)).kind from (by first | (rw [Fl.simp_3a (i := i) (by omega) (by omega) (by omega)]; rfl) | (rw [Fl.simp_3b (i := i) (by omega) (by omega) (by omega) (by omega)]; done) | (rw [Fl.simp_3c (i := i) (by omega) (by omega) (by omega) (by omega)]; first | rfl | (show q = 3; omega)) | (rw [Fl.simp_4 (i := i) (by omega) (by omega)]; done) | (rw [Fl.simp_5 (i := i) (by omega) (by omega)]; done) | (rw [Fl.simp_6 (i := i) (by omega) (by omega)]; done) | (rw [Fl.simp_0 (i := i) (by omega) (by omega) (by omega) (by omega) (by omega)]; rfl) | done))) (consE (congrArg AV.int (show (Fl.joinT (4 : Int) (1 : Int) ((l.take i).map Fl.simpT)).v = (Fl.simpT (.node q v k l)).v from (by first | (rw [Fl.simp_3a (i := i) (by omega) (by omega) (by omega)]; rfl) | (rw [Fl.simp_3b (i := i) (by omega) (by omega) (by omega) (by omega)]; done) | (rw [Fl.simp_3c (i := i) (by omega) (by omega) (by omega) (by omega)]; first | rfl | (show q = 3; omega)) | (rw [Fl.simp_4 (i := i) (by omega) (by omega)]; done) | (rw [Fl.simp_5 (i := i) (by omega) (by omega)]; done) | (rw [Fl.simp_6 (i := i) (by omega) (by omega)]; done) | (rw [Fl.simp_0 (i := i) (by omega) (by omega) (by omega) (by omega) (by omega)]; rfl) | done))) (consE (congrArg AV.int (show (Fl.joinT (4 : Int) (1 : Int) ((l.take i).map Fl.simpT)).k = (Fl.simpT (.node q v k l)).k from (by first | (rw [Fl.simp_3a (i := i) (by omega) (by omega) (by omega)]; rfl) | (rw [Fl.simp_3b (i := i) (by omega) (by omega) (by omega) (by omega)]; done) | (rw [Fl.simp_3c (i := i) (by omega) (by omega) (by omega) (by omega)]; first | rfl | (show q = 3; omega)) | (rw [Fl.simp_4 (i := i) (by omega) (by omega)]; done) | (rw [Fl.simp_5 (i := i) (by omega) (by omega)]; done) | (rw [Fl.simp_6 (i := i) (by omega) (by omega)]; done) | (rw [Fl.simp_0 (i := i) (by omega) (by omega) (by omega) (by omega) (by omega)]; rfl) | done))) (consE (congrArg AV.trees (show (Fl.joinT (4 : Int) (1 : Int) ((l.take i).map Fl.simpT)).l = (Fl.simpT (.node q v k l)).l from (by first | (rw [Fl.simp_3a (i := i) (by omega) (by omega) (by omega)]; rfl) | (rw [Fl.simp_3b (i := i) (by omega) (by omega) (by omega) (by omega)]; done) | (rw [Fl.simp_3c (i := i) (by omega) (by omega) (by omega) (by omega)]; first | rfl | (show q = 3; omega)) | (rw [Fl.simp_4 (i := i) (by omega) (by omega)]; done) | (rw [Fl.simp_5 (i := i) (by omega) (by omega)]; done) | (rw [Fl.simp_6 (i := i) (by omega) (by omega)]; done) | (rw [Fl.simp_0 (i := i) (by omega) (by omega) (by omega) (by omega) (by omega)]; rfl) | done))) rfl))))) [] rfl
     ·
      skip
      have h4 := neB hb4
      refine tri_seq ?_
      refine tri_regD hcx [] [54] [23, 1, 2, 3] [602] [] [(54, .bool (q == 5))] [] (by kernel_rfl) ?_ ?_
      ·
       exact az
      refine fin_then ?_
      refine tri_cond (b := (q == 5)) (by kernel_rfl) (fun hb5 => ?_) (fun hb5 => ?_)
      ·
       skip
       have h5 := eq_of_beq hb5
       refine tri_seq ?_
       refine tri_regD hcx [(602, .to 602)] [] [2] [] [(((l.take i).map Fl.simpT).length ≤ 2932031007317 ∧ Fl.lensL ((l.take i).map Fl.simpT) ∧ Fl.sizeL ((l.take i).map Fl.simpT) ≤ 1000000 ∧ ((0 : Int) = 0 ∨ (0 : Int) = 1) ∧ (5 : Int) ≠ 1)] [] [(602, .box [.int ((Fl.joinT (5 : Int) (0 : Int) ((l.take i).map Fl.simpT)).kind), .int ((Fl.joinT (5 : Int) (0 : Int) ((l.take i).map Fl.simpT)).v), .int ((Fl.joinT (5 : Int) (0 : Int) ((l.take i).map Fl.simpT)).k), .trees ((Fl.joinT (5 : Int) (0 : Int) ((l.take i).map Fl.simpT)).l)])] (by kernel_rfl) ?_ ?_
       ·
        refine (ap ?_ az)
        first | omega | exact id | exact vcNot | exact vcG | exact vcH | (intro _; omega) | exact (fun _ h => h) | (intro h; simp at h; omega) | (simp only [List.length_cons, List.length_nil, List.length_append, List.length_map, List.length_set, List.length_replicate]; omega) | (intro h; simp [h]; done) | (have h8 := hsub (by omega); have h7 := hlen (by omega); exact ⟨h7.1, h7.2, by omega, (Fl.may_at _ _).trans (hC _ (by omega)), by omega⟩) | (constructor <;> omega) | (simp only [List.length_cons, List.length_nil]; omega) | exact True.intro | exact ⟨by omega, hmo, by omega, by omega, by omega⟩ | done
       refine fin_then ?_
       refine tri_ret ?_
       refine fin_block_ret ?_
       refine fin_then_ret ?_
       exact fin_ret [] rfl rfl trivial hcx (avs := [.agg [.int ((Fl.joinT (5 : Int) (0 : Int) ((l.take i).map Fl.simpT)).kind), .int ((Fl.joinT (5 : Int) (0 : Int) ((l.take i).map Fl.simpT)).v), .int ((Fl.joinT (5 : Int) (0 : Int) ((l.take i).map Fl.simpT)).k), .trees ((Fl.joinT (5 : Int) (0 : Int) ((l.take i).map Fl.simpT)).l)]]) (by kernel_rfl) (congrArg AV.agg (consE (congrArg AV.int (show (Fl.joinT (5 : Int) (0 : Int) ((l.take i).map Fl.simpT)).kind = (Fl.simpT (.node q v k l)).kind from (by first | (rw [Fl.simp_3a (i := i) (by omega) (by omega) (by omega)]; rfl) | (rw [Fl.simp_3b (i := i) (by omega) (by omega) (by omega) (by omega)]; done) | (rw [Fl.simp_3c (i := i) (by omega) (by omega) (by omega) (by omega)]; first | rfl | (show q = 3; omega)) | (rw [Fl.simp_4 (i := i) (by omega) (by omega)]; done) | (rw [Fl.simp_5 (i := i) (by omega) (by omega)]; done) | (rw [Fl.simp_6 (i := i) (by omega) (by omega)]; done) | (rw [Fl.simp_0 (i := i) (by omega) (by omega) (by omega) (by omega) (by omega)]; rfl) | done))) (consE (congrArg AV.int (show (Fl.joinT (5 : Int) (0 : Int) ((l.take i).map Fl.simpT)).v = (Fl.simpT (.node q v k l)).v from (by first | (rw [Fl.simp_3a (i := i) (by omega) (by omega) (by omega)]; rfl) | (rw [Fl.simp_3b (i := i) (by omega) (by omega) (by omega) (by omega)]; done) | (rw [Fl.simp_3c (i := i) (by omega) (by omega) (by omega) (by omega)]; first | rfl | (show q = 3; omega)) | (rw [Fl.simp_4 (i := i) (by omega) (by omega)]; done) | (rw [Fl.simp_5 (i := i) (by omega) (by omega)]; done) | (rw [Fl.simp_6 (i := i) (by omega) (by omega)]; done) | (rw [Fl.simp_0 (i := i) (by omega) (by omega) (by omega) (by omega) (by omega)]; rfl) | done))) (consE (congrArg AV.int (show (Fl.joinT (5 : Int) (0 : Int) ((l.take i).map Fl.simpT)).k = (Fl.simpT (.node q v k l)).k from (by first | (rw [Fl.simp_3a (i := i) (by omega) (by omega) (by omega)]; rfl) | (rw [Fl.simp_3b (i := i) (by omega) (by omega) (by omega) (by omega)]; done) | (rw [Fl.simp_3c (i := i) (by omega) (by omega) (by omega) (by omega)]; first | rfl | (show q = 3; omega)) | (rw [Fl.simp_4 (i := i) (by omega) (by omega)]; done) | (rw [Fl.simp_5 (i := i) (by omega) (by omega)]; done) | (rw [Fl.simp_6 (i := i) (by omega) (by omega)]; done) | (rw [Fl.simp_0 (i := i) (by omega) (by omega) (by omega) (by omega) (by omega)]; rfl) | done))) (consE (congrArg AV.trees (show (Fl.joinT (5 : Int) (0 : Int) ((l.take i).map Fl.simpT)).l = (Fl.simpT (.node q v k l)).l from (by first | (rw [Fl.simp_3a (i := i) (by omega) (by omega) (by omega)]; rfl) | (rw [Fl.simp_3b (i := i) (by omega) (by omega) (by omega) (by omega)]; done) | (rw [Fl.simp_3c (i := i) (by omega) (by omega) (by omega) (by omega)]; first | rfl | (show q = 3; omega)) | (rw [Fl.simp_4 (i := i) (by omega) (by omega)]; done) | (rw [Fl.simp_5 (i := i) (by omega) (by omega)]; done) | (rw [Fl.simp_6 (i := i) (by omega) (by omega)]; done) | (rw [Fl.simp_0 (i := i) (by omega) (by omega) (by omega) (by omega) (by omega)]; rfl) | done))) rfl))))) [] rfl
      ·
       skip
       have h5 := neB hb5
       refine tri_seq ?_
       refine tri_regD hcx [] [58] [1, 2, 3] [602] [] [(58, .bool (q == 6))] [] (by kernel_rfl) ?_ ?_
       ·
        exact az
       refine fin_then ?_
       refine tri_cond (b := (q == 6)) (by kernel_rfl) (fun hb6 => ?_) (fun hb6 => ?_)
       ·
        skip
        have h6 := eq_of_beq hb6
        have h6k := Fl.may_6 hH (by omega)
        refine tri_seq ?_
        refine tri_regD hcx [(602, .to 602)] [] [2] [] [(((l.take i).map Fl.simpT).length ≤ 2932031007317 ∧ Fl.lensL ((l.take i).map Fl.simpT) ∧ Fl.sizeL ((l.take i).map Fl.simpT) ≤ 1000000 ∧ -1000000000000000 ≤ k ∧ k ≤ 1099511627776)] [] [(602, .box [.int ((Fl.leastT k ((l.take i).map Fl.simpT)).kind), .int ((Fl.leastT k ((l.take i).map Fl.simpT)).v), .int ((Fl.leastT k ((l.take i).map Fl.simpT)).k), .trees ((Fl.leastT k ((l.take i).map Fl.simpT)).l)])] (by kernel_rfl) ?_ ?_
        ·
         refine (ap ?_ az)
         first | omega | exact id | exact vcNot | exact vcG | exact vcH | (intro _; omega) | exact (fun _ h => h) | (intro h; simp at h; omega) | (simp only [List.length_cons, List.length_nil, List.length_append, List.length_map, List.length_set, List.length_replicate]; omega) | (intro h; simp [h]; done) | (have h8 := hsub (by omega); have h7 := hlen (by omega); exact ⟨h7.1, h7.2, by omega, (Fl.may_at _ _).trans (hC _ (by omega)), by omega⟩) | (constructor <;> omega) | (simp only [List.length_cons, List.length_nil]; omega) | exact True.intro | exact ⟨by omega, hmo, by omega, by omega, by omega⟩ | done
        refine fin_then ?_
        refine tri_ret ?_
        refine fin_block_ret ?_
        refine fin_then_ret ?_
        exact fin_ret [] rfl rfl trivial hcx (avs := [.agg [.int ((Fl.leastT k ((l.take i).map Fl.simpT)).kind), .int ((Fl.leastT k ((l.take i).map Fl.simpT)).v), .int ((Fl.leastT k ((l.take i).map Fl.simpT)).k), .trees ((Fl.leastT k ((l.take i).map Fl.simpT)).l)]]) (by kernel_rfl) (congrArg AV.agg (consE (congrArg AV.int (show (Fl.leastT k ((l.take i).map Fl.simpT)).kind = (Fl.simpT (.node q v k l)).kind from (by first | (rw [Fl.simp_3a (i := i) (by omega) (by omega) (by omega)]; rfl) | (rw [Fl.simp_3b (i := i) (by omega) (by omega) (by omega) (by omega)]; done) | (rw [Fl.simp_3c (i := i) (by omega) (by omega) (by omega) (by omega)]; first | rfl | (show q = 3; omega)) | (rw [Fl.simp_4 (i := i) (by omega) (by omega)]; done) | (rw [Fl.simp_5 (i := i) (by omega) (by omega)]; done) | (rw [Fl.simp_6 (i := i) (by omega) (by omega)]; done) | (rw [Fl.simp_0 (i := i) (by omega) (by omega) (by omega) (by omega) (by omega)]; rfl) | done))) (consE (congrArg AV.int (show (Fl.leastT k ((l.take i).map Fl.simpT)).v = (Fl.simpT (.node q v k l)).v from (by first | (rw [Fl.simp_3a (i := i) (by omega) (by omega) (by omega)]; rfl) | (rw [Fl.simp_3b (i := i) (by omega) (by omega) (by omega) (by omega)]; done) | (rw [Fl.simp_3c (i := i) (by omega) (by omega) (by omega) (by omega)]; first | rfl | (show q = 3; omega)) | (rw [Fl.simp_4 (i := i) (by omega) (by omega)]; done) | (rw [Fl.simp_5 (i := i) (by omega) (by omega)]; done) | (rw [Fl.simp_6 (i := i) (by omega) (by omega)]; done) | (rw [Fl.simp_0 (i := i) (by omega) (by omega) (by omega) (by omega) (by omega)]; rfl) | done))) (consE (congrArg AV.int (show (Fl.leastT k ((l.take i).map Fl.simpT)).k = (Fl.simpT (.node q v k l)).k from (by first | (rw [Fl.simp_3a (i := i) (by omega) (by omega) (by omega)]; rfl) | (rw [Fl.simp_3b (i := i) (by omega) (by omega) (by omega) (by omega)]; done) | (rw [Fl.simp_3c (i := i) (by omega) (by omega) (by omega) (by omega)]; first | rfl | (show q = 3; omega)) | (rw [Fl.simp_4 (i := i) (by omega) (by omega)]; done) | (rw [Fl.simp_5 (i := i) (by omega) (by omega)]; done) | (rw [Fl.simp_6 (i := i) (by omega) (by omega)]; done) | (rw [Fl.simp_0 (i := i) (by omega) (by omega) (by omega) (by omega) (by omega)]; rfl) | done))) (consE (congrArg AV.trees (show (Fl.leastT k ((l.take i).map Fl.simpT)).l = (Fl.simpT (.node q v k l)).l from (by first | (rw [Fl.simp_3a (i := i) (by omega) (by omega) (by omega)]; rfl) | (rw [Fl.simp_3b (i := i) (by omega) (by omega) (by omega) (by omega)]; done) | (rw [Fl.simp_3c (i := i) (by omega) (by omega) (by omega) (by omega)]; first | rfl | (show q = 3; omega)) | (rw [Fl.simp_4 (i := i) (by omega) (by omega)]; done) | (rw [Fl.simp_5 (i := i) (by omega) (by omega)]; done) | (rw [Fl.simp_6 (i := i) (by omega) (by omega)]; done) | (rw [Fl.simp_0 (i := i) (by omega) (by omega) (by omega) (by omega) (by omega)]; rfl) | done))) rfl))))) [] rfl
       ·
        skip
        have h6 := neB hb6
        refine tri_skip ?_
        refine fin_block ?_
        refine fin_then ?_
        refine tri_seq ?_
        refine tri_regD hcx [(602, .to 602)] [] [2] [] [] [] [(602, .box [.int q, .int v, .int k, .trees l])] (by kernel_rfl) ?_ ?_
        ·
         exact az
        refine fin_then ?_
        refine tri_ret ?_
        exact fin_ret [] rfl rfl trivial hcx (avs := [.agg [.int q, .int v, .int k, .trees l]]) (by kernel_rfl) (congrArg AV.agg (consE (congrArg AV.int (show q = (Fl.simpT (.node q v k l)).kind from (by first | (rw [Fl.simp_3a (i := i) (by omega) (by omega) (by omega)]; rfl) | (rw [Fl.simp_3b (i := i) (by omega) (by omega) (by omega) (by omega)]; done) | (rw [Fl.simp_3c (i := i) (by omega) (by omega) (by omega) (by omega)]; first | rfl | (show q = 3; omega)) | (rw [Fl.simp_4 (i := i) (by omega) (by omega)]; done) | (rw [Fl.simp_5 (i := i) (by omega) (by omega)]; done) | (rw [Fl.simp_6 (i := i) (by omega) (by omega)]; done) | (rw [Fl.simp_0 (i := i) (by omega) (by omega) (by omega) (by omega) (by omega)]; rfl) | done))) (consE (congrArg AV.int (show v = (Fl.simpT (.node q v k l)).v from (by first | (rw [Fl.simp_3a (i := i) (by omega) (by omega) (by omega)]; rfl) | (rw [Fl.simp_3b (i := i) (by omega) (by omega) (by omega) (by omega)]; done) | (rw [Fl.simp_3c (i := i) (by omega) (by omega) (by omega) (by omega)]; first | rfl | (show q = 3; omega)) | (rw [Fl.simp_4 (i := i) (by omega) (by omega)]; done) | (rw [Fl.simp_5 (i := i) (by omega) (by omega)]; done) | (rw [Fl.simp_6 (i := i) (by omega) (by omega)]; done) | (rw [Fl.simp_0 (i := i) (by omega) (by omega) (by omega) (by omega) (by omega)]; rfl) | done))) (consE (congrArg AV.int (show k = (Fl.simpT (.node q v k l)).k from (by first | (rw [Fl.simp_3a (i := i) (by omega) (by omega) (by omega)]; rfl) | (rw [Fl.simp_3b (i := i) (by omega) (by omega) (by omega) (by omega)]; done) | (rw [Fl.simp_3c (i := i) (by omega) (by omega) (by omega) (by omega)]; first | rfl | (show q = 3; omega)) | (rw [Fl.simp_4 (i := i) (by omega) (by omega)]; done) | (rw [Fl.simp_5 (i := i) (by omega) (by omega)]; done) | (rw [Fl.simp_6 (i := i) (by omega) (by omega)]; done) | (rw [Fl.simp_0 (i := i) (by omega) (by omega) (by omega) (by omega) (by omega)]; rfl) | done))) (consE (congrArg AV.trees (show l = (Fl.simpT (.node q v k l)).l from (by first | (rw [Fl.simp_3a (i := i) (by omega) (by omega) (by omega)]; rfl) | (rw [Fl.simp_3b (i := i) (by omega) (by omega) (by omega) (by omega)]; done) | (rw [Fl.simp_3c (i := i) (by omega) (by omega) (by omega) (by omega)]; first | rfl | (show q = 3; omega)) | (rw [Fl.simp_4 (i := i) (by omega) (by omega)]; done) | (rw [Fl.simp_5 (i := i) (by omega) (by omega)]; done) | (rw [Fl.simp_6 (i := i) (by omega) (by omega)]; done) | (rw [Fl.simp_0 (i := i) (by omega) (by omega) (by omega) (by omega) (by omega)]; rfl) | done))) rfl))))) [] rfl
 ·
  cases hσ
theorem rSimp_all : ∀ nn, Sound Tryd.prog 33 (rSimp_σ nn) := sound_rec (sound_none (fn := Tryd.f33) Tryd.func33 (by kernel_rfl) rfl (fun args os p r outs hσ hp => by
  unfold rSimp_σ at hσ
  split at hσ
  · simp only [Option.some.injEq, Prod.mk.injEq] at hσ
    obtain ⟨rfl, rfl, rfl⟩ := hσ
    exact absurd hp.2.2.2.2 (Nat.not_lt_zero _)
  · cases hσ)) rSimp_step
def rSimp_τ : CtF
  | [.agg [.im (.val (.int .i64 q)), .im (.val (.int .i64 v)), .im (.val (.int .i64 k)), .im (.ls (.trees l))]], [] => some (l.length ≤ 2932031007317 ∧ Fl.lensL l ∧ Fl.sizeL l ≤ 1000000 ∧ Fl.mayN 65536 q v k l = true, .agg [.int ((Fl.simpT (.node q v k l)).kind), .int ((Fl.simpT (.node q v k l)).v), .int ((Fl.simpT (.node q v k l)).k), .trees ((Fl.simpT (.node q v k l)).l)], [])
  | _, _ => none
theorem rSimp_sound : Sound Tryd.prog 33 rSimp_τ := sound_all rSimp_all (fun args os p r outs hσ hp => by
  unfold rSimp_τ at hσ
  split at hσ
  · rename_i q v k l
    simp only [Option.some.injEq, Prod.mk.injEq] at hσ
    obtain ⟨rfl, rfl, rfl⟩ := hσ
    exact ⟨Fl.sizeL l + 1, _, rfl, ⟨hp.1, hp.2.1, hp.2.2.1, hp.2.2.2, Nat.lt_succ_self _⟩⟩
  · cases hσ)
end Go.Proofs.YtlhjliigfecihaaDoor.En
