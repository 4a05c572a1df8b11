/- The reference of layer 11, in the reader's words. -/
import Derived.Test.YtlhjliigfecihaaDoorProg
import Derived.Test.YtlhjliigfecihaaDoorEngLeaf
import Derived.Test.YtlhjliigfecihaaDoorEngCallG
import Derived.Test.YtlhjliigfecihaaDoorEngRec
import Derived.Test.YtlhjliigfecihaaDoorTreeG
namespace Go.Proofs.YtlhjliigfecihaaDoor.En
open Go Go.RowKit
set_option linter.unusedVariables false
set_option linter.unusedSimpArgs false
set_option linter.unnecessarySimpa false
def tyR11 : List (Nat × TD) := [(3, ⟨1, false, [.int .i64 0], [], none, 8, false, 1, 1⟩),
  (4, ⟨1, false, [.bool false], [], none, 1, true, 0, 2⟩),
  (22, ⟨1, false, [.slice none 0 0], [], some 24, 24, false, 0, 0⟩),
  (24, ⟨4, true, [.int .i64 0, .int .i64 0, .int .i64 0, .slice none 0 0], [(0, 3), (1, 3), (2, 3), (3, 22)], none, 48, false, 0, 4⟩),
  (25, ⟨1, false, [.slice none 0 0], [], some 4, 24, false, 0, 0⟩)]
theorem tyR11_ok : AllTy Tryd.prog tyR11 := ⟨⟨by kernel_rfl, by kernel_rfl⟩, ⟨by kernel_rfl, by kernel_rfl⟩, ⟨by kernel_rfl, by kernel_rfl⟩, ⟨by kernel_rfl, by kernel_rfl⟩, ⟨by kernel_rfl, by kernel_rfl⟩, trivial⟩
def rVal_σ (nn : Nat) : CtF
  | [.agg [.im (.val (.int .i64 q)), .im (.val (.int .i64 v)), .im (.val (.int .i64 k)), .im (.ls (.trees l))], .im (.ls (.bools a))], [] => some (l.length ≤ 2932031007317 ∧ Fl.lensL l ∧ a.length ≤ maxLen ∧ Fl.sizeL l < nn, .bool (Fl.valN a q v k l), [])
  | _, _ => none
def cx_rVal (nn : Nat) : Cx := ⟨tyR11, [(13, (coeF [.agg [.id, .id, .id, .ld (.trees [])], .ld (.bools [])] (rVal_σ nn)))]⟩
theorem cx_rVal_ok (nn : Nat) (hR : Sound Tryd.prog 13 (rVal_σ nn)) : CxOk Tryd.prog (cx_rVal nn) := cx_ok tyR11_ok ⟨(hR.coe [.agg [.id, .id, .id, .ld (.trees [])], .ld (.bools [])] rfl), trivial⟩
theorem rVal_step (nn : Nat) (hR : Sound Tryd.prog 13 (rVal_σ nn)) : Sound Tryd.prog 13 (rVal_σ (nn + 1)) := by
 refine sound_mk (cx := (cx_rVal nn)) (fn := Tryd.f13) Tryd.func13 (by kernel_rfl) rfl ?_
 intro w0 G0 args os p r outs hσ hp hm0 hd0
 have hcx : CxOk Tryd.prog (cx_rVal nn) := cx_rVal_ok nn hR
 unfold rVal_σ at hσ
 split at hσ
 ·
  rename_i q v k l a
  simp only [Option.some.injEq, Prod.mk.injEq] at hσ
  obtain ⟨rfl, rfl, rfl⟩ := hσ
  obtain ⟨wW, wO, wm, wβ, wd⟩ := w0
  replace hm0 : wm = 0 := hm0
  subst hm0
  replace hd0 : wd = [] := hd0
  subst hd0
  refine ⟨by kernel_rfl, ?_⟩
  change Tri ⟨_, _, _, _, _, _⟩ [(0, .agg [.int q, .int v, .int k, .trees l]), (1, .bools a)] [] _ _
  obtain ⟨hm1, hm2, hm3, hsz⟩ := hp
  have hm9 := hm1
  have ha9 := hm3
  unfold maxLen at ha9
  refine tri_seq ?_
  refine tri_regD hcx [(1000, .frz)] [2] [1] [] [] [(2, .pto [.int q, .int v, .int k, .ls (.trees l)])] [] (by kernel_rfl) ?_ ?_
  ·
   exact az
  refine fin_then ?_
  refine tri_seq ?_
  refine tri_seq ?_
  refine tri_regD hcx [] [9] [2, 1] [] [] [(9, .bool (q == 1))] [] (by kernel_rfl) ?_ ?_
  ·
   exact az
  refine fin_then ?_
  refine tri_cond (b := (q == 1)) (by kernel_rfl) (fun hb0 => ?_) (fun hb0 => ?_)
  ·
   skip
   have h0 := eq_of_beq hb0
   refine tri_seq ?_
   refine tri_regD hcx [] [4] [] [] [] [(4, .bool (v == 1))] [] (by kernel_rfl) ?_ ?_
   ·
    exact az
   refine fin_then ?_
   refine tri_ret ?_
   refine fin_then_ret ?_
   exact fin_ret [] rfl rfl trivial hcx (avs := [.bool (v == 1)]) (by kernel_rfl) (congrArg AV.bool (show (v == 1) = (Fl.valN a q v k l) from (by first | exact Fl.vn1 (by omega) | exact Fl.vn2 (by omega) (by omega) | (rw [show i = l.length by omega]; first | exact Fl.cn3 (by omega) | exact Fl.cn4 (by omega) | exact Fl.cn5 (by omega) | exact Fl.cn6 (by omega)) | exact Fl.vn0 (by omega) (by omega) (by omega) (by omega) (by omega) (by omega) | done))) [] rfl
  ·
   skip
   have h0 := neB hb0
   refine tri_skip ?_
   refine fin_then ?_
   refine tri_seq ?_
   refine tri_seq ?_
   refine tri_regD hcx [] [15] [2, 1] [] [] [(15, .bool (q == 2))] [] (by kernel_rfl) ?_ ?_
   ·
    exact az
   refine fin_then ?_
   refine tri_cond (b := (q == 2)) (by kernel_rfl) (fun hb1 => ?_) (fun hb1 => ?_)
   ·
    skip
    have h1 := eq_of_beq hb1
    refine tri_seq ?_
    refine tri_regD hcx [] [4] [] [] [((decide (v ≥ 1)) = true → ((decide (v ≥ 1)) = true)), ((decide (v ≥ 1)) = true → ((decide (v ≥ 1)) = true)), ((decide (v ≥ 1)) = true → ((decide (v ≥ 1)) = true)), ((decide (v ≥ 1)) = true → ((decide (v ≥ 1)) = true)), ((decide (v ≥ 1)) = true → (decide (v ≥ 1)) = true), (((decide (v ≥ 1)) && (decide (v < (a.length : Int)))) = true → (((decide (v ≥ 1)) && (decide (v < (a.length : Int)))) = true)), (((decide (v ≥ 1)) && (decide (v < (a.length : Int)))) = true → (((decide (v ≥ 1)) && (decide (v < (a.length : Int)))) = true)), (((decide (v ≥ 1)) && (decide (v < (a.length : Int)))) = true → (((decide (v ≥ 1)) && (decide (v < (a.length : Int)))) = true)), (((decide (v ≥ 1)) && (decide (v < (a.length : Int)))) = true → ((0 : Int) ≤ v ∧ v < (a.length : Int))), (((decide (v ≥ 1)) && (decide (v < (a.length : Int)))) = true → (((decide (v ≥ 1)) && (decide (v < (a.length : Int)))) = true)), (((decide (v ≥ 1)) && (decide (v < (a.length : Int)))) = true → ((decide (v ≥ 1)) && (decide (v < (a.length : Int)))) = true)] [(4, .bool (((decide (v ≥ 1)) && (decide (v < (a.length : Int)))) && (a.getD v.toNat false)))] [] (by kernel_rfl) ?_ ?_
    ·
     refine (ap ?_ (ap ?_ (ap ?_ (ap ?_ (ap (by exact id) (ap ?_ (ap ?_ (ap ?_ (ap ?_ (ap ?_ (ap (by exact id) az)))))))))))
     all_goals
      first | omega | exact id | exact vcNot | exact vcG | exact vcH | (intro _; omega) | exact (fun _ h => h) | (intro h; simp at h; omega) | (simp only [List.length_cons, List.length_nil, List.length_append, List.length_map, List.length_set, List.length_replicate]; omega) | (intro h; simp [h]; done) | (have h8 := hsub (by omega); have h7 := hlen (by omega); exact ⟨h7.1, h7.2, hm3, by omega⟩) | done
    refine fin_then ?_
    refine tri_ret ?_
    refine fin_then_ret ?_
    exact fin_ret [] rfl rfl trivial hcx (avs := [.bool (((decide (v ≥ 1)) && (decide (v < (a.length : Int)))) && (a.getD v.toNat false))]) (by kernel_rfl) (congrArg AV.bool (show (((decide (v ≥ 1)) && (decide (v < (a.length : Int)))) && (a.getD v.toNat false)) = (Fl.valN a q v k l) from (by first | exact Fl.vn1 (by omega) | exact Fl.vn2 (by omega) (by omega) | (rw [show i = l.length by omega]; first | exact Fl.cn3 (by omega) | exact Fl.cn4 (by omega) | exact Fl.cn5 (by omega) | exact Fl.cn6 (by omega)) | exact Fl.vn0 (by omega) (by omega) (by omega) (by omega) (by omega) (by omega) | done))) [] rfl
   ·
    skip
    have h1 := neB hb1
    refine tri_skip ?_
    refine fin_then ?_
    refine tri_seq ?_
    refine tri_regD hcx [] [5] [2, 1] [] [] [(5, .int 0)] [] (by kernel_rfl) ?_ ?_
    ·
     exact az
    refine fin_then ?_
    refine tri_seq ?_
    refine tri_seq ?_
    refine tri_regD hcx [] [6] [5, 2, 1] [] [] [(6, .int 0)] [] (by kernel_rfl) ?_ ?_
    ·
     exact az
    refine fin_then ?_
    refine tri_block ?_
    refine tri_loop (X := Nat) (fun x0 => x0 ≤ l.length) (fun x0 => [(1, .bools a), (2, .pto [.int q, .int v, .int k, .ls (.trees l)]), (5, .int ((Fl.cntV a l x0 : Nat) : Int)), (6, .int (x0 : Int))]) (fun x0 => []) (fun x0 => l.length - x0) (0) ?_ ?_ ?_ ?_
    ·
     show 0 ≤ l.length
     omega
    ·
     exact subE_mk (l := [.bools a, .pto [.int q, .int v, .int k, .ls (.trees l)], .int 0, .int 0]) (m := [.bools a, .pto [.int q, .int v, .int k, .ls (.trees l)], .int ((Fl.cntV a l 0 : Nat) : Int), .int (0 : Int)]) (by kernel_rfl) (by kernel_rfl) (consE rfl (consE rfl (consE (congrArg AV.int (show 0 = ((Fl.cntV a l 0 : Nat) : Int) from (by rfl))) (consE (congrArg AV.int (show 0 = (0 : Int) from (by first | rfl | omega | (simp; done)))) rfl))))
    ·
     kernel_rfl
    ·
     intro i hI
     replace hI : i ≤ l.length := hI
     change Tri _ [(1, .bools a), (2, .pto [.int q, .int v, .int k, .ls (.trees l)]), (5, .int ((Fl.cntV a l i : Nat) : Int)), (6, .int (i : Int))] [] _ _
     have hcb := Fl.cnt_le a l i
     have hsub : i < l.length → Fl.sizeL (l.getD i tree0).l < Fl.sizeL l := fun h => Fl.size_sub h
     have hlen : i < l.length → _ := fun h => Fl.lens_at hm2 h
     refine tri_seq ?_
     refine tri_seq ?_
     refine tri_regD hcx [] [37] [1, 2, 5, 6] [] [] [(37, .bool (decide ((i : Int) < (l.length : Int))))] [] (by kernel_rfl) ?_ ?_
     ·
      exact az
     refine fin_then ?_
     refine tri_cond (b := (decide ((i : Int) < (l.length : Int)))) (by kernel_rfl) (fun hb2 => ?_) (fun hb2 => ?_)
     ·
      skip
      have h2 := of_decide_eq_true hb2
      refine tri_skip ?_
      refine fin_then ?_
      refine tri_seq ?_
      refine tri_block ?_
      refine tri_seq ?_
      refine tri_regD hcx [] [46] [1, 2, 5, 6] [] [((0 : Int) ≤ (i : Int) ∧ (i : Int) < (l.length : Int)), (((l.getD i tree0).l).length ≤ 2932031007317 ∧ Fl.lensL ((l.getD i tree0).l) ∧ a.length ≤ maxLen ∧ Fl.sizeL ((l.getD i tree0).l) < nn)] [(46, .bool (Fl.valN a ((l.getD i tree0).kind) ((l.getD i tree0).v) ((l.getD i tree0).k) ((l.getD i tree0).l)))] [] (by kernel_rfl) ?_ ?_
      ·
       refine (ap ?_ (ap ?_ az))
       all_goals
        first | omega | exact id | exact vcNot | exact vcG | exact vcH | (intro _; omega) | exact (fun _ h => h) | (intro h; simp at h; omega) | (simp only [List.length_cons, List.length_nil, List.length_append, List.length_map, List.length_set, List.length_replicate]; omega) | (intro h; simp [h]; done) | (have h8 := hsub (by omega); have h7 := hlen (by omega); exact ⟨h7.1, h7.2, hm3, by omega⟩) | done
      refine fin_then ?_
      refine tri_cond (b := (Fl.valN a ((l.getD i tree0).kind) ((l.getD i tree0).v) ((l.getD i tree0).k) ((l.getD i tree0).l))) (by kernel_rfl) (fun hb3 => ?_) (fun hb3 => ?_)
      ·
       skip
       have h3 := hb3
       have hq : Fl.valT a (l.getD i tree0) = true := (Fl.val_at a _).symm.trans h3
       refine tri_regD hcx [] [5] [1, 2, 6] [] [Fit (((Fl.cntV a l i : Nat) : Int) + 1)] [(5, .int (((Fl.cntV a l i : Nat) : Int) + 1))] [] (by kernel_rfl) ?_ ?_
       ·
        refine (ap ?_ az)
        first | omega | exact id | exact vcNot | exact vcG | exact vcH | (intro _; omega) | exact (fun _ h => h) | (intro h; simp at h; omega) | (simp only [List.length_cons, List.length_nil, List.length_append, List.length_map, List.length_set, List.length_replicate]; omega) | (intro h; simp [h]; done) | (have h8 := hsub (by omega); have h7 := hlen (by omega); exact ⟨h7.1, h7.2, hm3, by omega⟩) | done
       refine fin_block ?_
       refine fin_then ?_
       refine tri_regD hcx [] [6] [5, 1, 2] [] [Fit ((i : Int) + 1)] [(6, .int ((i : Int) + 1))] [] (by kernel_rfl) ?_ ?_
       ·
        refine (ap ?_ az)
        first | omega | exact id | exact vcNot | exact vcG | exact vcH | (intro _; omega) | exact (fun _ h => h) | (intro h; simp at h; omega) | (simp only [List.length_cons, List.length_nil, List.length_append, List.length_map, List.length_set, List.length_replicate]; omega) | (intro h; simp [h]; done) | (have h8 := hsub (by omega); have h7 := hlen (by omega); exact ⟨h7.1, h7.2, hm3, by omega⟩) | done
       refine fin_round (i + 1) ?_ ?_ ?_ ?_
       ·
        show (i + 1) ≤ l.length
        omega
       ·
        show l.length - (i + 1) < l.length - i
        omega
       ·
        exact subE_mk (l := [.bools a, .pto [.int q, .int v, .int k, .ls (.trees l)], .int (((Fl.cntV a l i : Nat) : Int) + 1), .int ((i : Int) + 1)]) (m := [.bools a, .pto [.int q, .int v, .int k, .ls (.trees l)], .int ((Fl.cntV a l (i + 1) : Nat) : Int), .int ((i + 1) : Int)]) (by kernel_rfl) (by kernel_rfl) (consE rfl (consE rfl (consE (congrArg AV.int (show (((Fl.cntV a l i : Nat) : Int) + 1) = ((Fl.cntV a l (i + 1) : Nat) : Int) from (by (rw [Fl.cnt_step (by omega), hq]; simp)))) (consE (congrArg AV.int (show ((i : Int) + 1) = ((i + 1) : Int) from (by first | rfl | omega | (simp; done)))) rfl))))
       ·
        kernel_rfl
      ·
       skip
       have h3 := hb3
       have hq : Fl.valT a (l.getD i tree0) = false := (Fl.val_at a _).symm.trans h3
       refine tri_skip ?_
       refine fin_block ?_
       refine fin_then ?_
       refine tri_regD hcx [] [6] [1, 2, 5] [] [Fit ((i : Int) + 1)] [(6, .int ((i : Int) + 1))] [] (by kernel_rfl) ?_ ?_
       ·
        refine (ap ?_ az)
        first | omega | exact id | exact vcNot | exact vcG | exact vcH | (intro _; omega) | exact (fun _ h => h) | (intro h; simp at h; omega) | (simp only [List.length_cons, List.length_nil, List.length_append, List.length_map, List.length_set, List.length_replicate]; omega) | (intro h; simp [h]; done) | (have h8 := hsub (by omega); have h7 := hlen (by omega); exact ⟨h7.1, h7.2, hm3, by omega⟩) | done
       refine fin_round (i + 1) ?_ ?_ ?_ ?_
       ·
        show (i + 1) ≤ l.length
        omega
       ·
        show l.length - (i + 1) < l.length - i
        omega
       ·
        exact subE_mk (l := [.bools a, .pto [.int q, .int v, .int k, .ls (.trees l)], .int ((Fl.cntV a l i : Nat) : Int), .int ((i : Int) + 1)]) (m := [.bools a, .pto [.int q, .int v, .int k, .ls (.trees l)], .int ((Fl.cntV a l (i + 1) : Nat) : Int), .int ((i + 1) : Int)]) (by kernel_rfl) (by kernel_rfl) (consE rfl (consE rfl (consE (congrArg AV.int (show ((Fl.cntV a l i : Nat) : Int) = ((Fl.cntV a l (i + 1) : Nat) : Int) from (by (rw [Fl.cnt_step (by omega), hq]; simp)))) (consE (congrArg AV.int (show ((i : Int) + 1) = ((i + 1) : Int) from (by first | rfl | omega | (simp; done)))) rfl))))
       ·
        kernel_rfl
     ·
      skip
      have h2 := of_decide_eq_false hb2
      refine tri_exit ?_
      refine fin_then_exit ?_
      refine fin_then_exit ?_
      refine fin_block_same ?_
      refine fin_then ?_
      refine tri_seq ?_
      refine tri_seq ?_
      refine tri_regD hcx [] [50] [2, 5] [] [] [(50, .int q)] [] (by kernel_rfl) ?_ ?_
      ·
       exact az
      refine fin_then ?_
      refine tri_block ?_
      refine tri_seq ?_
      refine tri_regD hcx [] [51] [50, 2, 5] [] [] [(51, .bool (q == 3))] [] (by kernel_rfl) ?_ ?_
      ·
       exact az
      refine fin_then ?_
      refine tri_cond (b := (q == 3)) (by kernel_rfl) (fun hb4 => ?_) (fun hb4 => ?_)
      ·
       skip
       have h4 := eq_of_beq hb4
       refine tri_seq ?_
       refine tri_regD hcx [] [4] [] [] [] [(4, .bool (((Fl.cntV a l i : Nat) : Int) == 0))] [] (by kernel_rfl) ?_ ?_
       ·
        exact az
       refine fin_then ?_
       refine tri_ret ?_
       refine fin_block_ret ?_
       refine fin_then_ret ?_
       exact fin_ret [] rfl rfl trivial hcx (avs := [.bool (((Fl.cntV a l i : Nat) : Int) == 0)]) (by kernel_rfl) (congrArg AV.bool (show (((Fl.cntV a l i : Nat) : Int) == 0) = (Fl.valN a q v k l) from (by first | exact Fl.vn1 (by omega) | exact Fl.vn2 (by omega) (by omega) | (rw [show i = l.length by omega]; first | exact Fl.cn3 (by omega) | exact Fl.cn4 (by omega) | exact Fl.cn5 (by omega) | exact Fl.cn6 (by omega)) | exact Fl.vn0 (by omega) (by omega) (by omega) (by omega) (by omega) (by omega) | done))) [] rfl
      ·
       skip
       have h4 := neB hb4
       refine tri_seq ?_
       refine tri_regD hcx [] [55] [50, 2, 5] [] [] [(55, .bool (q == 4))] [] (by kernel_rfl) ?_ ?_
       ·
        exact az
       refine fin_then ?_
       refine tri_cond (b := (q == 4)) (by kernel_rfl) (fun hb5 => ?_) (fun hb5 => ?_)
       ·
        skip
        have h5 := eq_of_beq hb5
        refine tri_seq ?_
        refine tri_regD hcx [] [4] [] [] [] [(4, .bool (((Fl.cntV a l i : Nat) : Int) == (l.length : Int)))] [] (by kernel_rfl) ?_ ?_
        ·
         exact az
        refine fin_then ?_
        refine tri_ret ?_
        refine fin_block_ret ?_
        refine fin_then_ret ?_
        exact fin_ret [] rfl rfl trivial hcx (avs := [.bool (((Fl.cntV a l i : Nat) : Int) == (l.length : Int))]) (by kernel_rfl) (congrArg AV.bool (show (((Fl.cntV a l i : Nat) : Int) == (l.length : Int)) = (Fl.valN a q v k l) from (by first | exact Fl.vn1 (by omega) | exact Fl.vn2 (by omega) (by omega) | (rw [show i = l.length by omega]; first | exact Fl.cn3 (by omega) | exact Fl.cn4 (by omega) | exact Fl.cn5 (by omega) | exact Fl.cn6 (by omega)) | exact Fl.vn0 (by omega) (by omega) (by omega) (by omega) (by omega) (by omega) | done))) [] rfl
       ·
        skip
        have h5 := neB hb5
        refine tri_seq ?_
        refine tri_regD hcx [] [62] [50, 2, 5] [] [] [(62, .bool (q == 5))] [] (by kernel_rfl) ?_ ?_
        ·
         exact az
        refine fin_then ?_
        refine tri_cond (b := (q == 5)) (by kernel_rfl) (fun hb6 => ?_) (fun hb6 => ?_)
        ·
         skip
         have h6 := eq_of_beq hb6
         refine tri_seq ?_
         refine tri_regD hcx [] [4] [] [] [] [(4, .bool (decide (((Fl.cntV a l i : Nat) : Int) > 0)))] [] (by kernel_rfl) ?_ ?_
         ·
          exact az
         refine fin_then ?_
         refine tri_ret ?_
         refine fin_block_ret ?_
         refine fin_then_ret ?_
         exact fin_ret [] rfl rfl trivial hcx (avs := [.bool (decide (((Fl.cntV a l i : Nat) : Int) > 0))]) (by kernel_rfl) (congrArg AV.bool (show (decide (((Fl.cntV a l i : Nat) : Int) > 0)) = (Fl.valN a q v k l) from (by first | exact Fl.vn1 (by omega) | exact Fl.vn2 (by omega) (by omega) | (rw [show i = l.length by omega]; first | exact Fl.cn3 (by omega) | exact Fl.cn4 (by omega) | exact Fl.cn5 (by omega) | exact Fl.cn6 (by omega)) | exact Fl.vn0 (by omega) (by omega) (by omega) (by omega) (by omega) (by omega) | done))) [] rfl
        ·
         skip
         have h6 := neB hb6
         refine tri_seq ?_
         refine tri_regD hcx [] [66] [2, 5] [] [] [(66, .bool (q == 6))] [] (by kernel_rfl) ?_ ?_
         ·
          exact az
         refine fin_then ?_
         refine tri_cond (b := (q == 6)) (by kernel_rfl) (fun hb7 => ?_) (fun hb7 => ?_)
         ·
          skip
          have h7 := eq_of_beq hb7
          refine tri_seq ?_
          refine tri_regD hcx [] [4] [] [] [] [(4, .bool (decide (((Fl.cntV a l i : Nat) : Int) ≥ k)))] [] (by kernel_rfl) ?_ ?_
          ·
           exact az
          refine fin_then ?_
          refine tri_ret ?_
          refine fin_block_ret ?_
          refine fin_then_ret ?_
          exact fin_ret [] rfl rfl trivial hcx (avs := [.bool (decide (((Fl.cntV a l i : Nat) : Int) ≥ k))]) (by kernel_rfl) (congrArg AV.bool (show (decide (((Fl.cntV a l i : Nat) : Int) ≥ k)) = (Fl.valN a q v k l) from (by first | exact Fl.vn1 (by omega) | exact Fl.vn2 (by omega) (by omega) | (rw [show i = l.length by omega]; first | exact Fl.cn3 (by omega) | exact Fl.cn4 (by omega) | exact Fl.cn5 (by omega) | exact Fl.cn6 (by omega)) | exact Fl.vn0 (by omega) (by omega) (by omega) (by omega) (by omega) (by omega) | done))) [] rfl
         ·
          skip
          have h7 := neB hb7
          refine tri_skip ?_
          refine fin_block ?_
          refine fin_then ?_
          refine tri_seq ?_
          refine tri_regD hcx [] [4] [] [] [] [(4, .bool false)] [] (by kernel_rfl) ?_ ?_
          ·
           exact az
          refine fin_then ?_
          refine tri_ret ?_
          exact fin_ret [] rfl rfl trivial hcx (avs := [.bool false]) (by kernel_rfl) (congrArg AV.bool (show false = (Fl.valN a q v k l) from (by first | exact Fl.vn1 (by omega) | exact Fl.vn2 (by omega) (by omega) | (rw [show i = l.length by omega]; first | exact Fl.cn3 (by omega) | exact Fl.cn4 (by omega) | exact Fl.cn5 (by omega) | exact Fl.cn6 (by omega)) | exact Fl.vn0 (by omega) (by omega) (by omega) (by omega) (by omega) (by omega) | done))) [] rfl
 ·
  cases hσ
theorem rVal_all : ∀ nn, Sound Tryd.prog 13 (rVal_σ nn) := sound_rec (sound_none (fn := Tryd.f13) Tryd.func13 (by kernel_rfl) rfl (fun args os p r outs hσ hp => by
  unfold rVal_σ at hσ
  split at hσ
  · simp only [Option.some.injEq, Prod.mk.injEq] at hσ
    obtain ⟨rfl, rfl, rfl⟩ := hσ
    exact absurd hp.2.2.2 (Nat.not_lt_zero _)
  · cases hσ)) rVal_step
def rVal_τ : CtF
  | [.agg [.im (.val (.int .i64 q)), .im (.val (.int .i64 v)), .im (.val (.int .i64 k)), .im (.ls (.trees l))], .im (.ls (.bools a))], [] => some (l.length ≤ 2932031007317 ∧ Fl.lensL l ∧ a.length ≤ maxLen, .bool (Fl.valN a q v k l), [])
  | _, _ => none
theorem rVal_sound : Sound Tryd.prog 13 rVal_τ := sound_all rVal_all (fun args os p r outs hσ hp => by
  unfold rVal_τ at hσ
  split at hσ
  · rename_i q v k l a
    simp only [Option.some.injEq, Prod.mk.injEq] at hσ
    obtain ⟨rfl, rfl, rfl⟩ := hσ
    exact ⟨Fl.sizeL l + 1, _, rfl, ⟨hp.1, hp.2.1, hp.2.2, Nat.lt_succ_self _⟩⟩
  · cases hσ)
def rSize_σ (nn : Nat) : CtF
  | [.agg [.im (.val (.int .i64 q)), .im (.val (.int .i64 v)), .im (.val (.int .i64 k)), .im (.ls (.trees l))]], [] => some (l.length ≤ 2932031007317 ∧ Fl.lensL l ∧ Fl.sizeL l ≤ 1000000000000000 ∧ Fl.sizeL l < nn, .int ((1 + Fl.sizeL l : Nat) : Int), [])
  | _, _ => none
def cx_rSize (nn : Nat) : Cx := ⟨tyR11, [(13, (coeF [.agg [.id, .id, .id, .ld (.trees [])], .ld (.bools [])] rVal_τ)), (47, (coeF [.agg [.id, .id, .id, .ld (.trees [])]] (rSize_σ nn)))]⟩
theorem cx_rSize_ok (nn : Nat) (hR : Sound Tryd.prog 47 (rSize_σ nn)) : CxOk Tryd.prog (cx_rSize nn) := cx_ok tyR11_ok ⟨(rVal_sound.coe [.agg [.id, .id, .id, .ld (.trees [])], .ld (.bools [])] rfl), (hR.coe [.agg [.id, .id, .id, .ld (.trees [])]] rfl), trivial⟩
theorem rSize_step (nn : Nat) (hR : Sound Tryd.prog 47 (rSize_σ nn)) : Sound Tryd.prog 47 (rSize_σ (nn + 1)) := by
 refine sound_mk (cx := (cx_rSize nn)) (fn := Tryd.f47) Tryd.func47 (by kernel_rfl) rfl ?_
 intro w0 G0 args os p r outs hσ hp hm0 hd0
 have hcx : CxOk Tryd.prog (cx_rSize nn) := cx_rSize_ok nn hR
 unfold rSize_σ at hσ
 split at hσ
 ·
  rename_i q v k l
  simp only [Option.some.injEq, Prod.mk.injEq] at hσ
  obtain ⟨rfl, rfl, rfl⟩ := hσ
  obtain ⟨wW, wO, wm, wβ, wd⟩ := w0
  replace hm0 : wm = 0 := hm0
  subst hm0
  replace hd0 : wd = [] := hd0
  subst hd0
  refine ⟨by kernel_rfl, ?_⟩
  change Tri ⟨_, _, _, _, _, _⟩ [(0, .agg [.int q, .int v, .int k, .trees l])] [] _ _
  obtain ⟨hm1, hm2, hm3, hsz⟩ := hp
  have hm9 := hm1
  refine tri_seq ?_
  refine tri_regD hcx [(1000, .frz)] [1] [] [] [] [(1, .pto [.int q, .int v, .int k, .ls (.trees l)])] [] (by kernel_rfl) ?_ ?_
  ·
   exact az
  refine fin_then ?_
  refine tri_seq ?_
  refine tri_regD hcx [] [3] [1] [] [] [(3, .int 1)] [] (by kernel_rfl) ?_ ?_
  ·
   exact az
  refine fin_then ?_
  refine tri_seq ?_
  refine tri_seq ?_
  refine tri_regD hcx [] [4] [3, 1] [] [] [(4, .int 0)] [] (by kernel_rfl) ?_ ?_
  ·
   exact az
  refine fin_then ?_
  refine tri_block ?_
  refine tri_loop (X := Nat) (fun x0 => x0 ≤ l.length) (fun x0 => [(1, .pto [.int q, .int v, .int k, .ls (.trees l)]), (3, .int ((1 + Fl.sizeL (l.take x0) : Nat) : Int)), (4, .int (x0 : Int))]) (fun x0 => []) (fun x0 => l.length - x0) (0) ?_ ?_ ?_ ?_
  ·
   show 0 ≤ l.length
   omega
  ·
   exact subE_mk (l := [.pto [.int q, .int v, .int k, .ls (.trees l)], .int 1, .int 0]) (m := [.pto [.int q, .int v, .int k, .ls (.trees l)], .int ((1 + Fl.sizeL (l.take 0) : Nat) : Int), .int (0 : Int)]) (by kernel_rfl) (by kernel_rfl) (consE rfl (consE (congrArg AV.int (show 1 = ((1 + Fl.sizeL (l.take 0) : Nat) : Int) from (by rfl))) (consE (congrArg AV.int (show 0 = (0 : Int) from (by first | rfl | omega | (simp; done)))) rfl)))
  ·
   kernel_rfl
  ·
   intro i hI
   replace hI : i ≤ l.length := hI
   change Tri _ [(1, .pto [.int q, .int v, .int k, .ls (.trees l)]), (3, .int ((1 + Fl.sizeL (l.take i) : Nat) : Int)), (4, .int (i : Int))] [] _ _
   have htk := Fl.size_take l i
   have htk1 := Fl.size_take l (i + 1)
   have hstp : i < l.length → _ := fun h => Fl.size_step (l := l) h
   have hsub : i < l.length → Fl.sizeL (l.getD i tree0).l < Fl.sizeL l := fun h => Fl.size_sub h
   have hlen : i < l.length → _ := fun h => Fl.lens_at hm2 h
   refine tri_seq ?_
   refine tri_seq ?_
   refine tri_regD hcx [] [9] [1, 3, 4] [] [] [(9, .bool (decide ((i : Int) < (l.length : Int))))] [] (by kernel_rfl) ?_ ?_
   ·
    exact az
   refine fin_then ?_
   refine tri_cond (b := (decide ((i : Int) < (l.length : Int)))) (by kernel_rfl) (fun hb0 => ?_) (fun hb0 => ?_)
   ·
    skip
    have h0 := of_decide_eq_true hb0
    refine tri_skip ?_
    refine fin_then ?_
    refine tri_seq ?_
    refine tri_block ?_
    refine tri_regD hcx [] [3] [1, 4] [] [((0 : Int) ≤ (i : Int) ∧ (i : Int) < (l.length : Int)), (((l.getD i tree0).l).length ≤ 2932031007317 ∧ Fl.lensL ((l.getD i tree0).l) ∧ Fl.sizeL ((l.getD i tree0).l) ≤ 1000000000000000 ∧ Fl.sizeL ((l.getD i tree0).l) < nn), Fit (((1 + Fl.sizeL (l.take i) : Nat) : Int) + ((1 + Fl.sizeL ((l.getD i tree0).l) : Nat) : Int))] [(3, .int (((1 + Fl.sizeL (l.take i) : Nat) : Int) + ((1 + Fl.sizeL ((l.getD i tree0).l) : Nat) : Int)))] [] (by kernel_rfl) ?_ ?_
    ·
     refine (ap ?_ (ap ?_ (ap ?_ az)))
     all_goals
      first | omega | exact id | exact vcNot | exact vcG | exact vcH | (intro _; omega) | exact (fun _ h => h) | (intro h; simp at h; omega) | (simp only [List.length_cons, List.length_nil, List.length_append, List.length_map, List.length_set, List.length_replicate]; omega) | (intro h; simp [h]; done) | (have h8 := hsub (by omega); have h7 := hlen (by omega); exact ⟨h7.1, h7.2, by omega, by omega⟩) | (have h8 := hstp (by omega); constructor <;> omega) | done
    refine fin_block ?_
    refine fin_then ?_
    refine tri_regD hcx [] [4] [3, 1] [] [Fit ((i : Int) + 1)] [(4, .int ((i : Int) + 1))] [] (by kernel_rfl) ?_ ?_
    ·
     refine (ap ?_ az)
     first | omega | exact id | exact vcNot | exact vcG | exact vcH | (intro _; omega) | exact (fun _ h => h) | (intro h; simp at h; omega) | (simp only [List.length_cons, List.length_nil, List.length_append, List.length_map, List.length_set, List.length_replicate]; omega) | (intro h; simp [h]; done) | (have h8 := hsub (by omega); have h7 := hlen (by omega); exact ⟨h7.1, h7.2, by omega, by omega⟩) | (have h8 := hstp (by omega); constructor <;> omega) | done
    refine fin_round (i + 1) ?_ ?_ ?_ ?_
    ·
     show (i + 1) ≤ l.length
     omega
    ·
     show l.length - (i + 1) < l.length - i
     omega
    ·
     exact subE_mk (l := [.pto [.int q, .int v, .int k, .ls (.trees l)], .int (((1 + Fl.sizeL (l.take i) : Nat) : Int) + ((1 + Fl.sizeL ((l.getD i tree0).l) : Nat) : Int)), .int ((i : Int) + 1)]) (m := [.pto [.int q, .int v, .int k, .ls (.trees l)], .int ((1 + Fl.sizeL (l.take (i + 1)) : Nat) : Int), .int ((i + 1) : Int)]) (by kernel_rfl) (by kernel_rfl) (consE rfl (consE (congrArg AV.int (show (((1 + Fl.sizeL (l.take i) : Nat) : Int) + ((1 + Fl.sizeL ((l.getD i tree0).l) : Nat) : Int)) = ((1 + Fl.sizeL (l.take (i + 1)) : Nat) : Int) from (by (rw [Fl.size_step (by omega)]; omega)))) (consE (congrArg AV.int (show ((i : Int) + 1) = ((i + 1) : Int) from (by first | rfl | omega | (simp; done)))) rfl)))
    ·
     kernel_rfl
   ·
    skip
    have h0 := of_decide_eq_false hb0
    refine tri_exit ?_
    refine fin_then_exit ?_
    refine fin_then_exit ?_
    refine fin_block_same ?_
    refine fin_then ?_
    refine tri_seq ?_
    refine tri_regD hcx [] [2] [] [] [] [(2, .int ((1 + Fl.sizeL (l.take i) : Nat) : Int))] [] (by kernel_rfl) ?_ ?_
    ·
     exact az
    refine fin_then ?_
    refine tri_ret ?_
    exact fin_ret [] rfl rfl trivial hcx (avs := [.int ((1 + Fl.sizeL (l.take i) : Nat) : Int)]) (by kernel_rfl) (congrArg AV.int (show ((1 + Fl.sizeL (l.take i) : Nat) : Int) = ((1 + Fl.sizeL l : Nat) : Int) from (by first | (rw [show i = l.length by omega, List.take_length]) | done))) [] rfl
 ·
  cases hσ
theorem rSize_all : ∀ nn, Sound Tryd.prog 47 (rSize_σ nn) := sound_rec (sound_none (fn := Tryd.f47) Tryd.func47 (by kernel_rfl) rfl (fun args os p r outs hσ hp => by
  unfold rSize_σ at hσ
  split at hσ
  · simp only [Option.some.injEq, Prod.mk.injEq] at hσ
    obtain ⟨rfl, rfl, rfl⟩ := hσ
    exact absurd hp.2.2.2 (Nat.not_lt_zero _)
  · cases hσ)) rSize_step
def rSize_τ : CtF
  | [.agg [.im (.val (.int .i64 q)), .im (.val (.int .i64 v)), .im (.val (.int .i64 k)), .im (.ls (.trees l))]], [] => some (l.length ≤ 2932031007317 ∧ Fl.lensL l ∧ Fl.sizeL l ≤ 1000000000000000, .int ((1 + Fl.sizeL l : Nat) : Int), [])
  | _, _ => none
theorem rSize_sound : Sound Tryd.prog 47 rSize_τ := sound_all rSize_all (fun args os p r outs hσ hp => by
  unfold rSize_τ at hσ
  split at hσ
  · rename_i q v k l
    simp only [Option.some.injEq, Prod.mk.injEq] at hσ
    obtain ⟨rfl, rfl, rfl⟩ := hσ
    exact ⟨Fl.sizeL l + 1, _, rfl, ⟨hp.1, hp.2.1, hp.2.2, Nat.lt_succ_self _⟩⟩
  · cases hσ)
def rSameT_σ (nn : Nat) : CtF
  | [.agg [.im (.val (.int .i64 q)), .im (.val (.int .i64 v)), .im (.val (.int .i64 k)), .im (.ls (.trees l))], .agg [.im (.val (.int .i64 q')), .im (.val (.int .i64 v')), .im (.val (.int .i64 k')), .im (.ls (.trees l'))]], [] => some (l.length ≤ 2932031007317 ∧ Fl.lensL l ∧ Fl.sizeL l < nn, .bool (Fl.sameB (.node q v k l) (.node q' v' k' l')), [])
  | _, _ => none
def cx_rSameT (nn : Nat) : Cx := ⟨tyR11, [(13, (coeF [.agg [.id, .id, .id, .ld (.trees [])], .ld (.bools [])] rVal_τ)), (47, (coeF [.agg [.id, .id, .id, .ld (.trees [])]] rSize_τ)), (14, (coeF [.agg [.id, .id, .id, .ld (.trees [])], .agg [.id, .id, .id, .ld (.trees [])]] (rSameT_σ nn)))]⟩
theorem cx_rSameT_ok (nn : Nat) (hR : Sound Tryd.prog 14 (rSameT_σ nn)) : CxOk Tryd.prog (cx_rSameT nn) := cx_ok tyR11_ok ⟨(rVal_sound.coe [.agg [.id, .id, .id, .ld (.trees [])], .ld (.bools [])] rfl), (rSize_sound.coe [.agg [.id, .id, .id, .ld (.trees [])]] rfl), (hR.coe [.agg [.id, .id, .id, .ld (.trees [])], .agg [.id, .id, .id, .ld (.trees [])]] rfl), trivial⟩
theorem rSameT_step (nn : Nat) (hR : Sound Tryd.prog 14 (rSameT_σ nn)) : Sound Tryd.prog 14 (rSameT_σ (nn + 1)) := by
 refine sound_mk (cx := (cx_rSameT nn)) (fn := Tryd.f14) Tryd.func14 (by kernel_rfl) rfl ?_
 intro w0 G0 args os p r outs hσ hp hm0 hd0
 have hcx : CxOk Tryd.prog (cx_rSameT nn) := cx_rSameT_ok nn hR
 have hmx : Tryd.prog.follows .mixedOrders = true := by kernel_rfl
 unfold rSameT_σ at hσ
 split at hσ
 ·
  rename_i q v k l q' v' k' l'
  simp only [Option.some.injEq, Prod.mk.injEq] at hσ
  obtain ⟨rfl, rfl, rfl⟩ := hσ
  obtain ⟨wW, wO, wm, wβ, wd⟩ := w0
  replace hm0 : wm = 0 := hm0
  subst hm0
  replace hd0 : wd = [] := hd0
  subst hd0
  refine ⟨by kernel_rfl, ?_⟩
  change Tri ⟨_, _, _, _, _, _⟩ [(0, .agg [.int q, .int v, .int k, .trees l]), (1, .agg [.int q', .int v', .int k', .trees l'])] [] _ _
  obtain ⟨hm1, hm2, hsz⟩ := hp
  have hm9 := hm1
  refine tri_seq ?_
  refine tri_regD hcx [(1000, .frz), (1001, .frz)] [2, 3] [] [] [] [(2, .pto [.int q, .int v, .int k, .ls (.trees l)]), (3, .pto [.int q', .int v', .int k', .ls (.trees l')])] [] (by kernel_rfl) ?_ ?_
  ·
   exact az
  refine fin_then ?_
  refine tri_seq ?_
  refine tri_seq ?_
  refine tri_regD hcx [] [33] [2, 3] [] [((!(q != q')) = true → ((!(q != q')) = true)), ((!(q != q')) = true → ((!(q != q')) = true)), ((!(q != q')) = true → ((!(q != q')) = true)), ((!(q != q')) = true → ((!(q != q')) = true)), ((q != q') = false → (!(q != q')) = true), ((!((q != q') || (v != v'))) = true → ((!((q != q') || (v != v'))) = true)), ((!((q != q') || (v != v'))) = true → ((!((q != q') || (v != v'))) = true)), ((!((q != q') || (v != v'))) = true → ((!((q != q') || (v != v'))) = true)), ((!((q != q') || (v != v'))) = true → ((!((q != q') || (v != v'))) = true)), (((q != q') || (v != v')) = false → (!((q != q') || (v != v'))) = true), ((!(((q != q') || (v != v')) || (k != k'))) = true → ((!(((q != q') || (v != v')) || (k != k'))) = true)), ((!(((q != q') || (v != v')) || (k != k'))) = true → ((!(((q != q') || (v != v')) || (k != k'))) = true)), ((!(((q != q') || (v != v')) || (k != k'))) = true → ((!(((q != q') || (v != v')) || (k != k'))) = true)), ((!(((q != q') || (v != v')) || (k != k'))) = true → ((!(((q != q') || (v != v')) || (k != k'))) = true)), ((!(((q != q') || (v != v')) || (k != k'))) = true → ((!(((q != q') || (v != v')) || (k != k'))) = true)), ((!(((q != q') || (v != v')) || (k != k'))) = true → ((!(((q != q') || (v != v')) || (k != k'))) = true)), ((((q != q') || (v != v')) || (k != k')) = false → (!(((q != q') || (v != v')) || (k != k'))) = true)] [(33, .bool ((((q != q') || (v != v')) || (k != k')) || ((l.length : Int) != (l'.length : Int))))] [] (by kernel_rfl) ?_ ?_
  ·
   refine (ap ?_ (ap ?_ (ap ?_ (ap ?_ (ap (by exact vcNot) (ap ?_ (ap ?_ (ap ?_ (ap ?_ (ap (by exact vcNot) (ap ?_ (ap ?_ (ap ?_ (ap ?_ (ap ?_ (ap ?_ (ap (by exact vcNot) az)))))))))))))))))
   all_goals
    first | omega | exact id | exact vcNot | exact vcG | exact vcH | (intro _; omega) | exact (fun _ h => h) | (intro h; simp at h; omega) | (simp only [List.length_cons, List.length_nil, List.length_append, List.length_map, List.length_set, List.length_replicate]; omega) | (intro h; simp [h]; done) | (have h8 := hsub (by omega); have h7 := hlen (by omega); exact ⟨h7.1, h7.2, by omega⟩) | done
  refine fin_then ?_
  refine tri_cond (b := ((((q != q') || (v != v')) || (k != k')) || ((l.length : Int) != (l'.length : Int)))) (by kernel_rfl) (fun hb0 => ?_) (fun hb0 => ?_)
  ·
   skip
   have h0 := hb0
   have hz := h0
   refine tri_seq ?_
   refine tri_regD hcx [] [4] [] [] [] [(4, .bool false)] [] (by kernel_rfl) ?_ ?_
   ·
    exact az
   refine fin_then ?_
   refine tri_ret ?_
   refine fin_then_ret ?_
   exact fin_ret [] rfl rfl trivial hcx (avs := [.bool false]) (by kernel_rfl) (congrArg AV.bool (show false = (Fl.sameB (.node q v k l) (.node q' v' k' l')) from (by first | exact (Fl.same_ne_head hz).symm | exact (Fl.same_ne hz5).symm | exact (Fl.same_eq hz (fun j hj => hok j (by omega))).symm | done))) [] rfl
  ·
   skip
   have h0 := hb0
   have hz : q = q' ∧ v = v' ∧ k = k' ∧ l.length = l'.length := Fl.same_head h0
   refine tri_skip ?_
   refine fin_then ?_
   refine tri_seq ?_
   refine tri_seq ?_
   refine tri_regD hcx [] [5] [2, 3] [] [] [(5, .int 0)] [] (by kernel_rfl) ?_ ?_
   ·
    exact az
   refine fin_then ?_
   refine tri_block ?_
   refine tri_loop (X := Nat) (fun x0 => x0 ≤ l.length ∧ ∀ j, j < x0 → l.getD j tree0 = l'.getD j tree0) (fun x0 => [(2, .pto [.int q, .int v, .int k, .ls (.trees l)]), (3, .pto [.int q', .int v', .int k', .ls (.trees l')]), (5, .int (x0 : Int))]) (fun x0 => []) (fun x0 => l.length - x0) (0) ?_ ?_ ?_ ?_
   ·
    show 0 ≤ l.length ∧ ∀ j, j < 0 → l.getD j tree0 = l'.getD j tree0
    exact ⟨Nat.zero_le _, fun j hj => by omega⟩
   ·
    exact subE_mk (l := [.pto [.int q, .int v, .int k, .ls (.trees l)], .pto [.int q', .int v', .int k', .ls (.trees l')], .int 0]) (m := [.pto [.int q, .int v, .int k, .ls (.trees l)], .pto [.int q', .int v', .int k', .ls (.trees l')], .int (0 : Int)]) (by kernel_rfl) (by kernel_rfl) (consE rfl (consE rfl (consE (congrArg AV.int (show 0 = (0 : Int) from (by first | rfl | omega | (simp; done)))) rfl)))
   ·
    kernel_rfl
   ·
    intro i hI
    replace hI : i ≤ l.length ∧ ∀ j, j < i → l.getD j tree0 = l'.getD j tree0 := hI
    change Tri _ [(2, .pto [.int q, .int v, .int k, .ls (.trees l)]), (3, .pto [.int q', .int v', .int k', .ls (.trees l')]), (5, .int (i : Int))] [] _ _
    obtain ⟨hk, hok⟩ := hI
    have hsub : i < l.length → Fl.sizeL (l.getD i tree0).l < Fl.sizeL l := fun h => Fl.size_sub h
    have hlen : i < l.length → _ := fun h => Fl.lens_at hm2 h
    refine tri_seq ?_
    refine tri_seq ?_
    refine tri_regD hcx [] [38] [2, 3, 5] [] [] [(38, .bool (decide ((i : Int) < (l.length : Int))))] [] (by kernel_rfl) ?_ ?_
    ·
     exact az
    refine fin_then ?_
    refine tri_cond (b := (decide ((i : Int) < (l.length : Int)))) (by kernel_rfl) (fun hb1 => ?_) (fun hb1 => ?_)
    ·
     skip
     have h1 := of_decide_eq_true hb1
     refine tri_skip ?_
     refine fin_then ?_
     refine tri_seq ?_
     refine tri_block ?_
     refine tri_seq ?_
     refine tri_drawD [0, 1, 0, 7, 15, 0, 32, 0, 224, 480, 1023, 2047] hcx hmx [] [52] [2, 3, 5] [] [((0 : Int) ≤ (i : Int) ∧ (i : Int) < (l.length : Int)), ((0 : Int) ≤ (i : Int) ∧ (i : Int) < (l'.length : Int)), (((l.getD i tree0).l).length ≤ 2932031007317 ∧ Fl.lensL ((l.getD i tree0).l) ∧ Fl.sizeL ((l.getD i tree0).l) < nn)] [(52, .bool (!(Fl.sameB (.node ((l.getD i tree0).kind) ((l.getD i tree0).v) ((l.getD i tree0).k) ((l.getD i tree0).l)) (.node ((l'.getD i tree0).kind) ((l'.getD i tree0).v) ((l'.getD i tree0).k) ((l'.getD i tree0).l)))))] [] (by kernel_rfl) ?_ ?_
     ·
      refine (ap ?_ (ap ?_ (ap ?_ az)))
      all_goals
       first | omega | exact id | exact vcNot | exact vcG | exact vcH | (intro _; omega) | exact (fun _ h => h) | (intro h; simp at h; omega) | (simp only [List.length_cons, List.length_nil, List.length_append, List.length_map, List.length_set, List.length_replicate]; omega) | (intro h; simp [h]; done) | (have h8 := hsub (by omega); have h7 := hlen (by omega); exact ⟨h7.1, h7.2, by omega⟩) | done
     refine fin_then ?_
     refine tri_cond (b := (!(Fl.sameB (.node ((l.getD i tree0).kind) ((l.getD i tree0).v) ((l.getD i tree0).k) ((l.getD i tree0).l)) (.node ((l'.getD i tree0).kind) ((l'.getD i tree0).v) ((l'.getD i tree0).k) ((l'.getD i tree0).l))))) (by kernel_rfl) (fun hb2 => ?_) (fun hb2 => ?_)
     ·
      skip
      have h2 := hb2
      have hz5 := Fl.same_no h2
      refine tri_seq ?_
      refine tri_regD hcx [] [4] [] [] [] [(4, .bool false)] [] (by kernel_rfl) ?_ ?_
      ·
       exact az
      refine fin_then ?_
      refine tri_ret ?_
      refine fin_block_ret ?_
      refine fin_then_ret ?_
      refine fin_then_ret ?_
      refine fin_block_ret ?_
      refine fin_then_ret ?_
      exact fin_ret [] rfl rfl trivial hcx (avs := [.bool false]) (by kernel_rfl) (congrArg AV.bool (show false = (Fl.sameB (.node q v k l) (.node q' v' k' l')) from (by first | exact (Fl.same_ne_head hz).symm | exact (Fl.same_ne hz5).symm | exact (Fl.same_eq hz (fun j hj => hok j (by omega))).symm | done))) [] rfl
     ·
      skip
      have h2 := hb2
      have hz5 := Fl.same_yes h2
      refine tri_skip ?_
      refine fin_block ?_
      refine fin_then ?_
      refine tri_regD hcx [] [5] [2, 3] [] [Fit ((i : Int) + 1)] [(5, .int ((i : Int) + 1))] [] (by kernel_rfl) ?_ ?_
      ·
       refine (ap ?_ az)
       first | omega | exact id | exact vcNot | exact vcG | exact vcH | (intro _; omega) | exact (fun _ h => h) | (intro h; simp at h; omega) | (simp only [List.length_cons, List.length_nil, List.length_append, List.length_map, List.length_set, List.length_replicate]; omega) | (intro h; simp [h]; done) | (have h8 := hsub (by omega); have h7 := hlen (by omega); exact ⟨h7.1, h7.2, by omega⟩) | done
      refine fin_round (i + 1) ?_ ?_ ?_ ?_
      ·
       show (i + 1) ≤ l.length ∧ ∀ j, j < (i + 1) → l.getD j tree0 = l'.getD j tree0
       exact ⟨by omega, fun j hj => by rcases (by omega : j < i ∨ j = i) with h | rfl; exact hok j h; exact hz5⟩
      ·
       show l.length - (i + 1) < l.length - i
       omega
      ·
       exact subE_mk (l := [.pto [.int q, .int v, .int k, .ls (.trees l)], .pto [.int q', .int v', .int k', .ls (.trees l')], .int ((i : Int) + 1)]) (m := [.pto [.int q, .int v, .int k, .ls (.trees l)], .pto [.int q', .int v', .int k', .ls (.trees l')], .int ((i + 1) : Int)]) (by kernel_rfl) (by kernel_rfl) (consE rfl (consE rfl (consE (congrArg AV.int (show ((i : Int) + 1) = ((i + 1) : Int) from (by first | rfl | omega | (simp; done)))) rfl)))
      ·
       kernel_rfl
    ·
     skip
     have h1 := of_decide_eq_false hb1
     refine tri_exit ?_
     refine fin_then_exit ?_
     refine fin_then_exit ?_
     refine fin_block_same ?_
     refine fin_then ?_
     refine tri_seq ?_
     refine tri_regD hcx [] [4] [] [] [] [(4, .bool true)] [] (by kernel_rfl) ?_ ?_
     ·
      exact az
     refine fin_then ?_
     refine tri_ret ?_
     exact fin_ret [] rfl rfl trivial hcx (avs := [.bool true]) (by kernel_rfl) (congrArg AV.bool (show true = (Fl.sameB (.node q v k l) (.node q' v' k' l')) from (by first | exact (Fl.same_ne_head hz).symm | exact (Fl.same_ne hz5).symm | exact (Fl.same_eq hz (fun j hj => hok j (by omega))).symm | done))) [] rfl
 ·
  cases hσ
theorem rSameT_all : ∀ nn, Sound Tryd.prog 14 (rSameT_σ nn) := sound_rec (sound_none (fn := Tryd.f14) Tryd.func14 (by kernel_rfl) rfl (fun args os p r outs hσ hp => by
  unfold rSameT_σ at hσ
  split at hσ
  · simp only [Option.some.injEq, Prod.mk.injEq] at hσ
    obtain ⟨rfl, rfl, rfl⟩ := hσ
    exact absurd hp.2.2 (Nat.not_lt_zero _)
  · cases hσ)) rSameT_step
def rSameT_τ : CtF
  | [.agg [.im (.val (.int .i64 q)), .im (.val (.int .i64 v)), .im (.val (.int .i64 k)), .im (.ls (.trees l))], .agg [.im (.val (.int .i64 q')), .im (.val (.int .i64 v')), .im (.val (.int .i64 k')), .im (.ls (.trees l'))]], [] => some (l.length ≤ 2932031007317 ∧ Fl.lensL l, .bool (Fl.sameB (.node q v k l) (.node q' v' k' l')), [])
  | _, _ => none
theorem rSameT_sound : Sound Tryd.prog 14 rSameT_τ := sound_all rSameT_all (fun args os p r outs hσ hp => by
  unfold rSameT_τ at hσ
  split at hσ
  · rename_i q v k l q' v' k' l'
    simp only [Option.some.injEq, Prod.mk.injEq] at hσ
    obtain ⟨rfl, rfl, rfl⟩ := hσ
    exact ⟨Fl.sizeL l + 1, _, rfl, ⟨hp.1, hp.2, Nat.lt_succ_self _⟩⟩
  · cases hσ)
def rMay_σ (nn : Nat) : CtF
  | [.agg [.im (.val (.int .i64 q)), .im (.val (.int .i64 v)), .im (.val (.int .i64 k)), .im (.ls (.trees l))], .im (.val (.int .i64 n))], [] => some (l.length ≤ 2932031007317 ∧ Fl.lensL l ∧ Fit n ∧ Fl.sizeL l < nn, .bool (Fl.mayN n q v k l), [])
  | _, _ => none
def cx_rMay (nn : Nat) : Cx := ⟨tyR11, [(13, (coeF [.agg [.id, .id, .id, .ld (.trees [])], .ld (.bools [])] rVal_τ)), (47, (coeF [.agg [.id, .id, .id, .ld (.trees [])]] rSize_τ)), (14, (coeF [.agg [.id, .id, .id, .ld (.trees [])], .agg [.id, .id, .id, .ld (.trees [])]] rSameT_τ)), (46, (coeF [.agg [.id, .id, .id, .ld (.trees [])], .id] (rMay_σ nn)))]⟩
theorem cx_rMay_ok (nn : Nat) (hR : Sound Tryd.prog 46 (rMay_σ nn)) : CxOk Tryd.prog (cx_rMay nn) := cx_ok tyR11_ok ⟨(rVal_sound.coe [.agg [.id, .id, .id, .ld (.trees [])], .ld (.bools [])] rfl), (rSize_sound.coe [.agg [.id, .id, .id, .ld (.trees [])]] rfl), (rSameT_sound.coe [.agg [.id, .id, .id, .ld (.trees [])], .agg [.id, .id, .id, .ld (.trees [])]] rfl), (hR.coe [.agg [.id, .id, .id, .ld (.trees [])], .id] rfl), trivial⟩
theorem rMay_step (nn : Nat) (hR : Sound Tryd.prog 46 (rMay_σ nn)) : Sound Tryd.prog 46 (rMay_σ (nn + 1)) := by
 refine sound_mk (cx := (cx_rMay nn)) (fn := Tryd.f46) Tryd.func46 (by kernel_rfl) rfl ?_
 intro w0 G0 args os p r outs hσ hp hm0 hd0
 have hcx : CxOk Tryd.prog (cx_rMay nn) := cx_rMay_ok nn hR
 unfold rMay_σ at hσ
 split at hσ
 ·
  rename_i q v k l n
  simp only [Option.some.injEq, Prod.mk.injEq] at hσ
  obtain ⟨rfl, rfl, rfl⟩ := hσ
  obtain ⟨wW, wO, wm, wβ, wd⟩ := w0
  replace hm0 : wm = 0 := hm0
  subst hm0
  replace hd0 : wd = [] := hd0
  subst hd0
  refine ⟨by kernel_rfl, ?_⟩
  change Tri ⟨_, _, _, _, _, _⟩ [(0, .agg [.int q, .int v, .int k, .trees l]), (1, .int n)] [] _ _
  obtain ⟨hm1, hm2, hm3, hsz⟩ := hp
  have hm9 := hm1
  refine tri_seq ?_
  refine tri_regD hcx [(1000, .frz)] [2] [1] [] [] [(2, .pto [.int q, .int v, .int k, .ls (.trees l)])] [] (by kernel_rfl) ?_ ?_
  ·
   exact az
  refine fin_then ?_
  refine tri_seq ?_
  refine tri_seq ?_
  refine tri_regD hcx [] [7] [2, 1] [] [] [(7, .int q)] [] (by kernel_rfl) ?_ ?_
  ·
   exact az
  refine fin_then ?_
  refine tri_block ?_
  refine tri_seq ?_
  refine tri_regD hcx [] [8] [7, 2, 1] [] [] [(8, .bool (q == 1))] [] (by kernel_rfl) ?_ ?_
  ·
   exact az
  refine fin_then ?_
  refine tri_cond (b := (q == 1)) (by kernel_rfl) (fun hb0 => ?_) (fun hb0 => ?_)
  ·
   skip
   have h0 := eq_of_beq hb0
   refine tri_seq ?_
   refine tri_regD hcx [] [28] [2, 1] [] [((v != 0) = true → ((v != 0) = true)), ((v != 0) = true → ((v != 0) = true)), ((v != 0) = true → (v != 0) = true), ((!((v != 0) && (v != 1))) = true → ((!((v != 0) && (v != 1))) = true)), ((!((v != 0) && (v != 1))) = true → ((!((v != 0) && (v != 1))) = true)), (((v != 0) && (v != 1)) = false → (!((v != 0) && (v != 1))) = true), ((!(((v != 0) && (v != 1)) || (k != 0))) = true → ((!(((v != 0) && (v != 1)) || (k != 0))) = true)), ((!(((v != 0) && (v != 1)) || (k != 0))) = true → ((!(((v != 0) && (v != 1)) || (k != 0))) = true)), ((!(((v != 0) && (v != 1)) || (k != 0))) = true → ((!(((v != 0) && (v != 1)) || (k != 0))) = true)), ((((v != 0) && (v != 1)) || (k != 0)) = false → (!(((v != 0) && (v != 1)) || (k != 0))) = true)] [(28, .bool ((((v != 0) && (v != 1)) || (k != 0)) || ((l.length : Int) != 0)))] [] (by kernel_rfl) ?_ ?_
   ·
    refine (ap ?_ (ap ?_ (ap (by exact id) (ap ?_ (ap ?_ (ap (by exact vcNot) (ap ?_ (ap ?_ (ap ?_ (ap (by exact vcNot) az))))))))))
    all_goals
     first | omega | exact id | exact vcNot | exact vcG | exact vcH | (intro _; omega) | exact (fun _ h => h) | (intro h; simp at h; omega) | (simp only [List.length_cons, List.length_nil, List.length_append, List.length_map, List.length_set, List.length_replicate]; omega) | (intro h; simp [h]; done) | (have h8 := hsub (by omega); have h7 := hlen (by omega); exact ⟨h7.1, h7.2, hm3, by omega⟩) | (constructor <;> omega) | done
   refine fin_then ?_
   refine tri_cond (b := ((((v != 0) && (v != 1)) || (k != 0)) || ((l.length : Int) != 0))) (by kernel_rfl) (fun hb1 => ?_) (fun hb1 => ?_)
   ·
    skip
    have h1 := hb1
    have hb9 := Fl.nb_t (Fl.rm1 (n := n) (q := q) (len := l.length) (by omega)) h1
    refine tri_seq ?_
    refine tri_regD hcx [] [4] [] [] [] [(4, .bool false)] [] (by kernel_rfl) ?_ ?_
    ·
     exact az
    refine fin_then ?_
    refine tri_ret ?_
    refine fin_block_ret ?_
    refine fin_then_ret ?_
    exact fin_ret [] rfl rfl trivial hcx (avs := [.bool false]) (by kernel_rfl) (congrArg AV.bool (show false = (Fl.mayN n q v k l) from (by first | exact (Fl.mn_no hb9) | exact Fl.mn_at (by omega) hq | exact Fl.mn_yes hb8 (fun j hj => hok j (by omega)) | exact Fl.mn_no (Fl.fm9 (by omega) (by omega) (by omega) (by omega) (by omega) (by omega)).symm | done))) [] rfl
   ·
    skip
    have h1 := hb1
    have hb8 := Fl.nb_f (Fl.rm1 (n := n) (q := q) (len := l.length) (by omega)) h1
    refine tri_skip ?_
    refine fin_block ?_
    refine fin_then ?_
    refine tri_seq ?_
    refine tri_seq ?_
    refine tri_regD hcx [] [5] [2, 1] [] [] [(5, .int 0)] [] (by kernel_rfl) ?_ ?_
    ·
     exact az
    refine fin_then ?_
    refine tri_block ?_
    refine tri_loop (X := Nat) (fun x0 => x0 ≤ l.length ∧ ∀ j, j < x0 → Fl.mayT n (l.getD j tree0) = true) (fun x0 => [(1, .int n), (2, .pto [.int q, .int v, .int k, .ls (.trees l)]), (5, .int (x0 : Int))]) (fun x0 => []) (fun x0 => l.length - x0) (0) ?_ ?_ ?_ ?_
    ·
     show 0 ≤ l.length ∧ ∀ j, j < 0 → Fl.mayT n (l.getD j tree0) = true
     exact ⟨Nat.zero_le _, fun j hj => by omega⟩
    ·
     exact subE_mk (l := [.int n, .pto [.int q, .int v, .int k, .ls (.trees l)], .int 0]) (m := [.int n, .pto [.int q, .int v, .int k, .ls (.trees l)], .int (0 : Int)]) (by kernel_rfl) (by kernel_rfl) (consE rfl (consE rfl (consE (congrArg AV.int (show 0 = (0 : Int) from (by first | rfl | omega | (simp; done)))) rfl)))
    ·
     kernel_rfl
    ·
     intro i hI
     replace hI : i ≤ l.length ∧ ∀ j, j < i → Fl.mayT n (l.getD j tree0) = true := hI
     change Tri _ [(1, .int n), (2, .pto [.int q, .int v, .int k, .ls (.trees l)]), (5, .int (i : Int))] [] _ _
     obtain ⟨hk, hok⟩ := hI
     have hsub : i < l.length → Fl.sizeL (l.getD i tree0).l < Fl.sizeL l := fun h => Fl.size_sub h
     have hlen : i < l.length → _ := fun h => Fl.lens_at hm2 h
     refine tri_seq ?_
     refine tri_seq ?_
     refine tri_regD hcx [] [97] [1, 2, 5] [] [] [(97, .bool (decide ((i : Int) < (l.length : Int))))] [] (by kernel_rfl) ?_ ?_
     ·
      exact az
     refine fin_then ?_
     refine tri_cond (b := (decide ((i : Int) < (l.length : Int)))) (by kernel_rfl) (fun hb2 => ?_) (fun hb2 => ?_)
     ·
      skip
      have h2 := of_decide_eq_true hb2
      refine tri_skip ?_
      refine fin_then ?_
      refine tri_seq ?_
      refine tri_block ?_
      refine tri_seq ?_
      refine tri_regD hcx [] [107] [1, 2, 5] [] [((0 : Int) ≤ (i : Int) ∧ (i : Int) < (l.length : Int)), (((l.getD i tree0).l).length ≤ 2932031007317 ∧ Fl.lensL ((l.getD i tree0).l) ∧ Fit n ∧ Fl.sizeL ((l.getD i tree0).l) < nn)] [(107, .bool (!(Fl.mayN n ((l.getD i tree0).kind) ((l.getD i tree0).v) ((l.getD i tree0).k) ((l.getD i tree0).l))))] [] (by kernel_rfl) ?_ ?_
      ·
       refine (ap ?_ (ap ?_ az))
       all_goals
        first | omega | exact id | exact vcNot | exact vcG | exact vcH | (intro _; omega) | exact (fun _ h => h) | (intro h; simp at h; omega) | (simp only [List.length_cons, List.length_nil, List.length_append, List.length_map, List.length_set, List.length_replicate]; omega) | (intro h; simp [h]; done) | (have h8 := hsub (by omega); have h7 := hlen (by omega); exact ⟨h7.1, h7.2, hm3, by omega⟩) | (constructor <;> omega) | done
      refine fin_then ?_
      refine tri_cond (b := (!(Fl.mayN n ((l.getD i tree0).kind) ((l.getD i tree0).v) ((l.getD i tree0).k) ((l.getD i tree0).l)))) (by kernel_rfl) (fun hb3 => ?_) (fun hb3 => ?_)
      ·
       skip
       have h3 := hb3
       have hq : Fl.mayT n (l.getD i tree0) = false := (Fl.may_at n _).symm.trans (by simpa using h3)
       refine tri_seq ?_
       refine tri_regD hcx [] [4] [] [] [] [(4, .bool false)] [] (by kernel_rfl) ?_ ?_
       ·
        exact az
       refine fin_then ?_
       refine tri_ret ?_
       refine fin_block_ret ?_
       refine fin_then_ret ?_
       refine fin_then_ret ?_
       refine fin_block_ret ?_
       refine fin_then_ret ?_
       exact fin_ret [] rfl rfl trivial hcx (avs := [.bool false]) (by kernel_rfl) (congrArg AV.bool (show false = (Fl.mayN n q v k l) from (by first | exact (Fl.mn_no hb9) | exact Fl.mn_at (by omega) hq | exact Fl.mn_yes hb8 (fun j hj => hok j (by omega)) | exact Fl.mn_no (Fl.fm9 (by omega) (by omega) (by omega) (by omega) (by omega) (by omega)).symm | done))) [] rfl
      ·
       skip
       have h3 := hb3
       have hq : Fl.mayT n (l.getD i tree0) = true := (Fl.may_at n _).symm.trans (by simpa using h3)
       refine tri_skip ?_
       refine fin_block ?_
       refine fin_then ?_
       refine tri_regD hcx [] [5] [1, 2] [] [Fit ((i : Int) + 1)] [(5, .int ((i : Int) + 1))] [] (by kernel_rfl) ?_ ?_
       ·
        refine (ap ?_ az)
        first | omega | exact id | exact vcNot | exact vcG | exact vcH | (intro _; omega) | exact (fun _ h => h) | (intro h; simp at h; omega) | (simp only [List.length_cons, List.length_nil, List.length_append, List.length_map, List.length_set, List.length_replicate]; omega) | (intro h; simp [h]; done) | (have h8 := hsub (by omega); have h7 := hlen (by omega); exact ⟨h7.1, h7.2, hm3, by omega⟩) | (constructor <;> omega) | done
       refine fin_round (i + 1) ?_ ?_ ?_ ?_
       ·
        show (i + 1) ≤ l.length ∧ ∀ j, j < (i + 1) → Fl.mayT n (l.getD j tree0) = true
        exact ⟨by omega, fun j hj => by rcases (by omega : j < i ∨ j = i) with h | rfl; exact hok j h; exact hq⟩
       ·
        show l.length - (i + 1) < l.length - i
        omega
       ·
        exact subE_mk (l := [.int n, .pto [.int q, .int v, .int k, .ls (.trees l)], .int ((i : Int) + 1)]) (m := [.int n, .pto [.int q, .int v, .int k, .ls (.trees l)], .int ((i + 1) : Int)]) (by kernel_rfl) (by kernel_rfl) (consE rfl (consE rfl (consE (congrArg AV.int (show ((i : Int) + 1) = ((i + 1) : Int) from (by first | rfl | omega | (simp; done)))) rfl)))
       ·
        kernel_rfl
     ·
      skip
      have h2 := of_decide_eq_false hb2
      refine tri_exit ?_
      refine fin_then_exit ?_
      refine fin_then_exit ?_
      refine fin_block_same ?_
      refine fin_then ?_
      refine tri_seq ?_
      refine tri_regD hcx [] [4] [] [] [] [(4, .bool true)] [] (by kernel_rfl) ?_ ?_
      ·
       exact az
      refine fin_then ?_
      refine tri_ret ?_
      exact fin_ret [] rfl rfl trivial hcx (avs := [.bool true]) (by kernel_rfl) (congrArg AV.bool (show true = (Fl.mayN n q v k l) from (by first | exact (Fl.mn_no hb9) | exact Fl.mn_at (by omega) hq | exact Fl.mn_yes hb8 (fun j hj => hok j (by omega)) | exact Fl.mn_no (Fl.fm9 (by omega) (by omega) (by omega) (by omega) (by omega) (by omega)).symm | done))) [] rfl
  ·
   skip
   have h0 := neB hb0
   refine tri_seq ?_
   refine tri_regD hcx [] [29] [7, 2, 1] [] [] [(29, .bool (q == 2))] [] (by kernel_rfl) ?_ ?_
   ·
    exact az
   refine fin_then ?_
   refine tri_cond (b := (q == 2)) (by kernel_rfl) (fun hb4 => ?_) (fun hb4 => ?_)
   ·
    skip
    have h4 := eq_of_beq hb4
    refine tri_seq ?_
    refine tri_regD hcx [] [50] [2, 1] [] [((!(decide (v < 1))) = true → ((!(decide (v < 1))) = true)), ((!(decide (v < 1))) = true → ((!(decide (v < 1))) = true)), ((!(decide (v < 1))) = true → ((!(decide (v < 1))) = true)), ((decide (v < 1)) = false → (!(decide (v < 1))) = true), ((!((decide (v < 1)) || (decide (v > n)))) = true → ((!((decide (v < 1)) || (decide (v > n)))) = true)), ((!((decide (v < 1)) || (decide (v > n)))) = true → ((!((decide (v < 1)) || (decide (v > n)))) = true)), (((decide (v < 1)) || (decide (v > n))) = false → (!((decide (v < 1)) || (decide (v > n)))) = true), ((!(((decide (v < 1)) || (decide (v > n))) || (k != 0))) = true → ((!(((decide (v < 1)) || (decide (v > n))) || (k != 0))) = true)), ((!(((decide (v < 1)) || (decide (v > n))) || (k != 0))) = true → ((!(((decide (v < 1)) || (decide (v > n))) || (k != 0))) = true)), ((!(((decide (v < 1)) || (decide (v > n))) || (k != 0))) = true → ((!(((decide (v < 1)) || (decide (v > n))) || (k != 0))) = true)), ((((decide (v < 1)) || (decide (v > n))) || (k != 0)) = false → (!(((decide (v < 1)) || (decide (v > n))) || (k != 0))) = true)] [(50, .bool ((((decide (v < 1)) || (decide (v > n))) || (k != 0)) || ((l.length : Int) != 0)))] [] (by kernel_rfl) ?_ ?_
    ·
     refine (ap ?_ (ap ?_ (ap ?_ (ap (by exact vcNot) (ap ?_ (ap ?_ (ap (by exact vcNot) (ap ?_ (ap ?_ (ap ?_ (ap (by exact vcNot) az)))))))))))
     all_goals
      first | omega | exact id | exact vcNot | exact vcG | exact vcH | (intro _; omega) | exact (fun _ h => h) | (intro h; simp at h; omega) | (simp only [List.length_cons, List.length_nil, List.length_append, List.length_map, List.length_set, List.length_replicate]; omega) | (intro h; simp [h]; done) | (have h8 := hsub (by omega); have h7 := hlen (by omega); exact ⟨h7.1, h7.2, hm3, by omega⟩) | (constructor <;> omega) | done
    refine fin_then ?_
    refine tri_cond (b := ((((decide (v < 1)) || (decide (v > n))) || (k != 0)) || ((l.length : Int) != 0))) (by kernel_rfl) (fun hb5 => ?_) (fun hb5 => ?_)
    ·
     skip
     have h5 := hb5
     have hb9 := Fl.nb_t (Fl.rm2 (n := n) (q := q) (by omega)) h5
     refine tri_seq ?_
     refine tri_regD hcx [] [4] [] [] [] [(4, .bool false)] [] (by kernel_rfl) ?_ ?_
     ·
      exact az
     refine fin_then ?_
     refine tri_ret ?_
     refine fin_block_ret ?_
     refine fin_then_ret ?_
     exact fin_ret [] rfl rfl trivial hcx (avs := [.bool false]) (by kernel_rfl) (congrArg AV.bool (show false = (Fl.mayN n q v k l) from (by first | exact (Fl.mn_no hb9) | exact Fl.mn_at (by omega) hq | exact Fl.mn_yes hb8 (fun j hj => hok j (by omega)) | exact Fl.mn_no (Fl.fm9 (by omega) (by omega) (by omega) (by omega) (by omega) (by omega)).symm | done))) [] rfl
    ·
     skip
     have h5 := hb5
     have hb8 := Fl.nb_f (Fl.rm2 (n := n) (q := q) (by omega)) h5
     refine tri_skip ?_
     refine fin_block ?_
     refine fin_then ?_
     refine tri_seq ?_
     refine tri_seq ?_
     refine tri_regD hcx [] [5] [2, 1] [] [] [(5, .int 0)] [] (by kernel_rfl) ?_ ?_
     ·
      exact az
     refine fin_then ?_
     refine tri_block ?_
     refine tri_loop (X := Nat) (fun x0 => x0 ≤ l.length ∧ ∀ j, j < x0 → Fl.mayT n (l.getD j tree0) = true) (fun x0 => [(1, .int n), (2, .pto [.int q, .int v, .int k, .ls (.trees l)]), (5, .int (x0 : Int))]) (fun x0 => []) (fun x0 => l.length - x0) (0) ?_ ?_ ?_ ?_
     ·
      show 0 ≤ l.length ∧ ∀ j, j < 0 → Fl.mayT n (l.getD j tree0) = true
      exact ⟨Nat.zero_le _, fun j hj => by omega⟩
     ·
      exact subE_mk (l := [.int n, .pto [.int q, .int v, .int k, .ls (.trees l)], .int 0]) (m := [.int n, .pto [.int q, .int v, .int k, .ls (.trees l)], .int (0 : Int)]) (by kernel_rfl) (by kernel_rfl) (consE rfl (consE rfl (consE (congrArg AV.int (show 0 = (0 : Int) from (by first | rfl | omega | (simp; done)))) rfl)))
     ·
      kernel_rfl
     ·
      intro i hI
      replace hI : i ≤ l.length ∧ ∀ j, j < i → Fl.mayT n (l.getD j tree0) = true := hI
      change Tri _ [(1, .int n), (2, .pto [.int q, .int v, .int k, .ls (.trees l)]), (5, .int (i : Int))] [] _ _
      obtain ⟨hk, hok⟩ := hI
      have hsub : i < l.length → Fl.sizeL (l.getD i tree0).l < Fl.sizeL l := fun h => Fl.size_sub h
      have hlen : i < l.length → _ := fun h => Fl.lens_at hm2 h
      refine tri_seq ?_
      refine tri_seq ?_
      refine tri_regD hcx [] [97] [1, 2, 5] [] [] [(97, .bool (decide ((i : Int) < (l.length : Int))))] [] (by kernel_rfl) ?_ ?_
      ·
       exact az
      refine fin_then ?_
      refine tri_cond (b := (decide ((i : Int) < (l.length : Int)))) (by kernel_rfl) (fun hb6 => ?_) (fun hb6 => ?_)
      ·
       skip
       have h6 := of_decide_eq_true hb6
       refine tri_skip ?_
       refine fin_then ?_
       refine tri_seq ?_
       refine tri_block ?_
       refine tri_seq ?_
       refine tri_regD hcx [] [107] [1, 2, 5] [] [((0 : Int) ≤ (i : Int) ∧ (i : Int) < (l.length : Int)), (((l.getD i tree0).l).length ≤ 2932031007317 ∧ Fl.lensL ((l.getD i tree0).l) ∧ Fit n ∧ Fl.sizeL ((l.getD i tree0).l) < nn)] [(107, .bool (!(Fl.mayN n ((l.getD i tree0).kind) ((l.getD i tree0).v) ((l.getD i tree0).k) ((l.getD i tree0).l))))] [] (by kernel_rfl) ?_ ?_
       ·
        refine (ap ?_ (ap ?_ az))
        all_goals
         first | omega | exact id | exact vcNot | exact vcG | exact vcH | (intro _; omega) | exact (fun _ h => h) | (intro h; simp at h; omega) | (simp only [List.length_cons, List.length_nil, List.length_append, List.length_map, List.length_set, List.length_replicate]; omega) | (intro h; simp [h]; done) | (have h8 := hsub (by omega); have h7 := hlen (by omega); exact ⟨h7.1, h7.2, hm3, by omega⟩) | (constructor <;> omega) | done
       refine fin_then ?_
       refine tri_cond (b := (!(Fl.mayN n ((l.getD i tree0).kind) ((l.getD i tree0).v) ((l.getD i tree0).k) ((l.getD i tree0).l)))) (by kernel_rfl) (fun hb7 => ?_) (fun hb7 => ?_)
       ·
        skip
        have h7 := hb7
        have hq : Fl.mayT n (l.getD i tree0) = false := (Fl.may_at n _).symm.trans (by simpa using h7)
        refine tri_seq ?_
        refine tri_regD hcx [] [4] [] [] [] [(4, .bool false)] [] (by kernel_rfl) ?_ ?_
        ·
         exact az
        refine fin_then ?_
        refine tri_ret ?_
        refine fin_block_ret ?_
        refine fin_then_ret ?_
        refine fin_then_ret ?_
        refine fin_block_ret ?_
        refine fin_then_ret ?_
        exact fin_ret [] rfl rfl trivial hcx (avs := [.bool false]) (by kernel_rfl) (congrArg AV.bool (show false = (Fl.mayN n q v k l) from (by first | exact (Fl.mn_no hb9) | exact Fl.mn_at (by omega) hq | exact Fl.mn_yes hb8 (fun j hj => hok j (by omega)) | exact Fl.mn_no (Fl.fm9 (by omega) (by omega) (by omega) (by omega) (by omega) (by omega)).symm | done))) [] rfl
       ·
        skip
        have h7 := hb7
        have hq : Fl.mayT n (l.getD i tree0) = true := (Fl.may_at n _).symm.trans (by simpa using h7)
        refine tri_skip ?_
        refine fin_block ?_
        refine fin_then ?_
        refine tri_regD hcx [] [5] [1, 2] [] [Fit ((i : Int) + 1)] [(5, .int ((i : Int) + 1))] [] (by kernel_rfl) ?_ ?_
        ·
         refine (ap ?_ az)
         first | omega | exact id | exact vcNot | exact vcG | exact vcH | (intro _; omega) | exact (fun _ h => h) | (intro h; simp at h; omega) | (simp only [List.length_cons, List.length_nil, List.length_append, List.length_map, List.length_set, List.length_replicate]; omega) | (intro h; simp [h]; done) | (have h8 := hsub (by omega); have h7 := hlen (by omega); exact ⟨h7.1, h7.2, hm3, by omega⟩) | (constructor <;> omega) | done
        refine fin_round (i + 1) ?_ ?_ ?_ ?_
        ·
         show (i + 1) ≤ l.length ∧ ∀ j, j < (i + 1) → Fl.mayT n (l.getD j tree0) = true
         exact ⟨by omega, fun j hj => by rcases (by omega : j < i ∨ j = i) with h | rfl; exact hok j h; exact hq⟩
        ·
         show l.length - (i + 1) < l.length - i
         omega
        ·
         exact subE_mk (l := [.int n, .pto [.int q, .int v, .int k, .ls (.trees l)], .int ((i : Int) + 1)]) (m := [.int n, .pto [.int q, .int v, .int k, .ls (.trees l)], .int ((i + 1) : Int)]) (by kernel_rfl) (by kernel_rfl) (consE rfl (consE rfl (consE (congrArg AV.int (show ((i : Int) + 1) = ((i + 1) : Int) from (by first | rfl | omega | (simp; done)))) rfl)))
        ·
         kernel_rfl
      ·
       skip
       have h6 := of_decide_eq_false hb6
       refine tri_exit ?_
       refine fin_then_exit ?_
       refine fin_then_exit ?_
       refine fin_block_same ?_
       refine fin_then ?_
       refine tri_seq ?_
       refine tri_regD hcx [] [4] [] [] [] [(4, .bool true)] [] (by kernel_rfl) ?_ ?_
       ·
        exact az
       refine fin_then ?_
       refine tri_ret ?_
       exact fin_ret [] rfl rfl trivial hcx (avs := [.bool true]) (by kernel_rfl) (congrArg AV.bool (show true = (Fl.mayN n q v k l) from (by first | exact (Fl.mn_no hb9) | exact Fl.mn_at (by omega) hq | exact Fl.mn_yes hb8 (fun j hj => hok j (by omega)) | exact Fl.mn_no (Fl.fm9 (by omega) (by omega) (by omega) (by omega) (by omega) (by omega)).symm | done))) [] rfl
   ·
    skip
    have h4 := neB hb4
    refine tri_seq ?_
    refine tri_regD hcx [] [51] [7, 2, 1] [] [] [(51, .bool (q == 3))] [] (by kernel_rfl) ?_ ?_
    ·
     exact az
    refine fin_then ?_
    refine tri_cond (b := (q == 3)) (by kernel_rfl) (fun hb8 => ?_) (fun hb8 => ?_)
    ·
     skip
     have h8 := eq_of_beq hb8
     refine tri_seq ?_
     refine tri_regD hcx [] [66] [2, 1] [] [((!(v != 0)) = true → ((!(v != 0)) = true)), ((!(v != 0)) = true → ((!(v != 0)) = true)), ((v != 0) = false → (!(v != 0)) = true), ((!((v != 0) || (k != 0))) = true → ((!((v != 0) || (k != 0))) = true)), ((!((v != 0) || (k != 0))) = true → ((!((v != 0) || (k != 0))) = true)), ((!((v != 0) || (k != 0))) = true → ((!((v != 0) || (k != 0))) = true)), (((v != 0) || (k != 0)) = false → (!((v != 0) || (k != 0))) = true)] [(66, .bool (((v != 0) || (k != 0)) || ((l.length : Int) != 1)))] [] (by kernel_rfl) ?_ ?_
     ·
      refine (ap ?_ (ap ?_ (ap (by exact vcNot) (ap ?_ (ap ?_ (ap ?_ (ap (by exact vcNot) az)))))))
      all_goals
       first | omega | exact id | exact vcNot | exact vcG | exact vcH | (intro _; omega) | exact (fun _ h => h) | (intro h; simp at h; omega) | (simp only [List.length_cons, List.length_nil, List.length_append, List.length_map, List.length_set, List.length_replicate]; omega) | (intro h; simp [h]; done) | (have h8 := hsub (by omega); have h7 := hlen (by omega); exact ⟨h7.1, h7.2, hm3, by omega⟩) | (constructor <;> omega) | done
     refine fin_then ?_
     refine tri_cond (b := (((v != 0) || (k != 0)) || ((l.length : Int) != 1))) (by kernel_rfl) (fun hb9 => ?_) (fun hb9 => ?_)
     ·
      skip
      have h9 := hb9
      have hb9 := Fl.nb_t (Fl.rm3 (n := n) (q := q) (by omega)) h9
      refine tri_seq ?_
      refine tri_regD hcx [] [4] [] [] [] [(4, .bool false)] [] (by kernel_rfl) ?_ ?_
      ·
       exact az
      refine fin_then ?_
      refine tri_ret ?_
      refine fin_block_ret ?_
      refine fin_then_ret ?_
      exact fin_ret [] rfl rfl trivial hcx (avs := [.bool false]) (by kernel_rfl) (congrArg AV.bool (show false = (Fl.mayN n q v k l) from (by first | exact (Fl.mn_no hb9) | exact Fl.mn_at (by omega) hq | exact Fl.mn_yes hb8 (fun j hj => hok j (by omega)) | exact Fl.mn_no (Fl.fm9 (by omega) (by omega) (by omega) (by omega) (by omega) (by omega)).symm | done))) [] rfl
     ·
      skip
      have h9 := hb9
      have hb8 := Fl.nb_f (Fl.rm3 (n := n) (q := q) (by omega)) h9
      refine tri_skip ?_
      refine fin_block ?_
      refine fin_then ?_
      refine tri_seq ?_
      refine tri_seq ?_
      refine tri_regD hcx [] [5] [2, 1] [] [] [(5, .int 0)] [] (by kernel_rfl) ?_ ?_
      ·
       exact az
      refine fin_then ?_
      refine tri_block ?_
      refine tri_loop (X := Nat) (fun x0 => x0 ≤ l.length ∧ ∀ j, j < x0 → Fl.mayT n (l.getD j tree0) = true) (fun x0 => [(1, .int n), (2, .pto [.int q, .int v, .int k, .ls (.trees l)]), (5, .int (x0 : Int))]) (fun x0 => []) (fun x0 => l.length - x0) (0) ?_ ?_ ?_ ?_
      ·
       show 0 ≤ l.length ∧ ∀ j, j < 0 → Fl.mayT n (l.getD j tree0) = true
       exact ⟨Nat.zero_le _, fun j hj => by omega⟩
      ·
       exact subE_mk (l := [.int n, .pto [.int q, .int v, .int k, .ls (.trees l)], .int 0]) (m := [.int n, .pto [.int q, .int v, .int k, .ls (.trees l)], .int (0 : Int)]) (by kernel_rfl) (by kernel_rfl) (consE rfl (consE rfl (consE (congrArg AV.int (show 0 = (0 : Int) from (by first | rfl | omega | (simp; done)))) rfl)))
      ·
       kernel_rfl
      ·
       intro i hI
       replace hI : i ≤ l.length ∧ ∀ j, j < i → Fl.mayT n (l.getD j tree0) = true := hI
       change Tri _ [(1, .int n), (2, .pto [.int q, .int v, .int k, .ls (.trees l)]), (5, .int (i : Int))] [] _ _
       obtain ⟨hk, hok⟩ := hI
       have hsub : i < l.length → Fl.sizeL (l.getD i tree0).l < Fl.sizeL l := fun h => Fl.size_sub h
       have hlen : i < l.length → _ := fun h => Fl.lens_at hm2 h
       refine tri_seq ?_
       refine tri_seq ?_
       refine tri_regD hcx [] [97] [1, 2, 5] [] [] [(97, .bool (decide ((i : Int) < (l.length : Int))))] [] (by kernel_rfl) ?_ ?_
       ·
        exact az
       refine fin_then ?_
       refine tri_cond (b := (decide ((i : Int) < (l.length : Int)))) (by kernel_rfl) (fun hb10 => ?_) (fun hb10 => ?_)
       ·
        skip
        have h10 := of_decide_eq_true hb10
        refine tri_skip ?_
        refine fin_then ?_
        refine tri_seq ?_
        refine tri_block ?_
        refine tri_seq ?_
        refine tri_regD hcx [] [107] [1, 2, 5] [] [((0 : Int) ≤ (i : Int) ∧ (i : Int) < (l.length : Int)), (((l.getD i tree0).l).length ≤ 2932031007317 ∧ Fl.lensL ((l.getD i tree0).l) ∧ Fit n ∧ Fl.sizeL ((l.getD i tree0).l) < nn)] [(107, .bool (!(Fl.mayN n ((l.getD i tree0).kind) ((l.getD i tree0).v) ((l.getD i tree0).k) ((l.getD i tree0).l))))] [] (by kernel_rfl) ?_ ?_
        ·
         refine (ap ?_ (ap ?_ az))
         all_goals
          first | omega | exact id | exact vcNot | exact vcG | exact vcH | (intro _; omega) | exact (fun _ h => h) | (intro h; simp at h; omega) | (simp only [List.length_cons, List.length_nil, List.length_append, List.length_map, List.length_set, List.length_replicate]; omega) | (intro h; simp [h]; done) | (have h8 := hsub (by omega); have h7 := hlen (by omega); exact ⟨h7.1, h7.2, hm3, by omega⟩) | (constructor <;> omega) | done
        refine fin_then ?_
        refine tri_cond (b := (!(Fl.mayN n ((l.getD i tree0).kind) ((l.getD i tree0).v) ((l.getD i tree0).k) ((l.getD i tree0).l)))) (by kernel_rfl) (fun hb11 => ?_) (fun hb11 => ?_)
        ·
         skip
         have h11 := hb11
         have hq : Fl.mayT n (l.getD i tree0) = false := (Fl.may_at n _).symm.trans (by simpa using h11)
         refine tri_seq ?_
         refine tri_regD hcx [] [4] [] [] [] [(4, .bool false)] [] (by kernel_rfl) ?_ ?_
         ·
          exact az
         refine fin_then ?_
         refine tri_ret ?_
         refine fin_block_ret ?_
         refine fin_then_ret ?_
         refine fin_then_ret ?_
         refine fin_block_ret ?_
         refine fin_then_ret ?_
         exact fin_ret [] rfl rfl trivial hcx (avs := [.bool false]) (by kernel_rfl) (congrArg AV.bool (show false = (Fl.mayN n q v k l) from (by first | exact (Fl.mn_no hb9) | exact Fl.mn_at (by omega) hq | exact Fl.mn_yes hb8 (fun j hj => hok j (by omega)) | exact Fl.mn_no (Fl.fm9 (by omega) (by omega) (by omega) (by omega) (by omega) (by omega)).symm | done))) [] rfl
        ·
         skip
         have h11 := hb11
         have hq : Fl.mayT n (l.getD i tree0) = true := (Fl.may_at n _).symm.trans (by simpa using h11)
         refine tri_skip ?_
         refine fin_block ?_
         refine fin_then ?_
         refine tri_regD hcx [] [5] [1, 2] [] [Fit ((i : Int) + 1)] [(5, .int ((i : Int) + 1))] [] (by kernel_rfl) ?_ ?_
         ·
          refine (ap ?_ az)
          first | omega | exact id | exact vcNot | exact vcG | exact vcH | (intro _; omega) | exact (fun _ h => h) | (intro h; simp at h; omega) | (simp only [List.length_cons, List.length_nil, List.length_append, List.length_map, List.length_set, List.length_replicate]; omega) | (intro h; simp [h]; done) | (have h8 := hsub (by omega); have h7 := hlen (by omega); exact ⟨h7.1, h7.2, hm3, by omega⟩) | (constructor <;> omega) | done
         refine fin_round (i + 1) ?_ ?_ ?_ ?_
         ·
          show (i + 1) ≤ l.length ∧ ∀ j, j < (i + 1) → Fl.mayT n (l.getD j tree0) = true
          exact ⟨by omega, fun j hj => by rcases (by omega : j < i ∨ j = i) with h | rfl; exact hok j h; exact hq⟩
         ·
          show l.length - (i + 1) < l.length - i
          omega
         ·
          exact subE_mk (l := [.int n, .pto [.int q, .int v, .int k, .ls (.trees l)], .int ((i : Int) + 1)]) (m := [.int n, .pto [.int q, .int v, .int k, .ls (.trees l)], .int ((i + 1) : Int)]) (by kernel_rfl) (by kernel_rfl) (consE rfl (consE rfl (consE (congrArg AV.int (show ((i : Int) + 1) = ((i + 1) : Int) from (by first | rfl | omega | (simp; done)))) rfl)))
         ·
          kernel_rfl
       ·
        skip
        have h10 := of_decide_eq_false hb10
        refine tri_exit ?_
        refine fin_then_exit ?_
        refine fin_then_exit ?_
        refine fin_block_same ?_
        refine fin_then ?_
        refine tri_seq ?_
        refine tri_regD hcx [] [4] [] [] [] [(4, .bool true)] [] (by kernel_rfl) ?_ ?_
        ·
         exact az
        refine fin_then ?_
        refine tri_ret ?_
        exact fin_ret [] rfl rfl trivial hcx (avs := [.bool true]) (by kernel_rfl) (congrArg AV.bool (show true = (Fl.mayN n q v k l) from (by first | exact (Fl.mn_no hb9) | exact Fl.mn_at (by omega) hq | exact Fl.mn_yes hb8 (fun j hj => hok j (by omega)) | exact Fl.mn_no (Fl.fm9 (by omega) (by omega) (by omega) (by omega) (by omega) (by omega)).symm | done))) [] rfl
    ·
     skip
     have h8 := neB hb8
     refine tri_seq ?_
     refine tri_seq ?_
     refine tri_regD hcx [] [67] [7, 2, 1] [] [] [(67, .bool (q == 4))] [] (by kernel_rfl) ?_ ?_
     ·
      exact az
     refine fin_then ?_
     refine tri_cond (b := (q == 4)) (by kernel_rfl) (fun hb12 => ?_) (fun hb12 => ?_)
     ·
      skip
      have h12 := eq_of_beq hb12
      refine tri_skip ?_
      refine fin_then ?_
      refine tri_cond (b := (q == 4)) (by kernel_rfl) (fun hb13 => ?_) (fun hb13 => ?_)
      ·
       skip
       have h13 := eq_of_beq hb13
       refine tri_seq ?_
       refine tri_regD hcx [] [77] [2, 1] [] [((!(v != 0)) = true → ((!(v != 0)) = true)), ((!(v != 0)) = true → ((!(v != 0)) = true)), ((v != 0) = false → (!(v != 0)) = true)] [(77, .bool ((v != 0) || (k != 0)))] [] (by kernel_rfl) ?_ ?_
       ·
        refine (ap ?_ (ap ?_ (ap (by exact vcNot) az)))
        all_goals
         first | omega | exact id | exact vcNot | exact vcG | exact vcH | (intro _; omega) | exact (fun _ h => h) | (intro h; simp at h; omega) | (simp only [List.length_cons, List.length_nil, List.length_append, List.length_map, List.length_set, List.length_replicate]; omega) | (intro h; simp [h]; done) | (have h8 := hsub (by omega); have h7 := hlen (by omega); exact ⟨h7.1, h7.2, hm3, by omega⟩) | (constructor <;> omega) | done
       refine fin_then ?_
       refine tri_cond (b := ((v != 0) || (k != 0))) (by kernel_rfl) (fun hb14 => ?_) (fun hb14 => ?_)
       ·
        skip
        have h14 := hb14
        have hb9 := Fl.nb_t (Fl.rm4 (n := n) (q := q) (len := l.length) (by omega)) h14
        refine tri_seq ?_
        refine tri_regD hcx [] [4] [] [] [] [(4, .bool false)] [] (by kernel_rfl) ?_ ?_
        ·
         exact az
        refine fin_then ?_
        refine tri_ret ?_
        refine fin_block_ret ?_
        refine fin_then_ret ?_
        exact fin_ret [] rfl rfl trivial hcx (avs := [.bool false]) (by kernel_rfl) (congrArg AV.bool (show false = (Fl.mayN n q v k l) from (by first | exact (Fl.mn_no hb9) | exact Fl.mn_at (by omega) hq | exact Fl.mn_yes hb8 (fun j hj => hok j (by omega)) | exact Fl.mn_no (Fl.fm9 (by omega) (by omega) (by omega) (by omega) (by omega) (by omega)).symm | done))) [] rfl
       ·
        skip
        have h14 := hb14
        have hb8 := Fl.nb_f (Fl.rm4 (n := n) (q := q) (len := l.length) (by omega)) h14
        refine tri_skip ?_
        refine fin_block ?_
        refine fin_then ?_
        refine tri_seq ?_
        refine tri_seq ?_
        refine tri_regD hcx [] [5] [2, 1] [] [] [(5, .int 0)] [] (by kernel_rfl) ?_ ?_
        ·
         exact az
        refine fin_then ?_
        refine tri_block ?_
        refine tri_loop (X := Nat) (fun x0 => x0 ≤ l.length ∧ ∀ j, j < x0 → Fl.mayT n (l.getD j tree0) = true) (fun x0 => [(1, .int n), (2, .pto [.int q, .int v, .int k, .ls (.trees l)]), (5, .int (x0 : Int))]) (fun x0 => []) (fun x0 => l.length - x0) (0) ?_ ?_ ?_ ?_
        ·
         show 0 ≤ l.length ∧ ∀ j, j < 0 → Fl.mayT n (l.getD j tree0) = true
         exact ⟨Nat.zero_le _, fun j hj => by omega⟩
        ·
         exact subE_mk (l := [.int n, .pto [.int q, .int v, .int k, .ls (.trees l)], .int 0]) (m := [.int n, .pto [.int q, .int v, .int k, .ls (.trees l)], .int (0 : Int)]) (by kernel_rfl) (by kernel_rfl) (consE rfl (consE rfl (consE (congrArg AV.int (show 0 = (0 : Int) from (by first | rfl | omega | (simp; done)))) rfl)))
        ·
         kernel_rfl
        ·
         intro i hI
         replace hI : i ≤ l.length ∧ ∀ j, j < i → Fl.mayT n (l.getD j tree0) = true := hI
         change Tri _ [(1, .int n), (2, .pto [.int q, .int v, .int k, .ls (.trees l)]), (5, .int (i : Int))] [] _ _
         obtain ⟨hk, hok⟩ := hI
         have hsub : i < l.length → Fl.sizeL (l.getD i tree0).l < Fl.sizeL l := fun h => Fl.size_sub h
         have hlen : i < l.length → _ := fun h => Fl.lens_at hm2 h
         refine tri_seq ?_
         refine tri_seq ?_
         refine tri_regD hcx [] [97] [1, 2, 5] [] [] [(97, .bool (decide ((i : Int) < (l.length : Int))))] [] (by kernel_rfl) ?_ ?_
         ·
          exact az
         refine fin_then ?_
         refine tri_cond (b := (decide ((i : Int) < (l.length : Int)))) (by kernel_rfl) (fun hb15 => ?_) (fun hb15 => ?_)
         ·
          skip
          have h15 := of_decide_eq_true hb15
          refine tri_skip ?_
          refine fin_then ?_
          refine tri_seq ?_
          refine tri_block ?_
          refine tri_seq ?_
          refine tri_regD hcx [] [107] [1, 2, 5] [] [((0 : Int) ≤ (i : Int) ∧ (i : Int) < (l.length : Int)), (((l.getD i tree0).l).length ≤ 2932031007317 ∧ Fl.lensL ((l.getD i tree0).l) ∧ Fit n ∧ Fl.sizeL ((l.getD i tree0).l) < nn)] [(107, .bool (!(Fl.mayN n ((l.getD i tree0).kind) ((l.getD i tree0).v) ((l.getD i tree0).k) ((l.getD i tree0).l))))] [] (by kernel_rfl) ?_ ?_
          ·
           refine (ap ?_ (ap ?_ az))
           all_goals
            first | omega | exact id | exact vcNot | exact vcG | exact vcH | (intro _; omega) | exact (fun _ h => h) | (intro h; simp at h; omega) | (simp only [List.length_cons, List.length_nil, List.length_append, List.length_map, List.length_set, List.length_replicate]; omega) | (intro h; simp [h]; done) | (have h8 := hsub (by omega); have h7 := hlen (by omega); exact ⟨h7.1, h7.2, hm3, by omega⟩) | (constructor <;> omega) | done
          refine fin_then ?_
          refine tri_cond (b := (!(Fl.mayN n ((l.getD i tree0).kind) ((l.getD i tree0).v) ((l.getD i tree0).k) ((l.getD i tree0).l)))) (by kernel_rfl) (fun hb16 => ?_) (fun hb16 => ?_)
          ·
           skip
           have h16 := hb16
           have hq : Fl.mayT n (l.getD i tree0) = false := (Fl.may_at n _).symm.trans (by simpa using h16)
           refine tri_seq ?_
           refine tri_regD hcx [] [4] [] [] [] [(4, .bool false)] [] (by kernel_rfl) ?_ ?_
           ·
            exact az
           refine fin_then ?_
           refine tri_ret ?_
           refine fin_block_ret ?_
           refine fin_then_ret ?_
           refine fin_then_ret ?_
           refine fin_block_ret ?_
           refine fin_then_ret ?_
           exact fin_ret [] rfl rfl trivial hcx (avs := [.bool false]) (by kernel_rfl) (congrArg AV.bool (show false = (Fl.mayN n q v k l) from (by first | exact (Fl.mn_no hb9) | exact Fl.mn_at (by omega) hq | exact Fl.mn_yes hb8 (fun j hj => hok j (by omega)) | exact Fl.mn_no (Fl.fm9 (by omega) (by omega) (by omega) (by omega) (by omega) (by omega)).symm | done))) [] rfl
          ·
           skip
           have h16 := hb16
           have hq : Fl.mayT n (l.getD i tree0) = true := (Fl.may_at n _).symm.trans (by simpa using h16)
           refine tri_skip ?_
           refine fin_block ?_
           refine fin_then ?_
           refine tri_regD hcx [] [5] [1, 2] [] [Fit ((i : Int) + 1)] [(5, .int ((i : Int) + 1))] [] (by kernel_rfl) ?_ ?_
           ·
            refine (ap ?_ az)
            first | omega | exact id | exact vcNot | exact vcG | exact vcH | (intro _; omega) | exact (fun _ h => h) | (intro h; simp at h; omega) | (simp only [List.length_cons, List.length_nil, List.length_append, List.length_map, List.length_set, List.length_replicate]; omega) | (intro h; simp [h]; done) | (have h8 := hsub (by omega); have h7 := hlen (by omega); exact ⟨h7.1, h7.2, hm3, by omega⟩) | (constructor <;> omega) | done
           refine fin_round (i + 1) ?_ ?_ ?_ ?_
           ·
            show (i + 1) ≤ l.length ∧ ∀ j, j < (i + 1) → Fl.mayT n (l.getD j tree0) = true
            exact ⟨by omega, fun j hj => by rcases (by omega : j < i ∨ j = i) with h | rfl; exact hok j h; exact hq⟩
           ·
            show l.length - (i + 1) < l.length - i
            omega
           ·
            exact subE_mk (l := [.int n, .pto [.int q, .int v, .int k, .ls (.trees l)], .int ((i : Int) + 1)]) (m := [.int n, .pto [.int q, .int v, .int k, .ls (.trees l)], .int ((i + 1) : Int)]) (by kernel_rfl) (by kernel_rfl) (consE rfl (consE rfl (consE (congrArg AV.int (show ((i : Int) + 1) = ((i + 1) : Int) from (by first | rfl | omega | (simp; done)))) rfl)))
           ·
            kernel_rfl
         ·
          skip
          have h15 := of_decide_eq_false hb15
          refine tri_exit ?_
          refine fin_then_exit ?_
          refine fin_then_exit ?_
          refine fin_block_same ?_
          refine fin_then ?_
          refine tri_seq ?_
          refine tri_regD hcx [] [4] [] [] [] [(4, .bool true)] [] (by kernel_rfl) ?_ ?_
          ·
           exact az
          refine fin_then ?_
          refine tri_ret ?_
          exact fin_ret [] rfl rfl trivial hcx (avs := [.bool true]) (by kernel_rfl) (congrArg AV.bool (show true = (Fl.mayN n q v k l) from (by first | exact (Fl.mn_no hb9) | exact Fl.mn_at (by omega) hq | exact Fl.mn_yes hb8 (fun j hj => hok j (by omega)) | exact Fl.mn_no (Fl.fm9 (by omega) (by omega) (by omega) (by omega) (by omega) (by omega)).symm | done))) [] rfl
      ·
       skip
       have h13 := neB hb13
       refine tri_seq ?_
       refine tri_regD hcx [] [78] [2, 1] [] [] [(78, .bool (q == 6))] [] (by kernel_rfl) ?_ ?_
       ·
        exact az
       refine fin_then ?_
       refine tri_cond (b := (q == 6)) (by kernel_rfl) (fun hb17 => ?_) (fun hb17 => ?_)
       ·
        skip
        have h17 := eq_of_beq hb17
        refine tri_seq ?_
        refine tri_regD hcx [] [92] [2, 1] [] [((!(v != 0)) = true → ((!(v != 0)) = true)), ((!(v != 0)) = true → ((!(v != 0)) = true)), ((v != 0) = false → (!(v != 0)) = true), ((!((v != 0) || (decide (k < 0)))) = true → ((!((v != 0) || (decide (k < 0)))) = true)), ((!((v != 0) || (decide (k < 0)))) = true → ((!((v != 0) || (decide (k < 0)))) = true)), (((v != 0) || (decide (k < 0))) = false → (!((v != 0) || (decide (k < 0)))) = true)] [(92, .bool (((v != 0) || (decide (k < 0))) || (decide (k > 1099511627776))))] [] (by kernel_rfl) ?_ ?_
        ·
         refine (ap ?_ (ap ?_ (ap (by exact vcNot) (ap ?_ (ap ?_ (ap (by exact vcNot) az))))))
         all_goals
          first | omega | exact id | exact vcNot | exact vcG | exact vcH | (intro _; omega) | exact (fun _ h => h) | (intro h; simp at h; omega) | (simp only [List.length_cons, List.length_nil, List.length_append, List.length_map, List.length_set, List.length_replicate]; omega) | (intro h; simp [h]; done) | (have h8 := hsub (by omega); have h7 := hlen (by omega); exact ⟨h7.1, h7.2, hm3, by omega⟩) | (constructor <;> omega) | done
        refine fin_then ?_
        refine tri_cond (b := (((v != 0) || (decide (k < 0))) || (decide (k > 1099511627776)))) (by kernel_rfl) (fun hb18 => ?_) (fun hb18 => ?_)
        ·
         skip
         have h18 := hb18
         have hb9 := Fl.nb_t (Fl.rm6 (n := n) (q := q) (len := l.length) (by omega)) h18
         refine tri_seq ?_
         refine tri_regD hcx [] [4] [] [] [] [(4, .bool false)] [] (by kernel_rfl) ?_ ?_
         ·
          exact az
         refine fin_then ?_
         refine tri_ret ?_
         refine fin_block_ret ?_
         refine fin_then_ret ?_
         exact fin_ret [] rfl rfl trivial hcx (avs := [.bool false]) (by kernel_rfl) (congrArg AV.bool (show false = (Fl.mayN n q v k l) from (by first | exact (Fl.mn_no hb9) | exact Fl.mn_at (by omega) hq | exact Fl.mn_yes hb8 (fun j hj => hok j (by omega)) | exact Fl.mn_no (Fl.fm9 (by omega) (by omega) (by omega) (by omega) (by omega) (by omega)).symm | done))) [] rfl
        ·
         skip
         have h18 := hb18
         have hb8 := Fl.nb_f (Fl.rm6 (n := n) (q := q) (len := l.length) (by omega)) h18
         refine tri_skip ?_
         refine fin_block ?_
         refine fin_then ?_
         refine tri_seq ?_
         refine tri_seq ?_
         refine tri_regD hcx [] [5] [2, 1] [] [] [(5, .int 0)] [] (by kernel_rfl) ?_ ?_
         ·
          exact az
         refine fin_then ?_
         refine tri_block ?_
         refine tri_loop (X := Nat) (fun x0 => x0 ≤ l.length ∧ ∀ j, j < x0 → Fl.mayT n (l.getD j tree0) = true) (fun x0 => [(1, .int n), (2, .pto [.int q, .int v, .int k, .ls (.trees l)]), (5, .int (x0 : Int))]) (fun x0 => []) (fun x0 => l.length - x0) (0) ?_ ?_ ?_ ?_
         ·
          show 0 ≤ l.length ∧ ∀ j, j < 0 → Fl.mayT n (l.getD j tree0) = true
          exact ⟨Nat.zero_le _, fun j hj => by omega⟩
         ·
          exact subE_mk (l := [.int n, .pto [.int q, .int v, .int k, .ls (.trees l)], .int 0]) (m := [.int n, .pto [.int q, .int v, .int k, .ls (.trees l)], .int (0 : Int)]) (by kernel_rfl) (by kernel_rfl) (consE rfl (consE rfl (consE (congrArg AV.int (show 0 = (0 : Int) from (by first | rfl | omega | (simp; done)))) rfl)))
         ·
          kernel_rfl
         ·
          intro i hI
          replace hI : i ≤ l.length ∧ ∀ j, j < i → Fl.mayT n (l.getD j tree0) = true := hI
          change Tri _ [(1, .int n), (2, .pto [.int q, .int v, .int k, .ls (.trees l)]), (5, .int (i : Int))] [] _ _
          obtain ⟨hk, hok⟩ := hI
          have hsub : i < l.length → Fl.sizeL (l.getD i tree0).l < Fl.sizeL l := fun h => Fl.size_sub h
          have hlen : i < l.length → _ := fun h => Fl.lens_at hm2 h
          refine tri_seq ?_
          refine tri_seq ?_
          refine tri_regD hcx [] [97] [1, 2, 5] [] [] [(97, .bool (decide ((i : Int) < (l.length : Int))))] [] (by kernel_rfl) ?_ ?_
          ·
           exact az
          refine fin_then ?_
          refine tri_cond (b := (decide ((i : Int) < (l.length : Int)))) (by kernel_rfl) (fun hb19 => ?_) (fun hb19 => ?_)
          ·
           skip
           have h19 := of_decide_eq_true hb19
           refine tri_skip ?_
           refine fin_then ?_
           refine tri_seq ?_
           refine tri_block ?_
           refine tri_seq ?_
           refine tri_regD hcx [] [107] [1, 2, 5] [] [((0 : Int) ≤ (i : Int) ∧ (i : Int) < (l.length : Int)), (((l.getD i tree0).l).length ≤ 2932031007317 ∧ Fl.lensL ((l.getD i tree0).l) ∧ Fit n ∧ Fl.sizeL ((l.getD i tree0).l) < nn)] [(107, .bool (!(Fl.mayN n ((l.getD i tree0).kind) ((l.getD i tree0).v) ((l.getD i tree0).k) ((l.getD i tree0).l))))] [] (by kernel_rfl) ?_ ?_
           ·
            refine (ap ?_ (ap ?_ az))
            all_goals
             first | omega | exact id | exact vcNot | exact vcG | exact vcH | (intro _; omega) | exact (fun _ h => h) | (intro h; simp at h; omega) | (simp only [List.length_cons, List.length_nil, List.length_append, List.length_map, List.length_set, List.length_replicate]; omega) | (intro h; simp [h]; done) | (have h8 := hsub (by omega); have h7 := hlen (by omega); exact ⟨h7.1, h7.2, hm3, by omega⟩) | (constructor <;> omega) | done
           refine fin_then ?_
           refine tri_cond (b := (!(Fl.mayN n ((l.getD i tree0).kind) ((l.getD i tree0).v) ((l.getD i tree0).k) ((l.getD i tree0).l)))) (by kernel_rfl) (fun hb20 => ?_) (fun hb20 => ?_)
           ·
            skip
            have h20 := hb20
            have hq : Fl.mayT n (l.getD i tree0) = false := (Fl.may_at n _).symm.trans (by simpa using h20)
            refine tri_seq ?_
            refine tri_regD hcx [] [4] [] [] [] [(4, .bool false)] [] (by kernel_rfl) ?_ ?_
            ·
             exact az
            refine fin_then ?_
            refine tri_ret ?_
            refine fin_block_ret ?_
            refine fin_then_ret ?_
            refine fin_then_ret ?_
            refine fin_block_ret ?_
            refine fin_then_ret ?_
            exact fin_ret [] rfl rfl trivial hcx (avs := [.bool false]) (by kernel_rfl) (congrArg AV.bool (show false = (Fl.mayN n q v k l) from (by first | exact (Fl.mn_no hb9) | exact Fl.mn_at (by omega) hq | exact Fl.mn_yes hb8 (fun j hj => hok j (by omega)) | exact Fl.mn_no (Fl.fm9 (by omega) (by omega) (by omega) (by omega) (by omega) (by omega)).symm | done))) [] rfl
           ·
            skip
            have h20 := hb20
            have hq : Fl.mayT n (l.getD i tree0) = true := (Fl.may_at n _).symm.trans (by simpa using h20)
            refine tri_skip ?_
            refine fin_block ?_
            refine fin_then ?_
            refine tri_regD hcx [] [5] [1, 2] [] [Fit ((i : Int) + 1)] [(5, .int ((i : Int) + 1))] [] (by kernel_rfl) ?_ ?_
            ·
             refine (ap ?_ az)
             first | omega | exact id | exact vcNot | exact vcG | exact vcH | (intro _; omega) | exact (fun _ h => h) | (intro h; simp at h; omega) | (simp only [List.length_cons, List.length_nil, List.length_append, List.length_map, List.length_set, List.length_replicate]; omega) | (intro h; simp [h]; done) | (have h8 := hsub (by omega); have h7 := hlen (by omega); exact ⟨h7.1, h7.2, hm3, by omega⟩) | (constructor <;> omega) | done
            refine fin_round (i + 1) ?_ ?_ ?_ ?_
            ·
             show (i + 1) ≤ l.length ∧ ∀ j, j < (i + 1) → Fl.mayT n (l.getD j tree0) = true
             exact ⟨by omega, fun j hj => by rcases (by omega : j < i ∨ j = i) with h | rfl; exact hok j h; exact hq⟩
            ·
             show l.length - (i + 1) < l.length - i
             omega
            ·
             exact subE_mk (l := [.int n, .pto [.int q, .int v, .int k, .ls (.trees l)], .int ((i : Int) + 1)]) (m := [.int n, .pto [.int q, .int v, .int k, .ls (.trees l)], .int ((i + 1) : Int)]) (by kernel_rfl) (by kernel_rfl) (consE rfl (consE rfl (consE (congrArg AV.int (show ((i : Int) + 1) = ((i + 1) : Int) from (by first | rfl | omega | (simp; done)))) rfl)))
            ·
             kernel_rfl
          ·
           skip
           have h19 := of_decide_eq_false hb19
           refine tri_exit ?_
           refine fin_then_exit ?_
           refine fin_then_exit ?_
           refine fin_block_same ?_
           refine fin_then ?_
           refine tri_seq ?_
           refine tri_regD hcx [] [4] [] [] [] [(4, .bool true)] [] (by kernel_rfl) ?_ ?_
           ·
            exact az
           refine fin_then ?_
           refine tri_ret ?_
           exact fin_ret [] rfl rfl trivial hcx (avs := [.bool true]) (by kernel_rfl) (congrArg AV.bool (show true = (Fl.mayN n q v k l) from (by first | exact (Fl.mn_no hb9) | exact Fl.mn_at (by omega) hq | exact Fl.mn_yes hb8 (fun j hj => hok j (by omega)) | exact Fl.mn_no (Fl.fm9 (by omega) (by omega) (by omega) (by omega) (by omega) (by omega)).symm | done))) [] rfl
       ·
        skip
        have h17 := neB hb17
        refine tri_seq ?_
        refine tri_regD hcx [] [4] [] [] [] [(4, .bool false)] [] (by kernel_rfl) ?_ ?_
        ·
         exact az
        refine fin_then ?_
        refine tri_ret ?_
        refine fin_block_ret ?_
        refine fin_then_ret ?_
        exact fin_ret [] rfl rfl trivial hcx (avs := [.bool false]) (by kernel_rfl) (congrArg AV.bool (show false = (Fl.mayN n q v k l) from (by first | exact (Fl.mn_no hb9) | exact Fl.mn_at (by omega) hq | exact Fl.mn_yes hb8 (fun j hj => hok j (by omega)) | exact Fl.mn_no (Fl.fm9 (by omega) (by omega) (by omega) (by omega) (by omega) (by omega)).symm | done))) [] rfl
     ·
      skip
      have h12 := neB hb12
      refine tri_regD hcx [] [67] [7, 2, 1] [] [] [(67, .bool (q == 5))] [] (by kernel_rfl) ?_ ?_
      ·
       exact az
      refine fin_then ?_
      refine tri_cond (b := (q == 5)) (by kernel_rfl) (fun hb21 => ?_) (fun hb21 => ?_)
      ·
       skip
       have h21 := eq_of_beq hb21
       refine tri_seq ?_
       refine tri_regD hcx [] [77] [2, 1] [] [((!(v != 0)) = true → ((!(v != 0)) = true)), ((!(v != 0)) = true → ((!(v != 0)) = true)), ((v != 0) = false → (!(v != 0)) = true)] [(77, .bool ((v != 0) || (k != 0)))] [] (by kernel_rfl) ?_ ?_
       ·
        refine (ap ?_ (ap ?_ (ap (by exact vcNot) az)))
        all_goals
         first | omega | exact id | exact vcNot | exact vcG | exact vcH | (intro _; omega) | exact (fun _ h => h) | (intro h; simp at h; omega) | (simp only [List.length_cons, List.length_nil, List.length_append, List.length_map, List.length_set, List.length_replicate]; omega) | (intro h; simp [h]; done) | (have h8 := hsub (by omega); have h7 := hlen (by omega); exact ⟨h7.1, h7.2, hm3, by omega⟩) | (constructor <;> omega) | done
       refine fin_then ?_
       refine tri_cond (b := ((v != 0) || (k != 0))) (by kernel_rfl) (fun hb22 => ?_) (fun hb22 => ?_)
       ·
        skip
        have h22 := hb22
        have hb9 := Fl.nb_t (Fl.rm4 (n := n) (q := q) (len := l.length) (by omega)) h22
        refine tri_seq ?_
        refine tri_regD hcx [] [4] [] [] [] [(4, .bool false)] [] (by kernel_rfl) ?_ ?_
        ·
         exact az
        refine fin_then ?_
        refine tri_ret ?_
        refine fin_block_ret ?_
        refine fin_then_ret ?_
        exact fin_ret [] rfl rfl trivial hcx (avs := [.bool false]) (by kernel_rfl) (congrArg AV.bool (show false = (Fl.mayN n q v k l) from (by first | exact (Fl.mn_no hb9) | exact Fl.mn_at (by omega) hq | exact Fl.mn_yes hb8 (fun j hj => hok j (by omega)) | exact Fl.mn_no (Fl.fm9 (by omega) (by omega) (by omega) (by omega) (by omega) (by omega)).symm | done))) [] rfl
       ·
        skip
        have h22 := hb22
        have hb8 := Fl.nb_f (Fl.rm4 (n := n) (q := q) (len := l.length) (by omega)) h22
        refine tri_skip ?_
        refine fin_block ?_
        refine fin_then ?_
        refine tri_seq ?_
        refine tri_seq ?_
        refine tri_regD hcx [] [5] [2, 1] [] [] [(5, .int 0)] [] (by kernel_rfl) ?_ ?_
        ·
         exact az
        refine fin_then ?_
        refine tri_block ?_
        refine tri_loop (X := Nat) (fun x0 => x0 ≤ l.length ∧ ∀ j, j < x0 → Fl.mayT n (l.getD j tree0) = true) (fun x0 => [(1, .int n), (2, .pto [.int q, .int v, .int k, .ls (.trees l)]), (5, .int (x0 : Int))]) (fun x0 => []) (fun x0 => l.length - x0) (0) ?_ ?_ ?_ ?_
        ·
         show 0 ≤ l.length ∧ ∀ j, j < 0 → Fl.mayT n (l.getD j tree0) = true
         exact ⟨Nat.zero_le _, fun j hj => by omega⟩
        ·
         exact subE_mk (l := [.int n, .pto [.int q, .int v, .int k, .ls (.trees l)], .int 0]) (m := [.int n, .pto [.int q, .int v, .int k, .ls (.trees l)], .int (0 : Int)]) (by kernel_rfl) (by kernel_rfl) (consE rfl (consE rfl (consE (congrArg AV.int (show 0 = (0 : Int) from (by first | rfl | omega | (simp; done)))) rfl)))
        ·
         kernel_rfl
        ·
         intro i hI
         replace hI : i ≤ l.length ∧ ∀ j, j < i → Fl.mayT n (l.getD j tree0) = true := hI
         change Tri _ [(1, .int n), (2, .pto [.int q, .int v, .int k, .ls (.trees l)]), (5, .int (i : Int))] [] _ _
         obtain ⟨hk, hok⟩ := hI
         have hsub : i < l.length → Fl.sizeL (l.getD i tree0).l < Fl.sizeL l := fun h => Fl.size_sub h
         have hlen : i < l.length → _ := fun h => Fl.lens_at hm2 h
         refine tri_seq ?_
         refine tri_seq ?_
         refine tri_regD hcx [] [97] [1, 2, 5] [] [] [(97, .bool (decide ((i : Int) < (l.length : Int))))] [] (by kernel_rfl) ?_ ?_
         ·
          exact az
         refine fin_then ?_
         refine tri_cond (b := (decide ((i : Int) < (l.length : Int)))) (by kernel_rfl) (fun hb23 => ?_) (fun hb23 => ?_)
         ·
          skip
          have h23 := of_decide_eq_true hb23
          refine tri_skip ?_
          refine fin_then ?_
          refine tri_seq ?_
          refine tri_block ?_
          refine tri_seq ?_
          refine tri_regD hcx [] [107] [1, 2, 5] [] [((0 : Int) ≤ (i : Int) ∧ (i : Int) < (l.length : Int)), (((l.getD i tree0).l).length ≤ 2932031007317 ∧ Fl.lensL ((l.getD i tree0).l) ∧ Fit n ∧ Fl.sizeL ((l.getD i tree0).l) < nn)] [(107, .bool (!(Fl.mayN n ((l.getD i tree0).kind) ((l.getD i tree0).v) ((l.getD i tree0).k) ((l.getD i tree0).l))))] [] (by kernel_rfl) ?_ ?_
          ·
           refine (ap ?_ (ap ?_ az))
           all_goals
            first | omega | exact id | exact vcNot | exact vcG | exact vcH | (intro _; omega) | exact (fun _ h => h) | (intro h; simp at h; omega) | (simp only [List.length_cons, List.length_nil, List.length_append, List.length_map, List.length_set, List.length_replicate]; omega) | (intro h; simp [h]; done) | (have h8 := hsub (by omega); have h7 := hlen (by omega); exact ⟨h7.1, h7.2, hm3, by omega⟩) | (constructor <;> omega) | done
          refine fin_then ?_
          refine tri_cond (b := (!(Fl.mayN n ((l.getD i tree0).kind) ((l.getD i tree0).v) ((l.getD i tree0).k) ((l.getD i tree0).l)))) (by kernel_rfl) (fun hb24 => ?_) (fun hb24 => ?_)
          ·
           skip
           have h24 := hb24
           have hq : Fl.mayT n (l.getD i tree0) = false := (Fl.may_at n _).symm.trans (by simpa using h24)
           refine tri_seq ?_
           refine tri_regD hcx [] [4] [] [] [] [(4, .bool false)] [] (by kernel_rfl) ?_ ?_
           ·
            exact az
           refine fin_then ?_
           refine tri_ret ?_
           refine fin_block_ret ?_
           refine fin_then_ret ?_
           refine fin_then_ret ?_
           refine fin_block_ret ?_
           refine fin_then_ret ?_
           exact fin_ret [] rfl rfl trivial hcx (avs := [.bool false]) (by kernel_rfl) (congrArg AV.bool (show false = (Fl.mayN n q v k l) from (by first | exact (Fl.mn_no hb9) | exact Fl.mn_at (by omega) hq | exact Fl.mn_yes hb8 (fun j hj => hok j (by omega)) | exact Fl.mn_no (Fl.fm9 (by omega) (by omega) (by omega) (by omega) (by omega) (by omega)).symm | done))) [] rfl
          ·
           skip
           have h24 := hb24
           have hq : Fl.mayT n (l.getD i tree0) = true := (Fl.may_at n _).symm.trans (by simpa using h24)
           refine tri_skip ?_
           refine fin_block ?_
           refine fin_then ?_
           refine tri_regD hcx [] [5] [1, 2] [] [Fit ((i : Int) + 1)] [(5, .int ((i : Int) + 1))] [] (by kernel_rfl) ?_ ?_
           ·
            refine (ap ?_ az)
            first | omega | exact id | exact vcNot | exact vcG | exact vcH | (intro _; omega) | exact (fun _ h => h) | (intro h; simp at h; omega) | (simp only [List.length_cons, List.length_nil, List.length_append, List.length_map, List.length_set, List.length_replicate]; omega) | (intro h; simp [h]; done) | (have h8 := hsub (by omega); have h7 := hlen (by omega); exact ⟨h7.1, h7.2, hm3, by omega⟩) | (constructor <;> omega) | done
           refine fin_round (i + 1) ?_ ?_ ?_ ?_
           ·
            show (i + 1) ≤ l.length ∧ ∀ j, j < (i + 1) → Fl.mayT n (l.getD j tree0) = true
            exact ⟨by omega, fun j hj => by rcases (by omega : j < i ∨ j = i) with h | rfl; exact hok j h; exact hq⟩
           ·
            show l.length - (i + 1) < l.length - i
            omega
           ·
            exact subE_mk (l := [.int n, .pto [.int q, .int v, .int k, .ls (.trees l)], .int ((i : Int) + 1)]) (m := [.int n, .pto [.int q, .int v, .int k, .ls (.trees l)], .int ((i + 1) : Int)]) (by kernel_rfl) (by kernel_rfl) (consE rfl (consE rfl (consE (congrArg AV.int (show ((i : Int) + 1) = ((i + 1) : Int) from (by first | rfl | omega | (simp; done)))) rfl)))
           ·
            kernel_rfl
         ·
          skip
          have h23 := of_decide_eq_false hb23
          refine tri_exit ?_
          refine fin_then_exit ?_
          refine fin_then_exit ?_
          refine fin_block_same ?_
          refine fin_then ?_
          refine tri_seq ?_
          refine tri_regD hcx [] [4] [] [] [] [(4, .bool true)] [] (by kernel_rfl) ?_ ?_
          ·
           exact az
          refine fin_then ?_
          refine tri_ret ?_
          exact fin_ret [] rfl rfl trivial hcx (avs := [.bool true]) (by kernel_rfl) (congrArg AV.bool (show true = (Fl.mayN n q v k l) from (by first | exact (Fl.mn_no hb9) | exact Fl.mn_at (by omega) hq | exact Fl.mn_yes hb8 (fun j hj => hok j (by omega)) | exact Fl.mn_no (Fl.fm9 (by omega) (by omega) (by omega) (by omega) (by omega) (by omega)).symm | done))) [] rfl
      ·
       skip
       have h21 := neB hb21
       refine tri_seq ?_
       refine tri_regD hcx [] [78] [2, 1] [] [] [(78, .bool (q == 6))] [] (by kernel_rfl) ?_ ?_
       ·
        exact az
       refine fin_then ?_
       refine tri_cond (b := (q == 6)) (by kernel_rfl) (fun hb25 => ?_) (fun hb25 => ?_)
       ·
        skip
        have h25 := eq_of_beq hb25
        refine tri_seq ?_
        refine tri_regD hcx [] [92] [2, 1] [] [((!(v != 0)) = true → ((!(v != 0)) = true)), ((!(v != 0)) = true → ((!(v != 0)) = true)), ((v != 0) = false → (!(v != 0)) = true), ((!((v != 0) || (decide (k < 0)))) = true → ((!((v != 0) || (decide (k < 0)))) = true)), ((!((v != 0) || (decide (k < 0)))) = true → ((!((v != 0) || (decide (k < 0)))) = true)), (((v != 0) || (decide (k < 0))) = false → (!((v != 0) || (decide (k < 0)))) = true)] [(92, .bool (((v != 0) || (decide (k < 0))) || (decide (k > 1099511627776))))] [] (by kernel_rfl) ?_ ?_
        ·
         refine (ap ?_ (ap ?_ (ap (by exact vcNot) (ap ?_ (ap ?_ (ap (by exact vcNot) az))))))
         all_goals
          first | omega | exact id | exact vcNot | exact vcG | exact vcH | (intro _; omega) | exact (fun _ h => h) | (intro h; simp at h; omega) | (simp only [List.length_cons, List.length_nil, List.length_append, List.length_map, List.length_set, List.length_replicate]; omega) | (intro h; simp [h]; done) | (have h8 := hsub (by omega); have h7 := hlen (by omega); exact ⟨h7.1, h7.2, hm3, by omega⟩) | (constructor <;> omega) | done
        refine fin_then ?_
        refine tri_cond (b := (((v != 0) || (decide (k < 0))) || (decide (k > 1099511627776)))) (by kernel_rfl) (fun hb26 => ?_) (fun hb26 => ?_)
        ·
         skip
         have h26 := hb26
         have hb9 := Fl.nb_t (Fl.rm6 (n := n) (q := q) (len := l.length) (by omega)) h26
         refine tri_seq ?_
         refine tri_regD hcx [] [4] [] [] [] [(4, .bool false)] [] (by kernel_rfl) ?_ ?_
         ·
          exact az
         refine fin_then ?_
         refine tri_ret ?_
         refine fin_block_ret ?_
         refine fin_then_ret ?_
         exact fin_ret [] rfl rfl trivial hcx (avs := [.bool false]) (by kernel_rfl) (congrArg AV.bool (show false = (Fl.mayN n q v k l) from (by first | exact (Fl.mn_no hb9) | exact Fl.mn_at (by omega) hq | exact Fl.mn_yes hb8 (fun j hj => hok j (by omega)) | exact Fl.mn_no (Fl.fm9 (by omega) (by omega) (by omega) (by omega) (by omega) (by omega)).symm | done))) [] rfl
        ·
         skip
         have h26 := hb26
         have hb8 := Fl.nb_f (Fl.rm6 (n := n) (q := q) (len := l.length) (by omega)) h26
         refine tri_skip ?_
         refine fin_block ?_
         refine fin_then ?_
         refine tri_seq ?_
         refine tri_seq ?_
         refine tri_regD hcx [] [5] [2, 1] [] [] [(5, .int 0)] [] (by kernel_rfl) ?_ ?_
         ·
          exact az
         refine fin_then ?_
         refine tri_block ?_
         refine tri_loop (X := Nat) (fun x0 => x0 ≤ l.length ∧ ∀ j, j < x0 → Fl.mayT n (l.getD j tree0) = true) (fun x0 => [(1, .int n), (2, .pto [.int q, .int v, .int k, .ls (.trees l)]), (5, .int (x0 : Int))]) (fun x0 => []) (fun x0 => l.length - x0) (0) ?_ ?_ ?_ ?_
         ·
          show 0 ≤ l.length ∧ ∀ j, j < 0 → Fl.mayT n (l.getD j tree0) = true
          exact ⟨Nat.zero_le _, fun j hj => by omega⟩
         ·
          exact subE_mk (l := [.int n, .pto [.int q, .int v, .int k, .ls (.trees l)], .int 0]) (m := [.int n, .pto [.int q, .int v, .int k, .ls (.trees l)], .int (0 : Int)]) (by kernel_rfl) (by kernel_rfl) (consE rfl (consE rfl (consE (congrArg AV.int (show 0 = (0 : Int) from (by first | rfl | omega | (simp; done)))) rfl)))
         ·
          kernel_rfl
         ·
          intro i hI
          replace hI : i ≤ l.length ∧ ∀ j, j < i → Fl.mayT n (l.getD j tree0) = true := hI
          change Tri _ [(1, .int n), (2, .pto [.int q, .int v, .int k, .ls (.trees l)]), (5, .int (i : Int))] [] _ _
          obtain ⟨hk, hok⟩ := hI
          have hsub : i < l.length → Fl.sizeL (l.getD i tree0).l < Fl.sizeL l := fun h => Fl.size_sub h
          have hlen : i < l.length → _ := fun h => Fl.lens_at hm2 h
          refine tri_seq ?_
          refine tri_seq ?_
          refine tri_regD hcx [] [97] [1, 2, 5] [] [] [(97, .bool (decide ((i : Int) < (l.length : Int))))] [] (by kernel_rfl) ?_ ?_
          ·
           exact az
          refine fin_then ?_
          refine tri_cond (b := (decide ((i : Int) < (l.length : Int)))) (by kernel_rfl) (fun hb27 => ?_) (fun hb27 => ?_)
          ·
           skip
           have h27 := of_decide_eq_true hb27
           refine tri_skip ?_
           refine fin_then ?_
           refine tri_seq ?_
           refine tri_block ?_
           refine tri_seq ?_
           refine tri_regD hcx [] [107] [1, 2, 5] [] [((0 : Int) ≤ (i : Int) ∧ (i : Int) < (l.length : Int)), (((l.getD i tree0).l).length ≤ 2932031007317 ∧ Fl.lensL ((l.getD i tree0).l) ∧ Fit n ∧ Fl.sizeL ((l.getD i tree0).l) < nn)] [(107, .bool (!(Fl.mayN n ((l.getD i tree0).kind) ((l.getD i tree0).v) ((l.getD i tree0).k) ((l.getD i tree0).l))))] [] (by kernel_rfl) ?_ ?_
           ·
            refine (ap ?_ (ap ?_ az))
            all_goals
             first | omega | exact id | exact vcNot | exact vcG | exact vcH | (intro _; omega) | exact (fun _ h => h) | (intro h; simp at h; omega) | (simp only [List.length_cons, List.length_nil, List.length_append, List.length_map, List.length_set, List.length_replicate]; omega) | (intro h; simp [h]; done) | (have h8 := hsub (by omega); have h7 := hlen (by omega); exact ⟨h7.1, h7.2, hm3, by omega⟩) | (constructor <;> omega) | done
           refine fin_then ?_
           refine tri_cond (b := (!(Fl.mayN n ((l.getD i tree0).kind) ((l.getD i tree0).v) ((l.getD i tree0).k) ((l.getD i tree0).l)))) (by kernel_rfl) (fun hb28 => ?_) (fun hb28 => ?_)
           ·
            skip
            have h28 := hb28
            have hq : Fl.mayT n (l.getD i tree0) = false := (Fl.may_at n _).symm.trans (by simpa using h28)
            refine tri_seq ?_
            refine tri_regD hcx [] [4] [] [] [] [(4, .bool false)] [] (by kernel_rfl) ?_ ?_
            ·
             exact az
            refine fin_then ?_
            refine tri_ret ?_
            refine fin_block_ret ?_
            refine fin_then_ret ?_
            refine fin_then_ret ?_
            refine fin_block_ret ?_
            refine fin_then_ret ?_
            exact fin_ret [] rfl rfl trivial hcx (avs := [.bool false]) (by kernel_rfl) (congrArg AV.bool (show false = (Fl.mayN n q v k l) from (by first | exact (Fl.mn_no hb9) | exact Fl.mn_at (by omega) hq | exact Fl.mn_yes hb8 (fun j hj => hok j (by omega)) | exact Fl.mn_no (Fl.fm9 (by omega) (by omega) (by omega) (by omega) (by omega) (by omega)).symm | done))) [] rfl
           ·
            skip
            have h28 := hb28
            have hq : Fl.mayT n (l.getD i tree0) = true := (Fl.may_at n _).symm.trans (by simpa using h28)
            refine tri_skip ?_
            refine fin_block ?_
            refine fin_then ?_
            refine tri_regD hcx [] [5] [1, 2] [] [Fit ((i : Int) + 1)] [(5, .int ((i : Int) + 1))] [] (by kernel_rfl) ?_ ?_
            ·
             refine (ap ?_ az)
             first | omega | exact id | exact vcNot | exact vcG | exact vcH | (intro _; omega) | exact (fun _ h => h) | (intro h; simp at h; omega) | (simp only [List.length_cons, List.length_nil, List.length_append, List.length_map, List.length_set, List.length_replicate]; omega) | (intro h; simp [h]; done) | (have h8 := hsub (by omega); have h7 := hlen (by omega); exact ⟨h7.1, h7.2, hm3, by omega⟩) | (constructor <;> omega) | done
            refine fin_round (i + 1) ?_ ?_ ?_ ?_
            ·
             show (i + 1) ≤ l.length ∧ ∀ j, j < (i + 1) → Fl.mayT n (l.getD j tree0) = true
             exact ⟨by omega, fun j hj => by rcases (by omega : j < i ∨ j = i) with h | rfl; exact hok j h; exact hq⟩
            ·
             show l.length - (i + 1) < l.length - i
             omega
            ·
             exact subE_mk (l := [.int n, .pto [.int q, .int v, .int k, .ls (.trees l)], .int ((i : Int) + 1)]) (m := [.int n, .pto [.int q, .int v, .int k, .ls (.trees l)], .int ((i + 1) : Int)]) (by kernel_rfl) (by kernel_rfl) (consE rfl (consE rfl (consE (congrArg AV.int (show ((i : Int) + 1) = ((i + 1) : Int) from (by first | rfl | omega | (simp; done)))) rfl)))
            ·
             kernel_rfl
          ·
           skip
           have h27 := of_decide_eq_false hb27
           refine tri_exit ?_
           refine fin_then_exit ?_
           refine fin_then_exit ?_
           refine fin_block_same ?_
           refine fin_then ?_
           refine tri_seq ?_
           refine tri_regD hcx [] [4] [] [] [] [(4, .bool true)] [] (by kernel_rfl) ?_ ?_
           ·
            exact az
           refine fin_then ?_
           refine tri_ret ?_
           exact fin_ret [] rfl rfl trivial hcx (avs := [.bool true]) (by kernel_rfl) (congrArg AV.bool (show true = (Fl.mayN n q v k l) from (by first | exact (Fl.mn_no hb9) | exact Fl.mn_at (by omega) hq | exact Fl.mn_yes hb8 (fun j hj => hok j (by omega)) | exact Fl.mn_no (Fl.fm9 (by omega) (by omega) (by omega) (by omega) (by omega) (by omega)).symm | done))) [] rfl
       ·
        skip
        have h25 := neB hb25
        refine tri_seq ?_
        refine tri_regD hcx [] [4] [] [] [] [(4, .bool false)] [] (by kernel_rfl) ?_ ?_
        ·
         exact az
        refine fin_then ?_
        refine tri_ret ?_
        refine fin_block_ret ?_
        refine fin_then_ret ?_
        exact fin_ret [] rfl rfl trivial hcx (avs := [.bool false]) (by kernel_rfl) (congrArg AV.bool (show false = (Fl.mayN n q v k l) from (by first | exact (Fl.mn_no hb9) | exact Fl.mn_at (by omega) hq | exact Fl.mn_yes hb8 (fun j hj => hok j (by omega)) | exact Fl.mn_no (Fl.fm9 (by omega) (by omega) (by omega) (by omega) (by omega) (by omega)).symm | done))) [] rfl
 ·
  cases hσ
theorem rMay_all : ∀ nn, Sound Tryd.prog 46 (rMay_σ nn) := sound_rec (sound_none (fn := Tryd.f46) Tryd.func46 (by kernel_rfl) rfl (fun args os p r outs hσ hp => by
  unfold rMay_σ at hσ
  split at hσ
  · simp only [Option.some.injEq, Prod.mk.injEq] at hσ
    obtain ⟨rfl, rfl, rfl⟩ := hσ
    exact absurd hp.2.2.2 (Nat.not_lt_zero _)
  · cases hσ)) rMay_step
def rMay_τ : CtF
  | [.agg [.im (.val (.int .i64 q)), .im (.val (.int .i64 v)), .im (.val (.int .i64 k)), .im (.ls (.trees l))], .im (.val (.int .i64 n))], [] => some (l.length ≤ 2932031007317 ∧ Fl.lensL l ∧ Fit n, .bool (Fl.mayN n q v k l), [])
  | _, _ => none
theorem rMay_sound : Sound Tryd.prog 46 rMay_τ := sound_all rMay_all (fun args os p r outs hσ hp => by
  unfold rMay_τ at hσ
  split at hσ
  · rename_i q v k l n
    simp only [Option.some.injEq, Prod.mk.injEq] at hσ
    obtain ⟨rfl, rfl, rfl⟩ := hσ
    exact ⟨Fl.sizeL l + 1, _, rfl, ⟨hp.1, hp.2.1, hp.2.2, Nat.lt_succ_self _⟩⟩
  · cases hσ)
end Go.Proofs.YtlhjliigfecihaaDoor.En
