/- The law CnfConjunction. -/
import Derived.Test.YtiokflebeojokaaGreatDoorLive14S
import Derived.Test.YtiokflebeojokaaGreatDoorLaw14T
namespace Go.Proofs.YtiokflebeojokaaGreatDoor.En
open Go Go.RowKit
set_option linter.unusedVariables false
set_option linter.unusedSimpArgs false
set_option linter.unnecessarySimpa false
theorem andI_nn (q : Int) : 0 ≤ andI q 65535 := by
  unfold andI
  have h : (BitVec.ofInt 64 q &&& BitVec.ofInt 64 65535).toNat ≤ 65535 := by
    rw [BitVec.toNat_and]
    exact Nat.le_trans Nat.and_le_right (by decide)
  generalize (BitVec.ofInt 64 q &&& BitVec.ofInt 64 65535).toNat = n at h ⊢
  rw [IntWalk.i64_in _ (by omega)]
  omega
def tyL14CnfConjunction : List (Nat × TD) := [(3, ⟨1, false, [.int .i64 0], [], none, 8, false, 1, 1⟩),
  (4, ⟨1, false, [.bool false], [], none, 1, true, 0, 2⟩),
  (22, ⟨1, false, [.slice none 0 0], [], some 25, 24, false, 0, 0⟩),
  (24, ⟨2, true, [.int .i64 0, .slice none 0 0], [(0, 3), (1, 22)], none, 32, false, 0, 6⟩),
  (25, ⟨1, false, [.slice none 0 0], [], some 3, 24, false, 0, 3⟩),
  (26, ⟨1, false, [.slice none 0 0], [], some 4, 24, false, 0, 0⟩)]
theorem tyL14CnfConjunction_ok : AllTy Tryz.prog tyL14CnfConjunction := ⟨⟨by kernel_rfl, by kernel_rfl⟩, ⟨by kernel_rfl, by kernel_rfl⟩, ⟨by kernel_rfl, by kernel_rfl⟩, ⟨by kernel_rfl, by kernel_rfl⟩, ⟨by kernel_rfl, by kernel_rfl⟩, ⟨by kernel_rfl, by kernel_rfl⟩, trivial⟩
def cx_lCnfConjunction : Cx := ⟨tyL14CnfConjunction, [(23, (coeF [.agg [.id, .ld (.intss [])], .ld (.bools [])] cValue_σ)), (13, (coeF [.agg [.id, .ld (.intss [])]] lFew_σ)), (12, live14_σ), (34, sFew)]⟩
theorem cx_lCnfConjunction_ok : CxOk Tryz.prog cx_lCnfConjunction := cx_ok tyL14CnfConjunction_ok ⟨(cValue_sound.coe [.agg [.id, .ld (.intss [])], .ld (.bools [])] rfl), (lFew_sound.coe [.agg [.id, .ld (.intss [])]] rfl), live14_sound, sFew_sound, trivial⟩
def lCnfConjunction_σ : CtF
  | [.agg [.im (.val (.int .i64 N)), .im (.ls (.intss L))], .im (.ls (.intss M)), .im (.val (.int .i64 q)), .im (.ls (.bools t))], [] => some ((L.length ≤ maxLen ∧ (∀ l ∈ L, l.length ≤ maxLen)) ∧ (M.length ≤ maxLen ∧ ∀ l ∈ M, l.length ≤ maxLen) ∧ t.length ≤ maxLen, .bool true, [])
  | _, _ => none
theorem lCnfConjunction_sound : Sound Tryz.prog 11 lCnfConjunction_σ := by
 refine sound_mk (cx := cx_lCnfConjunction) (fn := Tryz.f11) Tryz.func11 (by kernel_rfl) rfl ?_
 intro w0 G0 args os p r outs hσ hp hm0 hd0
 have hcx : CxOk Tryz.prog cx_lCnfConjunction := cx_lCnfConjunction_ok
 have hmx : Tryz.prog.follows .mixedOrders = true := by kernel_rfl
 unfold lCnfConjunction_σ at hσ
 split at hσ
 ·
  rename_i N L M q t
  simp only [Option.some.injEq, Prod.mk.injEq] at hσ
  obtain ⟨rfl, rfl, rfl⟩ := hσ
  obtain ⟨wW, wO, wm, wβ, wd⟩ := w0
  replace hm0 : wm = 0 := hm0
  subst hm0
  replace hd0 : wd = [] := hd0
  subst hd0
  refine ⟨by kernel_rfl, ?_⟩
  change Tri ⟨_, _, _, _, _, _⟩ [(0, .agg [.int N, .intss L]), (1, .intss M), (2, .int q), (3, .bools t)] [] _ _
  obtain ⟨⟨hL, hLm⟩, ⟨hM, hMm⟩, ht⟩ := hp
  have hL9 := hL
  have hM9 := hM
  have ht9 := ht
  unfold maxLen at hL9 hM9 ht9
  refine tri_seq ?_
  refine tri_regD hcx [(1000, .frz)] [4] [1, 2, 3] [] [] [(4, .pto [.int N, .ls (.intss L)])] [] (by kernel_rfl) ?_ ?_
  ·
   exact az
  refine fin_then ?_
  refine tri_seq ?_
  refine tri_seq ?_
  refine tri_regD hcx [] [18] [4, 1, 2, 3] [] [(True)] [(18, .bool (!true))] [] (by kernel_rfl) ?_ ?_
  ·
   refine (ap ?_ az)
   first | omega | exact id | exact vcNot | exact vcG | exact vcH | (intro _; omega) | exact (fun _ h => h) | (intro h; simp at h; omega) | (simp only [List.length_cons, List.length_nil, List.length_append, List.length_map, List.length_set, List.length_replicate]; omega) | (intro h; simp [h]; done) | exact hL | exact hM | exact (fun _ => hL) | exact True.intro | (simp only [List.length_cons, List.length_nil]; omega) | exact hat | exact ⟨hz9, hzm, ht⟩ | exact ⟨hL, hLm, ht⟩ | exact (fun _ => ⟨hM, hMm, ht⟩) | exact (fun _ => ⟨by unfold maxLen; omega, fun l hl => hzm l (List.mem_reverse.1 (List.mem_of_mem_take hl)), ht⟩) | exact (fun _ => ⟨by rw [List.length_drop, List.length_take]; unfold maxLen; omega, fun l hl => hzm l (List.mem_of_mem_take (List.mem_of_mem_drop hl)), ht⟩) | done
  refine fin_then ?_
  refine tri_cond (b := (!true)) (by kernel_rfl) (fun hb0 => ?_) (fun hb0 => ?_)
  ·
   skip
   have h0 := hb0
   cases h0
  ·
   skip
   have h0 := (notB_f hb0)
   refine tri_skip ?_
   refine fin_then ?_
   refine tri_seq ?_
   refine tri_regD hcx [] [9] [4, 1, 2, 3] [] [(M.length ≤ maxLen)] [(9, .bool (Cn.fewP M))] [] (by kernel_rfl) ?_ ?_
   ·
    refine (ap ?_ az)
    first | omega | exact id | exact vcNot | exact vcG | exact vcH | (intro _; omega) | exact (fun _ h => h) | (intro h; simp at h; omega) | (simp only [List.length_cons, List.length_nil, List.length_append, List.length_map, List.length_set, List.length_replicate]; omega) | (intro h; simp [h]; done) | exact hL | exact hM | exact (fun _ => hL) | exact True.intro | (simp only [List.length_cons, List.length_nil]; omega) | exact hat | exact ⟨hz9, hzm, ht⟩ | exact ⟨hL, hLm, ht⟩ | exact (fun _ => ⟨hM, hMm, ht⟩) | exact (fun _ => ⟨by unfold maxLen; omega, fun l hl => hzm l (List.mem_reverse.1 (List.mem_of_mem_take hl)), ht⟩) | exact (fun _ => ⟨by rw [List.length_drop, List.length_take]; unfold maxLen; omega, fun l hl => hzm l (List.mem_of_mem_take (List.mem_of_mem_drop hl)), ht⟩) | done
   refine fin_then ?_
   refine tri_seq ?_
   refine tri_seq ?_
   refine tri_regD hcx [] [32] [4, 1, 2, 3] [] [(L.length ≤ maxLen), ((!(!(Cn.fewP L))) = true → ((!(!(Cn.fewP L))) = true)), ((!(Cn.fewP L)) = false → (!(!(Cn.fewP L))) = true), ((!((!(Cn.fewP L)) || (!(Cn.fewP M)))) = true → ((!((!(Cn.fewP L)) || (!(Cn.fewP M)))) = true)), ((!((!(Cn.fewP L)) || (!(Cn.fewP M)))) = true → ((!((!(Cn.fewP L)) || (!(Cn.fewP M)))) = true)), (((!(Cn.fewP L)) || (!(Cn.fewP M))) = false → (!((!(Cn.fewP L)) || (!(Cn.fewP M)))) = true)] [(32, .bool (((!(Cn.fewP L)) || (!(Cn.fewP M))) || (decide ((t.length : Int) > 300))))] [] (by kernel_rfl) ?_ ?_
   ·
    refine (ap ?_ (ap ?_ (ap (by exact vcNot) (ap ?_ (ap ?_ (ap (by exact vcNot) az))))))
    all_goals
     first | omega | exact id | exact vcNot | exact vcG | exact vcH | (intro _; omega) | exact (fun _ h => h) | (intro h; simp at h; omega) | (simp only [List.length_cons, List.length_nil, List.length_append, List.length_map, List.length_set, List.length_replicate]; omega) | (intro h; simp [h]; done) | exact hL | exact hM | exact (fun _ => hL) | exact True.intro | (simp only [List.length_cons, List.length_nil]; omega) | exact hat | exact ⟨hz9, hzm, ht⟩ | exact ⟨hL, hLm, ht⟩ | exact (fun _ => ⟨hM, hMm, ht⟩) | exact (fun _ => ⟨by unfold maxLen; omega, fun l hl => hzm l (List.mem_reverse.1 (List.mem_of_mem_take hl)), ht⟩) | exact (fun _ => ⟨by rw [List.length_drop, List.length_take]; unfold maxLen; omega, fun l hl => hzm l (List.mem_of_mem_take (List.mem_of_mem_drop hl)), ht⟩) | done
   refine fin_then ?_
   refine tri_cond (b := (((!(Cn.fewP L)) || (!(Cn.fewP M))) || (decide ((t.length : Int) > 300)))) (by kernel_rfl) (fun hb1 => ?_) (fun hb1 => ?_)
   ·
    skip
    have h1 := hb1
    try simp only [Bool.or_eq_true, Bool.or_eq_false_iff, Bool.and_eq_true, Bool.and_eq_false_iff, Bool.not_eq_true', Bool.not_eq_false', decide_eq_true_eq, decide_eq_false_iff_not, bne_iff_ne, bne_eq_false_iff_eq, beq_iff_eq, beq_eq_false_iff_ne] at h1
    refine tri_seq ?_
    refine tri_regD hcx [] [8] [] [] [] [(8, .bool true)] [] (by kernel_rfl) ?_ ?_
    ·
     exact az
    refine fin_then ?_
    refine tri_ret ?_
    refine fin_then_ret ?_
    exact fin_ret [] rfl rfl trivial hcx (avs := [.bool true]) (by kernel_rfl) rfl [] rfl
   ·
    skip
    have h1 := hb1
    have hz : L.length ≤ 200 ∧ M.length ≤ 200 := by have hz := h1; simp only [Bool.or_eq_false_iff] at hz; have h1 := hz.1.1; have h2 := hz.1.2; unfold Cn.fewP at h1 h2; simp at h1 h2; omega
    have hzl : (M ++ L).length = M.length + L.length := List.length_append
    have hzm : ∀ l ∈ M ++ L, l.length ≤ maxLen := fun l hl => (List.mem_append.1 hl).elim (hMm l) (hLm l)
    have hz9 : (M ++ L).length ≤ maxLen := by unfold maxLen; omega
    have hat := Cn.at_bd (x := andI q 65535) (M ++ L).length (andI_nn q)
    refine tri_skip ?_
    refine fin_then ?_
    refine tri_seq ?_
    refine tri_regD hcx [(1004, .to 610)] [10] [4, 1, 2, 3] [] [] [(10, .loc 610 0)] [(610, .box [.int N, .intss M])] (by kernel_rfl) ?_ ?_
    ·
     exact az
    refine fin_then ?_
    refine tri_seq ?_
    refine tri_drawD [0, 1, 0, 0, 12, 0, 32, 124, 255, 0, 1023] hcx hmx [(1007, .to 244), (1009, .to 611)] [11] [10, 4, 2, 3] [610] [((([] : List (List Int)).length + M.length) * 24 ≤ 140737488355328), ((([] ++ M).length + L.length) * 24 ≤ 140737488355328)] [(11, .loc 611 0)] [(244, .row 25 (.intss (([] ++ M) ++ L))), (611, .box [.int N, .row 244])] (by kernel_rfl) ?_ ?_
    ·
     refine (ap ?_ (ap ?_ az))
     all_goals
      first | omega | exact id | exact vcNot | exact vcG | exact vcH | (intro _; omega) | exact (fun _ h => h) | (intro h; simp at h; omega) | (simp only [List.length_cons, List.length_nil, List.length_append, List.length_map, List.length_set, List.length_replicate]; omega) | (intro h; simp [h]; done) | exact hL | exact hM | exact (fun _ => hL) | exact True.intro | (simp only [List.length_cons, List.length_nil]; omega) | exact hat | exact ⟨hz9, hzm, ht⟩ | exact ⟨hL, hLm, ht⟩ | exact (fun _ => ⟨hM, hMm, ht⟩) | exact (fun _ => ⟨by unfold maxLen; omega, fun l hl => hzm l (List.mem_reverse.1 (List.mem_of_mem_take hl)), ht⟩) | exact (fun _ => ⟨by rw [List.length_drop, List.length_take]; unfold maxLen; omega, fun l hl => hzm l (List.mem_of_mem_take (List.mem_of_mem_drop hl)), ht⟩) | done
    refine fin_then ?_
    refine tri_seq ?_
    refine tri_regD hcx [(1003, .to 612)] [12] [11, 10, 4, 2, 3] [244, 611, 610] [] [(12, .loc 612 0)] [(612, .box [.int N, .im (.val (.slice none 0 0))])] (by kernel_rfl) ?_ ?_
    ·
     exact az
    refine fin_then ?_
    refine tri_seq ?_
    refine tri_seq ?_
    refine tri_regD hcx [] [13] [12, 11, 10, 4, 2, 3] [612, 244, 611, 610] [Fit (((([] ++ M) ++ L).length : Int) - 1)] [(13, .int (((([] ++ M) ++ L).length : Int) - 1))] [] (by kernel_rfl) ?_ ?_
    ·
     refine (ap ?_ az)
     first | omega | exact id | exact vcNot | exact vcG | exact vcH | (intro _; omega) | exact (fun _ h => h) | (intro h; simp at h; omega) | (simp only [List.length_cons, List.length_nil, List.length_append, List.length_map, List.length_set, List.length_replicate]; omega) | (intro h; simp [h]; done) | exact hL | exact hM | exact (fun _ => hL) | exact True.intro | (simp only [List.length_cons, List.length_nil]; omega) | exact hat | exact ⟨hz9, hzm, ht⟩ | exact ⟨hL, hLm, ht⟩ | exact (fun _ => ⟨hM, hMm, ht⟩) | exact (fun _ => ⟨by unfold maxLen; omega, fun l hl => hzm l (List.mem_reverse.1 (List.mem_of_mem_take hl)), ht⟩) | exact (fun _ => ⟨by rw [List.length_drop, List.length_take]; unfold maxLen; omega, fun l hl => hzm l (List.mem_of_mem_take (List.mem_of_mem_drop hl)), ht⟩) | done
    refine fin_then ?_
    refine tri_block ?_
    refine tri_rowB 612 1 700 25 (.intss []) (by kernel_rfl) (by kernel_rfl) (by kernel_rfl) (by kernel_rfl) (H' := [(612, .box [.int N, .row 700]), (244, .row 25 (.intss (([] ++ M) ++ L))), (611, .box [.int N, .row 244]), (610, .box [.int N, .intss M])]) (by kernel_rfl) ?_
    refine tri_ren (ρ := [(244, .to 244), (610, .to 610), (611, .to 611), (612, .to 612), (700, .to 700)]) (keys := [2, 3, 4, 10, 11, 12, 13]) (E' := [(2, .int q), (3, .bools t), (4, .pto [.int N, .ls (.intss L)]), (10, .loc 610 0), (11, .loc 611 0), (12, .loc 612 0), (13, .int (((([] ++ M) ++ L).length : Int) - 1))]) (H' := [(244, .row 25 (.intss (([] ++ M) ++ L))), (610, .box [.int N, .intss M]), (611, .box [.int N, .row 244]), (612, .box [.int N, .row 700]), (700, .row 25 (.intss []))]) (by kernel_rfl) ?_
    refine tri_loop (X := Nat) (fun x0 => x0 ≤ (M ++ L).length) (fun x0 => [(2, .int q), (3, .bools t), (4, .pto [.int N, .ls (.intss L)]), (10, .loc 610 0), (11, .loc 611 0), (12, .loc 612 0), (13, .int (((M ++ L).length : Int) - 1 - x0))]) (fun x0 => [(244, .row 25 (.intss (M ++ L))), (610, .box [.int N, .intss M]), (611, .box [.int N, .row 244]), (612, .box [.int N, .row 700]), (700, .row 25 (.intss ((M ++ L).reverse.take x0)))]) (fun x0 => (M ++ L).length - x0) (0) ?_ ?_ ?_ ?_
    ·
     show 0 ≤ (M ++ L).length
     omega
    ·
     exact subE_mk (l := [.int q, .bools t, .pto [.int N, .ls (.intss L)], .loc 610 0, .loc 611 0, .loc 612 0, .int (((([] ++ M) ++ L).length : Int) - 1)]) (m := [.int q, .bools t, .pto [.int N, .ls (.intss L)], .loc 610 0, .loc 611 0, .loc 612 0, .int (((M ++ L).length : Int) - 1 - 0)]) (by kernel_rfl) (by kernel_rfl) (consE rfl (consE rfl (consE rfl (consE rfl (consE rfl (consE rfl (consE (congrArg AV.int (show (((([] ++ M) ++ L).length : Int) - 1) = (((M ++ L).length : Int) - 1 - 0) from (by simp))) rfl)))))))
    ·
     exact Eq.trans (show _ = [(244, .row 25 (.intss (([] ++ M) ++ L))), (610, .box [.int N, .intss M]), (611, .box [.int N, .row 244]), (612, .box [.int N, .row 700]), (700, .row 25 (.intss []))] from by kernel_rfl) (consH (congrArg (fun x => ((244 : Nat), x)) (congrArg (fun x => AObj.row 25 (.intss x)) (show (([] ++ M) ++ L) = (M ++ L) from (by rfl)))) (consH rfl (consH rfl (consH rfl (consH (congrArg (fun x => ((700 : Nat), x)) (congrArg (fun x => AObj.row 25 (.intss x)) (show [] = ((M ++ L).reverse.take 0) from (by rfl)))) rfl)))))
    ·
     intro k hI
     replace hI : k ≤ (M ++ L).length := hI
     change Tri _ [(2, .int q), (3, .bools t), (4, .pto [.int N, .ls (.intss L)]), (10, .loc 610 0), (11, .loc 611 0), (12, .loc 612 0), (13, .int (((M ++ L).length : Int) - 1 - k))] [(244, .row 25 (.intss (M ++ L))), (610, .box [.int N, .intss M]), (611, .box [.int N, .row 244]), (612, .box [.int N, .row 700]), (700, .row 25 (.intss ((M ++ L).reverse.take k)))] _ _
     have hrl : ((M ++ L).reverse.take k).length ≤ 400 := by rw [List.length_take]; omega
     refine tri_seq ?_
     refine tri_seq ?_
     refine tri_regD hcx [] [54] [2, 3, 4, 10, 11, 12, 13] [244, 610, 611, 612, 700] [] [(54, .bool (decide ((((M ++ L).length : Int) - 1 - k) ≥ 0)))] [] (by kernel_rfl) ?_ ?_
     ·
      exact az
     refine fin_then ?_
     refine tri_cond (b := (decide ((((M ++ L).length : Int) - 1 - k) ≥ 0))) (by kernel_rfl) (fun hb2 => ?_) (fun hb2 => ?_)
     ·
      skip
      have h2 := of_decide_eq_true hb2
      refine tri_skip ?_
      refine fin_then ?_
      refine tri_seq ?_
      refine tri_block ?_
      refine tri_drawD [0, 1, 0, 4, 0, 28, 60, 124, 255, 511, 1023] hcx hmx [(612, .to 612), (1008, .to 700)] [] [2, 3, 4, 10, 11, 12, 13] [244, 610, 611] [((0 : Int) ≤ (((M ++ L).length : Int) - 1 - k) ∧ (((M ++ L).length : Int) - 1 - k) < ((M ++ L).length : Int)), (((((M ++ L).length : Int) - 1 - k).toNat) < (M ++ L).length), ((((M ++ L).reverse.take k).length + [((M ++ L).getD ((((M ++ L).length : Int) - 1 - k).toNat) [])].length) * 24 ≤ 140737488355328)] [] [(612, .box [.int N, .row 700]), (700, .row 25 (.intss (((M ++ L).reverse.take k) ++ [((M ++ L).getD ((((M ++ L).length : Int) - 1 - k).toNat) [])])))] (by kernel_rfl) ?_ ?_
      ·
       refine (ap ?_ (ap ?_ (ap ?_ az)))
       all_goals
        first | omega | exact id | exact vcNot | exact vcG | exact vcH | (intro _; omega) | exact (fun _ h => h) | (intro h; simp at h; omega) | (simp only [List.length_cons, List.length_nil, List.length_append, List.length_map, List.length_set, List.length_replicate]; omega) | (intro h; simp [h]; done) | exact hL | exact hM | exact (fun _ => hL) | exact True.intro | (simp only [List.length_cons, List.length_nil]; omega) | exact hat | exact ⟨hz9, hzm, ht⟩ | exact ⟨hL, hLm, ht⟩ | exact (fun _ => ⟨hM, hMm, ht⟩) | exact (fun _ => ⟨by unfold maxLen; omega, fun l hl => hzm l (List.mem_reverse.1 (List.mem_of_mem_take hl)), ht⟩) | exact (fun _ => ⟨by rw [List.length_drop, List.length_take]; unfold maxLen; omega, fun l hl => hzm l (List.mem_of_mem_take (List.mem_of_mem_drop hl)), ht⟩) | done
      refine fin_block ?_
      refine fin_then ?_
      refine tri_regD hcx [] [13] [2, 3, 4, 10, 11, 12] [612, 700, 244, 610, 611] [Fit ((((M ++ L).length : Int) - 1 - k) - 1)] [(13, .int ((((M ++ L).length : Int) - 1 - k) - 1))] [] (by kernel_rfl) ?_ ?_
      ·
       refine (ap ?_ az)
       first | omega | exact id | exact vcNot | exact vcG | exact vcH | (intro _; omega) | exact (fun _ h => h) | (intro h; simp at h; omega) | (simp only [List.length_cons, List.length_nil, List.length_append, List.length_map, List.length_set, List.length_replicate]; omega) | (intro h; simp [h]; done) | exact hL | exact hM | exact (fun _ => hL) | exact True.intro | (simp only [List.length_cons, List.length_nil]; omega) | exact hat | exact ⟨hz9, hzm, ht⟩ | exact ⟨hL, hLm, ht⟩ | exact (fun _ => ⟨hM, hMm, ht⟩) | exact (fun _ => ⟨by unfold maxLen; omega, fun l hl => hzm l (List.mem_reverse.1 (List.mem_of_mem_take hl)), ht⟩) | exact (fun _ => ⟨by rw [List.length_drop, List.length_take]; unfold maxLen; omega, fun l hl => hzm l (List.mem_of_mem_take (List.mem_of_mem_drop hl)), ht⟩) | done
      refine fin_ren (ρ := [(244, .to 244), (610, .to 610), (611, .to 611), (612, .to 612), (700, .to 700)]) (keys := [2, 3, 4, 10, 11, 12, 13]) (E' := [(2, .int q), (3, .bools t), (4, .pto [.int N, .ls (.intss L)]), (10, .loc 610 0), (11, .loc 611 0), (12, .loc 612 0), (13, .int ((((M ++ L).length : Int) - 1 - k) - 1))]) (H' := [(244, .row 25 (.intss (M ++ L))), (610, .box [.int N, .intss M]), (611, .box [.int N, .row 244]), (612, .box [.int N, .row 700]), (700, .row 25 (.intss (((M ++ L).reverse.take k) ++ [((M ++ L).getD ((((M ++ L).length : Int) - 1 - k).toNat) [])])))]) (by kernel_rfl) ?_
      refine fin_round (k + 1) ?_ ?_ ?_ ?_
      ·
       show (k + 1) ≤ (M ++ L).length
       omega
      ·
       show (M ++ L).length - (k + 1) < (M ++ L).length - k
       omega
      ·
       exact subE_mk (l := [.int q, .bools t, .pto [.int N, .ls (.intss L)], .loc 610 0, .loc 611 0, .loc 612 0, .int ((((M ++ L).length : Int) - 1 - k) - 1)]) (m := [.int q, .bools t, .pto [.int N, .ls (.intss L)], .loc 610 0, .loc 611 0, .loc 612 0, .int (((M ++ L).length : Int) - 1 - (k + 1))]) (by kernel_rfl) (by kernel_rfl) (consE rfl (consE rfl (consE rfl (consE rfl (consE rfl (consE rfl (consE (congrArg AV.int (show ((((M ++ L).length : Int) - 1 - k) - 1) = (((M ++ L).length : Int) - 1 - (k + 1)) from (by omega))) rfl)))))))
      ·
       exact Eq.trans (show _ = [(244, .row 25 (.intss (M ++ L))), (610, .box [.int N, .intss M]), (611, .box [.int N, .row 244]), (612, .box [.int N, .row 700]), (700, .row 25 (.intss (((M ++ L).reverse.take k) ++ [((M ++ L).getD ((((M ++ L).length : Int) - 1 - k).toNat) [])])))] from by kernel_rfl) (consH rfl (consH rfl (consH rfl (consH rfl (consH (congrArg (fun x => ((700 : Nat), x)) (congrArg (fun x => AObj.row 25 (.intss x)) (show (((M ++ L).reverse.take k) ++ [((M ++ L).getD ((((M ++ L).length : Int) - 1 - k).toNat) [])]) = ((M ++ L).reverse.take (k + 1)) from (by (rw [show ((((M ++ L).length : Int) - 1 - k).toNat) = (M ++ L).length - 1 - k by omega]; exact Cn.rev_next (by omega)))))) rfl)))))
     ·
      skip
      have h2 := of_decide_eq_false hb2
      refine tri_exit ?_
      refine fin_then_exit ?_
      refine fin_then_exit ?_
      refine fin_block_same ?_
      refine fin_then ?_
      refine tri_seq ?_
      refine tri_regD hcx [] [14] [3, 4, 10, 11, 12] [244, 610, 611, 612, 700] [Fit (((M ++ L).length : Int) + 1), ((((M ++ L).length : Int) + 1) ≠ 0)] [(14, .int ((andI q 65535).tmod (((M ++ L).length : Int) + 1)))] [] (by kernel_rfl) ?_ ?_
      ·
       refine (ap ?_ (ap ?_ az))
       all_goals
        first | omega | exact id | exact vcNot | exact vcG | exact vcH | (intro _; omega) | exact (fun _ h => h) | (intro h; simp at h; omega) | (simp only [List.length_cons, List.length_nil, List.length_append, List.length_map, List.length_set, List.length_replicate]; omega) | (intro h; simp [h]; done) | exact hL | exact hM | exact (fun _ => hL) | exact True.intro | (simp only [List.length_cons, List.length_nil]; omega) | exact hat | exact ⟨hz9, hzm, ht⟩ | exact ⟨hL, hLm, ht⟩ | exact (fun _ => ⟨hM, hMm, ht⟩) | exact (fun _ => ⟨by unfold maxLen; omega, fun l hl => hzm l (List.mem_reverse.1 (List.mem_of_mem_take hl)), ht⟩) | exact (fun _ => ⟨by rw [List.length_drop, List.length_take]; unfold maxLen; omega, fun l hl => hzm l (List.mem_of_mem_take (List.mem_of_mem_drop hl)), ht⟩) | done
      refine fin_then ?_
      refine tri_seq ?_
      refine tri_ren (ρ := [(610, .to 610), (611, .to 611), (612, .to 612), (244, .frz), (700, .frz)]) (keys := [14, 3, 4, 10, 11, 12]) (E' := [(14, .int ((andI q 65535).tmod (((M ++ L).length : Int) + 1))), (3, .bools t), (4, .pto [.int N, .ls (.intss L)]), (10, .loc 610 0), (11, .loc 611 0), (12, .loc 612 0)]) (H' := [(610, .box [.int N, .intss M]), (611, .box [.int N, .intss (M ++ L)]), (612, .box [.int N, .intss ((M ++ L).reverse.take k)])]) (by kernel_rfl) ?_
      refine tri_drawD [0, 1, 0, 4, 0, 28, 63, 0, 255] hcx hmx [(1007, .to 615)] [15] [3, 4, 10, 11, 12] [610, 611, 612] [((0 : Int) ≤ ((andI q 65535).tmod (((M ++ L).length : Int) + 1)) ∧ ((andI q 65535).tmod (((M ++ L).length : Int) + 1)) ≤ ((M ++ L).length : Int))] [(15, .loc 615 0)] [(615, .box [.int N, .intss (((M ++ L).take (((andI q 65535).tmod (((M ++ L).length : Int) + 1)).toNat)).drop 0)])] (by kernel_rfl) ?_ ?_
      ·
       refine (ap ?_ az)
       first | omega | exact id | exact vcNot | exact vcG | exact vcH | (intro _; omega) | exact (fun _ h => h) | (intro h; simp at h; omega) | (simp only [List.length_cons, List.length_nil, List.length_append, List.length_map, List.length_set, List.length_replicate]; omega) | (intro h; simp [h]; done) | exact hL | exact hM | exact (fun _ => hL) | exact True.intro | (simp only [List.length_cons, List.length_nil]; omega) | exact hat | exact ⟨hz9, hzm, ht⟩ | exact ⟨hL, hLm, ht⟩ | exact (fun _ => ⟨hM, hMm, ht⟩) | exact (fun _ => ⟨by unfold maxLen; omega, fun l hl => hzm l (List.mem_reverse.1 (List.mem_of_mem_take hl)), ht⟩) | exact (fun _ => ⟨by rw [List.length_drop, List.length_take]; unfold maxLen; omega, fun l hl => hzm l (List.mem_of_mem_take (List.mem_of_mem_drop hl)), ht⟩) | done
      refine fin_then ?_
      refine tri_seq ?_
      refine tri_regD hcx [] [16] [15, 3, 4, 10, 12] [615, 610, 612] [((M ++ L).length ≤ maxLen ∧ (∀ l ∈ (M ++ L), l.length ≤ maxLen) ∧ t.length ≤ maxLen)] [(16, .bool (Cn.valV N (M ++ L) t))] [] (by kernel_rfl) ?_ ?_
      ·
       refine (ap ?_ az)
       first | omega | exact id | exact vcNot | exact vcG | exact vcH | (intro _; omega) | exact (fun _ h => h) | (intro h; simp at h; omega) | (simp only [List.length_cons, List.length_nil, List.length_append, List.length_map, List.length_set, List.length_replicate]; omega) | (intro h; simp [h]; done) | exact hL | exact hM | exact (fun _ => hL) | exact True.intro | (simp only [List.length_cons, List.length_nil]; omega) | exact hat | exact ⟨hz9, hzm, ht⟩ | exact ⟨hL, hLm, ht⟩ | exact (fun _ => ⟨hM, hMm, ht⟩) | exact (fun _ => ⟨by unfold maxLen; omega, fun l hl => hzm l (List.mem_reverse.1 (List.mem_of_mem_take hl)), ht⟩) | exact (fun _ => ⟨by rw [List.length_drop, List.length_take]; unfold maxLen; omega, fun l hl => hzm l (List.mem_of_mem_take (List.mem_of_mem_drop hl)), ht⟩) | done
      refine fin_then ?_
      refine tri_seq ?_
      refine tri_regD hcx [] [8] [] [] [(L.length ≤ maxLen ∧ (∀ l ∈ L, l.length ≤ maxLen) ∧ t.length ≤ maxLen), ((Cn.valV N L t) = true → ((Cn.valV N L t) = true)), ((Cn.valV N L t) = true → ((Cn.valV N L t) = true)), ((Cn.valV N L t) = true → (M.length ≤ maxLen ∧ (∀ l ∈ M, l.length ≤ maxLen) ∧ t.length ≤ maxLen)), ((Cn.valV N L t) = true → (Cn.valV N L t) = true), (((Cn.valV N (M ++ L) t) == ((Cn.valV N L t) && (Cn.valV N M t))) = true → (((Cn.valV N (M ++ L) t) == ((Cn.valV N L t) && (Cn.valV N M t))) = true)), (((Cn.valV N (M ++ L) t) == ((Cn.valV N L t) && (Cn.valV N M t))) = true → (((Cn.valV N (M ++ L) t) == ((Cn.valV N L t) && (Cn.valV N M t))) = true)), (((Cn.valV N (M ++ L) t) == ((Cn.valV N L t) && (Cn.valV N M t))) = true → (((M ++ L).reverse.take k).length ≤ maxLen ∧ (∀ l ∈ ((M ++ L).reverse.take k), l.length ≤ maxLen) ∧ t.length ≤ maxLen)), (((Cn.valV N (M ++ L) t) == ((Cn.valV N L t) && (Cn.valV N M t))) = true → (((Cn.valV N (M ++ L) t) == ((Cn.valV N L t) && (Cn.valV N M t))) = true)), (((Cn.valV N (M ++ L) t) == ((Cn.valV N L t) && (Cn.valV N M t))) = true → (((Cn.valV N (M ++ L) t) == ((Cn.valV N L t) && (Cn.valV N M t))) = true)), (((Cn.valV N (M ++ L) t) == ((Cn.valV N L t) && (Cn.valV N M t))) = true → ((Cn.valV N (M ++ L) t) == ((Cn.valV N L t) && (Cn.valV N M t))) = true), ((((Cn.valV N (M ++ L) t) == ((Cn.valV N L t) && (Cn.valV N M t))) && ((Cn.valV N (M ++ L) t) == (Cn.valV N ((M ++ L).reverse.take k) t))) = true → ((((Cn.valV N (M ++ L) t) == ((Cn.valV N L t) && (Cn.valV N M t))) && ((Cn.valV N (M ++ L) t) == (Cn.valV N ((M ++ L).reverse.take k) t))) = true)), ((((Cn.valV N (M ++ L) t) == ((Cn.valV N L t) && (Cn.valV N M t))) && ((Cn.valV N (M ++ L) t) == (Cn.valV N ((M ++ L).reverse.take k) t))) = true → ((((Cn.valV N (M ++ L) t) == ((Cn.valV N L t) && (Cn.valV N M t))) && ((Cn.valV N (M ++ L) t) == (Cn.valV N ((M ++ L).reverse.take k) t))) = true)), (((((Cn.valV N (M ++ L) t) == ((Cn.valV N L t) && (Cn.valV N M t))) && ((Cn.valV N (M ++ L) t) == (Cn.valV N ((M ++ L).reverse.take k) t))) && (!(!(Cn.valV N (M ++ L) t)))) = true → (((((Cn.valV N (M ++ L) t) == ((Cn.valV N L t) && (Cn.valV N M t))) && ((Cn.valV N (M ++ L) t) == (Cn.valV N ((M ++ L).reverse.take k) t))) && (!(!(Cn.valV N (M ++ L) t)))) = true)), (((((Cn.valV N (M ++ L) t) == ((Cn.valV N L t) && (Cn.valV N M t))) && ((Cn.valV N (M ++ L) t) == (Cn.valV N ((M ++ L).reverse.take k) t))) && (!(!(Cn.valV N (M ++ L) t)))) = true → (((((Cn.valV N (M ++ L) t) == ((Cn.valV N L t) && (Cn.valV N M t))) && ((Cn.valV N (M ++ L) t) == (Cn.valV N ((M ++ L).reverse.take k) t))) && (!(!(Cn.valV N (M ++ L) t)))) = true)), (((((Cn.valV N (M ++ L) t) == ((Cn.valV N L t) && (Cn.valV N M t))) && ((Cn.valV N (M ++ L) t) == (Cn.valV N ((M ++ L).reverse.take k) t))) && (!(!(Cn.valV N (M ++ L) t)))) = true → ((((M ++ L).take (((andI q 65535).tmod (((M ++ L).length : Int) + 1)).toNat)).drop 0).length ≤ maxLen ∧ (∀ l ∈ (((M ++ L).take (((andI q 65535).tmod (((M ++ L).length : Int) + 1)).toNat)).drop 0), l.length ≤ maxLen) ∧ t.length ≤ maxLen)), ((((Cn.valV N (M ++ L) t) == ((Cn.valV N L t) && (Cn.valV N M t))) && ((Cn.valV N (M ++ L) t) == (Cn.valV N ((M ++ L).reverse.take k) t))) = true → ((((Cn.valV N (M ++ L) t) == ((Cn.valV N L t) && (Cn.valV N M t))) && ((Cn.valV N (M ++ L) t) == (Cn.valV N ((M ++ L).reverse.take k) t))) = true)), ((((Cn.valV N (M ++ L) t) == ((Cn.valV N L t) && (Cn.valV N M t))) && ((Cn.valV N (M ++ L) t) == (Cn.valV N ((M ++ L).reverse.take k) t))) = true → ((!(Cn.valV N (M ++ L) t)) = false → ((((Cn.valV N (M ++ L) t) == ((Cn.valV N L t) && (Cn.valV N M t))) && ((Cn.valV N (M ++ L) t) == (Cn.valV N ((M ++ L).reverse.take k) t))) && (!(!(Cn.valV N (M ++ L) t)))) = true)), ((((Cn.valV N (M ++ L) t) == ((Cn.valV N L t) && (Cn.valV N M t))) && ((Cn.valV N (M ++ L) t) == (Cn.valV N ((M ++ L).reverse.take k) t))) = true → (((Cn.valV N (M ++ L) t) == ((Cn.valV N L t) && (Cn.valV N M t))) && ((Cn.valV N (M ++ L) t) == (Cn.valV N ((M ++ L).reverse.take k) t))) = true)] [(8, .bool ((((Cn.valV N (M ++ L) t) == ((Cn.valV N L t) && (Cn.valV N M t))) && ((Cn.valV N (M ++ L) t) == (Cn.valV N ((M ++ L).reverse.take k) t))) && ((!(Cn.valV N (M ++ L) t)) || (Cn.valV N (((M ++ L).take (((andI q 65535).tmod (((M ++ L).length : Int) + 1)).toNat)).drop 0) t))))] [] (by kernel_rfl) ?_ ?_
      ·
       refine (ap ?_ (ap ?_ (ap ?_ (ap ?_ (ap (by exact id) (ap ?_ (ap ?_ (ap ?_ (ap ?_ (ap ?_ (ap (by exact id) (ap ?_ (ap ?_ (ap ?_ (ap ?_ (ap ?_ (ap ?_ (ap ?_ (ap (by exact id) az)))))))))))))))))))
       all_goals
        first | omega | exact id | exact vcNot | exact vcG | exact vcH | (intro _; omega) | exact (fun _ h => h) | (intro h; simp at h; omega) | (simp only [List.length_cons, List.length_nil, List.length_append, List.length_map, List.length_set, List.length_replicate]; omega) | (intro h; simp [h]; done) | exact hL | exact hM | exact (fun _ => hL) | exact True.intro | (simp only [List.length_cons, List.length_nil]; omega) | exact hat | exact ⟨hz9, hzm, ht⟩ | exact ⟨hL, hLm, ht⟩ | exact (fun _ => ⟨hM, hMm, ht⟩) | exact (fun _ => ⟨by unfold maxLen; omega, fun l hl => hzm l (List.mem_reverse.1 (List.mem_of_mem_take hl)), ht⟩) | exact (fun _ => ⟨by rw [List.length_drop, List.length_take]; unfold maxLen; omega, fun l hl => hzm l (List.mem_of_mem_take (List.mem_of_mem_drop hl)), ht⟩) | done
      refine fin_then ?_
      refine tri_ret ?_
      exact fin_ret [] rfl rfl trivial hcx (avs := [.bool ((((Cn.valV N (M ++ L) t) == ((Cn.valV N L t) && (Cn.valV N M t))) && ((Cn.valV N (M ++ L) t) == (Cn.valV N ((M ++ L).reverse.take k) t))) && ((!(Cn.valV N (M ++ L) t)) || (Cn.valV N (((M ++ L).take (((andI q 65535).tmod (((M ++ L).length : Int) + 1)).toNat)).drop 0) t)))]) (by kernel_rfl) (congrArg AV.bool (show ((((Cn.valV N (M ++ L) t) == ((Cn.valV N L t) && (Cn.valV N M t))) && ((Cn.valV N (M ++ L) t) == (Cn.valV N ((M ++ L).reverse.take k) t))) && ((!(Cn.valV N (M ++ L) t)) || (Cn.valV N (((M ++ L).take (((andI q 65535).tmod (((M ++ L).length : Int) + 1)).toNat)).drop 0) t))) = true from (by first | exact Cn.con_fin (by omega) (by omega) | rfl | done))) [] rfl
 ·
  cases hσ
end Go.Proofs.YtiokflebeojokaaGreatDoor.En
