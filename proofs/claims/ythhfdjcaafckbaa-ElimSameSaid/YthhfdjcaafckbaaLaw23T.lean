/- More laws of layer 23, in the reader's words. -/
import Derived.Test.YthhfdjcaafckbaaLaw23S
import Derived.Test.YthhfdjcaafckbaaLaw23Q
import Derived.Test.YthhfdjcaafckbaaAllX
import Derived.Test.YthhfdjcaafckbaaEngFrz
namespace Go.Proofs.Ythhfdjcaafckbaa.En
open Go Go.RowKit
set_option linter.unusedVariables false
set_option linter.unusedSimpArgs false
set_option linter.unnecessarySimpa false
def tyL23T : List (Nat × TD) := [(3, ⟨1, false, [.int .i64 0], [], none, 8, false, 1, 1⟩),
  (4, ⟨1, false, [.bool false], [], none, 1, true, 0, 2⟩),
  (22, ⟨1, false, [.slice none 0 0], [], some 43, 24, false, 0, 0⟩),
  (24, ⟨2, true, [.int .i64 0, .slice none 0 0], [(0, 3), (1, 22)], none, 32, false, 0, 6⟩),
  (28, ⟨2, true, [.int .i64 0, .slice none 0 0], [(0, 3), (1, 22)], none, 32, false, 0, 6⟩),
  (29, ⟨1, false, [.int .i64 0], [], none, 8, false, 1, 1⟩),
  (34, ⟨1, false, [.slice none 0 0], [], some 28, 24, false, 0, 0⟩),
  (36, ⟨1, false, [.slice none 0 0], [], some 4, 24, false, 0, 0⟩),
  (43, ⟨1, false, [.slice none 0 0], [], some 3, 24, false, 0, 3⟩)]
theorem tyL23T_ok : AllTy Try.prog tyL23T := ⟨⟨by kernel_rfl, by kernel_rfl⟩, ⟨by kernel_rfl, by kernel_rfl⟩, ⟨by kernel_rfl, by kernel_rfl⟩, ⟨by kernel_rfl, by kernel_rfl⟩, ⟨by kernel_rfl, by kernel_rfl⟩, ⟨by kernel_rfl, by kernel_rfl⟩, ⟨by kernel_rfl, by kernel_rfl⟩, ⟨by kernel_rfl, by kernel_rfl⟩, ⟨by kernel_rfl, by kernel_rfl⟩, trivial⟩
def cx_elimSame : Cx := ⟨tyL23T, [(12, (frzF (coeF [.agg [.id, .ld (.intss [])], .id] eOutF_σ))), (18, (frzF (coeF [.ld (.undos []), .ld (.bools [])] eBack_σ))), (11, (coeF [.agg [.id, .ld (.intss [])], .id, .id] qFew_σ)), (21, (coeF [.agg [.id, .ld (.intss [])], .ld (.bools [])] cValue_σ)), (20, sAll), (10, live23_σ)]⟩
theorem cx_elimSame_ok : CxOk Try.prog cx_elimSame := cx_ok tyL23T_ok ⟨((eOutF_sound.coe [.agg [.id, .ld (.intss [])], .id] rfl)).frz, ((eBack_sound.coe [.ld (.undos []), .ld (.bools [])] rfl)).frz, (qFew_sound.coe [.agg [.id, .ld (.intss [])], .id, .id] rfl), (cValue_sound.coe [.agg [.id, .ld (.intss [])], .ld (.bools [])] rfl), sAll_sound, live23_sound, trivial⟩
def elimSame_σ : CtF
  | [.agg [.im (.val (.int .i64 N)), .im (.ls (.intss L))], .im (.val (.int .i64 v))], [] => some (L.length ≤ maxLen, .bool true, [])
  | _, _ => none
set_option maxRecDepth 20000 in
theorem elimSame_sound : Sound Try.prog 5 elimSame_σ := by
  refine sound_mk (cx := cx_elimSame) (fn := Try.f5) Try.func5 (by kernel_rfl) rfl ?_
  intro w0 G0 args os p r outs hσ hp hm0 hd0
  have hcx : CxOk Try.prog cx_elimSame := cx_elimSame_ok
  have hmx : Try.prog.follows .mixedOrders = true := by kernel_rfl
  unfold elimSame_σ at hσ
  split at hσ
  · rename_i N L v
    simp only [Option.some.injEq, Prod.mk.injEq] at hσ
    obtain ⟨rfl, rfl, rfl⟩ := hσ
    obtain ⟨wW, wO, wm, wβ, wd⟩ := w0
    replace hm0 : wm = 0 := hm0
    subst hm0
    replace hd0 : wd = [] := hd0
    subst hd0
    refine ⟨by kernel_rfl, ?_⟩
    change Tri ⟨_, _, _, _, _, _⟩ [(0, .agg [.int N, .intss L]), (1, .int v)] [] _ _
    refine tri_seq ?_
    refine tri_regD hcx [(1000, .frz)] [2] [1] [] [] [(2, .pto [.int N, .ls (.intss L)])] [] (by kernel_rfl) ?_ ?_
    · exact az
    refine fin_then ?_
    refine tri_seq ?_
    refine tri_seq ?_
    refine tri_regD hcx [] [13] [2, 1] [] [(True)] [(13, .bool (!true))] [] (by kernel_rfl) ?_ ?_
    · refine (ap ?_ az)
      first | omega | exact True.intro | exact id | exact hp | exact (fun _ h => h) | exact ⟨hp, by decide, by decide⟩ | exact ⟨hc1, hc2⟩ | omega | (constructor <;> omega) | exact ⟨by omega, by omega, by omega, by omega⟩ | (rw [allV_len]; omega) | exact ⟨hX.1, hX.2, hal m⟩ | exact ⟨hp, hlm, hal m⟩ | exact (fun _ => ⟨hp, hlm, by rw [List.length_set]; exact hal m⟩) | exact (fun _ => ⟨by show (1 : Nat) ≤ maxLen; decide, fun w hw => by rw [List.mem_singleton] at hw; subst hw; exact hU, by have := hal8 m; omega⟩) | exact (fun _ => ⟨hp, hlm, Nat.le_trans (Cn.fold_len (l := [(Cn.ouV N L v, Cn.ouU N L v)].reverse) (by have := hal8 m; omega)) (by decide)⟩)
    refine fin_then ?_
    refine tri_cond (b := (!true)) (by kernel_rfl) (fun hb0 => ?_) (fun hb0 => ?_)
    · skip
      have h0 := hb0
      cases h0
    · skip
      have h0 := (notB_f hb0)
      refine tri_skip ?_
      refine fin_then ?_
      refine tri_seq ?_
      refine tri_seq ?_
      refine tri_regD hcx [] [16] [2, 1] [] [(L.length ≤ maxLen ∧ 0 ≤ (30 : Int) ∧ (30 : Int) ≤ 1000000)] [(16, .bool (!(Cn.fewB N L (8 : Int) (30 : Int))))] [] (by kernel_rfl) ?_ ?_
      · refine (ap ?_ az)
        first | omega | exact True.intro | exact id | exact hp | exact (fun _ h => h) | exact ⟨hp, by decide, by decide⟩ | exact ⟨hc1, hc2⟩ | omega | (constructor <;> omega) | exact ⟨by omega, by omega, by omega, by omega⟩ | (rw [allV_len]; omega) | exact ⟨hX.1, hX.2, hal m⟩ | exact ⟨hp, hlm, hal m⟩ | exact (fun _ => ⟨hp, hlm, by rw [List.length_set]; exact hal m⟩) | exact (fun _ => ⟨by show (1 : Nat) ≤ maxLen; decide, fun w hw => by rw [List.mem_singleton] at hw; subst hw; exact hU, by have := hal8 m; omega⟩) | exact (fun _ => ⟨hp, hlm, Nat.le_trans (Cn.fold_len (l := [(Cn.ouV N L v, Cn.ouU N L v)].reverse) (by have := hal8 m; omega)) (by decide)⟩)
      refine fin_then ?_
      refine tri_cond (b := (!(Cn.fewB N L (8 : Int) (30 : Int)))) (by kernel_rfl) (fun hb1 => ?_) (fun hb1 => ?_)
      · skip
        have h1 := (notB_t hb1)
        refine tri_seq ?_
        refine tri_regD hcx [] [4] [] [] [] [(4, .bool true)] [] (by kernel_rfl) ?_ ?_
        · exact az
        refine fin_then ?_
        refine tri_ret ?_
        refine fin_then_ret ?_
        exact fin_ret [] rfl rfl trivial hcx (avs := [.bool true]) (by kernel_rfl) rfl [] rfl
      · skip
        have h1 := hb1
        have hfw := Cn.few_iff (by simpa using h1)
        have hc1 : L.length ≤ 10000 := by have := hfw.2.1; omega
        have hc2 : ∀ l ∈ L, l.length ≤ 1000 := fun l hl => by have := hfw.2.2 l hl; omega
        have hX := Cn.ouX_bd (N := N) (v := v) hc1 hc2
        have hU := Cn.ouU_bd (N := N) (v := v) hc1 hc2
        refine tri_skip ?_
        refine fin_then ?_
        refine tri_seq ?_
        refine tri_regD hcx [(1007, .to 605), (1008, .to 606)] [5, 6, 7] [2, 1] [] [(L.length ≤ 10000 ∧ (∀ l ∈ L, l.length ≤ 1000))] [(5, .loc 605 0), (6, .loc 606 0), (7, .int (Cn.ouE N L v))] [(605, .box [.int (Cn.ouN N L v), .intss (Cn.ouX N L v)]), (606, .box [.int (Cn.ouV N L v), .intss (Cn.ouU N L v)])] (by kernel_rfl) ?_ ?_
        · refine (ap ?_ az)
          first | omega | exact True.intro | exact id | exact hp | exact (fun _ h => h) | exact ⟨hp, by decide, by decide⟩ | exact ⟨hc1, hc2⟩ | omega | (constructor <;> omega) | exact ⟨by omega, by omega, by omega, by omega⟩ | (rw [allV_len]; omega) | exact ⟨hX.1, hX.2, hal m⟩ | exact ⟨hp, hlm, hal m⟩ | exact (fun _ => ⟨hp, hlm, by rw [List.length_set]; exact hal m⟩) | exact (fun _ => ⟨by show (1 : Nat) ≤ maxLen; decide, fun w hw => by rw [List.mem_singleton] at hw; subst hw; exact hU, by have := hal8 m; omega⟩) | exact (fun _ => ⟨hp, hlm, Nat.le_trans (Cn.fold_len (l := [(Cn.ouV N L v, Cn.ouU N L v)].reverse) (by have := hal8 m; omega)) (by decide)⟩)
        refine fin_then ?_
        refine tri_seq ?_
        refine tri_seq ?_
        refine tri_regD hcx [] [25] [5, 6, 2, 1] [605, 606] [] [(25, .bool ((Cn.ouE N L v) != 0))] [] (by kernel_rfl) ?_ ?_
        · exact az
        refine fin_then ?_
        refine tri_cond (b := ((Cn.ouE N L v) != 0)) (by kernel_rfl) (fun hb2 => ?_) (fun hb2 => ?_)
        · skip
          have h2 := bne_iff_ne.1 hb2
          obtain ⟨hA, hB, hC, hD, hE⟩ := Cn.ou_no (e := Cn.ouE N L v) rfl h2
          refine tri_seq ?_
          refine tri_regD hcx [] [4] [] [] [((((Cn.ouX N L v).length : Int) == 0) = true → ((((Cn.ouX N L v).length : Int) == 0) = true)), ((((Cn.ouX N L v).length : Int) == 0) = true → ((((Cn.ouX N L v).length : Int) == 0) = true)), ((((Cn.ouX N L v).length : Int) == 0) = true → ((((Cn.ouX N L v).length : Int) == 0) = true)), ((((Cn.ouX N L v).length : Int) == 0) = true → (((Cn.ouX N L v).length : Int) == 0) = true)] [(4, .bool ((((Cn.ouX N L v).length : Int) == 0) && (((Cn.ouU N L v).length : Int) == 0)))] [] (by kernel_rfl) ?_ ?_
          · refine (ap ?_ (ap ?_ (ap ?_ (ap (by exact id) az))))
            all_goals
              first | omega | exact True.intro | exact id | exact hp | exact (fun _ h => h) | exact ⟨hp, by decide, by decide⟩ | exact ⟨hc1, hc2⟩ | omega | (constructor <;> omega) | exact ⟨by omega, by omega, by omega, by omega⟩ | (rw [allV_len]; omega) | exact ⟨hX.1, hX.2, hal m⟩ | exact ⟨hp, hlm, hal m⟩ | exact (fun _ => ⟨hp, hlm, by rw [List.length_set]; exact hal m⟩) | exact (fun _ => ⟨by show (1 : Nat) ≤ maxLen; decide, fun w hw => by rw [List.mem_singleton] at hw; subst hw; exact hU, by have := hal8 m; omega⟩) | exact (fun _ => ⟨hp, hlm, Nat.le_trans (Cn.fold_len (l := [(Cn.ouV N L v, Cn.ouU N L v)].reverse) (by have := hal8 m; omega)) (by decide)⟩)
          refine fin_then ?_
          refine tri_ret ?_
          refine fin_then_ret ?_
          exact fin_ret [] rfl rfl trivial hcx (avs := [.bool ((((Cn.ouX N L v).length : Int) == 0) && (((Cn.ouU N L v).length : Int) == 0))]) (by kernel_rfl) (congrArg AV.bool (show ((((Cn.ouX N L v).length : Int) == 0) && (((Cn.ouU N L v).length : Int) == 0)) = true from (by rw [hB, hD]; rfl))) [] rfl
        · skip
          have h2 := bneF hb2
          obtain ⟨hc0, hv1, hv2, hs, hA, hB, hC, hD⟩ := Cn.ou_yes (by simpa using h2)
          have hN := Cn.chkV_0.1 hc0
          have hp2 := Cn.two_pow8 (n := N.toNat) (by omega)
          have hal8 : ∀ m : Nat, (allV N.toNat (m : Int)).length ≤ 9 := fun m => by rw [allV_len]; omega
          have hal : ∀ m : Nat, (allV N.toNat (m : Int)).length ≤ maxLen := fun m => by have := hal8 m; unfold maxLen; omega
          have hlm : ∀ l ∈ L, l.length ≤ maxLen := fun l hl => by have := hc2 l hl; unfold maxLen; omega
          refine tri_skip ?_
          refine fin_then ?_
          refine tri_seq ?_
          refine tri_seq ?_
          refine tri_regD hcx [] [43] [5, 6, 2, 1] [605, 606] [((!(decide (v < 1))) = true → ((!(decide (v < 1))) = true)), ((!(decide (v < 1))) = true → ((!(decide (v < 1))) = true)), ((!(decide (v < 1))) = true → ((!(decide (v < 1))) = true)), ((decide (v < 1)) = false → (!(decide (v < 1))) = true)] [(43, .bool ((decide (v < 1)) || (decide (v > N))))] [] (by kernel_rfl) ?_ ?_
          · refine (ap ?_ (ap ?_ (ap ?_ (ap (by exact vcNot) az))))
            all_goals
              first | omega | exact True.intro | exact id | exact hp | exact (fun _ h => h) | exact ⟨hp, by decide, by decide⟩ | exact ⟨hc1, hc2⟩ | omega | (constructor <;> omega) | exact ⟨by omega, by omega, by omega, by omega⟩ | (rw [allV_len]; omega) | exact ⟨hX.1, hX.2, hal m⟩ | exact ⟨hp, hlm, hal m⟩ | exact (fun _ => ⟨hp, hlm, by rw [List.length_set]; exact hal m⟩) | exact (fun _ => ⟨by show (1 : Nat) ≤ maxLen; decide, fun w hw => by rw [List.mem_singleton] at hw; subst hw; exact hU, by have := hal8 m; omega⟩) | exact (fun _ => ⟨hp, hlm, Nat.le_trans (Cn.fold_len (l := [(Cn.ouV N L v, Cn.ouU N L v)].reverse) (by have := hal8 m; omega)) (by decide)⟩)
          refine fin_then ?_
          refine tri_cond (b := ((decide (v < 1)) || (decide (v > N)))) (by kernel_rfl) (fun hb3 => ?_) (fun hb3 => ?_)
          · skip
            have h3 := hb3
            try simp only [Bool.or_eq_true, Bool.or_eq_false_iff, Bool.and_eq_true, Bool.and_eq_false_iff, Bool.not_eq_true', Bool.not_eq_false', decide_eq_true_eq, decide_eq_false_iff_not, bne_iff_ne, bne_eq_false_iff_eq, beq_iff_eq, beq_eq_false_iff_ne] at h3
            exfalso; omega
          · skip
            have h3 := hb3
            try simp only [Bool.or_eq_true, Bool.or_eq_false_iff, Bool.and_eq_true, Bool.and_eq_false_iff, Bool.not_eq_true', Bool.not_eq_false', decide_eq_true_eq, decide_eq_false_iff_not, bne_iff_ne, bne_eq_false_iff_eq, beq_iff_eq, beq_eq_false_iff_ne] at h3
            refine tri_skip ?_
            refine fin_then ?_
            refine tri_seq ?_
            refine tri_seq ?_
            refine tri_regD hcx [] [46, 47] [5, 6, 2, 1] [605, 606] [((0 : Int) ≤ N ∧ N ≤ 64 ∧ Fit (1 * 2 ^ N.toNat))] [(46, .int (1 * 2 ^ N.toNat)), (47, .int 0)] [] (by kernel_rfl) ?_ ?_
            · refine (ap ?_ az)
              first | omega | exact True.intro | exact id | exact hp | exact (fun _ h => h) | exact ⟨hp, by decide, by decide⟩ | exact ⟨hc1, hc2⟩ | omega | (constructor <;> omega) | exact ⟨by omega, by omega, by omega, by omega⟩ | (rw [allV_len]; omega) | exact ⟨hX.1, hX.2, hal m⟩ | exact ⟨hp, hlm, hal m⟩ | exact (fun _ => ⟨hp, hlm, by rw [List.length_set]; exact hal m⟩) | exact (fun _ => ⟨by show (1 : Nat) ≤ maxLen; decide, fun w hw => by rw [List.mem_singleton] at hw; subst hw; exact hU, by have := hal8 m; omega⟩) | exact (fun _ => ⟨hp, hlm, Nat.le_trans (Cn.fold_len (l := [(Cn.ouV N L v, Cn.ouU N L v)].reverse) (by have := hal8 m; omega)) (by decide)⟩)
            refine fin_then ?_
            refine tri_block ?_
            refine tri_loop (X := Nat) (fun x0 => (x0 : Int) ≤ 1 * 2 ^ N.toNat) (fun x0 => [(1, .int v), (2, .pto [.int N, .ls (.intss L)]), (5, .loc 605 0), (6, .loc 606 0), (46, .int (1 * 2 ^ N.toNat)), (47, .int (x0 : Int))]) (fun x0 => [(605, .box [.int (Cn.ouN N L v), .intss (Cn.ouX N L v)]), (606, .box [.int (Cn.ouV N L v), .intss (Cn.ouU N L v)])]) (fun x0 => (1 * 2 ^ N.toNat : Int).toNat - x0) (0) ?_ ?_ ?_ ?_
            · show (0 : Int) ≤ 1 * 2 ^ N.toNat
              omega
            · exact subE_mk (l := [.int v, .pto [.int N, .ls (.intss L)], .loc 605 0, .loc 606 0, .int (1 * 2 ^ N.toNat), .int 0]) (m := [.int v, .pto [.int N, .ls (.intss L)], .loc 605 0, .loc 606 0, .int (1 * 2 ^ N.toNat), .int (0 : Int)]) (by kernel_rfl) (by kernel_rfl) (consE rfl (consE rfl (consE rfl (consE rfl (consE rfl (consE (congrArg AV.int (show 0 = (0 : Int) from (by first | rfl | omega | (simp; done)))) rfl))))))
            · kernel_rfl
            · intro m hI
              replace hI : (m : Int) ≤ 1 * 2 ^ N.toNat := hI
              change Tri _ [(1, .int v), (2, .pto [.int N, .ls (.intss L)]), (5, .loc 605 0), (6, .loc 606 0), (46, .int (1 * 2 ^ N.toNat)), (47, .int (m : Int))] [(605, .box [.int (Cn.ouN N L v), .intss (Cn.ouX N L v)]), (606, .box [.int (Cn.ouV N L v), .intss (Cn.ouU N L v)])] _ _
              refine tri_seq ?_
              refine tri_regD hcx [] [48] [1, 2, 5, 6, 46, 47] [605, 606] [] [(48, .bool (decide ((m : Int) < (1 * 2 ^ N.toNat))))] [] (by kernel_rfl) ?_ ?_
              · exact az
              refine fin_then ?_
              refine tri_seq ?_
              refine tri_cond (b := (decide ((m : Int) < (1 * 2 ^ N.toNat)))) (by kernel_rfl) (fun hb4 => ?_) (fun hb4 => ?_)
              · skip
                have h4 := of_decide_eq_true hb4
                refine tri_skip ?_
                refine fin_then ?_
                refine tri_seq ?_
                refine tri_block ?_
                refine tri_seq ?_
                refine tri_regD hcx [] [8] [1, 2, 5, 6, 46, 47] [605, 606] [] [(8, .int (m : Int))] [] (by kernel_rfl) ?_ ?_
                · exact az
                refine fin_then ?_
                refine tri_seq ?_
                refine tri_regD hcx [(1003, .frz)] [9] [8, 1, 2, 5, 6, 46, 47] [605, 606] [(0 ≤ N ∧ N ≤ 60)] [(9, .bools (allV N.toNat (m : Int)))] [] (by kernel_rfl) ?_ ?_
                · refine (ap ?_ az)
                  first | omega | exact True.intro | exact id | exact hp | exact (fun _ h => h) | exact ⟨hp, by decide, by decide⟩ | exact ⟨hc1, hc2⟩ | omega | (constructor <;> omega) | exact ⟨by omega, by omega, by omega, by omega⟩ | (rw [allV_len]; omega) | exact ⟨hX.1, hX.2, hal m⟩ | exact ⟨hp, hlm, hal m⟩ | exact (fun _ => ⟨hp, hlm, by rw [List.length_set]; exact hal m⟩) | exact (fun _ => ⟨by show (1 : Nat) ≤ maxLen; decide, fun w hw => by rw [List.mem_singleton] at hw; subst hw; exact hU, by have := hal8 m; omega⟩) | exact (fun _ => ⟨hp, hlm, Nat.le_trans (Cn.fold_len (l := [(Cn.ouV N L v, Cn.ouU N L v)].reverse) (by have := hal8 m; omega)) (by decide)⟩)
                refine fin_then ?_
                refine tri_seq ?_
                refine tri_regD hcx [(1003, .to 257)] [10] [9, 1, 2, 5, 6, 46, 47] [605, 606] [(0 ≤ N ∧ N ≤ 60)] [(10, .row 257)] [(257, .row 4 (.bools (allV N.toNat (m : Int))))] (by kernel_rfl) ?_ ?_
                · refine (ap ?_ az)
                  first | omega | exact True.intro | exact id | exact hp | exact (fun _ h => h) | exact ⟨hp, by decide, by decide⟩ | exact ⟨hc1, hc2⟩ | omega | (constructor <;> omega) | exact ⟨by omega, by omega, by omega, by omega⟩ | (rw [allV_len]; omega) | exact ⟨hX.1, hX.2, hal m⟩ | exact ⟨hp, hlm, hal m⟩ | exact (fun _ => ⟨hp, hlm, by rw [List.length_set]; exact hal m⟩) | exact (fun _ => ⟨by show (1 : Nat) ≤ maxLen; decide, fun w hw => by rw [List.mem_singleton] at hw; subst hw; exact hU, by have := hal8 m; omega⟩) | exact (fun _ => ⟨hp, hlm, Nat.le_trans (Cn.fold_len (l := [(Cn.ouV N L v, Cn.ouU N L v)].reverse) (by have := hal8 m; omega)) (by decide)⟩)
                refine fin_then ?_
                refine tri_seq ?_
                refine tri_regD hcx [(257, .to 257)] [] [10, 9, 1, 2, 5, 6, 46, 47] [605, 606] [((0 : Int) ≤ v ∧ v < ((allV N.toNat (m : Int)).length : Int)), (v.toNat < (allV N.toNat (m : Int)).length), ((0 : Int) ≤ v ∧ v < ((allV N.toNat (m : Int)).length : Int)), (v.toNat < (allV N.toNat (m : Int)).length)] [] [(257, .row 4 (.bools ((allV N.toNat (m : Int)).set v.toNat (!((allV N.toNat (m : Int)).getD v.toNat false)))))] (by kernel_rfl) ?_ ?_
                · refine (ap ?_ (ap ?_ (ap ?_ (ap ?_ az))))
                  all_goals
                    first | omega | exact True.intro | exact id | exact hp | exact (fun _ h => h) | exact ⟨hp, by decide, by decide⟩ | exact ⟨hc1, hc2⟩ | omega | (constructor <;> omega) | exact ⟨by omega, by omega, by omega, by omega⟩ | (rw [allV_len]; omega) | exact ⟨hX.1, hX.2, hal m⟩ | exact ⟨hp, hlm, hal m⟩ | exact (fun _ => ⟨hp, hlm, by rw [List.length_set]; exact hal m⟩) | exact (fun _ => ⟨by show (1 : Nat) ≤ maxLen; decide, fun w hw => by rw [List.mem_singleton] at hw; subst hw; exact hU, by have := hal8 m; omega⟩) | exact (fun _ => ⟨hp, hlm, Nat.le_trans (Cn.fold_len (l := [(Cn.ouV N L v, Cn.ouU N L v)].reverse) (by have := hal8 m; omega)) (by decide)⟩)
                refine fin_then ?_
                refine tri_seq ?_
                refine tri_regD hcx [] [11] [10, 9, 1, 2, 5, 6, 46, 47] [257, 605, 606] [((Cn.ouX N L v).length ≤ maxLen ∧ (∀ l ∈ (Cn.ouX N L v), l.length ≤ maxLen) ∧ (allV N.toNat (m : Int)).length ≤ maxLen)] [(11, .bool (Cn.valV (Cn.ouN N L v) (Cn.ouX N L v) (allV N.toNat (m : Int))))] [] (by kernel_rfl) ?_ ?_
                · refine (ap ?_ az)
                  first | omega | exact True.intro | exact id | exact hp | exact (fun _ h => h) | exact ⟨hp, by decide, by decide⟩ | exact ⟨hc1, hc2⟩ | omega | (constructor <;> omega) | exact ⟨by omega, by omega, by omega, by omega⟩ | (rw [allV_len]; omega) | exact ⟨hX.1, hX.2, hal m⟩ | exact ⟨hp, hlm, hal m⟩ | exact (fun _ => ⟨hp, hlm, by rw [List.length_set]; exact hal m⟩) | exact (fun _ => ⟨by show (1 : Nat) ≤ maxLen; decide, fun w hw => by rw [List.mem_singleton] at hw; subst hw; exact hU, by have := hal8 m; omega⟩) | exact (fun _ => ⟨hp, hlm, Nat.le_trans (Cn.fold_len (l := [(Cn.ouV N L v, Cn.ouU N L v)].reverse) (by have := hal8 m; omega)) (by decide)⟩)
                refine fin_then ?_
                refine tri_seq ?_
                refine tri_seq ?_
                refine tri_regD hcx [] [78] [11, 9, 1, 2, 5, 6, 46, 47] [605, 606] [(L.length ≤ maxLen ∧ (∀ l ∈ L, l.length ≤ maxLen) ∧ (allV N.toNat (m : Int)).length ≤ maxLen), ((!(Cn.valV N L (allV N.toNat (m : Int)))) = true → ((!(Cn.valV N L (allV N.toNat (m : Int)))) = true)), ((!(Cn.valV N L (allV N.toNat (m : Int)))) = true → ((!(Cn.valV N L (allV N.toNat (m : Int)))) = true)), ((!(Cn.valV N L (allV N.toNat (m : Int)))) = true → (L.length ≤ maxLen ∧ (∀ l ∈ L, l.length ≤ maxLen) ∧ ((allV N.toNat (m : Int)).set v.toNat (!((allV N.toNat (m : Int)).getD v.toNat false))).length ≤ maxLen)), ((Cn.valV N L (allV N.toNat (m : Int))) = false → (!(Cn.valV N L (allV N.toNat (m : Int)))) = true)] [(78, .bool (!((Cn.valV (Cn.ouN N L v) (Cn.ouX N L v) (allV N.toNat (m : Int))) == ((Cn.valV N L (allV N.toNat (m : Int))) || (Cn.valV N L ((allV N.toNat (m : Int)).set v.toNat (!((allV N.toNat (m : Int)).getD v.toNat false))))))))] [] (by kernel_rfl) ?_ ?_
                · refine (ap ?_ (ap ?_ (ap ?_ (ap ?_ (ap (by exact vcNot) az)))))
                  all_goals
                    first | omega | exact True.intro | exact id | exact hp | exact (fun _ h => h) | exact ⟨hp, by decide, by decide⟩ | exact ⟨hc1, hc2⟩ | omega | (constructor <;> omega) | exact ⟨by omega, by omega, by omega, by omega⟩ | (rw [allV_len]; omega) | exact ⟨hX.1, hX.2, hal m⟩ | exact ⟨hp, hlm, hal m⟩ | exact (fun _ => ⟨hp, hlm, by rw [List.length_set]; exact hal m⟩) | exact (fun _ => ⟨by show (1 : Nat) ≤ maxLen; decide, fun w hw => by rw [List.mem_singleton] at hw; subst hw; exact hU, by have := hal8 m; omega⟩) | exact (fun _ => ⟨hp, hlm, Nat.le_trans (Cn.fold_len (l := [(Cn.ouV N L v, Cn.ouU N L v)].reverse) (by have := hal8 m; omega)) (by decide)⟩)
                refine fin_then ?_
                refine tri_cond (b := (!((Cn.valV (Cn.ouN N L v) (Cn.ouX N L v) (allV N.toNat (m : Int))) == ((Cn.valV N L (allV N.toNat (m : Int))) || (Cn.valV N L ((allV N.toNat (m : Int)).set v.toNat (!((allV N.toNat (m : Int)).getD v.toNat false)))))))) (by kernel_rfl) (fun hb5 => ?_) (fun hb5 => ?_)
                · skip
                  have h5 := hb5
                  exfalso; rw [hA, hB] at h5; exact Cn.same_dead (by rw [allV_len]; omega) hc0 hv1 hv2 hs h5
                · skip
                  have h5 := eq_of_beq (notB_f hb5)
                  refine tri_skip ?_
                  refine fin_then ?_
                  refine tri_seq ?_
                  refine tri_drawD [0, 1, 3, 3, 11, 3, 59, 127, 255, 511] hcx hmx [] [88] [1, 2, 5, 6, 46, 47] [605, 606] [((Cn.valV (Cn.ouN N L v) (Cn.ouX N L v) (allV N.toNat (m : Int))) = true → ((Cn.valV (Cn.ouN N L v) (Cn.ouX N L v) (allV N.toNat (m : Int))) = true)), ((Cn.valV (Cn.ouN N L v) (Cn.ouX N L v) (allV N.toNat (m : Int))) = true → ((Cn.valV (Cn.ouN N L v) (Cn.ouX N L v) (allV N.toNat (m : Int))) = true)), ((Cn.valV (Cn.ouN N L v) (Cn.ouX N L v) (allV N.toNat (m : Int))) = true → ((Cn.valV (Cn.ouN N L v) (Cn.ouX N L v) (allV N.toNat (m : Int))) = true)), ((Cn.valV (Cn.ouN N L v) (Cn.ouX N L v) (allV N.toNat (m : Int))) = true → ([((Cn.ouV N L v), (Cn.ouU N L v))].length ≤ maxLen ∧ (∀ w ∈ [((Cn.ouV N L v), (Cn.ouU N L v))], w.2.length ≤ maxLen ∧ ∀ l ∈ w.2, l.length ≤ maxLen) ∧ (allV N.toNat (m : Int)).length ≤ 1000000)), ((Cn.valV (Cn.ouN N L v) (Cn.ouX N L v) (allV N.toNat (m : Int))) = true → ((Cn.valV (Cn.ouN N L v) (Cn.ouX N L v) (allV N.toNat (m : Int))) = true)), ((Cn.valV (Cn.ouN N L v) (Cn.ouX N L v) (allV N.toNat (m : Int))) = true → ((Cn.valV (Cn.ouN N L v) (Cn.ouX N L v) (allV N.toNat (m : Int))) = true)), ((Cn.valV (Cn.ouN N L v) (Cn.ouX N L v) (allV N.toNat (m : Int))) = true → (L.length ≤ maxLen ∧ (∀ l ∈ L, l.length ≤ maxLen) ∧ (Cn.backF [((Cn.ouV N L v), (Cn.ouU N L v))] (allV N.toNat (m : Int))).length ≤ maxLen)), ((Cn.valV (Cn.ouN N L v) (Cn.ouX N L v) (allV N.toNat (m : Int))) = true → ((Cn.valV (Cn.ouN N L v) (Cn.ouX N L v) (allV N.toNat (m : Int))) = true)), ((Cn.valV (Cn.ouN N L v) (Cn.ouX N L v) (allV N.toNat (m : Int))) = true → (Cn.valV (Cn.ouN N L v) (Cn.ouX N L v) (allV N.toNat (m : Int))) = true)] [(88, .bool ((Cn.valV (Cn.ouN N L v) (Cn.ouX N L v) (allV N.toNat (m : Int))) && (!(Cn.valV N L (Cn.backF [((Cn.ouV N L v), (Cn.ouU N L v))] (allV N.toNat (m : Int)))))))] [] (by kernel_rfl) ?_ ?_
                  · refine (ap ?_ (ap ?_ (ap ?_ (ap ?_ (ap ?_ (ap ?_ (ap ?_ (ap ?_ (ap (by exact id) az)))))))))
                    all_goals
                      first | omega | exact True.intro | exact id | exact hp | exact (fun _ h => h) | exact ⟨hp, by decide, by decide⟩ | exact ⟨hc1, hc2⟩ | omega | (constructor <;> omega) | exact ⟨by omega, by omega, by omega, by omega⟩ | (rw [allV_len]; omega) | exact ⟨hX.1, hX.2, hal m⟩ | exact ⟨hp, hlm, hal m⟩ | exact (fun _ => ⟨hp, hlm, by rw [List.length_set]; exact hal m⟩) | exact (fun _ => ⟨by show (1 : Nat) ≤ maxLen; decide, fun w hw => by rw [List.mem_singleton] at hw; subst hw; exact hU, by have := hal8 m; omega⟩) | exact (fun _ => ⟨hp, hlm, Nat.le_trans (Cn.fold_len (l := [(Cn.ouV N L v, Cn.ouU N L v)].reverse) (by have := hal8 m; omega)) (by decide)⟩)
                  refine fin_then ?_
                  refine tri_cond (b := ((Cn.valV (Cn.ouN N L v) (Cn.ouX N L v) (allV N.toNat (m : Int))) && (!(Cn.valV N L (Cn.backF [((Cn.ouV N L v), (Cn.ouU N L v))] (allV N.toNat (m : Int))))))) (by kernel_rfl) (fun hb6 => ?_) (fun hb6 => ?_)
                  · skip
                    have h6 := hb6
                    exfalso; rw [hA, hB, hC, hD] at h6; exact Cn.back_dead (by rw [allV_len]; omega) hc0 hv1 hv2 hs h6
                  · skip
                    have h6 := hb6
                    try simp only [Bool.or_eq_true, Bool.or_eq_false_iff, Bool.and_eq_true, Bool.and_eq_false_iff, Bool.not_eq_true', Bool.not_eq_false', decide_eq_true_eq, decide_eq_false_iff_not, bne_iff_ne, bne_eq_false_iff_eq, beq_iff_eq, beq_eq_false_iff_ne] at h6
                    refine tri_skip ?_
                    refine fin_block ?_
                    refine fin_then ?_
                    refine tri_regD hcx [] [47] [1, 2, 5, 6, 46] [605, 606] [Fit ((m : Int) + 1)] [(47, .int ((m : Int) + 1))] [] (by kernel_rfl) ?_ ?_
                    · refine (ap ?_ az)
                      first | omega | exact True.intro | exact id | exact hp | exact (fun _ h => h) | exact ⟨hp, by decide, by decide⟩ | exact ⟨hc1, hc2⟩ | omega | (constructor <;> omega) | exact ⟨by omega, by omega, by omega, by omega⟩ | (rw [allV_len]; omega) | exact ⟨hX.1, hX.2, hal m⟩ | exact ⟨hp, hlm, hal m⟩ | exact (fun _ => ⟨hp, hlm, by rw [List.length_set]; exact hal m⟩) | exact (fun _ => ⟨by show (1 : Nat) ≤ maxLen; decide, fun w hw => by rw [List.mem_singleton] at hw; subst hw; exact hU, by have := hal8 m; omega⟩) | exact (fun _ => ⟨hp, hlm, Nat.le_trans (Cn.fold_len (l := [(Cn.ouV N L v, Cn.ouU N L v)].reverse) (by have := hal8 m; omega)) (by decide)⟩)
                    refine fin_round (m + 1) ?_ ?_ ?_ ?_
                    · show ((m + 1) : Int) ≤ 1 * 2 ^ N.toNat
                      omega
                    · show (1 * 2 ^ N.toNat : Int).toNat - (m + 1) < (1 * 2 ^ N.toNat : Int).toNat - m
                      omega
                    · exact subE_mk (l := [.int v, .pto [.int N, .ls (.intss L)], .loc 605 0, .loc 606 0, .int (1 * 2 ^ N.toNat), .int ((m : Int) + 1)]) (m := [.int v, .pto [.int N, .ls (.intss L)], .loc 605 0, .loc 606 0, .int (1 * 2 ^ N.toNat), .int ((m + 1) : Int)]) (by kernel_rfl) (by kernel_rfl) (consE rfl (consE rfl (consE rfl (consE rfl (consE rfl (consE (congrArg AV.int (show ((m : Int) + 1) = ((m + 1) : Int) from (by first | rfl | omega | (simp; done)))) rfl))))))
                    · kernel_rfl
              · skip
                have h4 := of_decide_eq_false hb4
                refine tri_exit ?_
                refine fin_then_exit ?_
                refine fin_then_exit ?_
                refine fin_block_same ?_
                refine fin_then ?_
                refine tri_seq ?_
                refine tri_regD hcx [] [4] [] [] [] [(4, .bool true)] [] (by kernel_rfl) ?_ ?_
                · exact az
                refine fin_then ?_
                refine tri_ret ?_
                exact fin_ret [] rfl rfl trivial hcx (avs := [.bool true]) (by kernel_rfl) rfl [] rfl
  · cases hσ
end Go.Proofs.Ythhfdjcaafckbaa.En
