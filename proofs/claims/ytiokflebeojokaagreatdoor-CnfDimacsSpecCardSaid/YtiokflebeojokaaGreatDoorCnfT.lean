/- Norm and Resolve of layer 14, in the reader's words. -/
import Derived.Test.YtiokflebeojokaaGreatDoorCnfS
import Derived.Test.YtiokflebeojokaaGreatDoorShClone
import Derived.Test.YtiokflebeojokaaGreatDoorShSound
namespace Go.Proofs.YtiokflebeojokaaGreatDoor.En
open Go Go.RowKit
set_option linter.unusedVariables false
set_option linter.unusedSimpArgs false
set_option linter.unnecessarySimpa false
def tyCnfT : List (Nat × TD) := [(3, ⟨1, false, [.int .i64 0], [], none, 8, false, 1, 1⟩),
  (22, ⟨1, false, [.slice none 0 0], [], some 25, 24, false, 0, 0⟩),
  (25, ⟨1, false, [.slice none 0 0], [], some 3, 24, false, 0, 3⟩),
  (56, ⟨1, false, [.nilFunc], [], none, 8, false, 0, 0⟩),
  (59, ⟨1, false, [.nilFunc], [], none, 8, false, 0, 0⟩)]
theorem tyCnfT_ok : AllTy Tryz.prog tyCnfT := ⟨⟨by kernel_rfl, by kernel_rfl⟩, ⟨by kernel_rfl, by kernel_rfl⟩, ⟨by kernel_rfl, by kernel_rfl⟩, ⟨by kernel_rfl, by kernel_rfl⟩, ⟨by kernel_rfl, by kernel_rfl⟩, trivial⟩
def cx_cNorm : Cx := ⟨tyCnfT, [(38, cMay_σ), (43, cOf_σ), (53, (coeF [.id, .ld (.bools [])] cTrue_σ)), (52, cHolds1_σ), (73, (orF (coeF [.ld (.ints []), .id] ixHolds_σ) (coeF [.ld (.ints []), .id] ixCheck_σ))), (47, (orF (coeF [.ld (.ints []), .id] ctHolds_σ) (coeF [.ld (.ints []), .id] ctCheck_σ))), (21, (coeF [.ld (.ints []), .ld (.bools [])] cHolds_σ)), (48, cCheck1_σ), (17, (coeF [.agg [.id, .ld (.intss [])]] cCheck_σ)), (55, (coeF [.ld (.ints []), .id] cValue1_σ)), (77, (coeF [.ld (.intss []), .id] ixValue_σ)), (56, (coeF [.ld (.intss []), .id] ctValue_σ)), (23, (coeF [.agg [.id, .ld (.intss [])], .ld (.bools [])] cValue_σ)), (70, (coeF [.ld (.ints []), .id] sIndex_σ)), (58, (coeF [.ld (.ints []), .id] sContains_σ)), (36, sClone), (35, (orF sDel1 sDel2)), (39, sSortF), (44, sCompact), (78, sGrow)], false⟩
theorem cx_cNorm_ok : CxOk Tryz.prog cx_cNorm := cx_ok tyCnfT_ok ⟨cMay_sound, cOf_sound, (cTrue_sound.coe [.id, .ld (.bools [])] rfl), cHolds1_sound, ((ixHolds_sound.coe [.ld (.ints []), .id] rfl).or (ixCheck_sound.coe [.ld (.ints []), .id] rfl)), ((ctHolds_sound.coe [.ld (.ints []), .id] rfl).or (ctCheck_sound.coe [.ld (.ints []), .id] rfl)), (cHolds_sound.coe [.ld (.ints []), .ld (.bools [])] rfl), cCheck1_sound, (cCheck_sound.coe [.agg [.id, .ld (.intss [])]] rfl), (cValue1_sound.coe [.ld (.ints []), .id] rfl), (ixValue_sound.coe [.ld (.intss []), .id] rfl), (ctValue_sound.coe [.ld (.intss []), .id] rfl), (cValue_sound.coe [.agg [.id, .ld (.intss [])], .ld (.bools [])] rfl), (sIndex_sound.coe [.ld (.ints []), .id] rfl), (sContains_sound.coe [.ld (.ints []), .id] rfl), sClone_sound, (sDel1_sound.or sDel2_sound), sSortF_sound, sCompact_sound, sGrow_sound, trivial⟩
def cNorm_σ : CtF
  | [.im (.ls (.ints l))], [] => some (l.length ≤ 1000000, .tup [.row 0, .bool (Cn.tautL l)], [some (.row 3 (.ints (Cn.normL l)))])
  | _, _ => none
theorem cNorm_sound : Sound Tryz.prog 14 cNorm_σ := by
 refine sound_mk (cx := cx_cNorm) (fn := Tryz.f14) Tryz.func14 (by kernel_rfl) rfl ?_
 intro w0 G0 args os p r outs hσ hp hm0 hd0
 have hcx : CxOk Tryz.prog cx_cNorm := cx_cNorm_ok
 have hmx : Tryz.prog.follows .mixedOrders = true := by kernel_rfl
 unfold cNorm_σ at hσ
 split at hσ
 ·
  rename_i l
  simp only [Option.some.injEq, Prod.mk.injEq] at hσ
  obtain ⟨rfl, rfl, rfl⟩ := hσ
  obtain ⟨wW, wO, wm, wβ, wd⟩ := w0
  replace hm0 : wm = 0 := hm0
  subst hm0
  replace hd0 : wd = [] := hd0
  subst hd0
  refine ⟨by kernel_rfl, ?_⟩
  change Tri ⟨_, _, _, _, _, _⟩ [(0, .ints l)] [] _ _
  have hf := List.length_filter_le (fun x => Cn.mayP x 65536) l
  have hs : (Cn.sortL (l.filter fun x => Cn.mayP x 65536)).length = (l.filter fun x => Cn.mayP x 65536).length := List.length_mergeSort ..
  have hnl : (Lib.compact (Cn.sortL (l.filter fun x => Cn.mayP x 65536))).length ≤ l.length := Cn.norm_len l
  have hnb : ∀ j, j < (Lib.compact (Cn.sortL (l.filter fun x => Cn.mayP x 65536))).length → -65536 ≤ (Lib.compact (Cn.sortL (l.filter fun x => Cn.mayP x 65536))).getD j 0 ∧ (Lib.compact (Cn.sortL (l.filter fun x => Cn.mayP x 65536))).getD j 0 ≤ 65536 := fun j hj => Cn.norm_bd (l := l) hj
  refine tri_seq ?_
  refine tri_regD hcx [] [] [0] [] [] [] [] (by kernel_rfl) ?_ ?_
  ·
   exact az
  refine fin_then ?_
  refine tri_seq ?_
  refine tri_regD hcx [(1002, .to 208)] [4] [] [] [(l.length ≤ 1000000000000), (l.length ≤ 1000000000000)] [(4, .row 208)] [(208, .row 3 (.ints (l.filter fun z9 => Cn.mayP z9 65536)))] (by kernel_rfl) ?_ ?_
  ·
   refine (ap ?_ (ap ?_ az))
   all_goals
    first | omega | exact id | exact vcNot | exact vcG | exact vcH | (intro _; omega) | exact (fun _ h => h) | (intro h; simp at h; omega) | (simp only [List.length_cons, List.length_nil, List.length_append, List.length_map, List.length_set, List.length_replicate]; omega) | (intro h; simp [h]; done) | exact ⟨by omega, fun x hx => (List.mem_filter.1 hx).2⟩ | exact (fun _ => by have := hbk (by omega); constructor <;> omega)
  refine fin_then ?_
  refine tri_seq ?_
  refine tri_regD hcx [(208, .to 208)] [] [4] [] [((l.filter fun z9 => Cn.mayP z9 65536).length ≤ 1000000000000 ∧ ∀ z9 ∈ (l.filter fun z9 => Cn.mayP z9 65536), Cn.mayP z9 65536 = true)] [] [(208, .row 3 (.ints (Cn.sortL (l.filter fun z9 => Cn.mayP z9 65536))))] (by kernel_rfl) ?_ ?_
  ·
   refine (ap ?_ az)
   first | omega | exact id | exact vcNot | exact vcG | exact vcH | (intro _; omega) | exact (fun _ h => h) | (intro h; simp at h; omega) | (simp only [List.length_cons, List.length_nil, List.length_append, List.length_map, List.length_set, List.length_replicate]; omega) | (intro h; simp [h]; done) | exact ⟨by omega, fun x hx => (List.mem_filter.1 hx).2⟩ | exact (fun _ => by have := hbk (by omega); constructor <;> omega)
  refine fin_then ?_
  refine tri_seq ?_
  refine tri_regD hcx [(1001, .to 208)] [4] [] [] [((Cn.sortL (l.filter fun z9 => Cn.mayP z9 65536)).length ≤ 1000000000000)] [(4, .row 208)] [(208, .row 3 (.ints (Lib.compact (Cn.sortL (l.filter fun z9 => Cn.mayP z9 65536)))))] (by kernel_rfl) ?_ ?_
  ·
   refine (ap ?_ az)
   first | omega | exact id | exact vcNot | exact vcG | exact vcH | (intro _; omega) | exact (fun _ h => h) | (intro h; simp at h; omega) | (simp only [List.length_cons, List.length_nil, List.length_append, List.length_map, List.length_set, List.length_replicate]; omega) | (intro h; simp [h]; done) | exact ⟨by omega, fun x hx => (List.mem_filter.1 hx).2⟩ | exact (fun _ => by have := hbk (by omega); constructor <;> omega)
  refine fin_then ?_
  refine tri_seq ?_
  refine tri_seq ?_
  refine tri_regD hcx [] [14, 15] [4] [208] [] [(14, .int ((Lib.compact (Cn.sortL (l.filter fun z9 => Cn.mayP z9 65536))).length : Int)), (15, .int 0)] [] (by kernel_rfl) ?_ ?_
  ·
   exact az
  refine fin_then ?_
  refine tri_block ?_
  refine tri_loop (X := Nat) (fun x0 => x0 ≤ (Lib.compact (Cn.sortL (l.filter fun x => Cn.mayP x 65536))).length ∧ ∀ j, 0 < j → j < x0 → (Lib.compact (Cn.sortL (l.filter fun x => Cn.mayP x 65536))).getD (j - 1) 0 ≠ -((Lib.compact (Cn.sortL (l.filter fun x => Cn.mayP x 65536))).getD j 0)) (fun x0 => [(4, .row 208), (14, .int ((Lib.compact (Cn.sortL (l.filter fun z9 => Cn.mayP z9 65536))).length : Int)), (15, .int (x0 : Int))]) (fun x0 => [(208, .row 3 (.ints (Lib.compact (Cn.sortL (l.filter fun z9 => Cn.mayP z9 65536)))))]) (fun x0 => (Lib.compact (Cn.sortL (l.filter fun x => Cn.mayP x 65536))).length - x0) (0) ?_ ?_ ?_ ?_
  ·
   show 0 ≤ (Lib.compact (Cn.sortL (l.filter fun x => Cn.mayP x 65536))).length ∧ ∀ j, 0 < j → j < 0 → (Lib.compact (Cn.sortL (l.filter fun x => Cn.mayP x 65536))).getD (j - 1) 0 ≠ -((Lib.compact (Cn.sortL (l.filter fun x => Cn.mayP x 65536))).getD j 0)
   exact ⟨Nat.zero_le _, fun j _ hj => by omega⟩
  ·
   exact subE_mk (l := [.row 208, .int ((Lib.compact (Cn.sortL (l.filter fun z9 => Cn.mayP z9 65536))).length : Int), .int 0]) (m := [.row 208, .int ((Lib.compact (Cn.sortL (l.filter fun z9 => Cn.mayP z9 65536))).length : Int), .int (0 : Int)]) (by kernel_rfl) (by kernel_rfl) (consE rfl (consE rfl (consE (congrArg AV.int (show 0 = (0 : Int) from (by first | rfl | omega | (simp; done)))) rfl)))
  ·
   kernel_rfl
  ·
   intro k hI
   replace hI : k ≤ (Lib.compact (Cn.sortL (l.filter fun x => Cn.mayP x 65536))).length ∧ ∀ j, 0 < j → j < k → (Lib.compact (Cn.sortL (l.filter fun x => Cn.mayP x 65536))).getD (j - 1) 0 ≠ -((Lib.compact (Cn.sortL (l.filter fun x => Cn.mayP x 65536))).getD j 0) := hI
   change Tri _ [(4, .row 208), (14, .int ((Lib.compact (Cn.sortL (l.filter fun z9 => Cn.mayP z9 65536))).length : Int)), (15, .int (k : Int))] [(208, .row 3 (.ints (Lib.compact (Cn.sortL (l.filter fun z9 => Cn.mayP z9 65536)))))] _ _
   obtain ⟨hk, hok⟩ := hI
   have hbk : k < (Lib.compact (Cn.sortL (l.filter fun x => Cn.mayP x 65536))).length → _ := hnb k
   refine tri_seq ?_
   refine tri_regD hcx [] [16] [4, 14, 15] [208] [] [(16, .bool (decide ((k : Int) < ((Lib.compact (Cn.sortL (l.filter fun z9 => Cn.mayP z9 65536))).length : Int))))] [] (by kernel_rfl) ?_ ?_
   ·
    exact az
   refine fin_then ?_
   refine tri_seq ?_
   refine tri_cond (b := (decide ((k : Int) < ((Lib.compact (Cn.sortL (l.filter fun z9 => Cn.mayP z9 65536))).length : Int)))) (by kernel_rfl) (fun hb0 => ?_) (fun hb0 => ?_)
   ·
    skip
    have h0 := of_decide_eq_true hb0
    refine tri_skip ?_
    refine fin_then ?_
    refine tri_seq ?_
    refine tri_block ?_
    refine tri_seq ?_
    refine tri_regD hcx [] [5] [4, 14, 15] [208] [] [(5, .int (k : Int))] [] (by kernel_rfl) ?_ ?_
    ·
     exact az
    refine fin_then ?_
    refine tri_seq ?_
    refine tri_drawD [0, 1, 3, 7, 7, 23, 63, 127, 7, 7, 775, 1799, 3847, 8191, 16383] hcx hmx [] [32] [4, 14, 15] [208] [((decide ((k : Int) > 0)) = true → ((decide ((k : Int) > 0)) = true)), ((decide ((k : Int) > 0)) = true → Fit ((k : Int) - 1)), ((decide ((k : Int) > 0)) = true → ((decide ((k : Int) > 0)) = true)), ((decide ((k : Int) > 0)) = true → ((decide ((k : Int) > 0)) = true)), ((decide ((k : Int) > 0)) = true → ((0 : Int) ≤ ((k : Int) - 1) ∧ ((k : Int) - 1) < ((Lib.compact (Cn.sortL (l.filter fun z9 => Cn.mayP z9 65536))).length : Int))), ((decide ((k : Int) > 0)) = true → ((decide ((k : Int) > 0)) = true)), ((decide ((k : Int) > 0)) = true → ((((k : Int) - 1).toNat) < (Lib.compact (Cn.sortL (l.filter fun z9 => Cn.mayP z9 65536))).length)), ((decide ((k : Int) > 0)) = true → ((decide ((k : Int) > 0)) = true)), ((decide ((k : Int) > 0)) = true → ((decide ((k : Int) > 0)) = true)), ((decide ((k : Int) > 0)) = true → ((0 : Int) ≤ (k : Int) ∧ (k : Int) < ((Lib.compact (Cn.sortL (l.filter fun z9 => Cn.mayP z9 65536))).length : Int))), ((decide ((k : Int) > 0)) = true → ((decide ((k : Int) > 0)) = true)), ((decide ((k : Int) > 0)) = true → (k < (Lib.compact (Cn.sortL (l.filter fun z9 => Cn.mayP z9 65536))).length)), ((decide ((k : Int) > 0)) = true → ((decide ((k : Int) > 0)) = true)), ((decide ((k : Int) > 0)) = true → Fit (-((Lib.compact (Cn.sortL (l.filter fun z9 => Cn.mayP z9 65536))).getD k 0))), ((decide ((k : Int) > 0)) = true → ((decide ((k : Int) > 0)) = true)), ((decide ((k : Int) > 0)) = true → ((decide ((k : Int) > 0)) = true)), ((decide ((k : Int) > 0)) = true → (decide ((k : Int) > 0)) = true)] [(32, .bool ((decide ((k : Int) > 0)) && (((Lib.compact (Cn.sortL (l.filter fun z9 => Cn.mayP z9 65536))).getD (((k : Int) - 1).toNat) 0) == (-((Lib.compact (Cn.sortL (l.filter fun z9 => Cn.mayP z9 65536))).getD k 0)))))] [] (by kernel_rfl) ?_ ?_
    ·
     refine (ap ?_ (ap ?_ (ap ?_ (ap ?_ (ap ?_ (ap ?_ (ap ?_ (ap ?_ (ap ?_ (ap ?_ (ap ?_ (ap ?_ (ap ?_ (ap ?_ (ap ?_ (ap ?_ (ap (by exact id) az)))))))))))))))))
     all_goals
      first | omega | exact id | exact vcNot | exact vcG | exact vcH | (intro _; omega) | exact (fun _ h => h) | (intro h; simp at h; omega) | (simp only [List.length_cons, List.length_nil, List.length_append, List.length_map, List.length_set, List.length_replicate]; omega) | (intro h; simp [h]; done) | exact ⟨by omega, fun x hx => (List.mem_filter.1 hx).2⟩ | exact (fun _ => by have := hbk (by omega); constructor <;> omega)
    refine fin_then ?_
    refine tri_cond (b := ((decide ((k : Int) > 0)) && (((Lib.compact (Cn.sortL (l.filter fun z9 => Cn.mayP z9 65536))).getD (((k : Int) - 1).toNat) 0) == (-((Lib.compact (Cn.sortL (l.filter fun z9 => Cn.mayP z9 65536))).getD k 0))))) (by kernel_rfl) (fun hb1 => ?_) (fun hb1 => ?_)
    ·
     skip
     have h1 := hb1
     try simp only [Bool.or_eq_true, Bool.or_eq_false_iff, Bool.and_eq_true, Bool.and_eq_false_iff, Bool.not_eq_true', Bool.not_eq_false', decide_eq_true_eq, decide_eq_false_iff_not, bne_iff_ne, bne_eq_false_iff_eq, beq_iff_eq, beq_eq_false_iff_ne] at h1
     have hq := h1
     rw [show ((k : Int) - 1).toNat = k - 1 by omega] at hq
     refine tri_seq ?_
     refine tri_regD hcx [] [2, 3] [] [208] [] [(2, .row 208), (3, .bool true)] [] (by kernel_rfl) ?_ ?_
     ·
      exact az
     refine fin_then ?_
     refine tri_ret ?_
     refine fin_block_ret ?_
     refine fin_then_ret ?_
     refine fin_then_ret ?_
     refine fin_block_ret ?_
     refine fin_then_ret ?_
     refine fin_ren (ρ := [(208, .to 0)]) (keys := [2, 3]) (E' := [(2, .row 0), (3, .bool true)]) (H' := [(0, .row 3 (.ints (Lib.compact (Cn.sortL (l.filter fun z9 => Cn.mayP z9 65536)))))]) (by kernel_rfl) ?_
     exact fin_ret [] rfl rfl trivial hcx (avs := [.row 0, .bool true]) (by kernel_rfl) (congrArg AV.tup (consE rfl (consE (congrArg AV.bool (show true = (Cn.tautL l) from (by exact (Cn.taut_adj_yes (xs := Cn.normL l) (i := k) (by omega) (show k < (Lib.compact (Cn.sortL (l.filter fun x => Cn.mayP x 65536))).length by omega) hq.2).symm))) rfl))) [true] (Eq.trans (show _ = [some (.row 3 (.ints (Lib.compact (Cn.sortL (l.filter fun z9 => Cn.mayP z9 65536)))))] from by kernel_rfl) (consO (congrArg some (congrArg (fun x => AObj.row 3 (.ints x)) (show (Lib.compact (Cn.sortL (l.filter fun z9 => Cn.mayP z9 65536))) = (Cn.normL l) from (by first | rfl | (simp; done))))) rfl))
    ·
     skip
     have h1 := hb1
     try simp only [Bool.or_eq_true, Bool.or_eq_false_iff, Bool.and_eq_true, Bool.and_eq_false_iff, Bool.not_eq_true', Bool.not_eq_false', decide_eq_true_eq, decide_eq_false_iff_not, bne_iff_ne, bne_eq_false_iff_eq, beq_iff_eq, beq_eq_false_iff_ne] at h1
     have hq := h1
     refine tri_skip ?_
     refine fin_block ?_
     refine fin_then ?_
     refine tri_regD hcx [] [15] [4, 14] [208] [Fit ((k : Int) + 1)] [(15, .int ((k : Int) + 1))] [] (by kernel_rfl) ?_ ?_
     ·
      refine (ap ?_ az)
      first | omega | exact id | exact vcNot | exact vcG | exact vcH | (intro _; omega) | exact (fun _ h => h) | (intro h; simp at h; omega) | (simp only [List.length_cons, List.length_nil, List.length_append, List.length_map, List.length_set, List.length_replicate]; omega) | (intro h; simp [h]; done) | exact ⟨by omega, fun x hx => (List.mem_filter.1 hx).2⟩ | exact (fun _ => by have := hbk (by omega); constructor <;> omega)
     refine fin_round (k + 1) ?_ ?_ ?_ ?_
     ·
      show (k + 1) ≤ (Lib.compact (Cn.sortL (l.filter fun x => Cn.mayP x 65536))).length ∧ ∀ j, 0 < j → j < (k + 1) → (Lib.compact (Cn.sortL (l.filter fun x => Cn.mayP x 65536))).getD (j - 1) 0 ≠ -((Lib.compact (Cn.sortL (l.filter fun x => Cn.mayP x 65536))).getD j 0)
      (refine ⟨by omega, fun j hj0 hj => ?_⟩; by_cases hjk : j = k; (subst hjk; rcases hq with hq | hq; (exact absurd hj0 (by omega)); (rwa [show ((j : Int) - 1).toNat = j - 1 by omega] at hq)); exact hok j hj0 (by omega))
     ·
      show (Lib.compact (Cn.sortL (l.filter fun x => Cn.mayP x 65536))).length - (k + 1) < (Lib.compact (Cn.sortL (l.filter fun x => Cn.mayP x 65536))).length - k
      omega
     ·
      exact subE_mk (l := [.row 208, .int ((Lib.compact (Cn.sortL (l.filter fun z9 => Cn.mayP z9 65536))).length : Int), .int ((k : Int) + 1)]) (m := [.row 208, .int ((Lib.compact (Cn.sortL (l.filter fun z9 => Cn.mayP z9 65536))).length : Int), .int ((k + 1) : Int)]) (by kernel_rfl) (by kernel_rfl) (consE rfl (consE rfl (consE (congrArg AV.int (show ((k : Int) + 1) = ((k + 1) : Int) from (by first | rfl | omega | (simp; done)))) rfl)))
     ·
      kernel_rfl
   ·
    skip
    have h0 := of_decide_eq_false hb0
    refine tri_exit ?_
    refine fin_then_exit ?_
    refine fin_then_exit ?_
    refine fin_block_same ?_
    refine fin_then ?_
    refine tri_seq ?_
    refine tri_regD hcx [] [2, 3] [] [208] [] [(2, .row 208), (3, .bool false)] [] (by kernel_rfl) ?_ ?_
    ·
     exact az
    refine fin_then ?_
    refine tri_ret ?_
    refine fin_ren (ρ := [(208, .to 0)]) (keys := [2, 3]) (E' := [(2, .row 0), (3, .bool false)]) (H' := [(0, .row 3 (.ints (Lib.compact (Cn.sortL (l.filter fun z9 => Cn.mayP z9 65536)))))]) (by kernel_rfl) ?_
    exact fin_ret [] rfl rfl trivial hcx (avs := [.row 0, .bool false]) (by kernel_rfl) (congrArg AV.tup (consE rfl (consE (congrArg AV.bool (show false = (Cn.tautL l) from (by exact (Cn.taut_adj_no (xs := Cn.normL l) (Cn.norm_str l) (fun x hx => Cn.norm_nz hx) (fun i hi0 hi => hok i hi0 (by have : i < (Lib.compact (Cn.sortL (l.filter fun x => Cn.mayP x 65536))).length := hi; omega))).symm))) rfl))) [true] (Eq.trans (show _ = [some (.row 3 (.ints (Lib.compact (Cn.sortL (l.filter fun z9 => Cn.mayP z9 65536)))))] from by kernel_rfl) (consO (congrArg some (congrArg (fun x => AObj.row 3 (.ints x)) (show (Lib.compact (Cn.sortL (l.filter fun z9 => Cn.mayP z9 65536))) = (Cn.normL l) from (by first | rfl | (simp; done))))) rfl))
 ·
  cases hσ
def cx_sConcat : Cx := ⟨tyCnfT, [(38, cMay_σ), (43, cOf_σ), (53, (coeF [.id, .ld (.bools [])] cTrue_σ)), (52, cHolds1_σ), (73, (orF (coeF [.ld (.ints []), .id] ixHolds_σ) (coeF [.ld (.ints []), .id] ixCheck_σ))), (47, (orF (coeF [.ld (.ints []), .id] ctHolds_σ) (coeF [.ld (.ints []), .id] ctCheck_σ))), (21, (coeF [.ld (.ints []), .ld (.bools [])] cHolds_σ)), (48, cCheck1_σ), (17, (coeF [.agg [.id, .ld (.intss [])]] cCheck_σ)), (55, (coeF [.ld (.ints []), .id] cValue1_σ)), (77, (coeF [.ld (.intss []), .id] ixValue_σ)), (56, (coeF [.ld (.intss []), .id] ctValue_σ)), (23, (coeF [.agg [.id, .ld (.intss [])], .ld (.bools [])] cValue_σ)), (70, (coeF [.ld (.ints []), .id] sIndex_σ)), (58, (coeF [.ld (.ints []), .id] sContains_σ)), (36, sClone), (35, (orF sDel1 sDel2)), (39, sSortF), (44, sCompact), (78, sGrow), (14, (coeF [.ld (.ints [])] cNorm_σ))], false⟩
theorem cx_sConcat_ok : CxOk Tryz.prog cx_sConcat := cx_ok tyCnfT_ok ⟨cMay_sound, cOf_sound, (cTrue_sound.coe [.id, .ld (.bools [])] rfl), cHolds1_sound, ((ixHolds_sound.coe [.ld (.ints []), .id] rfl).or (ixCheck_sound.coe [.ld (.ints []), .id] rfl)), ((ctHolds_sound.coe [.ld (.ints []), .id] rfl).or (ctCheck_sound.coe [.ld (.ints []), .id] rfl)), (cHolds_sound.coe [.ld (.ints []), .ld (.bools [])] rfl), cCheck1_sound, (cCheck_sound.coe [.agg [.id, .ld (.intss [])]] rfl), (cValue1_sound.coe [.ld (.ints []), .id] rfl), (ixValue_sound.coe [.ld (.intss []), .id] rfl), (ctValue_sound.coe [.ld (.intss []), .id] rfl), (cValue_sound.coe [.agg [.id, .ld (.intss [])], .ld (.bools [])] rfl), (sIndex_sound.coe [.ld (.ints []), .id] rfl), (sContains_sound.coe [.ld (.ints []), .id] rfl), sClone_sound, (sDel1_sound.or sDel2_sound), sSortF_sound, sCompact_sound, sGrow_sound, (cNorm_sound.coe [.ld (.ints [])] rfl), trivial⟩
def sConcat_σ : CtF
  | [.im (.ls (.intss xss))], [] => some (xss.length ≤ 1000000 ∧ Cn.lensN xss ≤ 1000000, .row 0, [some (.row 3 (.ints xss.flatten))])
  | _, _ => none
theorem sConcat_sound : Sound Tryz.prog 61 sConcat_σ := by
 refine sound_mk (cx := cx_sConcat) (fn := Tryz.f61) Tryz.func61 (by kernel_rfl) rfl ?_
 intro w0 G0 args os p r outs hσ hp hm0 hd0
 have hcx : CxOk Tryz.prog cx_sConcat := cx_sConcat_ok
 unfold sConcat_σ at hσ
 split at hσ
 ·
  rename_i xss
  simp only [Option.some.injEq, Prod.mk.injEq] at hσ
  obtain ⟨rfl, rfl, rfl⟩ := hσ
  obtain ⟨wW, wO, wm, wβ, wd⟩ := w0
  replace hm0 : wm = 0 := hm0
  subst hm0
  replace hd0 : wd = [] := hd0
  subst hd0
  refine ⟨by kernel_rfl, ?_⟩
  change Tri ⟨_, _, _, _, _, _⟩ [(0, .intss xss)] [] _ _
  obtain ⟨hm1, hm2⟩ := hp
  have hl1 := Cn.lens_take xss
  have hl2 := @Cn.lens_step xss
  refine tri_seq ?_
  refine tri_regD hcx [] [] [0] [] [] [] [] (by kernel_rfl) ?_ ?_
  ·
   exact az
  refine fin_then ?_
  refine tri_seq ?_
  refine tri_regD hcx [] [3] [0] [] [] [(3, .int 0)] [] (by kernel_rfl) ?_ ?_
  ·
   exact az
  refine fin_then ?_
  refine tri_seq ?_
  refine tri_seq ?_
  refine tri_regD hcx [] [9, 10, 11] [3, 0] [] [] [(9, .intss xss), (10, .int (xss.length : Int)), (11, .int 0)] [] (by kernel_rfl) ?_ ?_
  ·
   exact az
  refine fin_then ?_
  refine tri_block ?_
  refine tri_loop (X := Nat) (fun x0 => x0 ≤ xss.length) (fun x0 => [(0, .intss xss), (3, .int (Cn.lensN (xss.take x0) : Int)), (9, .intss xss), (10, .int (xss.length : Int)), (11, .int (x0 : Int))]) (fun x0 => []) (fun x0 => xss.length - x0) (0) ?_ ?_ ?_ ?_
  ·
   show 0 ≤ xss.length
   omega
  ·
   exact subE_mk (l := [.intss xss, .int 0, .intss xss, .int (xss.length : Int), .int 0]) (m := [.intss xss, .int (Cn.lensN (xss.take 0) : Int), .intss xss, .int (xss.length : Int), .int (0 : Int)]) (by kernel_rfl) (by kernel_rfl) (consE rfl (consE (congrArg AV.int (show 0 = (Cn.lensN (xss.take 0) : Int) from (by first | rfl | omega | (simp; done)))) (consE rfl (consE rfl (consE (congrArg AV.int (show 0 = (0 : Int) from (by first | rfl | omega | (simp; done)))) rfl)))))
  ·
   kernel_rfl
  ·
   intro k hI
   replace hI : k ≤ xss.length := hI
   change Tri _ [(0, .intss xss), (3, .int (Cn.lensN (xss.take k) : Int)), (9, .intss xss), (10, .int (xss.length : Int)), (11, .int (k : Int))] [] _ _
   have hl3 := hl1 k
   have hl4 := hl1 (k + 1)
   have hl5 : k < xss.length → _ := fun h => hl2 h
   refine tri_seq ?_
   refine tri_regD hcx [] [12] [0, 3, 9, 10, 11] [] [] [(12, .bool (decide ((k : Int) < (xss.length : Int))))] [] (by kernel_rfl) ?_ ?_
   ·
    exact az
   refine fin_then ?_
   refine tri_seq ?_
   refine tri_cond (b := (decide ((k : Int) < (xss.length : Int)))) (by kernel_rfl) (fun hb0 => ?_) (fun hb0 => ?_)
   ·
    skip
    have h0 := of_decide_eq_true hb0
    refine tri_skip ?_
    refine fin_then ?_
    refine tri_seq ?_
    refine tri_block ?_
    refine tri_seq ?_
    refine tri_regD hcx [] [5] [0, 3, 9, 10, 11] [] [((0 : Int) ≤ (k : Int) ∧ (k : Int) < (xss.length : Int))] [(5, .ints (xss.getD k []))] [] (by kernel_rfl) ?_ ?_
    ·
     refine (ap ?_ az)
     first | omega | exact id | exact vcNot | exact vcG | exact vcH | (intro _; omega) | exact (fun _ h => h) | (intro h; simp at h; omega) | (simp only [List.length_cons, List.length_nil, List.length_append, List.length_map, List.length_set, List.length_replicate]; omega) | (intro h; simp [h]; done) | (rw [hl6]; omega) | (simp only [hl6]; omega)
    refine fin_then ?_
    refine tri_seq ?_
    refine tri_regD hcx [] [3] [0, 9, 10, 11] [] [Fit ((Cn.lensN (xss.take k) : Int) + ((xss.getD k []).length : Int))] [(3, .int ((Cn.lensN (xss.take k) : Int) + ((xss.getD k []).length : Int)))] [] (by kernel_rfl) ?_ ?_
    ·
     refine (ap ?_ az)
     first | omega | exact id | exact vcNot | exact vcG | exact vcH | (intro _; omega) | exact (fun _ h => h) | (intro h; simp at h; omega) | (simp only [List.length_cons, List.length_nil, List.length_append, List.length_map, List.length_set, List.length_replicate]; omega) | (intro h; simp [h]; done) | (rw [hl6]; omega) | (simp only [hl6]; omega)
    refine fin_then ?_
    refine tri_seq ?_
    refine tri_regD hcx [] [20] [3, 0, 9, 10, 11] [] [] [(20, .bool (decide (((Cn.lensN (xss.take k) : Int) + ((xss.getD k []).length : Int)) < 0)))] [] (by kernel_rfl) ?_ ?_
    ·
     exact az
    refine fin_then ?_
    refine tri_cond (b := (decide (((Cn.lensN (xss.take k) : Int) + ((xss.getD k []).length : Int)) < 0))) (by kernel_rfl) (fun hb1 => ?_) (fun hb1 => ?_)
    ·
     skip
     have h1 := of_decide_eq_true hb1
     omega
    ·
     skip
     have h1 := of_decide_eq_false hb1
     refine tri_skip ?_
     refine fin_block ?_
     refine fin_then ?_
     refine tri_regD hcx [] [11] [3, 0, 9, 10] [] [Fit ((k : Int) + 1)] [(11, .int ((k : Int) + 1))] [] (by kernel_rfl) ?_ ?_
     ·
      refine (ap ?_ az)
      first | omega | exact id | exact vcNot | exact vcG | exact vcH | (intro _; omega) | exact (fun _ h => h) | (intro h; simp at h; omega) | (simp only [List.length_cons, List.length_nil, List.length_append, List.length_map, List.length_set, List.length_replicate]; omega) | (intro h; simp [h]; done) | (rw [hl6]; omega) | (simp only [hl6]; omega)
     refine fin_round (k + 1) ?_ ?_ ?_ ?_
     ·
      show (k + 1) ≤ xss.length
      omega
     ·
      show xss.length - (k + 1) < xss.length - k
      omega
     ·
      exact subE_mk (l := [.intss xss, .int ((Cn.lensN (xss.take k) : Int) + ((xss.getD k []).length : Int)), .intss xss, .int (xss.length : Int), .int ((k : Int) + 1)]) (m := [.intss xss, .int (Cn.lensN (xss.take (k + 1)) : Int), .intss xss, .int (xss.length : Int), .int ((k + 1) : Int)]) (by kernel_rfl) (by kernel_rfl) (consE rfl (consE (congrArg AV.int (show ((Cn.lensN (xss.take k) : Int) + ((xss.getD k []).length : Int)) = (Cn.lensN (xss.take (k + 1)) : Int) from (by first | rfl | omega | (simp; done)))) (consE rfl (consE rfl (consE (congrArg AV.int (show ((k : Int) + 1) = ((k + 1) : Int) from (by first | rfl | omega | (simp; done)))) rfl)))))
     ·
      kernel_rfl
   ·
    skip
    have h0 := of_decide_eq_false hb0
    refine tri_exit ?_
    refine fin_then_exit ?_
    refine fin_then_exit ?_
    refine fin_block_same ?_
    refine fin_then ?_
    refine tri_seq ?_
    refine tri_regD hcx [(1001, .to 224)] [6] [0] [] [(0 ≤ (Cn.lensN (xss.take k) : Int) ∧ (Cn.lensN (xss.take k) : Int) ≤ 1000000)] [(6, .row 224)] [(224, .row 3 (.ints []))] (by kernel_rfl) ?_ ?_
    ·
     refine (ap ?_ az)
     first | omega | exact id | exact vcNot | exact vcG | exact vcH | (intro _; omega) | exact (fun _ h => h) | (intro h; simp at h; omega) | (simp only [List.length_cons, List.length_nil, List.length_append, List.length_map, List.length_set, List.length_replicate]; omega) | (intro h; simp [h]; done) | (rw [hl6]; omega) | (simp only [hl6]; omega)
    refine fin_then ?_
    refine tri_seq ?_
    refine tri_seq ?_
    refine tri_regD hcx [] [25, 26, 27] [6] [224] [] [(25, .intss xss), (26, .int (xss.length : Int)), (27, .int 0)] [] (by kernel_rfl) ?_ ?_
    ·
     exact az
    refine fin_then ?_
    refine tri_block ?_
    refine tri_ren (ρ := [(224, .to 10)]) (keys := [6, 25, 26, 27]) (E' := [(6, .row 10), (25, .intss xss), (26, .int (xss.length : Int)), (27, .int 0)]) (H' := [(10, .row 3 (.ints []))]) (by kernel_rfl) ?_
    refine tri_loop (X := Nat) (fun x0 => x0 ≤ xss.length) (fun x0 => [(6, .row 10), (25, .intss xss), (26, .int (xss.length : Int)), (27, .int (x0 : Int))]) (fun x0 => [(10, .row 3 (.ints ((xss.take x0).flatten)))]) (fun x0 => xss.length - x0) (0) ?_ ?_ ?_ ?_
    ·
     show 0 ≤ xss.length
     omega
    ·
     exact subE_mk (l := [.row 10, .intss xss, .int (xss.length : Int), .int 0]) (m := [.row 10, .intss xss, .int (xss.length : Int), .int (0 : Int)]) (by kernel_rfl) (by kernel_rfl) (consE rfl (consE rfl (consE rfl (consE (congrArg AV.int (show 0 = (0 : Int) from (by first | rfl | omega | (simp; done)))) rfl))))
    ·
     exact Eq.trans (show _ = [(10, .row 3 (.ints []))] from by kernel_rfl) (consH (congrArg (fun x => ((10 : Nat), x)) (congrArg (fun x => AObj.row 3 (.ints x)) (show [] = (xss.take 0).flatten from (by simp)))) rfl)
    ·
     intro k hI
     replace hI : k ≤ xss.length := hI
     change Tri _ [(6, .row 10), (25, .intss xss), (26, .int (xss.length : Int)), (27, .int (k : Int))] [(10, .row 3 (.ints ((xss.take k).flatten)))] _ _
     have hl3 := hl1 k
     have hl4 := hl1 (k + 1)
     have hl5 : k < xss.length → _ := fun h => hl2 h
     have hl6 : (xss.take k).flatten.length = Cn.lensN (xss.take k) := Cn.lens_flat _
     refine tri_seq ?_
     refine tri_regD hcx [] [28] [6, 25, 26, 27] [10] [] [(28, .bool (decide ((k : Int) < (xss.length : Int))))] [] (by kernel_rfl) ?_ ?_
     ·
      exact az
     refine fin_then ?_
     refine tri_seq ?_
     refine tri_cond (b := (decide ((k : Int) < (xss.length : Int)))) (by kernel_rfl) (fun hb2 => ?_) (fun hb2 => ?_)
     ·
      skip
      have h2 := of_decide_eq_true hb2
      refine tri_skip ?_
      refine fin_then ?_
      refine tri_seq ?_
      refine tri_block ?_
      refine tri_seq ?_
      refine tri_regD hcx [] [8] [6, 25, 26, 27] [10] [((0 : Int) ≤ (k : Int) ∧ (k : Int) < (xss.length : Int))] [(8, .ints (xss.getD k []))] [] (by kernel_rfl) ?_ ?_
      ·
       refine (ap ?_ az)
       first | omega | exact id | exact vcNot | exact vcG | exact vcH | (intro _; omega) | exact (fun _ h => h) | (intro h; simp at h; omega) | (simp only [List.length_cons, List.length_nil, List.length_append, List.length_map, List.length_set, List.length_replicate]; omega) | (intro h; simp [h]; done) | (rw [hl6]; omega) | (simp only [hl6]; omega)
      refine fin_then ?_
      refine tri_regD hcx [(1002, .to 10)] [6] [25, 26, 27] [] [((((xss.take k).flatten).length + (xss.getD k []).length) * 8 ≤ 140737488355328)] [(6, .row 10)] [(10, .row 3 (.ints (((xss.take k).flatten) ++ (xss.getD k []))))] (by kernel_rfl) ?_ ?_
      ·
       refine (ap ?_ az)
       first | omega | exact id | exact vcNot | exact vcG | exact vcH | (intro _; omega) | exact (fun _ h => h) | (intro h; simp at h; omega) | (simp only [List.length_cons, List.length_nil, List.length_append, List.length_map, List.length_set, List.length_replicate]; omega) | (intro h; simp [h]; done) | (rw [hl6]; omega) | (simp only [hl6]; omega)
      refine fin_block ?_
      refine fin_then ?_
      refine tri_regD hcx [] [27] [6, 25, 26] [10] [Fit ((k : Int) + 1)] [(27, .int ((k : Int) + 1))] [] (by kernel_rfl) ?_ ?_
      ·
       refine (ap ?_ az)
       first | omega | exact id | exact vcNot | exact vcG | exact vcH | (intro _; omega) | exact (fun _ h => h) | (intro h; simp at h; omega) | (simp only [List.length_cons, List.length_nil, List.length_append, List.length_map, List.length_set, List.length_replicate]; omega) | (intro h; simp [h]; done) | (rw [hl6]; omega) | (simp only [hl6]; omega)
      refine fin_round (k + 1) ?_ ?_ ?_ ?_
      ·
       show (k + 1) ≤ xss.length
       omega
      ·
       show xss.length - (k + 1) < xss.length - k
       omega
      ·
       exact subE_mk (l := [.row 10, .intss xss, .int (xss.length : Int), .int ((k : Int) + 1)]) (m := [.row 10, .intss xss, .int (xss.length : Int), .int ((k + 1) : Int)]) (by kernel_rfl) (by kernel_rfl) (consE rfl (consE rfl (consE rfl (consE (congrArg AV.int (show ((k : Int) + 1) = ((k + 1) : Int) from (by first | rfl | omega | (simp; done)))) rfl))))
      ·
       exact Eq.trans (show _ = [(10, .row 3 (.ints (((xss.take k).flatten) ++ (xss.getD k []))))] from by kernel_rfl) (consH (congrArg (fun x => ((10 : Nat), x)) (congrArg (fun x => AObj.row 3 (.ints x)) (show (((xss.take k).flatten) ++ (xss.getD k [])) = (xss.take (k + 1)).flatten from (by exact Cn.flat_take (by omega))))) rfl)
     ·
      skip
      have h2 := of_decide_eq_false hb2
      refine tri_exit ?_
      refine fin_then_exit ?_
      refine fin_then_exit ?_
      refine fin_block_same ?_
      refine fin_then ?_
      refine tri_seq ?_
      refine tri_regD hcx [] [2] [] [10] [] [(2, .row 10)] [] (by kernel_rfl) ?_ ?_
      ·
       exact az
      refine fin_then ?_
      refine tri_ret ?_
      refine fin_ren (ρ := [(10, .to 0)]) (keys := [2]) (E' := [(2, .row 0)]) (H' := [(0, .row 3 (.ints ((xss.take k).flatten)))]) (by kernel_rfl) ?_
      exact fin_ret [] rfl rfl trivial hcx (avs := [.row 0]) (by kernel_rfl) rfl [true] (Eq.trans (show _ = [some (.row 3 (.ints ((xss.take k).flatten)))] from by kernel_rfl) (consO (congrArg some (congrArg (fun x => AObj.row 3 (.ints x)) (show (xss.take k).flatten = xss.flatten from (by rw [show k = xss.length from (by omega), List.take_length])))) rfl))
 ·
  cases hσ
def cx_cRes1 : Cx := ⟨tyCnfT, [(38, cMay_σ), (43, cOf_σ), (53, (coeF [.id, .ld (.bools [])] cTrue_σ)), (52, cHolds1_σ), (73, (orF (coeF [.ld (.ints []), .id] ixHolds_σ) (coeF [.ld (.ints []), .id] ixCheck_σ))), (47, (orF (coeF [.ld (.ints []), .id] ctHolds_σ) (coeF [.ld (.ints []), .id] ctCheck_σ))), (21, (coeF [.ld (.ints []), .ld (.bools [])] cHolds_σ)), (48, cCheck1_σ), (17, (coeF [.agg [.id, .ld (.intss [])]] cCheck_σ)), (55, (coeF [.ld (.ints []), .id] cValue1_σ)), (77, (coeF [.ld (.intss []), .id] ixValue_σ)), (56, (coeF [.ld (.intss []), .id] ctValue_σ)), (23, (coeF [.agg [.id, .ld (.intss [])], .ld (.bools [])] cValue_σ)), (70, (coeF [.ld (.ints []), .id] sIndex_σ)), (58, (coeF [.ld (.ints []), .id] sContains_σ)), (36, sClone), (35, (orF sDel1 sDel2)), (39, sSortF), (44, sCompact), (78, sGrow), (14, (coeF [.ld (.ints [])] cNorm_σ)), (61, (coeF [.ld (.intss [])] sConcat_σ))], false⟩
theorem cx_cRes1_ok : CxOk Tryz.prog cx_cRes1 := cx_ok tyCnfT_ok ⟨cMay_sound, cOf_sound, (cTrue_sound.coe [.id, .ld (.bools [])] rfl), cHolds1_sound, ((ixHolds_sound.coe [.ld (.ints []), .id] rfl).or (ixCheck_sound.coe [.ld (.ints []), .id] rfl)), ((ctHolds_sound.coe [.ld (.ints []), .id] rfl).or (ctCheck_sound.coe [.ld (.ints []), .id] rfl)), (cHolds_sound.coe [.ld (.ints []), .ld (.bools [])] rfl), cCheck1_sound, (cCheck_sound.coe [.agg [.id, .ld (.intss [])]] rfl), (cValue1_sound.coe [.ld (.ints []), .id] rfl), (ixValue_sound.coe [.ld (.intss []), .id] rfl), (ctValue_sound.coe [.ld (.intss []), .id] rfl), (cValue_sound.coe [.agg [.id, .ld (.intss [])], .ld (.bools [])] rfl), (sIndex_sound.coe [.ld (.ints []), .id] rfl), (sContains_sound.coe [.ld (.ints []), .id] rfl), sClone_sound, (sDel1_sound.or sDel2_sound), sSortF_sound, sCompact_sound, sGrow_sound, (cNorm_sound.coe [.ld (.ints [])] rfl), (sConcat_sound.coe [.ld (.intss [])] rfl), trivial⟩
def cRes1_σ : CtF
  | [.im (.ls (.ints l)), .im (.val (.int .i64 x))], [] => some (l.length ≤ 1000000, .row 0, [some (.row 3 (.ints (l.filter fun z9 => !(z9 == x))))])
  | _, _ => none
theorem cRes1_sound : Sound Tryz.prog 59 cRes1_σ := by
 refine sound_mk (cx := cx_cRes1) (fn := Tryz.f59) Tryz.func59 (by kernel_rfl) rfl ?_
 intro w0 G0 args os p r outs hσ hp hm0 hd0
 have hcx : CxOk Tryz.prog cx_cRes1 := cx_cRes1_ok
 unfold cRes1_σ at hσ
 split at hσ
 ·
  rename_i l x
  simp only [Option.some.injEq, Prod.mk.injEq] at hσ
  obtain ⟨rfl, rfl, rfl⟩ := hσ
  obtain ⟨wW, wO, wm, wβ, wd⟩ := w0
  replace hm0 : wm = 0 := hm0
  subst hm0
  replace hd0 : wd = [] := hd0
  subst hd0
  refine ⟨by kernel_rfl, ?_⟩
  change Tri ⟨_, _, _, _, _, _⟩ [(0, .ints l), (1, .int x)] [] _ _
  refine tri_seq ?_
  refine tri_regD hcx [(1000, .frz)] [3] [0] [] [] [(3, .pto [.int x])] [] (by kernel_rfl) ?_ ?_
  ·
   exact az
  refine fin_then ?_
  refine tri_seq ?_
  refine tri_regD hcx [(1003, .to 208)] [4] [] [] [(l.length ≤ 1000000000000), (l.length ≤ 1000000000000)] [(4, .row 208)] [(208, .row 3 (.ints (l.filter fun z9 => !(z9 == x))))] (by kernel_rfl) ?_ ?_
  ·
   refine (ap ?_ (ap ?_ az))
   all_goals
    omega
  refine fin_then ?_
  refine tri_ret ?_
  refine fin_ren (ρ := [(208, .to 0)]) (keys := [4]) (E' := [(4, .row 0)]) (H' := [(0, .row 3 (.ints (l.filter fun z9 => !(z9 == x))))]) (by kernel_rfl) ?_
  exact fin_ret [] rfl rfl trivial hcx (avs := [.row 0]) (by kernel_rfl) rfl [true] (Eq.trans (show _ = [some (.row 3 (.ints (l.filter fun z9 => !(z9 == x))))] from by kernel_rfl) (consO rfl rfl))
 ·
  cases hσ
def cx_cResolve : Cx := ⟨tyCnfT, [(38, cMay_σ), (43, cOf_σ), (53, (coeF [.id, .ld (.bools [])] cTrue_σ)), (52, cHolds1_σ), (73, (orF (coeF [.ld (.ints []), .id] ixHolds_σ) (coeF [.ld (.ints []), .id] ixCheck_σ))), (47, (orF (coeF [.ld (.ints []), .id] ctHolds_σ) (coeF [.ld (.ints []), .id] ctCheck_σ))), (21, (coeF [.ld (.ints []), .ld (.bools [])] cHolds_σ)), (48, cCheck1_σ), (17, (coeF [.agg [.id, .ld (.intss [])]] cCheck_σ)), (55, (coeF [.ld (.ints []), .id] cValue1_σ)), (77, (coeF [.ld (.intss []), .id] ixValue_σ)), (56, (coeF [.ld (.intss []), .id] ctValue_σ)), (23, (coeF [.agg [.id, .ld (.intss [])], .ld (.bools [])] cValue_σ)), (70, (coeF [.ld (.ints []), .id] sIndex_σ)), (58, (coeF [.ld (.ints []), .id] sContains_σ)), (36, sClone), (35, (orF sDel1 sDel2)), (39, sSortF), (44, sCompact), (78, sGrow), (14, (coeF [.ld (.ints [])] cNorm_σ)), (61, (coeF [.ld (.intss [])] sConcat_σ)), (59, (coeF [.ld (.ints []), .id] cRes1_σ))], false⟩
theorem cx_cResolve_ok : CxOk Tryz.prog cx_cResolve := cx_ok tyCnfT_ok ⟨cMay_sound, cOf_sound, (cTrue_sound.coe [.id, .ld (.bools [])] rfl), cHolds1_sound, ((ixHolds_sound.coe [.ld (.ints []), .id] rfl).or (ixCheck_sound.coe [.ld (.ints []), .id] rfl)), ((ctHolds_sound.coe [.ld (.ints []), .id] rfl).or (ctCheck_sound.coe [.ld (.ints []), .id] rfl)), (cHolds_sound.coe [.ld (.ints []), .ld (.bools [])] rfl), cCheck1_sound, (cCheck_sound.coe [.agg [.id, .ld (.intss [])]] rfl), (cValue1_sound.coe [.ld (.ints []), .id] rfl), (ixValue_sound.coe [.ld (.intss []), .id] rfl), (ctValue_sound.coe [.ld (.intss []), .id] rfl), (cValue_sound.coe [.agg [.id, .ld (.intss [])], .ld (.bools [])] rfl), (sIndex_sound.coe [.ld (.ints []), .id] rfl), (sContains_sound.coe [.ld (.ints []), .id] rfl), sClone_sound, (sDel1_sound.or sDel2_sound), sSortF_sound, sCompact_sound, sGrow_sound, (cNorm_sound.coe [.ld (.ints [])] rfl), (sConcat_sound.coe [.ld (.intss [])] rfl), (cRes1_sound.coe [.ld (.ints []), .id] rfl), trivial⟩
def cResolve_σ : CtF
  | [.im (.ls (.ints a)), .im (.ls (.ints b)), .im (.val (.int .i64 v))], [] => some (a.length ≤ 100000 ∧ b.length ≤ 100000 ∧ Fit v, .tup [.row 0, .int (Cn.resE a b v)], [some (.row 3 (.ints (Cn.resL a b v)))])
  | _, _ => none
theorem cResolve_sound : Sound Tryz.prog 27 cResolve_σ := by
 refine sound_mk (cx := cx_cResolve) (fn := Tryz.f27) Tryz.func27 (by kernel_rfl) rfl ?_
 intro w0 G0 args os p r outs hσ hp hm0 hd0
 have hcx : CxOk Tryz.prog cx_cResolve := cx_cResolve_ok
 unfold cResolve_σ at hσ
 split at hσ
 ·
  rename_i a b v
  simp only [Option.some.injEq, Prod.mk.injEq] at hσ
  obtain ⟨rfl, rfl, rfl⟩ := hσ
  obtain ⟨wW, wO, wm, wβ, wd⟩ := w0
  replace hm0 : wm = 0 := hm0
  subst hm0
  replace hd0 : wd = [] := hd0
  subst hd0
  refine ⟨by kernel_rfl, ?_⟩
  change Tri ⟨_, _, _, _, _, _⟩ [(0, .ints a), (1, .ints b), (2, .int v)] [] _ _
  obtain ⟨hm1, hm2, hm3, hm4⟩ := hp
  have hm5 : a.length ≤ maxLen := by unfold maxLen; omega
  have hm6 : b.length ≤ maxLen := by unfold maxLen; omega
  have hm7 : [v, -v].length = 2 := rfl
  refine tri_seq ?_
  refine tri_regD hcx [] [] [0, 1, 2] [] [] [] [] (by kernel_rfl) ?_ ?_
  ·
   exact az
  refine fin_then ?_
  refine tri_seq ?_
  refine tri_seq ?_
  refine tri_regD hcx [] [18] [0, 1, 2] [] [((!(decide (v < 1))) = true → ((!(decide (v < 1))) = true)), ((decide (v < 1)) = false → (!(decide (v < 1))) = true)] [(18, .bool ((decide (v < 1)) || (decide (v > 65536))))] [] (by kernel_rfl) ?_ ?_
  ·
   refine (ap ?_ (ap (by exact vcNot) az))
   first | exact hm5 | exact hm6 | exact (fun _ => hm6) | (first | omega | exact id | exact vcNot | exact vcG | exact vcH | (intro _; omega) | exact (fun _ h => h) | (intro h; simp at h; omega) | (simp only [List.length_cons, List.length_nil, List.length_append, List.length_map, List.length_set, List.length_replicate]; omega) | (intro h; simp [h]; done)) | (have := hX (by omega); constructor <;> omega) | (intro _; have := hX (by omega); constructor <;> omega) | (simp only [Cn.lensN, List.map_cons, List.map_nil, List.sum_cons, List.sum_nil, List.length_cons, List.length_nil]; omega) | (rw [Cn.flat2, List.length_append]; omega)
  refine fin_then ?_
  refine tri_cond (b := ((decide (v < 1)) || (decide (v > 65536)))) (by kernel_rfl) (fun hb0 => ?_) (fun hb0 => ?_)
  ·
   skip
   have h0 := hb0
   try simp only [Bool.or_eq_true, Bool.or_eq_false_iff, Bool.and_eq_true, Bool.and_eq_false_iff, Bool.not_eq_true', Bool.not_eq_false', decide_eq_true_eq, decide_eq_false_iff_not, bne_iff_ne, bne_eq_false_iff_eq, beq_iff_eq, beq_eq_false_iff_ne] at h0
   refine tri_seq ?_
   refine tri_regD hcx [] [6, 7] [] [] [] [(6, .im (.val (.slice none 0 0))), (7, .int 140)] [] (by kernel_rfl) ?_ ?_
   ·
    exact az
   refine fin_then ?_
   refine tri_ret ?_
   refine fin_then_ret ?_
   refine fin_row 6 700 3 (.ints []) (by kernel_rfl) (by kernel_rfl) (by kernel_rfl) (by kernel_rfl) (E' := [(6, .row 700), (7, .int 140)]) (by kernel_rfl) ?_
   refine fin_ren (ρ := [(700, .to 0)]) (keys := [6, 7]) (E' := [(6, .row 0), (7, .int 140)]) (H' := [(0, .row 3 (.ints []))]) (by kernel_rfl) ?_
   exact fin_ret [] rfl rfl trivial hcx (avs := [.row 0, .int 140]) (by kernel_rfl) (congrArg AV.tup (consE rfl (consE (congrArg AV.int (show 140 = (Cn.resE a b v) from (by exact (Cn.res_out (by omega)).2.symm))) rfl))) [true] (Eq.trans (show _ = [some (.row 3 (.ints []))] from by kernel_rfl) (consO (congrArg some (congrArg (fun x => AObj.row 3 (.ints x)) (show [] = (Cn.resL a b v) from (by exact (Cn.res_out (by omega)).1.symm)))) rfl))
  ·
   skip
   have h0 := hb0
   try simp only [Bool.or_eq_true, Bool.or_eq_false_iff, Bool.and_eq_true, Bool.and_eq_false_iff, Bool.not_eq_true', Bool.not_eq_false', decide_eq_true_eq, decide_eq_false_iff_not, bne_iff_ne, bne_eq_false_iff_eq, beq_iff_eq, beq_eq_false_iff_ne] at h0
   have hv1 : 1 ≤ v := by omega
   have hv2 : v ≤ 65536 := by omega
   refine tri_skip ?_
   refine fin_then ?_
   refine tri_seq ?_
   refine tri_seq ?_
   refine tri_regD hcx [] [22, 23, 24] [0, 1] [] [Fit (-v)] [(22, .ints [v, (-v)]), (23, .int ([v, (-v)].length : Int)), (24, .int 0)] [] (by kernel_rfl) ?_ ?_
   ·
    refine (ap ?_ az)
    first | exact hm5 | exact hm6 | exact (fun _ => hm6) | (first | omega | exact id | exact vcNot | exact vcG | exact vcH | (intro _; omega) | exact (fun _ h => h) | (intro h; simp at h; omega) | (simp only [List.length_cons, List.length_nil, List.length_append, List.length_map, List.length_set, List.length_replicate]; omega) | (intro h; simp [h]; done)) | (have := hX (by omega); constructor <;> omega) | (intro _; have := hX (by omega); constructor <;> omega) | (simp only [Cn.lensN, List.map_cons, List.map_nil, List.sum_cons, List.sum_nil, List.length_cons, List.length_nil]; omega) | (rw [Cn.flat2, List.length_append]; omega)
   refine fin_then ?_
   refine tri_block ?_
   refine tri_loop (X := Nat) (fun x0 => x0 ≤ 2 ∧ ∀ j, j < x0 → Cn.onB a b ([v, -v].getD j 0) = false) (fun x0 => [(0, .ints a), (1, .ints b), (22, .ints [v, (-v)]), (23, .int ([v, (-v)].length : Int)), (24, .int (x0 : Int))]) (fun x0 => []) (fun x0 => 2 - x0) (0) ?_ ?_ ?_ ?_
   ·
    show 0 ≤ 2 ∧ ∀ j, j < 0 → Cn.onB a b ([v, -v].getD j 0) = false
    exact ⟨Nat.zero_le _, fun j hj => by omega⟩
   ·
    exact subE_mk (l := [.ints a, .ints b, .ints [v, (-v)], .int ([v, (-v)].length : Int), .int 0]) (m := [.ints a, .ints b, .ints [v, (-v)], .int ([v, (-v)].length : Int), .int (0 : Int)]) (by kernel_rfl) (by kernel_rfl) (consE rfl (consE rfl (consE rfl (consE rfl (consE (congrArg AV.int (show 0 = (0 : Int) from (by first | rfl | omega | (simp; done)))) rfl)))))
   ·
    kernel_rfl
   ·
    intro k hI
    replace hI : k ≤ 2 ∧ ∀ j, j < k → Cn.onB a b ([v, -v].getD j 0) = false := hI
    change Tri _ [(0, .ints a), (1, .ints b), (22, .ints [v, (-v)]), (23, .int ([v, (-v)].length : Int)), (24, .int (k : Int))] [] _ _
    obtain ⟨hk, hok⟩ := hI
    have hX : k < 2 → -65536 ≤ ([v, -v].getD k 0) ∧ ([v, -v].getD k 0) ≤ 65536 := fun h => Cn.two_bd h hv1 hv2
    refine tri_seq ?_
    refine tri_regD hcx [] [25] [0, 1, 22, 23, 24] [] [] [(25, .bool (decide ((k : Int) < ([v, (-v)].length : Int))))] [] (by kernel_rfl) ?_ ?_
    ·
     exact az
    refine fin_then ?_
    refine tri_seq ?_
    refine tri_cond (b := (decide ((k : Int) < ([v, (-v)].length : Int)))) (by kernel_rfl) (fun hb1 => ?_) (fun hb1 => ?_)
    ·
     skip
     have h1 := of_decide_eq_true hb1
     refine tri_skip ?_
     refine fin_then ?_
     refine tri_seq ?_
     refine tri_block ?_
     refine tri_seq ?_
     refine tri_regD hcx [] [9] [0, 1, 22, 23, 24] [] [((0 : Int) ≤ (k : Int) ∧ (k : Int) < ([v, (-v)].length : Int))] [(9, .int ([v, (-v)].getD k 0))] [] (by kernel_rfl) ?_ ?_
     ·
      refine (ap ?_ az)
      first | exact hm5 | exact hm6 | exact (fun _ => hm6) | (first | omega | exact id | exact vcNot | exact vcG | exact vcH | (intro _; omega) | exact (fun _ h => h) | (intro h; simp at h; omega) | (simp only [List.length_cons, List.length_nil, List.length_append, List.length_map, List.length_set, List.length_replicate]; omega) | (intro h; simp [h]; done)) | (have := hX (by omega); constructor <;> omega) | (intro _; have := hX (by omega); constructor <;> omega) | (simp only [Cn.lensN, List.map_cons, List.map_nil, List.sum_cons, List.sum_nil, List.length_cons, List.length_nil]; omega) | (rw [Cn.flat2, List.length_append]; omega)
     refine fin_then ?_
     refine tri_seq ?_
     refine tri_seq ?_
     refine tri_regD hcx [] [38] [9, 0, 1, 22, 23, 24] [] [(a.length ≤ maxLen), ((!(!(a.contains ([v, (-v)].getD k 0)))) = true → ((!(!(a.contains ([v, (-v)].getD k 0)))) = true)), ((!(!(a.contains ([v, (-v)].getD k 0)))) = true → Fit (-([v, (-v)].getD k 0))), ((!(!(a.contains ([v, (-v)].getD k 0)))) = true → ((!(!(a.contains ([v, (-v)].getD k 0)))) = true)), ((!(!(a.contains ([v, (-v)].getD k 0)))) = true → ((!(!(a.contains ([v, (-v)].getD k 0)))) = true)), ((!(!(a.contains ([v, (-v)].getD k 0)))) = true → (b.length ≤ maxLen)), ((!(!(a.contains ([v, (-v)].getD k 0)))) = true → ((!(!(a.contains ([v, (-v)].getD k 0)))) = true)), ((!(a.contains ([v, (-v)].getD k 0))) = false → (!(!(a.contains ([v, (-v)].getD k 0)))) = true)] [(38, .bool ((!(a.contains ([v, (-v)].getD k 0))) || (!(b.contains (-([v, (-v)].getD k 0))))))] [] (by kernel_rfl) ?_ ?_
     ·
      refine (ap ?_ (ap ?_ (ap ?_ (ap ?_ (ap ?_ (ap ?_ (ap ?_ (ap (by exact vcNot) az))))))))
      all_goals
       first | exact hm5 | exact hm6 | exact (fun _ => hm6) | (first | omega | exact id | exact vcNot | exact vcG | exact vcH | (intro _; omega) | exact (fun _ h => h) | (intro h; simp at h; omega) | (simp only [List.length_cons, List.length_nil, List.length_append, List.length_map, List.length_set, List.length_replicate]; omega) | (intro h; simp [h]; done)) | (have := hX (by omega); constructor <;> omega) | (intro _; have := hX (by omega); constructor <;> omega) | (simp only [Cn.lensN, List.map_cons, List.map_nil, List.sum_cons, List.sum_nil, List.length_cons, List.length_nil]; omega) | (rw [Cn.flat2, List.length_append]; omega)
     refine fin_then ?_
     refine tri_cond (b := ((!(a.contains ([v, (-v)].getD k 0))) || (!(b.contains (-([v, (-v)].getD k 0)))))) (by kernel_rfl) (fun hb2 => ?_) (fun hb2 => ?_)
     ·
      skip
      have h2 := hb2
      have hq : Cn.onB a b ([v, -v].getD k 0) = false := Cn.onB_no h2
      refine tri_exit ?_
      refine fin_then_exit ?_
      refine fin_block_same ?_
      refine fin_then ?_
      refine tri_regD hcx [] [24] [0, 1, 22, 23] [] [Fit ((k : Int) + 1)] [(24, .int ((k : Int) + 1))] [] (by kernel_rfl) ?_ ?_
      ·
       refine (ap ?_ az)
       first | exact hm5 | exact hm6 | exact (fun _ => hm6) | (first | omega | exact id | exact vcNot | exact vcG | exact vcH | (intro _; omega) | exact (fun _ h => h) | (intro h; simp at h; omega) | (simp only [List.length_cons, List.length_nil, List.length_append, List.length_map, List.length_set, List.length_replicate]; omega) | (intro h; simp [h]; done)) | (have := hX (by omega); constructor <;> omega) | (intro _; have := hX (by omega); constructor <;> omega) | (simp only [Cn.lensN, List.map_cons, List.map_nil, List.sum_cons, List.sum_nil, List.length_cons, List.length_nil]; omega) | (rw [Cn.flat2, List.length_append]; omega)
      refine fin_round (k + 1) ?_ ?_ ?_ ?_
      ·
       show (k + 1) ≤ 2 ∧ ∀ j, j < (k + 1) → Cn.onB a b ([v, -v].getD j 0) = false
       exact ⟨by omega, Cn.falseSucc (f := fun j => Cn.onB a b ([v, -v].getD j 0)) hok hq⟩
      ·
       show 2 - (k + 1) < 2 - k
       omega
      ·
       exact subE_mk (l := [.ints a, .ints b, .ints [v, (-v)], .int ([v, (-v)].length : Int), .int ((k : Int) + 1)]) (m := [.ints a, .ints b, .ints [v, (-v)], .int ([v, (-v)].length : Int), .int ((k + 1) : Int)]) (by kernel_rfl) (by kernel_rfl) (consE rfl (consE rfl (consE rfl (consE rfl (consE (congrArg AV.int (show ((k : Int) + 1) = ((k + 1) : Int) from (by first | rfl | omega | (simp; done)))) rfl)))))
      ·
       kernel_rfl
     ·
      skip
      have h2 := hb2
      have hq : Cn.onB a b ([v, -v].getD k 0) = true := Cn.onB_yes h2
      have hf1 := List.length_filter_le (fun y => !(y == ([v, -v].getD k 0))) a
      have hf2 := List.length_filter_le (fun y => !(y == -([v, -v].getD k 0))) b
      refine tri_skip ?_
      refine fin_then ?_
      refine tri_seq ?_
      refine tri_regD hcx [] [10] [9, 0, 1] [] [] [(10, .clo 59 [])] [] (by kernel_rfl) ?_ ?_
      ·
       exact az
      refine fin_then ?_
      refine tri_seq ?_
      refine tri_regD hcx [(1011, .to 251)] [11] [] [] [(a.length ≤ 1000000), Fit (-([v, (-v)].getD k 0)), (b.length ≤ 1000000), ([(a.filter fun z9 => !(z9 == ([v, (-v)].getD k 0))), (b.filter fun z9 => !(z9 == (-([v, (-v)].getD k 0))))].length ≤ 1000000 ∧ Cn.lensN [(a.filter fun z9 => !(z9 == ([v, (-v)].getD k 0))), (b.filter fun z9 => !(z9 == (-([v, (-v)].getD k 0))))] ≤ 1000000), (([(a.filter fun z9 => !(z9 == ([v, (-v)].getD k 0))), (b.filter fun z9 => !(z9 == (-([v, (-v)].getD k 0))))].flatten).length ≤ 1000000)] [(11, .row 251)] [(251, .row 3 (.ints (Cn.normL ([(a.filter fun z9 => !(z9 == ([v, (-v)].getD k 0))), (b.filter fun z9 => !(z9 == (-([v, (-v)].getD k 0))))].flatten))))] (by kernel_rfl) ?_ ?_
      ·
       refine (ap ?_ (ap ?_ (ap ?_ (ap ?_ (ap ?_ az)))))
       all_goals
        first | exact hm5 | exact hm6 | exact (fun _ => hm6) | (first | omega | exact id | exact vcNot | exact vcG | exact vcH | (intro _; omega) | exact (fun _ h => h) | (intro h; simp at h; omega) | (simp only [List.length_cons, List.length_nil, List.length_append, List.length_map, List.length_set, List.length_replicate]; omega) | (intro h; simp [h]; done)) | (have := hX (by omega); constructor <;> omega) | (intro _; have := hX (by omega); constructor <;> omega) | (simp only [Cn.lensN, List.map_cons, List.map_nil, List.sum_cons, List.sum_nil, List.length_cons, List.length_nil]; omega) | (rw [Cn.flat2, List.length_append]; omega)
      refine fin_then ?_
      refine tri_seq ?_
      refine tri_regD hcx [] [6, 7] [] [251] [] [(6, .row 251), (7, .int 0)] [] (by kernel_rfl) ?_ ?_
      ·
       exact az
      refine fin_then ?_
      refine tri_ret ?_
      refine fin_block_ret ?_
      refine fin_then_ret ?_
      refine fin_then_ret ?_
      refine fin_block_ret ?_
      refine fin_then_ret ?_
      refine fin_ren (ρ := [(251, .to 0)]) (keys := [6, 7]) (E' := [(6, .row 0), (7, .int 0)]) (H' := [(0, .row 3 (.ints (Cn.normL ([(a.filter fun z9 => !(z9 == ([v, (-v)].getD k 0))), (b.filter fun z9 => !(z9 == (-([v, (-v)].getD k 0))))].flatten))))]) (by kernel_rfl) ?_
      exact fin_ret [] rfl rfl trivial hcx (avs := [.row 0, .int 0]) (by kernel_rfl) (congrArg AV.tup (consE rfl (consE (congrArg AV.int (show 0 = (Cn.resE a b v) from (by exact (Cn.res_yes (k := k) (by omega) hv1 hv2 hok hq).2.symm))) rfl))) [true] (Eq.trans (show _ = [some (.row 3 (.ints (Cn.normL ([(a.filter fun z9 => !(z9 == ([v, (-v)].getD k 0))), (b.filter fun z9 => !(z9 == (-([v, (-v)].getD k 0))))].flatten))))] from by kernel_rfl) (consO (congrArg some (congrArg (fun x => AObj.row 3 (.ints x)) (show (Cn.normL ([(a.filter fun z9 => !(z9 == ([v, (-v)].getD k 0))), (b.filter fun z9 => !(z9 == (-([v, (-v)].getD k 0))))].flatten)) = (Cn.resL a b v) from (by rw [Cn.flat2]; exact (Cn.res_yes (k := k) (by omega) hv1 hv2 hok hq).1.symm)))) rfl))
    ·
     skip
     have h1 := of_decide_eq_false hb1
     refine tri_exit ?_
     refine fin_then_exit ?_
     refine fin_then_exit ?_
     refine fin_block_same ?_
     refine fin_then ?_
     refine tri_seq ?_
     refine tri_regD hcx [] [6, 7] [] [] [] [(6, .im (.val (.slice none 0 0))), (7, .int 140)] [] (by kernel_rfl) ?_ ?_
     ·
      exact az
     refine fin_then ?_
     refine tri_ret ?_
     refine fin_row 6 700 3 (.ints []) (by kernel_rfl) (by kernel_rfl) (by kernel_rfl) (by kernel_rfl) (E' := [(6, .row 700), (7, .int 140)]) (by kernel_rfl) ?_
     refine fin_ren (ρ := [(700, .to 0)]) (keys := [6, 7]) (E' := [(6, .row 0), (7, .int 140)]) (H' := [(0, .row 3 (.ints []))]) (by kernel_rfl) ?_
     exact fin_ret [] rfl rfl trivial hcx (avs := [.row 0, .int 140]) (by kernel_rfl) (congrArg AV.tup (consE rfl (consE (congrArg AV.int (show 140 = (Cn.resE a b v) from (by exact (Cn.res_no (fun j hj => hok j (by omega))).2.symm))) rfl))) [true] (Eq.trans (show _ = [some (.row 3 (.ints []))] from by kernel_rfl) (consO (congrArg some (congrArg (fun x => AObj.row 3 (.ints x)) (show [] = (Cn.resL a b v) from (by exact (Cn.res_no (fun j hj => hok j (by omega))).1.symm)))) rfl))
 ·
  cases hσ
end Go.Proofs.YtiokflebeojokaaGreatDoor.En
