/- The reference of layer 23, in the reader's words. -/
import Derived.Test.YthhfdjcaafckbaaRef14S
import Derived.Test.YthhfdjcaafckbaaElimR
namespace Go.Proofs.Ythhfdjcaafckbaa.En
open Go Go.RowKit
set_option linter.unusedVariables false
set_option linter.unusedSimpArgs false
set_option linter.unnecessarySimpa false
def tyR23 : List (Nat × TD) := [(3, ⟨1, false, [.int .i64 0], [], none, 8, false, 1, 1⟩),
  (4, ⟨1, false, [.bool false], [], none, 1, true, 0, 2⟩),
  (22, ⟨1, false, [.slice none 0 0], [], some 43, 24, false, 0, 0⟩),
  (24, ⟨2, true, [.int .i64 0, .slice none 0 0], [(0, 3), (1, 22)], none, 32, false, 0, 6⟩),
  (28, ⟨2, true, [.int .i64 0, .slice none 0 0], [(0, 3), (1, 22)], none, 32, false, 0, 6⟩),
  (29, ⟨1, false, [.int .i64 0], [], none, 8, false, 1, 1⟩),
  (34, ⟨1, false, [.slice none 0 0], [], some 28, 24, false, 0, 0⟩),
  (36, ⟨1, false, [.slice none 0 0], [], some 4, 24, false, 0, 0⟩),
  (43, ⟨1, false, [.slice none 0 0], [], some 3, 24, false, 0, 3⟩)]
theorem tyR23_ok : AllTy Try.prog tyR23 := ⟨⟨by kernel_rfl, by kernel_rfl⟩, ⟨by kernel_rfl, by kernel_rfl⟩, ⟨by kernel_rfl, by kernel_rfl⟩, ⟨by kernel_rfl, by kernel_rfl⟩, ⟨by kernel_rfl, by kernel_rfl⟩, ⟨by kernel_rfl, by kernel_rfl⟩, ⟨by kernel_rfl, by kernel_rfl⟩, ⟨by kernel_rfl, by kernel_rfl⟩, ⟨by kernel_rfl, by kernel_rfl⟩, trivial⟩
def cx_qhas : Cx := ⟨tyR23, [(50, rIs_σ), (53, (coeF [.ld (.ints []), .ld (.ints [])] rInts_σ)), (32, (coeF [.ld (.intss []), .ld (.intss [])] rLists_σ)), (27, (coeF [.agg [.id, .ld (.intss [])]] rCheck_σ)), (14, (coeF [.agg [.id, .ld (.intss [])], .agg [.id, .ld (.intss [])]] rSame_σ)), (51, (coeF [.ld (.ints []), .id] rHas_σ)), (52, rAhead_σ), (58, (coeF [.id, .ld (.bools [])] rLit_σ)), (38, (coeF [.ld (.ints []), .ld (.bools [])] rHolds_σ)), (31, (coeF [.ld (.ints [])] rNorm_σ)), (30, (coeF [.ld (.ints []), .ld (.ints []), .id] rResolve_σ))]⟩
theorem cx_qhas_ok : CxOk Try.prog cx_qhas := cx_ok tyR23_ok ⟨rIs_sound, (rInts_sound.coe [.ld (.ints []), .ld (.ints [])] rfl), (rLists_sound.coe [.ld (.intss []), .ld (.intss [])] rfl), (rCheck_sound.coe [.agg [.id, .ld (.intss [])]] rfl), (rSame_sound.coe [.agg [.id, .ld (.intss [])], .agg [.id, .ld (.intss [])]] rfl), (rHas_sound.coe [.ld (.ints []), .id] rfl), rAhead_sound, (rLit_sound.coe [.id, .ld (.bools [])] rfl), (rHolds_sound.coe [.ld (.ints []), .ld (.bools [])] rfl), (rNorm_sound.coe [.ld (.ints [])] rfl), (rResolve_sound.coe [.ld (.ints []), .ld (.ints []), .id] rfl), trivial⟩
def qhas_σ : CtF
  | [.im (.ls (.ints l)), .im (.val (.int .i64 n))], [] => some (l.length ≤ maxLen, .bool (l.contains n), [])
  | _, _ => none
theorem qhas_sound : Sound Try.prog 29 qhas_σ := by
 refine sound_mk (cx := cx_qhas) (fn := Try.f29) Try.func29 (by kernel_rfl) rfl ?_
 intro w0 G0 args os p r outs hσ hp hm0 hd0
 have hcx : CxOk Try.prog cx_qhas := cx_qhas_ok
 unfold qhas_σ at hσ
 split at hσ
 ·
  rename_i l n
  simp only [Option.some.injEq, Prod.mk.injEq] at hσ
  obtain ⟨rfl, rfl, rfl⟩ := hσ
  obtain ⟨wW, wO, wm, wβ, wd⟩ := w0
  replace hm0 : wm = 0 := hm0
  subst hm0
  replace hd0 : wd = [] := hd0
  subst hd0
  refine ⟨by kernel_rfl, ?_⟩
  change Tri ⟨_, _, _, _, _, _⟩ [(0, .ints l), (1, .int n)] [] _ _
  have hm := hp
  unfold maxLen at hm
  refine tri_seq ?_
  refine tri_regD hcx [] [] [0, 1] [] [] [] [] (by kernel_rfl) ?_ ?_
  ·
   exact az
  refine fin_then ?_
  refine tri_seq ?_
  refine tri_seq ?_
  refine tri_regD hcx [] [7, 8, 9] [1] [] [] [(7, .ints l), (8, .int (l.length : Int)), (9, .int 0)] [] (by kernel_rfl) ?_ ?_
  ·
   exact az
  refine fin_then ?_
  refine tri_block ?_
  refine tri_loop (X := Nat) (fun x0 => x0 ≤ l.length ∧ ∀ j, j < x0 → l.getD j 0 ≠ n) (fun x0 => [(1, .int n), (7, .ints l), (8, .int (l.length : Int)), (9, .int (x0 : Int))]) (fun x0 => []) (fun x0 => l.length - x0) (0) ?_ ?_ ?_ ?_
  ·
   show 0 ≤ l.length ∧ ∀ j, j < 0 → l.getD j 0 ≠ n
   exact ⟨Nat.zero_le _, fun j hj => by omega⟩
  ·
   exact subE_mk (l := [.int n, .ints l, .int (l.length : Int), .int 0]) (m := [.int n, .ints l, .int (l.length : Int), .int (0 : Int)]) (by kernel_rfl) (by kernel_rfl) (consE rfl (consE rfl (consE rfl (consE (congrArg AV.int (show 0 = (0 : Int) from (by first | rfl | omega | (simp; done)))) rfl))))
  ·
   kernel_rfl
  ·
   intro k hI
   replace hI : k ≤ l.length ∧ ∀ j, j < k → l.getD j 0 ≠ n := hI
   change Tri _ [(1, .int n), (7, .ints l), (8, .int (l.length : Int)), (9, .int (k : Int))] [] _ _
   obtain ⟨hk, hok⟩ := hI
   refine tri_seq ?_
   refine tri_regD hcx [] [10] [1, 7, 8, 9] [] [] [(10, .bool (decide ((k : Int) < (l.length : Int))))] [] (by kernel_rfl) ?_ ?_
   ·
    exact az
   refine fin_then ?_
   refine tri_seq ?_
   refine tri_cond (b := (decide ((k : Int) < (l.length : Int)))) (by kernel_rfl) (fun hb0 => ?_) (fun hb0 => ?_)
   ·
    skip
    have h0 := of_decide_eq_true hb0
    refine tri_skip ?_
    refine fin_then ?_
    refine tri_seq ?_
    refine tri_block ?_
    refine tri_seq ?_
    refine tri_regD hcx [] [6] [1, 7, 8, 9] [] [((0 : Int) ≤ (k : Int) ∧ (k : Int) < (l.length : Int))] [(6, .int (l.getD k 0))] [] (by kernel_rfl) ?_ ?_
    ·
     refine (ap ?_ az)
     omega
    refine fin_then ?_
    refine tri_seq ?_
    refine tri_regD hcx [] [15] [1, 7, 8, 9] [] [] [(15, .bool ((l.getD k 0) == n))] [] (by kernel_rfl) ?_ ?_
    ·
     exact az
    refine fin_then ?_
    refine tri_cond (b := ((l.getD k 0) == n)) (by kernel_rfl) (fun hb1 => ?_) (fun hb1 => ?_)
    ·
     skip
     have h1 := eq_of_beq hb1
     have hq := h1
     refine tri_seq ?_
     refine tri_regD hcx [] [4] [] [] [] [(4, .bool true)] [] (by kernel_rfl) ?_ ?_
     ·
      exact az
     refine fin_then ?_
     refine tri_ret ?_
     refine fin_block_ret ?_
     refine fin_then_ret ?_
     refine fin_then_ret ?_
     refine fin_block_ret ?_
     refine fin_then_ret ?_
     exact fin_ret [] rfl rfl trivial hcx (avs := [.bool true]) (by kernel_rfl) (congrArg AV.bool (show true = (l.contains n) from (by exact (Cn.has_yes (by omega) hq).symm))) [] rfl
    ·
     skip
     have h1 := neB hb1
     have hq := h1
     refine tri_skip ?_
     refine fin_block ?_
     refine fin_then ?_
     refine tri_regD hcx [] [9] [1, 7, 8] [] [Fit ((k : Int) + 1)] [(9, .int ((k : Int) + 1))] [] (by kernel_rfl) ?_ ?_
     ·
      refine (ap ?_ az)
      omega
     refine fin_round (k + 1) ?_ ?_ ?_ ?_
     ·
      show (k + 1) ≤ l.length ∧ ∀ j, j < (k + 1) → l.getD j 0 ≠ n
      exact ⟨by omega, Cn.neSucc (P := fun j => l.getD j 0 ≠ n) hok hq⟩
     ·
      show l.length - (k + 1) < l.length - k
      omega
     ·
      exact subE_mk (l := [.int n, .ints l, .int (l.length : Int), .int ((k : Int) + 1)]) (m := [.int n, .ints l, .int (l.length : Int), .int ((k + 1) : Int)]) (by kernel_rfl) (by kernel_rfl) (consE rfl (consE rfl (consE rfl (consE (congrArg AV.int (show ((k : Int) + 1) = ((k + 1) : Int) from (by first | rfl | omega | (simp; done)))) rfl))))
     ·
      kernel_rfl
   ·
    skip
    have h0 := of_decide_eq_false hb0
    refine tri_exit ?_
    refine fin_then_exit ?_
    refine fin_then_exit ?_
    refine fin_block_same ?_
    refine fin_then ?_
    refine tri_seq ?_
    refine tri_regD hcx [] [4] [] [] [] [(4, .bool false)] [] (by kernel_rfl) ?_ ?_
    ·
     exact az
    refine fin_then ?_
    refine tri_ret ?_
    exact fin_ret [] rfl rfl trivial hcx (avs := [.bool false]) (by kernel_rfl) (congrArg AV.bool (show false = (l.contains n) from (by exact (Cn.has_no (fun j hj => hok j (by omega))).symm))) [] rfl
 ·
  cases hσ
def cx_qHas : Cx := ⟨tyR23, [(50, rIs_σ), (53, (coeF [.ld (.ints []), .ld (.ints [])] rInts_σ)), (32, (coeF [.ld (.intss []), .ld (.intss [])] rLists_σ)), (27, (coeF [.agg [.id, .ld (.intss [])]] rCheck_σ)), (14, (coeF [.agg [.id, .ld (.intss [])], .agg [.id, .ld (.intss [])]] rSame_σ)), (51, (coeF [.ld (.ints []), .id] rHas_σ)), (52, rAhead_σ), (58, (coeF [.id, .ld (.bools [])] rLit_σ)), (38, (coeF [.ld (.ints []), .ld (.bools [])] rHolds_σ)), (31, (coeF [.ld (.ints [])] rNorm_σ)), (30, (coeF [.ld (.ints []), .ld (.ints []), .id] rResolve_σ)), (29, (coeF [.ld (.ints []), .id] qhas_σ))]⟩
theorem cx_qHas_ok : CxOk Try.prog cx_qHas := cx_ok tyR23_ok ⟨rIs_sound, (rInts_sound.coe [.ld (.ints []), .ld (.ints [])] rfl), (rLists_sound.coe [.ld (.intss []), .ld (.intss [])] rfl), (rCheck_sound.coe [.agg [.id, .ld (.intss [])]] rfl), (rSame_sound.coe [.agg [.id, .ld (.intss [])], .agg [.id, .ld (.intss [])]] rfl), (rHas_sound.coe [.ld (.ints []), .id] rfl), rAhead_sound, (rLit_sound.coe [.id, .ld (.bools [])] rfl), (rHolds_sound.coe [.ld (.ints []), .ld (.bools [])] rfl), (rNorm_sound.coe [.ld (.ints [])] rfl), (rResolve_sound.coe [.ld (.ints []), .ld (.ints []), .id] rfl), (qhas_sound.coe [.ld (.ints []), .id] rfl), trivial⟩
def qHas_σ : CtF
  | [.im (.ls (.ints l)), .im (.val (.int .i64 v))], [] => some (l.length ≤ maxLen ∧ -65536 ≤ v ∧ v ≤ 65536, .bool (Cn.hasV v l), [])
  | _, _ => none
theorem qHas_sound : Sound Try.prog 24 qHas_σ := by
 refine sound_mk (cx := cx_qHas) (fn := Try.f24) Try.func24 (by kernel_rfl) rfl ?_
 intro w0 G0 args os p r outs hσ hp hm0 hd0
 have hcx : CxOk Try.prog cx_qHas := cx_qHas_ok
 unfold qHas_σ at hσ
 split at hσ
 ·
  rename_i l v
  simp only [Option.some.injEq, Prod.mk.injEq] at hσ
  obtain ⟨rfl, rfl, rfl⟩ := hσ
  obtain ⟨wW, wO, wm, wβ, wd⟩ := w0
  replace hm0 : wm = 0 := hm0
  subst hm0
  replace hd0 : wd = [] := hd0
  subst hd0
  refine ⟨by kernel_rfl, ?_⟩
  change Tri ⟨_, _, _, _, _, _⟩ [(0, .ints l), (1, .int v)] [] _ _
  obtain ⟨hm1, hm2, hm3⟩ := hp
  refine tri_seq ?_
  refine tri_regD hcx [] [] [0, 1] [] [] [] [] (by kernel_rfl) ?_ ?_
  ·
   exact az
  refine fin_then ?_
  refine tri_seq ?_
  refine tri_regD hcx [] [4] [] [] [(l.length ≤ maxLen), ((!(l.contains v)) = true → ((!(l.contains v)) = true)), ((!(l.contains v)) = true → Fit (-v)), ((!(l.contains v)) = true → ((!(l.contains v)) = true)), ((!(l.contains v)) = true → ((!(l.contains v)) = true)), ((!(l.contains v)) = true → (l.length ≤ maxLen)), ((l.contains v) = false → (!(l.contains v)) = true)] [(4, .bool ((l.contains v) || (l.contains (-v))))] [] (by kernel_rfl) ?_ ?_
  ·
   refine (ap ?_ (ap ?_ (ap ?_ (ap ?_ (ap ?_ (ap ?_ (ap (by exact vcNot) az)))))))
   all_goals
    first | exact hm1 | exact (fun _ => hm1) | (first | omega | exact id | exact vcNot | exact vcG | exact vcH | (intro _; omega) | exact (fun _ h => h) | (intro h; simp at h; omega) | (simp only [List.length_cons, List.length_nil, List.length_append, List.length_map, List.length_set, List.length_replicate]; omega) | (intro h; simp [h]; done)) | (constructor <;> omega) | (intro _; constructor <;> omega)
  refine fin_then ?_
  refine tri_ret ?_
  exact fin_ret [] rfl rfl trivial hcx (avs := [.bool ((l.contains v) || (l.contains (-v)))]) (by kernel_rfl) (congrArg AV.bool (show ((l.contains v) || (l.contains (-v))) = (Cn.hasV v l) from (by rfl))) [] rfl
 ·
  cases hσ
def cx_qown : Cx := ⟨tyR23, [(50, rIs_σ), (53, (coeF [.ld (.ints []), .ld (.ints [])] rInts_σ)), (32, (coeF [.ld (.intss []), .ld (.intss [])] rLists_σ)), (27, (coeF [.agg [.id, .ld (.intss [])]] rCheck_σ)), (14, (coeF [.agg [.id, .ld (.intss [])], .agg [.id, .ld (.intss [])]] rSame_σ)), (51, (coeF [.ld (.ints []), .id] rHas_σ)), (52, rAhead_σ), (58, (coeF [.id, .ld (.bools [])] rLit_σ)), (38, (coeF [.ld (.ints []), .ld (.bools [])] rHolds_σ)), (31, (coeF [.ld (.ints [])] rNorm_σ)), (30, (coeF [.ld (.ints []), .ld (.ints []), .id] rResolve_σ)), (29, (coeF [.ld (.ints []), .id] qhas_σ)), (24, (coeF [.ld (.ints []), .id] qHas_σ))]⟩
theorem cx_qown_ok : CxOk Try.prog cx_qown := cx_ok tyR23_ok ⟨rIs_sound, (rInts_sound.coe [.ld (.ints []), .ld (.ints [])] rfl), (rLists_sound.coe [.ld (.intss []), .ld (.intss [])] rfl), (rCheck_sound.coe [.agg [.id, .ld (.intss [])]] rfl), (rSame_sound.coe [.agg [.id, .ld (.intss [])], .agg [.id, .ld (.intss [])]] rfl), (rHas_sound.coe [.ld (.ints []), .id] rfl), rAhead_sound, (rLit_sound.coe [.id, .ld (.bools [])] rfl), (rHolds_sound.coe [.ld (.ints []), .ld (.bools [])] rfl), (rNorm_sound.coe [.ld (.ints [])] rfl), (rResolve_sound.coe [.ld (.ints []), .ld (.ints []), .id] rfl), (qhas_sound.coe [.ld (.ints []), .id] rfl), (qHas_sound.coe [.ld (.ints []), .id] rfl), trivial⟩
def qown_σ : CtF
  | [.im (.ls (.ints l))], [] => some (l.length ≤ 1000000, .row 0, [some (.row 3 (.ints l))])
  | _, _ => none
theorem qown_sound : Sound Try.prog 28 qown_σ := by
 refine sound_mk (cx := cx_qown) (fn := Try.f28) Try.func28 (by kernel_rfl) rfl ?_
 intro w0 G0 args os p r outs hσ hp hm0 hd0
 have hcx : CxOk Try.prog cx_qown := cx_qown_ok
 unfold qown_σ at hσ
 split at hσ
 ·
  rename_i l
  simp only [Option.some.injEq, Prod.mk.injEq] at hσ
  obtain ⟨rfl, rfl, rfl⟩ := hσ
  obtain ⟨wW, wO, wm, wβ, wd⟩ := w0
  replace hm0 : wm = 0 := hm0
  subst hm0
  replace hd0 : wd = [] := hd0
  subst hd0
  refine ⟨by kernel_rfl, ?_⟩
  change Tri ⟨_, _, _, _, _, _⟩ [(0, .ints l)] [] _ _
  refine tri_seq ?_
  refine tri_regD hcx [] [] [0] [] [] [] [] (by kernel_rfl) ?_ ?_
  ·
   exact az
  refine fin_then ?_
  refine tri_seq ?_
  refine tri_regD hcx [(1001, .to 204)] [2] [] [] [(l.length * 8 ≤ 140737488355328)] [(2, .row 204)] [(204, .row 3 (.ints l))] (by kernel_rfl) ?_ ?_
  ·
   refine (ap ?_ az)
   omega
  refine fin_then ?_
  refine tri_ret ?_
  refine fin_ren (ρ := [(204, .to 0)]) (keys := [2]) (E' := [(2, .row 0)]) (H' := [(0, .row 3 (.ints l))]) (by kernel_rfl) ?_
  exact fin_ret [] rfl rfl trivial hcx (avs := [.row 0]) (by kernel_rfl) rfl [true] (Eq.trans (show _ = [some (.row 3 (.ints l))] from by kernel_rfl) (consO rfl rfl))
 ·
  cases hσ
def cx_qBools : Cx := ⟨tyR23, [(50, rIs_σ), (53, (coeF [.ld (.ints []), .ld (.ints [])] rInts_σ)), (32, (coeF [.ld (.intss []), .ld (.intss [])] rLists_σ)), (27, (coeF [.agg [.id, .ld (.intss [])]] rCheck_σ)), (14, (coeF [.agg [.id, .ld (.intss [])], .agg [.id, .ld (.intss [])]] rSame_σ)), (51, (coeF [.ld (.ints []), .id] rHas_σ)), (52, rAhead_σ), (58, (coeF [.id, .ld (.bools [])] rLit_σ)), (38, (coeF [.ld (.ints []), .ld (.bools [])] rHolds_σ)), (31, (coeF [.ld (.ints [])] rNorm_σ)), (30, (coeF [.ld (.ints []), .ld (.ints []), .id] rResolve_σ)), (29, (coeF [.ld (.ints []), .id] qhas_σ)), (24, (coeF [.ld (.ints []), .id] qHas_σ)), (28, (coeF [.ld (.ints [])] qown_σ))]⟩
theorem cx_qBools_ok : CxOk Try.prog cx_qBools := cx_ok tyR23_ok ⟨rIs_sound, (rInts_sound.coe [.ld (.ints []), .ld (.ints [])] rfl), (rLists_sound.coe [.ld (.intss []), .ld (.intss [])] rfl), (rCheck_sound.coe [.agg [.id, .ld (.intss [])]] rfl), (rSame_sound.coe [.agg [.id, .ld (.intss [])], .agg [.id, .ld (.intss [])]] rfl), (rHas_sound.coe [.ld (.ints []), .id] rfl), rAhead_sound, (rLit_sound.coe [.id, .ld (.bools [])] rfl), (rHolds_sound.coe [.ld (.ints []), .ld (.bools [])] rfl), (rNorm_sound.coe [.ld (.ints [])] rfl), (rResolve_sound.coe [.ld (.ints []), .ld (.ints []), .id] rfl), (qhas_sound.coe [.ld (.ints []), .id] rfl), (qHas_sound.coe [.ld (.ints []), .id] rfl), (qown_sound.coe [.ld (.ints [])] rfl), trivial⟩
def qBools_σ : CtF
  | [.im (.ls (.bools a)), .im (.ls (.bools b))], [] => some (a.length ≤ maxLen, .bool (decide (a = b)), [])
  | _, _ => none
theorem qBools_sound : Sound Try.prog 17 qBools_σ := by
 refine sound_mk (cx := cx_qBools) (fn := Try.f17) Try.func17 (by kernel_rfl) rfl ?_
 intro w0 G0 args os p r outs hσ hp hm0 hd0
 have hcx : CxOk Try.prog cx_qBools := cx_qBools_ok
 have hmx : Try.prog.follows .mixedOrders = true := by kernel_rfl
 unfold qBools_σ at hσ
 split at hσ
 ·
  rename_i a b
  simp only [Option.some.injEq, Prod.mk.injEq] at hσ
  obtain ⟨rfl, rfl, rfl⟩ := hσ
  obtain ⟨wW, wO, wm, wβ, wd⟩ := w0
  replace hm0 : wm = 0 := hm0
  subst hm0
  replace hd0 : wd = [] := hd0
  subst hd0
  refine ⟨by kernel_rfl, ?_⟩
  change Tri ⟨_, _, _, _, _, _⟩ [(0, .bools a), (1, .bools b)] [] _ _
  unfold maxLen at hp
  refine tri_seq ?_
  refine tri_regD hcx [] [] [0, 1] [] [] [] [] (by kernel_rfl) ?_ ?_
  ·
   exact az
  refine fin_then ?_
  refine tri_seq ?_
  refine tri_seq ?_
  refine tri_regD hcx [] [10] [0, 1] [] [] [(10, .bool ((a.length : Int) != (b.length : Int)))] [] (by kernel_rfl) ?_ ?_
  ·
   exact az
  refine fin_then ?_
  refine tri_cond (b := ((a.length : Int) != (b.length : Int))) (by kernel_rfl) (fun hb0 => ?_) (fun hb0 => ?_)
  ·
   skip
   have h0 := bne_iff_ne.1 hb0
   refine tri_seq ?_
   refine tri_regD hcx [] [4] [] [] [] [(4, .bool false)] [] (by kernel_rfl) ?_ ?_
   ·
    exact az
   refine fin_then ?_
   refine tri_ret ?_
   refine fin_then_ret ?_
   exact fin_ret [] rfl rfl trivial hcx (avs := [.bool false]) (by kernel_rfl) (congrArg AV.bool (show false = (decide (a = b)) from (by exact (Cn.ne_len (by omega)).symm))) [] rfl
  ·
   skip
   have h0 := bneF hb0
   refine tri_skip ?_
   refine fin_then ?_
   refine tri_seq ?_
   refine tri_seq ?_
   refine tri_regD hcx [] [12, 13] [0, 1] [] [] [(12, .int (a.length : Int)), (13, .int 0)] [] (by kernel_rfl) ?_ ?_
   ·
    exact az
   refine fin_then ?_
   refine tri_block ?_
   refine tri_loop (X := Nat) (fun x0 => x0 ≤ a.length ∧ ∀ j, j < x0 → a.getD j false = b.getD j false) (fun x0 => [(0, .bools a), (1, .bools b), (12, .int (a.length : Int)), (13, .int (x0 : Int))]) (fun x0 => []) (fun x0 => a.length - x0) (0) ?_ ?_ ?_ ?_
   ·
    show 0 ≤ a.length ∧ ∀ j, j < 0 → a.getD j false = b.getD j false
    exact ⟨Nat.zero_le _, fun j hj => by omega⟩
   ·
    exact subE_mk (l := [.bools a, .bools b, .int (a.length : Int), .int 0]) (m := [.bools a, .bools b, .int (a.length : Int), .int (0 : Int)]) (by kernel_rfl) (by kernel_rfl) (consE rfl (consE rfl (consE rfl (consE (congrArg AV.int (show 0 = (0 : Int) from (by first | rfl | omega | (simp; done)))) rfl))))
   ·
    kernel_rfl
   ·
    intro k hI
    replace hI : k ≤ a.length ∧ ∀ j, j < k → a.getD j false = b.getD j false := hI
    change Tri _ [(0, .bools a), (1, .bools b), (12, .int (a.length : Int)), (13, .int (k : Int))] [] _ _
    obtain ⟨hk, hok⟩ := hI
    refine tri_seq ?_
    refine tri_regD hcx [] [14] [0, 1, 12, 13] [] [] [(14, .bool (decide ((k : Int) < (a.length : Int))))] [] (by kernel_rfl) ?_ ?_
    ·
     exact az
    refine fin_then ?_
    refine tri_seq ?_
    refine tri_cond (b := (decide ((k : Int) < (a.length : Int)))) (by kernel_rfl) (fun hb1 => ?_) (fun hb1 => ?_)
    ·
     skip
     have h1 := of_decide_eq_true hb1
     refine tri_skip ?_
     refine fin_then ?_
     refine tri_seq ?_
     refine tri_block ?_
     refine tri_seq ?_
     refine tri_regD hcx [] [5] [0, 1, 12, 13] [] [] [(5, .int (k : Int))] [] (by kernel_rfl) ?_ ?_
     ·
      exact az
     refine fin_then ?_
     refine tri_seq ?_
     refine tri_drawD [0, 0, 3, 7, 0, 0, 48, 112, 255] hcx hmx [] [24] [0, 1, 12, 13] [] [((0 : Int) ≤ (k : Int) ∧ (k : Int) < (a.length : Int)), ((0 : Int) ≤ (k : Int) ∧ (k : Int) < (b.length : Int))] [(24, .bool (!((a.getD k false) == (b.getD k false))))] [] (by kernel_rfl) ?_ ?_
     ·
      refine (ap ?_ (ap ?_ az))
      all_goals
       omega
     refine fin_then ?_
     refine tri_cond (b := (!((a.getD k false) == (b.getD k false)))) (by kernel_rfl) (fun hb2 => ?_) (fun hb2 => ?_)
     ·
      skip
      have h2 := hb2
      have hq : a.getD k false ≠ b.getD k false := by simpa using h2
      refine tri_seq ?_
      refine tri_regD hcx [] [4] [] [] [] [(4, .bool false)] [] (by kernel_rfl) ?_ ?_
      ·
       exact az
      refine fin_then ?_
      refine tri_ret ?_
      refine fin_block_ret ?_
      refine fin_then_ret ?_
      refine fin_then_ret ?_
      refine fin_block_ret ?_
      refine fin_then_ret ?_
      exact fin_ret [] rfl rfl trivial hcx (avs := [.bool false]) (by kernel_rfl) (congrArg AV.bool (show false = (decide (a = b)) from (by exact (Cn.ne_at hq).symm))) [] rfl
     ·
      skip
      have h2 := hb2
      have hq : a.getD k false = b.getD k false := by simpa using h2
      refine tri_skip ?_
      refine fin_block ?_
      refine fin_then ?_
      refine tri_regD hcx [] [13] [0, 1, 12] [] [Fit ((k : Int) + 1)] [(13, .int ((k : Int) + 1))] [] (by kernel_rfl) ?_ ?_
      ·
       refine (ap ?_ az)
       omega
      refine fin_round (k + 1) ?_ ?_ ?_ ?_
      ·
       show (k + 1) ≤ a.length ∧ ∀ j, j < (k + 1) → a.getD j false = b.getD j false
       exact ⟨by omega, Cn.neSucc (P := fun j => a.getD j false = b.getD j false) hok hq⟩
      ·
       show a.length - (k + 1) < a.length - k
       omega
      ·
       exact subE_mk (l := [.bools a, .bools b, .int (a.length : Int), .int ((k : Int) + 1)]) (m := [.bools a, .bools b, .int (a.length : Int), .int ((k + 1) : Int)]) (by kernel_rfl) (by kernel_rfl) (consE rfl (consE rfl (consE rfl (consE (congrArg AV.int (show ((k : Int) + 1) = ((k + 1) : Int) from (by first | rfl | omega | (simp; done)))) rfl))))
      ·
       kernel_rfl
    ·
     skip
     have h1 := of_decide_eq_false hb1
     refine tri_exit ?_
     refine fin_then_exit ?_
     refine fin_then_exit ?_
     refine fin_block_same ?_
     refine fin_then ?_
     refine tri_seq ?_
     refine tri_regD hcx [] [4] [] [] [] [(4, .bool true)] [] (by kernel_rfl) ?_ ?_
     ·
      exact az
     refine fin_then ?_
     refine tri_ret ?_
     exact fin_ret [] rfl rfl trivial hcx (avs := [.bool true]) (by kernel_rfl) (congrArg AV.bool (show true = (decide (a = b)) from (by exact (Cn.eq_of (d := false) (by omega) (fun j hj => hok j (by omega))).symm))) [] rfl
 ·
  cases hσ
def cx_qUndos : Cx := ⟨tyR23, [(50, rIs_σ), (53, (coeF [.ld (.ints []), .ld (.ints [])] rInts_σ)), (32, (coeF [.ld (.intss []), .ld (.intss [])] rLists_σ)), (27, (coeF [.agg [.id, .ld (.intss [])]] rCheck_σ)), (14, (coeF [.agg [.id, .ld (.intss [])], .agg [.id, .ld (.intss [])]] rSame_σ)), (51, (coeF [.ld (.ints []), .id] rHas_σ)), (52, rAhead_σ), (58, (coeF [.id, .ld (.bools [])] rLit_σ)), (38, (coeF [.ld (.ints []), .ld (.bools [])] rHolds_σ)), (31, (coeF [.ld (.ints [])] rNorm_σ)), (30, (coeF [.ld (.ints []), .ld (.ints []), .id] rResolve_σ)), (29, (coeF [.ld (.ints []), .id] qhas_σ)), (24, (coeF [.ld (.ints []), .id] qHas_σ)), (28, (coeF [.ld (.ints [])] qown_σ)), (17, (coeF [.ld (.bools []), .ld (.bools [])] qBools_σ))]⟩
theorem cx_qUndos_ok : CxOk Try.prog cx_qUndos := cx_ok tyR23_ok ⟨rIs_sound, (rInts_sound.coe [.ld (.ints []), .ld (.ints [])] rfl), (rLists_sound.coe [.ld (.intss []), .ld (.intss [])] rfl), (rCheck_sound.coe [.agg [.id, .ld (.intss [])]] rfl), (rSame_sound.coe [.agg [.id, .ld (.intss [])], .agg [.id, .ld (.intss [])]] rfl), (rHas_sound.coe [.ld (.ints []), .id] rfl), rAhead_sound, (rLit_sound.coe [.id, .ld (.bools [])] rfl), (rHolds_sound.coe [.ld (.ints []), .ld (.bools [])] rfl), (rNorm_sound.coe [.ld (.ints [])] rfl), (rResolve_sound.coe [.ld (.ints []), .ld (.ints []), .id] rfl), (qhas_sound.coe [.ld (.ints []), .id] rfl), (qHas_sound.coe [.ld (.ints []), .id] rfl), (qown_sound.coe [.ld (.ints [])] rfl), (qBools_sound.coe [.ld (.bools []), .ld (.bools [])] rfl), trivial⟩
def qUndos_σ : CtF
  | [.im (.ls (.undos a)), .im (.ls (.undos b))], [] => some (a.length ≤ maxLen ∧ ∀ w ∈ a, w.2.length ≤ maxLen ∧ ∀ l ∈ w.2, l.length ≤ maxLen, .bool (decide (a = b)), [])
  | _, _ => none
theorem qUndos_sound : Sound Try.prog 15 qUndos_σ := by
 refine sound_mk (cx := cx_qUndos) (fn := Try.f15) Try.func15 (by kernel_rfl) rfl ?_
 intro w0 G0 args os p r outs hσ hp hm0 hd0
 have hcx : CxOk Try.prog cx_qUndos := cx_qUndos_ok
 have hmx : Try.prog.follows .mixedOrders = true := by kernel_rfl
 unfold qUndos_σ at hσ
 split at hσ
 ·
  rename_i a b
  simp only [Option.some.injEq, Prod.mk.injEq] at hσ
  obtain ⟨rfl, rfl, rfl⟩ := hσ
  obtain ⟨wW, wO, wm, wβ, wd⟩ := w0
  replace hm0 : wm = 0 := hm0
  subst hm0
  replace hd0 : wd = [] := hd0
  subst hd0
  refine ⟨by kernel_rfl, ?_⟩
  change Tri ⟨_, _, _, _, _, _⟩ [(0, .undos a), (1, .undos b)] [] _ _
  obtain ⟨hm1, hm2⟩ := hp
  unfold maxLen at hm1
  refine tri_seq ?_
  refine tri_regD hcx [] [] [0, 1] [] [] [] [] (by kernel_rfl) ?_ ?_
  ·
   exact az
  refine fin_then ?_
  refine tri_seq ?_
  refine tri_seq ?_
  refine tri_regD hcx [] [10] [0, 1] [] [] [(10, .bool ((a.length : Int) != (b.length : Int)))] [] (by kernel_rfl) ?_ ?_
  ·
   exact az
  refine fin_then ?_
  refine tri_cond (b := ((a.length : Int) != (b.length : Int))) (by kernel_rfl) (fun hb0 => ?_) (fun hb0 => ?_)
  ·
   skip
   have h0 := bne_iff_ne.1 hb0
   refine tri_seq ?_
   refine tri_regD hcx [] [4] [] [] [] [(4, .bool false)] [] (by kernel_rfl) ?_ ?_
   ·
    exact az
   refine fin_then ?_
   refine tri_ret ?_
   refine fin_then_ret ?_
   exact fin_ret [] rfl rfl trivial hcx (avs := [.bool false]) (by kernel_rfl) (congrArg AV.bool (show false = (decide (a = b)) from (by exact (Cn.ne_len (by omega)).symm))) [] rfl
  ·
   skip
   have h0 := bneF hb0
   refine tri_skip ?_
   refine fin_then ?_
   refine tri_seq ?_
   refine tri_seq ?_
   refine tri_regD hcx [] [12, 13] [0, 1] [] [] [(12, .int (a.length : Int)), (13, .int 0)] [] (by kernel_rfl) ?_ ?_
   ·
    exact az
   refine fin_then ?_
   refine tri_block ?_
   refine tri_loop (X := Nat) (fun x0 => x0 ≤ a.length ∧ ∀ j, j < x0 → a.getD j (0, []) = b.getD j (0, [])) (fun x0 => [(0, .undos a), (1, .undos b), (12, .int (a.length : Int)), (13, .int (x0 : Int))]) (fun x0 => []) (fun x0 => a.length - x0) (0) ?_ ?_ ?_ ?_
   ·
    show 0 ≤ a.length ∧ ∀ j, j < 0 → a.getD j (0, []) = b.getD j (0, [])
    exact ⟨Nat.zero_le _, fun j hj => by omega⟩
   ·
    exact subE_mk (l := [.undos a, .undos b, .int (a.length : Int), .int 0]) (m := [.undos a, .undos b, .int (a.length : Int), .int (0 : Int)]) (by kernel_rfl) (by kernel_rfl) (consE rfl (consE rfl (consE rfl (consE (congrArg AV.int (show 0 = (0 : Int) from (by first | rfl | omega | (simp; done)))) rfl))))
   ·
    kernel_rfl
   ·
    intro k hI
    replace hI : k ≤ a.length ∧ ∀ j, j < k → a.getD j (0, []) = b.getD j (0, []) := hI
    change Tri _ [(0, .undos a), (1, .undos b), (12, .int (a.length : Int)), (13, .int (k : Int))] [] _ _
    obtain ⟨hk, hok⟩ := hI
    refine tri_seq ?_
    refine tri_regD hcx [] [14] [0, 1, 12, 13] [] [] [(14, .bool (decide ((k : Int) < (a.length : Int))))] [] (by kernel_rfl) ?_ ?_
    ·
     exact az
    refine fin_then ?_
    refine tri_seq ?_
    refine tri_cond (b := (decide ((k : Int) < (a.length : Int)))) (by kernel_rfl) (fun hb1 => ?_) (fun hb1 => ?_)
    ·
     skip
     have h1 := of_decide_eq_true hb1
     refine tri_skip ?_
     refine fin_then ?_
     refine tri_seq ?_
     refine tri_block ?_
     refine tri_seq ?_
     refine tri_regD hcx [] [5] [0, 1, 12, 13] [] [] [(5, .int (k : Int))] [] (by kernel_rfl) ?_ ?_
     ·
      exact az
     refine fin_then ?_
     refine tri_seq ?_
     refine tri_drawD [0, 0, 3, 7, 15, 0, 0, 96, 224, 480, 1023, 2047, 4095, 4095, 16383, 32767, 65535, 131071, 4095, 4095, 790527, 1839103, 3936255, 8130559, 16777215, 33554431, 67108863] hcx hmx [] [42] [0, 1, 12, 13] [] [((0 : Int) ≤ (k : Int) ∧ (k : Int) < (a.length : Int)), ((0 : Int) ≤ (k : Int) ∧ (k : Int) < (b.length : Int)), ((!(((a.getD k (0, [])).1) != ((b.getD k (0, [])).1))) = true → ((!(((a.getD k (0, [])).1) != ((b.getD k (0, [])).1))) = true)), ((!(((a.getD k (0, [])).1) != ((b.getD k (0, [])).1))) = true → ((!(((a.getD k (0, [])).1) != ((b.getD k (0, [])).1))) = true)), ((!(((a.getD k (0, [])).1) != ((b.getD k (0, [])).1))) = true → ((0 : Int) ≤ (k : Int) ∧ (k : Int) < (a.length : Int))), ((!(((a.getD k (0, [])).1) != ((b.getD k (0, [])).1))) = true → ((!(((a.getD k (0, [])).1) != ((b.getD k (0, [])).1))) = true)), ((!(((a.getD k (0, [])).1) != ((b.getD k (0, [])).1))) = true → ((!(((a.getD k (0, [])).1) != ((b.getD k (0, [])).1))) = true)), ((!(((a.getD k (0, [])).1) != ((b.getD k (0, [])).1))) = true → ((!(((a.getD k (0, [])).1) != ((b.getD k (0, [])).1))) = true)), ((!(((a.getD k (0, [])).1) != ((b.getD k (0, [])).1))) = true → ((!(((a.getD k (0, [])).1) != ((b.getD k (0, [])).1))) = true)), ((!(((a.getD k (0, [])).1) != ((b.getD k (0, [])).1))) = true → ((!(((a.getD k (0, [])).1) != ((b.getD k (0, [])).1))) = true)), ((!(((a.getD k (0, [])).1) != ((b.getD k (0, [])).1))) = true → ((0 : Int) ≤ (k : Int) ∧ (k : Int) < (b.length : Int))), ((!(((a.getD k (0, [])).1) != ((b.getD k (0, [])).1))) = true → ((!(((a.getD k (0, [])).1) != ((b.getD k (0, [])).1))) = true)), ((!(((a.getD k (0, [])).1) != ((b.getD k (0, [])).1))) = true → ((!(((a.getD k (0, [])).1) != ((b.getD k (0, [])).1))) = true)), ((!(((a.getD k (0, [])).1) != ((b.getD k (0, [])).1))) = true → ((!(((a.getD k (0, [])).1) != ((b.getD k (0, [])).1))) = true)), ((!(((a.getD k (0, [])).1) != ((b.getD k (0, [])).1))) = true → ((!(((a.getD k (0, [])).1) != ((b.getD k (0, [])).1))) = true)), ((!(((a.getD k (0, [])).1) != ((b.getD k (0, [])).1))) = true → ((!(((a.getD k (0, [])).1) != ((b.getD k (0, [])).1))) = true)), ((!(((a.getD k (0, [])).1) != ((b.getD k (0, [])).1))) = true → (((a.getD k (0, [])).2).length ≤ maxLen ∧ ∀ l ∈ ((a.getD k (0, [])).2), l.length ≤ maxLen)), ((!(((a.getD k (0, [])).1) != ((b.getD k (0, [])).1))) = true → ((!(((a.getD k (0, [])).1) != ((b.getD k (0, [])).1))) = true)), ((((a.getD k (0, [])).1) != ((b.getD k (0, [])).1)) = false → (!(((a.getD k (0, [])).1) != ((b.getD k (0, [])).1))) = true)] [(42, .bool ((((a.getD k (0, [])).1) != ((b.getD k (0, [])).1)) || (!(((0 : Int) == (0 : Int)) && decide (((a.getD k (0, [])).2) = ((b.getD k (0, [])).2))))))] [] (by kernel_rfl) ?_ ?_
     ·
      refine (ap ?_ (ap ?_ (ap ?_ (ap ?_ (ap ?_ (ap ?_ (ap ?_ (ap ?_ (ap ?_ (ap ?_ (ap ?_ (ap ?_ (ap ?_ (ap ?_ (ap ?_ (ap ?_ (ap ?_ (ap ?_ (ap (by exact vcNot) az)))))))))))))))))))
      all_goals
       first | exact (fun _ => hm2 _ (Cn.getD_memL (by omega))) | (first | omega | exact id | exact vcNot | exact vcG | exact vcH | (intro _; omega) | exact (fun _ h => h) | (intro h; simp at h; omega) | (simp only [List.length_cons, List.length_nil, List.length_append, List.length_map, List.length_set, List.length_replicate]; omega) | (intro h; simp [h]; done))
     refine fin_then ?_
     refine tri_cond (b := ((((a.getD k (0, [])).1) != ((b.getD k (0, [])).1)) || (!(((0 : Int) == (0 : Int)) && decide (((a.getD k (0, [])).2) = ((b.getD k (0, [])).2)))))) (by kernel_rfl) (fun hb2 => ?_) (fun hb2 => ?_)
     ·
      skip
      have h2 := hb2
      have hq : (a.getD k (0, [])) ≠ (b.getD k (0, [])) := Cn.und_ne h2
      refine tri_seq ?_
      refine tri_regD hcx [] [4] [] [] [] [(4, .bool false)] [] (by kernel_rfl) ?_ ?_
      ·
       exact az
      refine fin_then ?_
      refine tri_ret ?_
      refine fin_block_ret ?_
      refine fin_then_ret ?_
      refine fin_then_ret ?_
      refine fin_block_ret ?_
      refine fin_then_ret ?_
      exact fin_ret [] rfl rfl trivial hcx (avs := [.bool false]) (by kernel_rfl) (congrArg AV.bool (show false = (decide (a = b)) from (by exact (Cn.ne_at hq).symm))) [] rfl
     ·
      skip
      have h2 := hb2
      have hq : (a.getD k (0, [])) = (b.getD k (0, [])) := Cn.und_eq h2
      refine tri_skip ?_
      refine fin_block ?_
      refine fin_then ?_
      refine tri_regD hcx [] [13] [0, 1, 12] [] [Fit ((k : Int) + 1)] [(13, .int ((k : Int) + 1))] [] (by kernel_rfl) ?_ ?_
      ·
       refine (ap ?_ az)
       first | exact (fun _ => hm2 _ (Cn.getD_memL (by omega))) | (first | omega | exact id | exact vcNot | exact vcG | exact vcH | (intro _; omega) | exact (fun _ h => h) | (intro h; simp at h; omega) | (simp only [List.length_cons, List.length_nil, List.length_append, List.length_map, List.length_set, List.length_replicate]; omega) | (intro h; simp [h]; done))
      refine fin_round (k + 1) ?_ ?_ ?_ ?_
      ·
       show (k + 1) ≤ a.length ∧ ∀ j, j < (k + 1) → a.getD j (0, []) = b.getD j (0, [])
       exact ⟨by omega, Cn.neSucc (P := fun j => a.getD j (0, []) = b.getD j (0, [])) hok hq⟩
      ·
       show a.length - (k + 1) < a.length - k
       omega
      ·
       exact subE_mk (l := [.undos a, .undos b, .int (a.length : Int), .int ((k : Int) + 1)]) (m := [.undos a, .undos b, .int (a.length : Int), .int ((k + 1) : Int)]) (by kernel_rfl) (by kernel_rfl) (consE rfl (consE rfl (consE rfl (consE (congrArg AV.int (show ((k : Int) + 1) = ((k + 1) : Int) from (by first | rfl | omega | (simp; done)))) rfl))))
      ·
       kernel_rfl
    ·
     skip
     have h1 := of_decide_eq_false hb1
     refine tri_exit ?_
     refine fin_then_exit ?_
     refine fin_then_exit ?_
     refine fin_block_same ?_
     refine fin_then ?_
     refine tri_seq ?_
     refine tri_regD hcx [] [4] [] [] [] [(4, .bool true)] [] (by kernel_rfl) ?_ ?_
     ·
      exact az
     refine fin_then ?_
     refine tri_ret ?_
     exact fin_ret [] rfl rfl trivial hcx (avs := [.bool true]) (by kernel_rfl) (congrArg AV.bool (show true = (decide (a = b)) from (by exact (Cn.eq_of (d := (0, [])) (by omega) (fun j hj => hok j (by omega))).symm))) [] rfl
 ·
  cases hσ
def cx_qFew : Cx := ⟨tyR23, [(50, rIs_σ), (53, (coeF [.ld (.ints []), .ld (.ints [])] rInts_σ)), (32, (coeF [.ld (.intss []), .ld (.intss [])] rLists_σ)), (27, (coeF [.agg [.id, .ld (.intss [])]] rCheck_σ)), (14, (coeF [.agg [.id, .ld (.intss [])], .agg [.id, .ld (.intss [])]] rSame_σ)), (51, (coeF [.ld (.ints []), .id] rHas_σ)), (52, rAhead_σ), (58, (coeF [.id, .ld (.bools [])] rLit_σ)), (38, (coeF [.ld (.ints []), .ld (.bools [])] rHolds_σ)), (31, (coeF [.ld (.ints [])] rNorm_σ)), (30, (coeF [.ld (.ints []), .ld (.ints []), .id] rResolve_σ)), (29, (coeF [.ld (.ints []), .id] qhas_σ)), (24, (coeF [.ld (.ints []), .id] qHas_σ)), (28, (coeF [.ld (.ints [])] qown_σ)), (17, (coeF [.ld (.bools []), .ld (.bools [])] qBools_σ)), (15, (coeF [.ld (.undos []), .ld (.undos [])] qUndos_σ))]⟩
theorem cx_qFew_ok : CxOk Try.prog cx_qFew := cx_ok tyR23_ok ⟨rIs_sound, (rInts_sound.coe [.ld (.ints []), .ld (.ints [])] rfl), (rLists_sound.coe [.ld (.intss []), .ld (.intss [])] rfl), (rCheck_sound.coe [.agg [.id, .ld (.intss [])]] rfl), (rSame_sound.coe [.agg [.id, .ld (.intss [])], .agg [.id, .ld (.intss [])]] rfl), (rHas_sound.coe [.ld (.ints []), .id] rfl), rAhead_sound, (rLit_sound.coe [.id, .ld (.bools [])] rfl), (rHolds_sound.coe [.ld (.ints []), .ld (.bools [])] rfl), (rNorm_sound.coe [.ld (.ints [])] rfl), (rResolve_sound.coe [.ld (.ints []), .ld (.ints []), .id] rfl), (qhas_sound.coe [.ld (.ints []), .id] rfl), (qHas_sound.coe [.ld (.ints []), .id] rfl), (qown_sound.coe [.ld (.ints [])] rfl), (qBools_sound.coe [.ld (.bools []), .ld (.bools [])] rfl), (qUndos_sound.coe [.ld (.undos []), .ld (.undos [])] rfl), trivial⟩
def qFew_σ : CtF
  | [.agg [.im (.val (.int .i64 N)), .im (.ls (.intss L))], .im (.val (.int .i64 vars)), .im (.val (.int .i64 clauses))], [] => some (L.length ≤ maxLen ∧ 0 ≤ clauses ∧ clauses ≤ 1000000, .bool (Cn.fewB N L vars clauses), [])
  | _, _ => none
theorem qFew_sound : Sound Try.prog 11 qFew_σ := by
 refine sound_mk (cx := cx_qFew) (fn := Try.f11) Try.func11 (by kernel_rfl) rfl ?_
 intro w0 G0 args os p r outs hσ hp hm0 hd0
 have hcx : CxOk Try.prog cx_qFew := cx_qFew_ok
 unfold qFew_σ at hσ
 split at hσ
 ·
  rename_i N L vars clauses
  simp only [Option.some.injEq, Prod.mk.injEq] at hσ
  obtain ⟨rfl, rfl, rfl⟩ := hσ
  obtain ⟨wW, wO, wm, wβ, wd⟩ := w0
  replace hm0 : wm = 0 := hm0
  subst hm0
  replace hd0 : wd = [] := hd0
  subst hd0
  refine ⟨by kernel_rfl, ?_⟩
  change Tri ⟨_, _, _, _, _, _⟩ [(0, .agg [.int N, .intss L]), (1, .int vars), (2, .int clauses)] [] _ _
  obtain ⟨hm1, hm2, hm3⟩ := hp
  unfold maxLen at hm1
  refine tri_seq ?_
  refine tri_regD hcx [(1000, .frz)] [3] [1, 2] [] [] [(3, .pto [.int N, .ls (.intss L)])] [] (by kernel_rfl) ?_ ?_
  ·
   exact az
  refine fin_then ?_
  refine tri_seq ?_
  refine tri_seq ?_
  refine tri_regD hcx [] [7] [3, 1, 2] [] [] [(7, .int 0)] [] (by kernel_rfl) ?_ ?_
  ·
   exact az
  refine fin_then ?_
  refine tri_block ?_
  refine tri_loop (X := Nat) (fun x0 => x0 ≤ L.length ∧ ∀ j, j < x0 → (L.getD j []).length ≤ 20) (fun x0 => [(1, .int vars), (2, .int clauses), (3, .pto [.int N, .ls (.intss L)]), (7, .int (x0 : Int))]) (fun x0 => []) (fun x0 => L.length - x0) (0) ?_ ?_ ?_ ?_
  ·
   show 0 ≤ L.length ∧ ∀ j, j < 0 → (L.getD j []).length ≤ 20
   exact ⟨Nat.zero_le _, fun j hj => by omega⟩
  ·
   exact subE_mk (l := [.int vars, .int clauses, .pto [.int N, .ls (.intss L)], .int 0]) (m := [.int vars, .int clauses, .pto [.int N, .ls (.intss L)], .int (0 : Int)]) (by kernel_rfl) (by kernel_rfl) (consE rfl (consE rfl (consE rfl (consE (congrArg AV.int (show 0 = (0 : Int) from (by first | rfl | omega | (simp; done)))) rfl))))
  ·
   kernel_rfl
  ·
   intro k hI
   replace hI : k ≤ L.length ∧ ∀ j, j < k → (L.getD j []).length ≤ 20 := hI
   change Tri _ [(1, .int vars), (2, .int clauses), (3, .pto [.int N, .ls (.intss L)]), (7, .int (k : Int))] [] _ _
   obtain ⟨hk, hok⟩ := hI
   refine tri_seq ?_
   refine tri_seq ?_
   refine tri_regD hcx [] [17] [1, 2, 3, 7] [] [((decide ((k : Int) < (L.length : Int))) = true → ((decide ((k : Int) < (L.length : Int))) = true)), ((decide ((k : Int) < (L.length : Int))) = true → ((decide ((k : Int) < (L.length : Int))) = true)), ((decide ((k : Int) < (L.length : Int))) = true → (decide ((k : Int) < (L.length : Int))) = true)] [(17, .bool ((decide ((k : Int) < (L.length : Int))) && (decide ((k : Int) ≤ clauses))))] [] (by kernel_rfl) ?_ ?_
   ·
    refine (ap ?_ (ap ?_ (ap (by exact id) az)))
    all_goals
     first | omega | exact id | exact vcNot | exact vcG | exact vcH | (intro _; omega) | exact (fun _ h => h) | (intro h; simp at h; omega) | (simp only [List.length_cons, List.length_nil, List.length_append, List.length_map, List.length_set, List.length_replicate]; omega) | (intro h; simp [h]; done)
   refine fin_then ?_
   refine tri_cond (b := ((decide ((k : Int) < (L.length : Int))) && (decide ((k : Int) ≤ clauses)))) (by kernel_rfl) (fun hb0 => ?_) (fun hb0 => ?_)
   ·
    skip
    have h0 := hb0
    try simp only [Bool.or_eq_true, Bool.or_eq_false_iff, Bool.and_eq_true, Bool.and_eq_false_iff, Bool.not_eq_true', Bool.not_eq_false', decide_eq_true_eq, decide_eq_false_iff_not, bne_iff_ne, bne_eq_false_iff_eq, beq_iff_eq, beq_eq_false_iff_ne] at h0
    refine tri_skip ?_
    refine fin_then ?_
    refine tri_seq ?_
    refine tri_block ?_
    refine tri_seq ?_
    refine tri_regD hcx [] [26] [1, 2, 3, 7] [] [((0 : Int) ≤ (k : Int) ∧ (k : Int) < (L.length : Int))] [(26, .bool (decide (((L.getD k []).length : Int) > 20)))] [] (by kernel_rfl) ?_ ?_
    ·
     refine (ap ?_ az)
     omega
    refine fin_then ?_
    refine tri_cond (b := (decide (((L.getD k []).length : Int) > 20))) (by kernel_rfl) (fun hb1 => ?_) (fun hb1 => ?_)
    ·
     skip
     have h1 := of_decide_eq_true hb1
     have hx := h1
     refine tri_seq ?_
     refine tri_regD hcx [] [6] [] [] [] [(6, .bool false)] [] (by kernel_rfl) ?_ ?_
     ·
      exact az
     refine fin_then ?_
     refine tri_ret ?_
     refine fin_block_ret ?_
     refine fin_then_ret ?_
     refine fin_then_ret ?_
     refine fin_block_ret ?_
     refine fin_then_ret ?_
     exact fin_ret [] rfl rfl trivial hcx (avs := [.bool false]) (by kernel_rfl) (congrArg AV.bool (show false = (Cn.fewB N L vars clauses) from (by exact (Cn.few_bad (k := k) (by omega) (by omega) hx).symm))) [] rfl
    ·
     skip
     have h1 := of_decide_eq_false hb1
     refine tri_skip ?_
     refine fin_block ?_
     refine fin_then ?_
     refine tri_regD hcx [] [7] [1, 2, 3] [] [Fit ((k : Int) + 1)] [(7, .int ((k : Int) + 1))] [] (by kernel_rfl) ?_ ?_
     ·
      refine (ap ?_ az)
      omega
     refine fin_round (k + 1) ?_ ?_ ?_ ?_
     ·
      show (k + 1) ≤ L.length ∧ ∀ j, j < (k + 1) → (L.getD j []).length ≤ 20
      exact ⟨by omega, Cn.neSucc (P := fun j => (L.getD j []).length ≤ 20) hok (by omega)⟩
     ·
      show L.length - (k + 1) < L.length - k
      omega
     ·
      exact subE_mk (l := [.int vars, .int clauses, .pto [.int N, .ls (.intss L)], .int ((k : Int) + 1)]) (m := [.int vars, .int clauses, .pto [.int N, .ls (.intss L)], .int ((k + 1) : Int)]) (by kernel_rfl) (by kernel_rfl) (consE rfl (consE rfl (consE rfl (consE (congrArg AV.int (show ((k : Int) + 1) = ((k + 1) : Int) from (by first | rfl | omega | (simp; done)))) rfl))))
     ·
      kernel_rfl
   ·
    skip
    have h0 := hb0
    try simp only [Bool.or_eq_true, Bool.or_eq_false_iff, Bool.and_eq_true, Bool.and_eq_false_iff, Bool.not_eq_true', Bool.not_eq_false', decide_eq_true_eq, decide_eq_false_iff_not, bne_iff_ne, bne_eq_false_iff_eq, beq_iff_eq, beq_eq_false_iff_ne] at h0
    have hx := h0
    refine tri_exit ?_
    refine fin_then_exit ?_
    refine fin_then_exit ?_
    refine fin_block_same ?_
    refine fin_then ?_
    refine tri_seq ?_
    refine tri_regD hcx [] [6] [] [] [((decide (N ≤ vars)) = true → ((decide (N ≤ vars)) = true)), ((decide (N ≤ vars)) = true → ((decide (N ≤ vars)) = true)), ((decide (N ≤ vars)) = true → ((decide (N ≤ vars)) = true)), ((decide (N ≤ vars)) = true → ((decide (N ≤ vars)) = true)), ((decide (N ≤ vars)) = true → (decide (N ≤ vars)) = true)] [(6, .bool ((decide (N ≤ vars)) && (decide ((L.length : Int) ≤ clauses))))] [] (by kernel_rfl) ?_ ?_
    ·
     refine (ap ?_ (ap ?_ (ap ?_ (ap ?_ (ap (by exact id) az)))))
     all_goals
      first | omega | exact id | exact vcNot | exact vcG | exact vcH | (intro _; omega) | exact (fun _ h => h) | (intro h; simp at h; omega) | (simp only [List.length_cons, List.length_nil, List.length_append, List.length_map, List.length_set, List.length_replicate]; omega) | (intro h; simp [h]; done)
    refine fin_then ?_
    refine tri_ret ?_
    exact fin_ret [] rfl rfl trivial hcx (avs := [.bool ((decide (N ≤ vars)) && (decide ((L.length : Int) ≤ clauses)))]) (by kernel_rfl) (congrArg AV.bool (show ((decide (N ≤ vars)) && (decide ((L.length : Int) ≤ clauses))) = (Cn.fewB N L vars clauses) from (by exact (Cn.few_ok (k := k) (by omega) hok).symm))) [] rfl
 ·
  cases hσ
def cx_qBack : Cx := ⟨tyR23, [(50, rIs_σ), (53, (coeF [.ld (.ints []), .ld (.ints [])] rInts_σ)), (32, (coeF [.ld (.intss []), .ld (.intss [])] rLists_σ)), (27, (coeF [.agg [.id, .ld (.intss [])]] rCheck_σ)), (14, (coeF [.agg [.id, .ld (.intss [])], .agg [.id, .ld (.intss [])]] rSame_σ)), (51, (coeF [.ld (.ints []), .id] rHas_σ)), (52, rAhead_σ), (58, (coeF [.id, .ld (.bools [])] rLit_σ)), (38, (coeF [.ld (.ints []), .ld (.bools [])] rHolds_σ)), (31, (coeF [.ld (.ints [])] rNorm_σ)), (30, (coeF [.ld (.ints []), .ld (.ints []), .id] rResolve_σ)), (29, (coeF [.ld (.ints []), .id] qhas_σ)), (24, (coeF [.ld (.ints []), .id] qHas_σ)), (28, (coeF [.ld (.ints [])] qown_σ)), (17, (coeF [.ld (.bools []), .ld (.bools [])] qBools_σ)), (15, (coeF [.ld (.undos []), .ld (.undos [])] qUndos_σ)), (11, (coeF [.agg [.id, .ld (.intss [])], .id, .id] qFew_σ))]⟩
theorem cx_qBack_ok : CxOk Try.prog cx_qBack := cx_ok tyR23_ok ⟨rIs_sound, (rInts_sound.coe [.ld (.ints []), .ld (.ints [])] rfl), (rLists_sound.coe [.ld (.intss []), .ld (.intss [])] rfl), (rCheck_sound.coe [.agg [.id, .ld (.intss [])]] rfl), (rSame_sound.coe [.agg [.id, .ld (.intss [])], .agg [.id, .ld (.intss [])]] rfl), (rHas_sound.coe [.ld (.ints []), .id] rfl), rAhead_sound, (rLit_sound.coe [.id, .ld (.bools [])] rfl), (rHolds_sound.coe [.ld (.ints []), .ld (.bools [])] rfl), (rNorm_sound.coe [.ld (.ints [])] rfl), (rResolve_sound.coe [.ld (.ints []), .ld (.ints []), .id] rfl), (qhas_sound.coe [.ld (.ints []), .id] rfl), (qHas_sound.coe [.ld (.ints []), .id] rfl), (qown_sound.coe [.ld (.ints [])] rfl), (qBools_sound.coe [.ld (.bools []), .ld (.bools [])] rfl), (qUndos_sound.coe [.ld (.undos []), .ld (.undos [])] rfl), (qFew_sound.coe [.agg [.id, .ld (.intss [])], .id, .id] rfl), trivial⟩
def qBack_σ : CtF
  | [.im (.ls (.undos u)), .im (.ls (.bools a))], [] => some (u.length ≤ maxLen ∧ (∀ w ∈ u, w.2.length ≤ maxLen ∧ ∀ l ∈ w.2, l.length ≤ maxLen) ∧ a.length ≤ 1000000, .row 0, [some (.row 4 (.bools (Cn.backF u a)))])
  | _, _ => none
theorem qBack_sound : Sound Try.prog 19 qBack_σ := by
 refine sound_mk (cx := cx_qBack) (fn := Try.f19) Try.func19 (by kernel_rfl) rfl ?_
 intro w0 G0 args os p r outs hσ hp hm0 hd0
 have hcx : CxOk Try.prog cx_qBack := cx_qBack_ok
 unfold qBack_σ at hσ
 split at hσ
 ·
  rename_i u a
  simp only [Option.some.injEq, Prod.mk.injEq] at hσ
  obtain ⟨rfl, rfl, rfl⟩ := hσ
  obtain ⟨wW, wO, wm, wβ, wd⟩ := w0
  replace hm0 : wm = 0 := hm0
  subst hm0
  replace hd0 : wd = [] := hd0
  subst hd0
  refine ⟨by kernel_rfl, ?_⟩
  change Tri ⟨_, _, _, _, _, _⟩ [(0, .undos u), (1, .bools a)] [] _ _
  obtain ⟨hm1, hm2, hm3⟩ := hp
  have hm9 := hm1
  unfold maxLen at hm9
  have hm4 : ∀ k, k < u.length → (u.getD k (0, [])).2.length ≤ maxLen ∧ ∀ l ∈ (u.getD k (0, [])).2, l.length ≤ maxLen := fun k hk => hm2 _ (Cn.getD_memL hk)
  refine tri_seq ?_
  refine tri_regD hcx [] [] [0, 1] [] [] [] [] (by kernel_rfl) ?_ ?_
  ·
   exact az
  refine fin_then ?_
  refine tri_seq ?_
  refine tri_regD hcx [(1001, .to 212)] [5] [0] [] [(a.length * 1 ≤ 140737488355328)] [(5, .row 212)] [(212, .row 4 (.bools a))] (by kernel_rfl) ?_ ?_
  ·
   refine (ap ?_ az)
   first | omega | trivial | exact (fun _ => ⟨(hw4 (by omega)).2 _ (Cn.getD_memL (by omega)), by unfold maxLen; omega⟩) | (simp only [List.length_set, List.length_append, List.length_replicate]; omega) | (first | omega | exact id | exact vcNot | exact vcG | exact vcH | (intro _; omega) | exact (fun _ h => h) | (intro h; simp at h; omega) | (simp only [List.length_cons, List.length_nil, List.length_append, List.length_map, List.length_set, List.length_replicate]; omega) | (intro h; simp [h]; done)) | (constructor <;> omega)
  refine fin_then ?_
  refine tri_seq ?_
  refine tri_seq ?_
  refine tri_regD hcx [] [6] [5, 0] [212] [Fit ((u.length : Int) - 1)] [(6, .int ((u.length : Int) - 1))] [] (by kernel_rfl) ?_ ?_
  ·
   refine (ap ?_ az)
   first | omega | trivial | exact (fun _ => ⟨(hw4 (by omega)).2 _ (Cn.getD_memL (by omega)), by unfold maxLen; omega⟩) | (simp only [List.length_set, List.length_append, List.length_replicate]; omega) | (first | omega | exact id | exact vcNot | exact vcG | exact vcH | (intro _; omega) | exact (fun _ h => h) | (intro h; simp at h; omega) | (simp only [List.length_cons, List.length_nil, List.length_append, List.length_map, List.length_set, List.length_replicate]; omega) | (intro h; simp [h]; done)) | (constructor <;> omega)
  refine fin_then ?_
  refine tri_block ?_
  refine tri_ren (ρ := [(212, .to 10)]) (keys := [0, 5, 6]) (E' := [(0, .undos u), (5, .row 10), (6, .int ((u.length : Int) - 1))]) (H' := [(10, .row 4 (.bools a))]) (by kernel_rfl) ?_
  refine tri_loop (X := Nat) (fun x0 => x0 ≤ u.length) (fun x0 => [(0, .undos u), (5, .row 10), (6, .int ((u.length : Int) - 1 - (x0 : Int)))]) (fun x0 => [(10, .row 4 (.bools (Cn.backTo u a x0)))]) (fun x0 => u.length - x0) (0) ?_ ?_ ?_ ?_
  ·
   show 0 ≤ u.length
   omega
  ·
   exact subE_mk (l := [.undos u, .row 10, .int ((u.length : Int) - 1)]) (m := [.undos u, .row 10, .int ((u.length : Int) - 1 - (0 : Int))]) (by kernel_rfl) (by kernel_rfl) (consE rfl (consE rfl (consE (congrArg AV.int (show ((u.length : Int) - 1) = ((u.length : Int) - 1 - (0 : Int)) from (by first | rfl | omega | (simp; done)))) rfl)))
  ·
   exact Eq.trans (show _ = [(10, .row 4 (.bools a))] from by kernel_rfl) (consH (congrArg (fun x => ((10 : Nat), x)) (congrArg (fun x => AObj.row 4 (.bools x)) (show a = (Cn.backTo u a 0) from (by rfl)))) rfl)
  ·
   intro p hI
   replace hI : p ≤ u.length := hI
   change Tri _ [(0, .undos u), (5, .row 10), (6, .int ((u.length : Int) - 1 - (p : Int)))] [(10, .row 4 (.bools (Cn.backTo u a p)))] _ _
   have hbl := Cn.backTo_len (u := u) (i := p) hm3
   have hw4 : p < u.length → _ := fun h => hm4 (((u.length : Int) - 1 - (p : Int)).toNat) (by omega)
   refine tri_seq ?_
   refine tri_seq ?_
   refine tri_regD hcx [] [17] [0, 5, 6] [10] [] [(17, .bool (decide (((u.length : Int) - 1 - (p : Int)) ≥ 0)))] [] (by kernel_rfl) ?_ ?_
   ·
    exact az
   refine fin_then ?_
   refine tri_cond (b := (decide (((u.length : Int) - 1 - (p : Int)) ≥ 0))) (by kernel_rfl) (fun hb0 => ?_) (fun hb0 => ?_)
   ·
    skip
    have h0 := of_decide_eq_true hb0
    refine tri_skip ?_
    refine fin_then ?_
    refine tri_seq ?_
    refine tri_block ?_
    refine tri_seq ?_
    refine tri_regD hcx [] [7] [0, 5, 6] [10] [((0 : Int) ≤ ((u.length : Int) - 1 - (p : Int)) ∧ ((u.length : Int) - 1 - (p : Int)) < (u.length : Int))] [(7, .int ((u.getD (((u.length : Int) - 1 - (p : Int)).toNat) (0, [])).1))] [] (by kernel_rfl) ?_ ?_
    ·
     refine (ap ?_ az)
     first | omega | trivial | exact (fun _ => ⟨(hw4 (by omega)).2 _ (Cn.getD_memL (by omega)), by unfold maxLen; omega⟩) | (simp only [List.length_set, List.length_append, List.length_replicate]; omega) | (first | omega | exact id | exact vcNot | exact vcG | exact vcH | (intro _; omega) | exact (fun _ h => h) | (intro h; simp at h; omega) | (simp only [List.length_cons, List.length_nil, List.length_append, List.length_map, List.length_set, List.length_replicate]; omega) | (intro h; simp [h]; done)) | (constructor <;> omega)
    refine fin_then ?_
    refine tri_seq ?_
    refine tri_seq ?_
    refine tri_regD hcx [] [30] [7, 0, 5, 6] [10] [((!(decide ((u.getD (((u.length : Int) - 1 - (p : Int)).toNat) (0, [])).1 < 1))) = true → ((!(decide ((u.getD (((u.length : Int) - 1 - (p : Int)).toNat) (0, [])).1 < 1))) = true)), ((decide ((u.getD (((u.length : Int) - 1 - (p : Int)).toNat) (0, [])).1 < 1)) = false → (!(decide ((u.getD (((u.length : Int) - 1 - (p : Int)).toNat) (0, [])).1 < 1))) = true)] [(30, .bool ((decide ((u.getD (((u.length : Int) - 1 - (p : Int)).toNat) (0, [])).1 < 1)) || (decide ((u.getD (((u.length : Int) - 1 - (p : Int)).toNat) (0, [])).1 > 65536))))] [] (by kernel_rfl) ?_ ?_
    ·
     refine (ap ?_ (ap (by exact vcNot) az))
     first | omega | trivial | exact (fun _ => ⟨(hw4 (by omega)).2 _ (Cn.getD_memL (by omega)), by unfold maxLen; omega⟩) | (simp only [List.length_set, List.length_append, List.length_replicate]; omega) | (first | omega | exact id | exact vcNot | exact vcG | exact vcH | (intro _; omega) | exact (fun _ h => h) | (intro h; simp at h; omega) | (simp only [List.length_cons, List.length_nil, List.length_append, List.length_map, List.length_set, List.length_replicate]; omega) | (intro h; simp [h]; done)) | (constructor <;> omega)
    refine fin_then ?_
    refine tri_cond (b := ((decide ((u.getD (((u.length : Int) - 1 - (p : Int)).toNat) (0, [])).1 < 1)) || (decide ((u.getD (((u.length : Int) - 1 - (p : Int)).toNat) (0, [])).1 > 65536)))) (by kernel_rfl) (fun hb1 => ?_) (fun hb1 => ?_)
    ·
     skip
     have h1 := hb1
     try simp only [Bool.or_eq_true, Bool.or_eq_false_iff, Bool.and_eq_true, Bool.and_eq_false_iff, Bool.not_eq_true', Bool.not_eq_false', decide_eq_true_eq, decide_eq_false_iff_not, bne_iff_ne, bne_eq_false_iff_eq, beq_iff_eq, beq_eq_false_iff_ne] at h1
     refine tri_exit ?_
     refine fin_then_exit ?_
     refine fin_block_same ?_
     refine fin_then ?_
     refine tri_regD hcx [] [6] [0, 5] [10] [Fit (((u.length : Int) - 1 - (p : Int)) - 1)] [(6, .int (((u.length : Int) - 1 - (p : Int)) - 1))] [] (by kernel_rfl) ?_ ?_
     ·
      refine (ap ?_ az)
      first | omega | trivial | exact (fun _ => ⟨(hw4 (by omega)).2 _ (Cn.getD_memL (by omega)), by unfold maxLen; omega⟩) | (simp only [List.length_set, List.length_append, List.length_replicate]; omega) | (first | omega | exact id | exact vcNot | exact vcG | exact vcH | (intro _; omega) | exact (fun _ h => h) | (intro h; simp at h; omega) | (simp only [List.length_cons, List.length_nil, List.length_append, List.length_map, List.length_set, List.length_replicate]; omega) | (intro h; simp [h]; done)) | (constructor <;> omega)
     refine fin_round (p + 1) ?_ ?_ ?_ ?_
     ·
      show (p + 1) ≤ u.length
      omega
     ·
      show u.length - (p + 1) < u.length - p
      omega
     ·
      exact subE_mk (l := [.undos u, .row 10, .int (((u.length : Int) - 1 - (p : Int)) - 1)]) (m := [.undos u, .row 10, .int ((u.length : Int) - 1 - ((p + 1) : Int))]) (by kernel_rfl) (by kernel_rfl) (consE rfl (consE rfl (consE (congrArg AV.int (show (((u.length : Int) - 1 - (p : Int)) - 1) = ((u.length : Int) - 1 - ((p + 1) : Int)) from (by first | rfl | omega | (simp; done)))) rfl)))
     ·
      exact Eq.trans (show _ = [(10, .row 4 (.bools (Cn.backTo u a p)))] from by kernel_rfl) (consH (congrArg (fun x => ((10 : Nat), x)) (congrArg (fun x => AObj.row 4 (.bools x)) (show (Cn.backTo u a p) = (Cn.backTo u a (p + 1)) from (by rw [Cn.backTo_succ2 (by omega)]; first | exact Cn.bs_skip (by omega) | exact Cn.bs_pad (by omega) (Cn.set_eq (by rw [show j = ((u.getD (((u.length : Int) - 1 - (p : Int)).toNat) (0, [])).2).length from (by omega), List.take_length])))))) rfl)
    ·
     skip
     have h1 := hb1
     try simp only [Bool.or_eq_true, Bool.or_eq_false_iff, Bool.and_eq_true, Bool.and_eq_false_iff, Bool.not_eq_true', Bool.not_eq_false', decide_eq_true_eq, decide_eq_false_iff_not, bne_iff_ne, bne_eq_false_iff_eq, beq_iff_eq, beq_eq_false_iff_ne] at h1
     refine tri_skip ?_
     refine fin_then ?_
     refine tri_seq ?_
     refine tri_block ?_
     refine tri_loop (X := Nat) (fun x0 => x0 ≤ ((u.getD (((u.length : Int) - 1 - (p : Int)).toNat) (0, [])).1 + 1 - ((Cn.backTo u a p).length : Int)).toNat) (fun x0 => [(0, .undos u), (5, .row 10), (6, .int ((u.length : Int) - 1 - (p : Int))), (7, .int ((u.getD (((u.length : Int) - 1 - (p : Int)).toNat) (0, [])).1))]) (fun x0 => [(10, .row 4 (.bools ((Cn.backTo u a p) ++ List.replicate x0 false)))]) (fun x0 => ((u.getD (((u.length : Int) - 1 - (p : Int)).toNat) (0, [])).1 + 1 - ((Cn.backTo u a p).length : Int)).toNat - x0) (0) ?_ ?_ ?_ ?_
     ·
      show 0 ≤ ((u.getD (((u.length : Int) - 1 - (p : Int)).toNat) (0, [])).1 + 1 - ((Cn.backTo u a p).length : Int)).toNat
      omega
     ·
      exact subE_mk (l := [.undos u, .row 10, .int ((u.length : Int) - 1 - (p : Int)), .int ((u.getD (((u.length : Int) - 1 - (p : Int)).toNat) (0, [])).1)]) (m := [.undos u, .row 10, .int ((u.length : Int) - 1 - (p : Int)), .int ((u.getD (((u.length : Int) - 1 - (p : Int)).toNat) (0, [])).1)]) (by kernel_rfl) (by kernel_rfl) rfl
     ·
      exact Eq.trans (show _ = [(10, .row 4 (.bools (Cn.backTo u a p)))] from by kernel_rfl) (consH (congrArg (fun x => ((10 : Nat), x)) (congrArg (fun x => AObj.row 4 (.bools x)) (show (Cn.backTo u a p) = ((Cn.backTo u a p) ++ List.replicate 0 false) from (by simp)))) rfl)
     ·
      intro r hI
      replace hI : r ≤ ((u.getD (((u.length : Int) - 1 - (p : Int)).toNat) (0, [])).1 + 1 - ((Cn.backTo u a p).length : Int)).toNat := hI
      change Tri _ [(0, .undos u), (5, .row 10), (6, .int ((u.length : Int) - 1 - (p : Int))), (7, .int ((u.getD (((u.length : Int) - 1 - (p : Int)).toNat) (0, [])).1))] [(10, .row 4 (.bools ((Cn.backTo u a p) ++ List.replicate r false)))] _ _
      have hrl : ((Cn.backTo u a p) ++ List.replicate r false).length = (Cn.backTo u a p).length + r := by rw [List.length_append, List.length_replicate]
      refine tri_seq ?_
      refine tri_seq ?_
      refine tri_regD hcx [] [34] [0, 5, 6, 7] [10] [] [(34, .bool (decide ((((Cn.backTo u a p) ++ List.replicate r false).length : Int) ≤ (u.getD (((u.length : Int) - 1 - (p : Int)).toNat) (0, [])).1)))] [] (by kernel_rfl) ?_ ?_
      ·
       exact az
      refine fin_then ?_
      refine tri_cond (b := (decide ((((Cn.backTo u a p) ++ List.replicate r false).length : Int) ≤ (u.getD (((u.length : Int) - 1 - (p : Int)).toNat) (0, [])).1))) (by kernel_rfl) (fun hb2 => ?_) (fun hb2 => ?_)
      ·
       skip
       have h2 := of_decide_eq_true hb2
       refine tri_skip ?_
       refine fin_then ?_
       refine tri_block ?_
       refine tri_regD hcx [(1002, .to 10)] [5] [0, 6, 7] [] [((((Cn.backTo u a p) ++ List.replicate r false).length + [false].length) * 1 ≤ 140737488355328)] [(5, .row 10)] [(10, .row 4 (.bools (((Cn.backTo u a p) ++ List.replicate r false) ++ [false])))] (by kernel_rfl) ?_ ?_
       ·
        refine (ap ?_ az)
        first | omega | trivial | exact (fun _ => ⟨(hw4 (by omega)).2 _ (Cn.getD_memL (by omega)), by unfold maxLen; omega⟩) | (simp only [List.length_set, List.length_append, List.length_replicate]; omega) | (first | omega | exact id | exact vcNot | exact vcG | exact vcH | (intro _; omega) | exact (fun _ h => h) | (intro h; simp at h; omega) | (simp only [List.length_cons, List.length_nil, List.length_append, List.length_map, List.length_set, List.length_replicate]; omega) | (intro h; simp [h]; done)) | (constructor <;> omega)
       refine fin_block ?_
       refine fin_round (r + 1) ?_ ?_ ?_ ?_
       ·
        show (r + 1) ≤ ((u.getD (((u.length : Int) - 1 - (p : Int)).toNat) (0, [])).1 + 1 - ((Cn.backTo u a p).length : Int)).toNat
        omega
       ·
        show ((u.getD (((u.length : Int) - 1 - (p : Int)).toNat) (0, [])).1 + 1 - ((Cn.backTo u a p).length : Int)).toNat - (r + 1) < ((u.getD (((u.length : Int) - 1 - (p : Int)).toNat) (0, [])).1 + 1 - ((Cn.backTo u a p).length : Int)).toNat - r
        omega
       ·
        exact subE_mk (l := [.undos u, .row 10, .int ((u.length : Int) - 1 - (p : Int)), .int ((u.getD (((u.length : Int) - 1 - (p : Int)).toNat) (0, [])).1)]) (m := [.undos u, .row 10, .int ((u.length : Int) - 1 - (p : Int)), .int ((u.getD (((u.length : Int) - 1 - (p : Int)).toNat) (0, [])).1)]) (by kernel_rfl) (by kernel_rfl) rfl
       ·
        exact Eq.trans (show _ = [(10, .row 4 (.bools (((Cn.backTo u a p) ++ List.replicate r false) ++ [false])))] from by kernel_rfl) (consH (congrArg (fun x => ((10 : Nat), x)) (congrArg (fun x => AObj.row 4 (.bools x)) (show (((Cn.backTo u a p) ++ List.replicate r false) ++ [false]) = ((Cn.backTo u a p) ++ List.replicate (r + 1) false) from (by exact Cn.rep_succ)))) rfl)
      ·
       skip
       have h2 := of_decide_eq_false hb2
       refine tri_exit ?_
       refine fin_then_exit ?_
       refine fin_then_exit ?_
       refine fin_block_same ?_
       refine fin_then ?_
       refine tri_seq ?_
       refine tri_regD hcx [(10, .to 10)] [] [0, 5, 6, 7] [] [((0 : Int) ≤ (u.getD (((u.length : Int) - 1 - (p : Int)).toNat) (0, [])).1 ∧ (u.getD (((u.length : Int) - 1 - (p : Int)).toNat) (0, [])).1 < (((Cn.backTo u a p) ++ List.replicate r false).length : Int)), ((((u.getD (((u.length : Int) - 1 - (p : Int)).toNat) (0, [])).1).toNat) < ((Cn.backTo u a p) ++ List.replicate r false).length)] [] [(10, .row 4 (.bools (((Cn.backTo u a p) ++ List.replicate r false).set (((u.getD (((u.length : Int) - 1 - (p : Int)).toNat) (0, [])).1).toNat) false)))] (by kernel_rfl) ?_ ?_
       ·
        refine (ap ?_ (ap ?_ az))
        all_goals
         first | omega | trivial | exact (fun _ => ⟨(hw4 (by omega)).2 _ (Cn.getD_memL (by omega)), by unfold maxLen; omega⟩) | (simp only [List.length_set, List.length_append, List.length_replicate]; omega) | (first | omega | exact id | exact vcNot | exact vcG | exact vcH | (intro _; omega) | exact (fun _ h => h) | (intro h; simp at h; omega) | (simp only [List.length_cons, List.length_nil, List.length_append, List.length_map, List.length_set, List.length_replicate]; omega) | (intro h; simp [h]; done)) | (constructor <;> omega)
       refine fin_then ?_
       refine tri_seq ?_
       refine tri_regD hcx [] [8] [0, 5, 6, 7] [10] [] [(8, .bool true)] [] (by kernel_rfl) ?_ ?_
       ·
        exact az
       refine fin_then ?_
       refine tri_seq ?_
       refine tri_seq ?_
       refine tri_regD hcx [] [45, 46, 47] [8, 0, 5, 6, 7] [10] [((0 : Int) ≤ ((u.length : Int) - 1 - (p : Int)) ∧ ((u.length : Int) - 1 - (p : Int)) < (u.length : Int))] [(45, .intss ((u.getD (((u.length : Int) - 1 - (p : Int)).toNat) (0, [])).2)), (46, .int (((u.getD (((u.length : Int) - 1 - (p : Int)).toNat) (0, [])).2).length : Int)), (47, .int 0)] [] (by kernel_rfl) ?_ ?_
       ·
        refine (ap ?_ az)
        first | omega | trivial | exact (fun _ => ⟨(hw4 (by omega)).2 _ (Cn.getD_memL (by omega)), by unfold maxLen; omega⟩) | (simp only [List.length_set, List.length_append, List.length_replicate]; omega) | (first | omega | exact id | exact vcNot | exact vcG | exact vcH | (intro _; omega) | exact (fun _ h => h) | (intro h; simp at h; omega) | (simp only [List.length_cons, List.length_nil, List.length_append, List.length_map, List.length_set, List.length_replicate]; omega) | (intro h; simp [h]; done)) | (constructor <;> omega)
       refine fin_then ?_
       refine tri_block ?_
       refine tri_loop (X := Nat) (fun x0 => x0 ≤ (u.getD (((u.length : Int) - 1 - (p : Int)).toNat) (0, [])).2.length) (fun x0 => [(0, .undos u), (5, .row 10), (6, .int ((u.length : Int) - 1 - (p : Int))), (7, .int ((u.getD (((u.length : Int) - 1 - (p : Int)).toNat) (0, [])).1)), (8, .bool ((((u.getD (((u.length : Int) - 1 - (p : Int)).toNat) (0, [])).2).take x0).all (Cn.holdsV ((Cn.padB (Cn.backTo u a p) (u.getD (((u.length : Int) - 1 - (p : Int)).toNat) (0, [])).1).set (u.getD (((u.length : Int) - 1 - (p : Int)).toNat) (0, [])).1.toNat false)))), (45, .intss ((u.getD (((u.length : Int) - 1 - (p : Int)).toNat) (0, [])).2)), (46, .int (((u.getD (((u.length : Int) - 1 - (p : Int)).toNat) (0, [])).2).length : Int)), (47, .int (x0 : Int))]) (fun x0 => [(10, .row 4 (.bools ((Cn.padB (Cn.backTo u a p) (u.getD (((u.length : Int) - 1 - (p : Int)).toNat) (0, [])).1).set (u.getD (((u.length : Int) - 1 - (p : Int)).toNat) (0, [])).1.toNat false)))]) (fun x0 => (u.getD (((u.length : Int) - 1 - (p : Int)).toNat) (0, [])).2.length - x0) (0) ?_ ?_ ?_ ?_
       ·
        show 0 ≤ (u.getD (((u.length : Int) - 1 - (p : Int)).toNat) (0, [])).2.length
        omega
       ·
        exact subE_mk (l := [.undos u, .row 10, .int ((u.length : Int) - 1 - (p : Int)), .int ((u.getD (((u.length : Int) - 1 - (p : Int)).toNat) (0, [])).1), .bool true, .intss ((u.getD (((u.length : Int) - 1 - (p : Int)).toNat) (0, [])).2), .int (((u.getD (((u.length : Int) - 1 - (p : Int)).toNat) (0, [])).2).length : Int), .int 0]) (m := [.undos u, .row 10, .int ((u.length : Int) - 1 - (p : Int)), .int ((u.getD (((u.length : Int) - 1 - (p : Int)).toNat) (0, [])).1), .bool ((((u.getD (((u.length : Int) - 1 - (p : Int)).toNat) (0, [])).2).take 0).all (Cn.holdsV ((Cn.padB (Cn.backTo u a p) (u.getD (((u.length : Int) - 1 - (p : Int)).toNat) (0, [])).1).set (u.getD (((u.length : Int) - 1 - (p : Int)).toNat) (0, [])).1.toNat false))), .intss ((u.getD (((u.length : Int) - 1 - (p : Int)).toNat) (0, [])).2), .int (((u.getD (((u.length : Int) - 1 - (p : Int)).toNat) (0, [])).2).length : Int), .int (0 : Int)]) (by kernel_rfl) (by kernel_rfl) (consE rfl (consE rfl (consE rfl (consE rfl (consE (congrArg AV.bool (show true = ((((u.getD (((u.length : Int) - 1 - (p : Int)).toNat) (0, [])).2).take 0).all (Cn.holdsV ((Cn.padB (Cn.backTo u a p) (u.getD (((u.length : Int) - 1 - (p : Int)).toNat) (0, [])).1).set (u.getD (((u.length : Int) - 1 - (p : Int)).toNat) (0, [])).1.toNat false))) from (by rfl))) (consE rfl (consE rfl (consE (congrArg AV.int (show 0 = (0 : Int) from (by first | rfl | omega | (simp; done)))) rfl))))))))
       ·
        exact Eq.trans (show _ = [(10, .row 4 (.bools (((Cn.backTo u a p) ++ List.replicate r false).set (((u.getD (((u.length : Int) - 1 - (p : Int)).toNat) (0, [])).1).toNat) false)))] from by kernel_rfl) (consH (congrArg (fun x => ((10 : Nat), x)) (congrArg (fun x => AObj.row 4 (.bools x)) (show (((Cn.backTo u a p) ++ List.replicate r false).set (((u.getD (((u.length : Int) - 1 - (p : Int)).toNat) (0, [])).1).toNat) false) = ((Cn.padB (Cn.backTo u a p) (u.getD (((u.length : Int) - 1 - (p : Int)).toNat) (0, [])).1).set (u.getD (((u.length : Int) - 1 - (p : Int)).toNat) (0, [])).1.toNat false) from (by rw [Cn.pad_eq (by omega) (by omega)])))) rfl)
       ·
        intro j hI
        replace hI : j ≤ (u.getD (((u.length : Int) - 1 - (p : Int)).toNat) (0, [])).2.length := hI
        change Tri _ [(0, .undos u), (5, .row 10), (6, .int ((u.length : Int) - 1 - (p : Int))), (7, .int ((u.getD (((u.length : Int) - 1 - (p : Int)).toNat) (0, [])).1)), (8, .bool ((((u.getD (((u.length : Int) - 1 - (p : Int)).toNat) (0, [])).2).take j).all (Cn.holdsV ((Cn.padB (Cn.backTo u a p) (u.getD (((u.length : Int) - 1 - (p : Int)).toNat) (0, [])).1).set (u.getD (((u.length : Int) - 1 - (p : Int)).toNat) (0, [])).1.toNat false)))), (45, .intss ((u.getD (((u.length : Int) - 1 - (p : Int)).toNat) (0, [])).2)), (46, .int (((u.getD (((u.length : Int) - 1 - (p : Int)).toNat) (0, [])).2).length : Int)), (47, .int (j : Int))] [(10, .row 4 (.bools ((Cn.padB (Cn.backTo u a p) (u.getD (((u.length : Int) - 1 - (p : Int)).toNat) (0, [])).1).set (u.getD (((u.length : Int) - 1 - (p : Int)).toNat) (0, [])).1.toNat false)))] _ _
        have hpg := Cn.padB_gt (a := (Cn.backTo u a p)) (w := (u.getD (((u.length : Int) - 1 - (p : Int)).toNat) (0, []))) (by omega)
        have hps : ((Cn.padB (Cn.backTo u a p) (u.getD (((u.length : Int) - 1 - (p : Int)).toNat) (0, [])).1).set (u.getD (((u.length : Int) - 1 - (p : Int)).toNat) (0, [])).1.toNat false).length = (Cn.padB (Cn.backTo u a p) (u.getD (((u.length : Int) - 1 - (p : Int)).toNat) (0, [])).1).length := List.length_set ..
        have hpl := Cn.padB_len (w := (u.getD (((u.length : Int) - 1 - (p : Int)).toNat) (0, []))) hbl (by omega)
        have hwl : (u.getD (((u.length : Int) - 1 - (p : Int)).toNat) (0, [])).2.length ≤ 9223372036854775807 := (hw4 (by omega)).1
        refine tri_seq ?_
        refine tri_regD hcx [] [48] [0, 5, 6, 7, 8, 45, 46, 47] [10] [] [(48, .bool (decide ((j : Int) < (((u.getD (((u.length : Int) - 1 - (p : Int)).toNat) (0, [])).2).length : Int))))] [] (by kernel_rfl) ?_ ?_
        ·
         exact az
        refine fin_then ?_
        refine tri_seq ?_
        refine tri_cond (b := (decide ((j : Int) < (((u.getD (((u.length : Int) - 1 - (p : Int)).toNat) (0, [])).2).length : Int)))) (by kernel_rfl) (fun hb3 => ?_) (fun hb3 => ?_)
        ·
         skip
         have h3 := of_decide_eq_true hb3
         refine tri_skip ?_
         refine fin_then ?_
         refine tri_seq ?_
         refine tri_block ?_
         refine tri_seq ?_
         refine tri_regD hcx [] [10] [0, 5, 6, 7, 8, 45, 46, 47] [10] [((0 : Int) ≤ (j : Int) ∧ (j : Int) < (((u.getD (((u.length : Int) - 1 - (p : Int)).toNat) (0, [])).2).length : Int))] [(10, .ints (((u.getD (((u.length : Int) - 1 - (p : Int)).toNat) (0, [])).2).getD j []))] [] (by kernel_rfl) ?_ ?_
         ·
          refine (ap ?_ az)
          first | omega | trivial | exact (fun _ => ⟨(hw4 (by omega)).2 _ (Cn.getD_memL (by omega)), by unfold maxLen; omega⟩) | (simp only [List.length_set, List.length_append, List.length_replicate]; omega) | (first | omega | exact id | exact vcNot | exact vcG | exact vcH | (intro _; omega) | exact (fun _ h => h) | (intro h; simp at h; omega) | (simp only [List.length_cons, List.length_nil, List.length_append, List.length_map, List.length_set, List.length_replicate]; omega) | (intro h; simp [h]; done)) | (constructor <;> omega)
         refine fin_then ?_
         refine tri_regD hcx [] [8] [0, 5, 6, 7, 45, 46, 47] [10] [(((((u.getD (((u.length : Int) - 1 - (p : Int)).toNat) (0, [])).2).take j).all (Cn.holdsV ((Cn.padB (Cn.backTo u a p) (u.getD (((u.length : Int) - 1 - (p : Int)).toNat) (0, [])).1).set (u.getD (((u.length : Int) - 1 - (p : Int)).toNat) (0, [])).1.toNat false))) = true → (((((u.getD (((u.length : Int) - 1 - (p : Int)).toNat) (0, [])).2).take j).all (Cn.holdsV ((Cn.padB (Cn.backTo u a p) (u.getD (((u.length : Int) - 1 - (p : Int)).toNat) (0, [])).1).set (u.getD (((u.length : Int) - 1 - (p : Int)).toNat) (0, [])).1.toNat false))) = true)), (((((u.getD (((u.length : Int) - 1 - (p : Int)).toNat) (0, [])).2).take j).all (Cn.holdsV ((Cn.padB (Cn.backTo u a p) (u.getD (((u.length : Int) - 1 - (p : Int)).toNat) (0, [])).1).set (u.getD (((u.length : Int) - 1 - (p : Int)).toNat) (0, [])).1.toNat false))) = true → (((((u.getD (((u.length : Int) - 1 - (p : Int)).toNat) (0, [])).2).take j).all (Cn.holdsV ((Cn.padB (Cn.backTo u a p) (u.getD (((u.length : Int) - 1 - (p : Int)).toNat) (0, [])).1).set (u.getD (((u.length : Int) - 1 - (p : Int)).toNat) (0, [])).1.toNat false))) = true)), (((((u.getD (((u.length : Int) - 1 - (p : Int)).toNat) (0, [])).2).take j).all (Cn.holdsV ((Cn.padB (Cn.backTo u a p) (u.getD (((u.length : Int) - 1 - (p : Int)).toNat) (0, [])).1).set (u.getD (((u.length : Int) - 1 - (p : Int)).toNat) (0, [])).1.toNat false))) = true → ((((u.getD (((u.length : Int) - 1 - (p : Int)).toNat) (0, [])).2).getD j []).length ≤ maxLen ∧ ((Cn.padB (Cn.backTo u a p) (u.getD (((u.length : Int) - 1 - (p : Int)).toNat) (0, [])).1).set (u.getD (((u.length : Int) - 1 - (p : Int)).toNat) (0, [])).1.toNat false).length ≤ maxLen)), (((((u.getD (((u.length : Int) - 1 - (p : Int)).toNat) (0, [])).2).take j).all (Cn.holdsV ((Cn.padB (Cn.backTo u a p) (u.getD (((u.length : Int) - 1 - (p : Int)).toNat) (0, [])).1).set (u.getD (((u.length : Int) - 1 - (p : Int)).toNat) (0, [])).1.toNat false))) = true → ((((u.getD (((u.length : Int) - 1 - (p : Int)).toNat) (0, [])).2).take j).all (Cn.holdsV ((Cn.padB (Cn.backTo u a p) (u.getD (((u.length : Int) - 1 - (p : Int)).toNat) (0, [])).1).set (u.getD (((u.length : Int) - 1 - (p : Int)).toNat) (0, [])).1.toNat false))) = true)] [(8, .bool (((((u.getD (((u.length : Int) - 1 - (p : Int)).toNat) (0, [])).2).take j).all (Cn.holdsV ((Cn.padB (Cn.backTo u a p) (u.getD (((u.length : Int) - 1 - (p : Int)).toNat) (0, [])).1).set (u.getD (((u.length : Int) - 1 - (p : Int)).toNat) (0, [])).1.toNat false))) && (Cn.holdsV ((Cn.padB (Cn.backTo u a p) (u.getD (((u.length : Int) - 1 - (p : Int)).toNat) (0, [])).1).set (u.getD (((u.length : Int) - 1 - (p : Int)).toNat) (0, [])).1.toNat false) (((u.getD (((u.length : Int) - 1 - (p : Int)).toNat) (0, [])).2).getD j []))))] [] (by kernel_rfl) ?_ ?_
         ·
          refine (ap ?_ (ap ?_ (ap ?_ (ap (by exact id) az))))
          all_goals
           first | omega | trivial | exact (fun _ => ⟨(hw4 (by omega)).2 _ (Cn.getD_memL (by omega)), by unfold maxLen; omega⟩) | (simp only [List.length_set, List.length_append, List.length_replicate]; omega) | (first | omega | exact id | exact vcNot | exact vcG | exact vcH | (intro _; omega) | exact (fun _ h => h) | (intro h; simp at h; omega) | (simp only [List.length_cons, List.length_nil, List.length_append, List.length_map, List.length_set, List.length_replicate]; omega) | (intro h; simp [h]; done)) | (constructor <;> omega)
         refine fin_block ?_
         refine fin_then ?_
         refine tri_regD hcx [] [47] [8, 0, 5, 6, 7, 45, 46] [10] [Fit ((j : Int) + 1)] [(47, .int ((j : Int) + 1))] [] (by kernel_rfl) ?_ ?_
         ·
          refine (ap ?_ az)
          first | omega | trivial | exact (fun _ => ⟨(hw4 (by omega)).2 _ (Cn.getD_memL (by omega)), by unfold maxLen; omega⟩) | (simp only [List.length_set, List.length_append, List.length_replicate]; omega) | (first | omega | exact id | exact vcNot | exact vcG | exact vcH | (intro _; omega) | exact (fun _ h => h) | (intro h; simp at h; omega) | (simp only [List.length_cons, List.length_nil, List.length_append, List.length_map, List.length_set, List.length_replicate]; omega) | (intro h; simp [h]; done)) | (constructor <;> omega)
         refine fin_round (j + 1) ?_ ?_ ?_ ?_
         ·
          show (j + 1) ≤ (u.getD (((u.length : Int) - 1 - (p : Int)).toNat) (0, [])).2.length
          omega
         ·
          show (u.getD (((u.length : Int) - 1 - (p : Int)).toNat) (0, [])).2.length - (j + 1) < (u.getD (((u.length : Int) - 1 - (p : Int)).toNat) (0, [])).2.length - j
          omega
         ·
          exact subE_mk (l := [.undos u, .row 10, .int ((u.length : Int) - 1 - (p : Int)), .int ((u.getD (((u.length : Int) - 1 - (p : Int)).toNat) (0, [])).1), .bool (((((u.getD (((u.length : Int) - 1 - (p : Int)).toNat) (0, [])).2).take j).all (Cn.holdsV ((Cn.padB (Cn.backTo u a p) (u.getD (((u.length : Int) - 1 - (p : Int)).toNat) (0, [])).1).set (u.getD (((u.length : Int) - 1 - (p : Int)).toNat) (0, [])).1.toNat false))) && (Cn.holdsV ((Cn.padB (Cn.backTo u a p) (u.getD (((u.length : Int) - 1 - (p : Int)).toNat) (0, [])).1).set (u.getD (((u.length : Int) - 1 - (p : Int)).toNat) (0, [])).1.toNat false) (((u.getD (((u.length : Int) - 1 - (p : Int)).toNat) (0, [])).2).getD j []))), .intss ((u.getD (((u.length : Int) - 1 - (p : Int)).toNat) (0, [])).2), .int (((u.getD (((u.length : Int) - 1 - (p : Int)).toNat) (0, [])).2).length : Int), .int ((j : Int) + 1)]) (m := [.undos u, .row 10, .int ((u.length : Int) - 1 - (p : Int)), .int ((u.getD (((u.length : Int) - 1 - (p : Int)).toNat) (0, [])).1), .bool ((((u.getD (((u.length : Int) - 1 - (p : Int)).toNat) (0, [])).2).take (j + 1)).all (Cn.holdsV ((Cn.padB (Cn.backTo u a p) (u.getD (((u.length : Int) - 1 - (p : Int)).toNat) (0, [])).1).set (u.getD (((u.length : Int) - 1 - (p : Int)).toNat) (0, [])).1.toNat false))), .intss ((u.getD (((u.length : Int) - 1 - (p : Int)).toNat) (0, [])).2), .int (((u.getD (((u.length : Int) - 1 - (p : Int)).toNat) (0, [])).2).length : Int), .int ((j + 1) : Int)]) (by kernel_rfl) (by kernel_rfl) (consE rfl (consE rfl (consE rfl (consE rfl (consE (congrArg AV.bool (show (((((u.getD (((u.length : Int) - 1 - (p : Int)).toNat) (0, [])).2).take j).all (Cn.holdsV ((Cn.padB (Cn.backTo u a p) (u.getD (((u.length : Int) - 1 - (p : Int)).toNat) (0, [])).1).set (u.getD (((u.length : Int) - 1 - (p : Int)).toNat) (0, [])).1.toNat false))) && (Cn.holdsV ((Cn.padB (Cn.backTo u a p) (u.getD (((u.length : Int) - 1 - (p : Int)).toNat) (0, [])).1).set (u.getD (((u.length : Int) - 1 - (p : Int)).toNat) (0, [])).1.toNat false) (((u.getD (((u.length : Int) - 1 - (p : Int)).toNat) (0, [])).2).getD j []))) = ((((u.getD (((u.length : Int) - 1 - (p : Int)).toNat) (0, [])).2).take (j + 1)).all (Cn.holdsV ((Cn.padB (Cn.backTo u a p) (u.getD (((u.length : Int) - 1 - (p : Int)).toNat) (0, [])).1).set (u.getD (((u.length : Int) - 1 - (p : Int)).toNat) (0, [])).1.toNat false))) from (by exact Cn.all_succ (by omega)))) (consE rfl (consE rfl (consE (congrArg AV.int (show ((j : Int) + 1) = ((j + 1) : Int) from (by first | rfl | omega | (simp; done)))) rfl))))))))
         ·
          kernel_rfl
        ·
         skip
         have h3 := of_decide_eq_false hb3
         refine tri_exit ?_
         refine fin_then_exit ?_
         refine fin_then_exit ?_
         refine fin_block_same ?_
         refine fin_then ?_
         refine tri_regD hcx [(10, .to 10)] [] [0, 5, 6] [] [((0 : Int) ≤ (u.getD (((u.length : Int) - 1 - (p : Int)).toNat) (0, [])).1 ∧ (u.getD (((u.length : Int) - 1 - (p : Int)).toNat) (0, [])).1 < (((Cn.padB (Cn.backTo u a p) (u.getD (((u.length : Int) - 1 - (p : Int)).toNat) (0, [])).1).set (u.getD (((u.length : Int) - 1 - (p : Int)).toNat) (0, [])).1.toNat false).length : Int)), ((((u.getD (((u.length : Int) - 1 - (p : Int)).toNat) (0, [])).1).toNat) < ((Cn.padB (Cn.backTo u a p) (u.getD (((u.length : Int) - 1 - (p : Int)).toNat) (0, [])).1).set (u.getD (((u.length : Int) - 1 - (p : Int)).toNat) (0, [])).1.toNat false).length)] [] [(10, .row 4 (.bools (((Cn.padB (Cn.backTo u a p) (u.getD (((u.length : Int) - 1 - (p : Int)).toNat) (0, [])).1).set (u.getD (((u.length : Int) - 1 - (p : Int)).toNat) (0, [])).1.toNat false).set (((u.getD (((u.length : Int) - 1 - (p : Int)).toNat) (0, [])).1).toNat) (!((((u.getD (((u.length : Int) - 1 - (p : Int)).toNat) (0, [])).2).take j).all (Cn.holdsV ((Cn.padB (Cn.backTo u a p) (u.getD (((u.length : Int) - 1 - (p : Int)).toNat) (0, [])).1).set (u.getD (((u.length : Int) - 1 - (p : Int)).toNat) (0, [])).1.toNat false)))))))] (by kernel_rfl) ?_ ?_
         ·
          refine (ap ?_ (ap ?_ az))
          all_goals
           first | omega | trivial | exact (fun _ => ⟨(hw4 (by omega)).2 _ (Cn.getD_memL (by omega)), by unfold maxLen; omega⟩) | (simp only [List.length_set, List.length_append, List.length_replicate]; omega) | (first | omega | exact id | exact vcNot | exact vcG | exact vcH | (intro _; omega) | exact (fun _ h => h) | (intro h; simp at h; omega) | (simp only [List.length_cons, List.length_nil, List.length_append, List.length_map, List.length_set, List.length_replicate]; omega) | (intro h; simp [h]; done)) | (constructor <;> omega)
         refine fin_block ?_
         refine fin_then ?_
         refine tri_regD hcx [] [6] [0, 5] [10] [Fit (((u.length : Int) - 1 - (p : Int)) - 1)] [(6, .int (((u.length : Int) - 1 - (p : Int)) - 1))] [] (by kernel_rfl) ?_ ?_
         ·
          refine (ap ?_ az)
          first | omega | trivial | exact (fun _ => ⟨(hw4 (by omega)).2 _ (Cn.getD_memL (by omega)), by unfold maxLen; omega⟩) | (simp only [List.length_set, List.length_append, List.length_replicate]; omega) | (first | omega | exact id | exact vcNot | exact vcG | exact vcH | (intro _; omega) | exact (fun _ h => h) | (intro h; simp at h; omega) | (simp only [List.length_cons, List.length_nil, List.length_append, List.length_map, List.length_set, List.length_replicate]; omega) | (intro h; simp [h]; done)) | (constructor <;> omega)
         refine fin_round (p + 1) ?_ ?_ ?_ ?_
         ·
          show (p + 1) ≤ u.length
          omega
         ·
          show u.length - (p + 1) < u.length - p
          omega
         ·
          exact subE_mk (l := [.undos u, .row 10, .int (((u.length : Int) - 1 - (p : Int)) - 1)]) (m := [.undos u, .row 10, .int ((u.length : Int) - 1 - ((p + 1) : Int))]) (by kernel_rfl) (by kernel_rfl) (consE rfl (consE rfl (consE (congrArg AV.int (show (((u.length : Int) - 1 - (p : Int)) - 1) = ((u.length : Int) - 1 - ((p + 1) : Int)) from (by first | rfl | omega | (simp; done)))) rfl)))
         ·
          exact Eq.trans (show _ = [(10, .row 4 (.bools (((Cn.padB (Cn.backTo u a p) (u.getD (((u.length : Int) - 1 - (p : Int)).toNat) (0, [])).1).set (u.getD (((u.length : Int) - 1 - (p : Int)).toNat) (0, [])).1.toNat false).set (((u.getD (((u.length : Int) - 1 - (p : Int)).toNat) (0, [])).1).toNat) (!((((u.getD (((u.length : Int) - 1 - (p : Int)).toNat) (0, [])).2).take j).all (Cn.holdsV ((Cn.padB (Cn.backTo u a p) (u.getD (((u.length : Int) - 1 - (p : Int)).toNat) (0, [])).1).set (u.getD (((u.length : Int) - 1 - (p : Int)).toNat) (0, [])).1.toNat false)))))))] from by kernel_rfl) (consH (congrArg (fun x => ((10 : Nat), x)) (congrArg (fun x => AObj.row 4 (.bools x)) (show (((Cn.padB (Cn.backTo u a p) (u.getD (((u.length : Int) - 1 - (p : Int)).toNat) (0, [])).1).set (u.getD (((u.length : Int) - 1 - (p : Int)).toNat) (0, [])).1.toNat false).set (((u.getD (((u.length : Int) - 1 - (p : Int)).toNat) (0, [])).1).toNat) (!((((u.getD (((u.length : Int) - 1 - (p : Int)).toNat) (0, [])).2).take j).all (Cn.holdsV ((Cn.padB (Cn.backTo u a p) (u.getD (((u.length : Int) - 1 - (p : Int)).toNat) (0, [])).1).set (u.getD (((u.length : Int) - 1 - (p : Int)).toNat) (0, [])).1.toNat false))))) = (Cn.backTo u a (p + 1)) from (by rw [Cn.backTo_succ2 (by omega)]; first | exact Cn.bs_skip (by omega) | exact Cn.bs_pad (by omega) (Cn.set_eq (by rw [show j = ((u.getD (((u.length : Int) - 1 - (p : Int)).toNat) (0, [])).2).length from (by omega), List.take_length])))))) rfl)
   ·
    skip
    have h0 := of_decide_eq_false hb0
    refine tri_exit ?_
    refine fin_then_exit ?_
    refine fin_then_exit ?_
    refine fin_block_same ?_
    refine fin_then ?_
    refine tri_seq ?_
    refine tri_regD hcx [] [4] [] [10] [] [(4, .row 10)] [] (by kernel_rfl) ?_ ?_
    ·
     exact az
    refine fin_then ?_
    refine tri_ret ?_
    refine fin_ren (ρ := [(10, .to 0)]) (keys := [4]) (E' := [(4, .row 0)]) (H' := [(0, .row 4 (.bools (Cn.backTo u a p)))]) (by kernel_rfl) ?_
    exact fin_ret [] rfl rfl trivial hcx (avs := [.row 0]) (by kernel_rfl) rfl [true] (Eq.trans (show _ = [some (.row 4 (.bools (Cn.backTo u a p)))] from by kernel_rfl) (consO (congrArg some (congrArg (fun x => AObj.row 4 (.bools x)) (show (Cn.backTo u a p) = (Cn.backF u a) from (by rw [show p = u.length from (by omega)]; exact Cn.backTo_all)))) rfl))
 ·
  cases hσ
def cx_qOut : Cx := ⟨tyR23, [(50, rIs_σ), (53, (coeF [.ld (.ints []), .ld (.ints [])] rInts_σ)), (32, (coeF [.ld (.intss []), .ld (.intss [])] rLists_σ)), (27, (coeF [.agg [.id, .ld (.intss [])]] rCheck_σ)), (14, (coeF [.agg [.id, .ld (.intss [])], .agg [.id, .ld (.intss [])]] rSame_σ)), (51, (coeF [.ld (.ints []), .id] rHas_σ)), (52, rAhead_σ), (58, (coeF [.id, .ld (.bools [])] rLit_σ)), (38, (coeF [.ld (.ints []), .ld (.bools [])] rHolds_σ)), (31, (coeF [.ld (.ints [])] rNorm_σ)), (30, (coeF [.ld (.ints []), .ld (.ints []), .id] rResolve_σ)), (29, (coeF [.ld (.ints []), .id] qhas_σ)), (24, (coeF [.ld (.ints []), .id] qHas_σ)), (28, (coeF [.ld (.ints [])] qown_σ)), (17, (coeF [.ld (.bools []), .ld (.bools [])] qBools_σ)), (15, (coeF [.ld (.undos []), .ld (.undos [])] qUndos_σ)), (11, (coeF [.agg [.id, .ld (.intss [])], .id, .id] qFew_σ)), (19, (coeF [.ld (.undos []), .ld (.bools [])] qBack_σ))]⟩
theorem cx_qOut_ok : CxOk Try.prog cx_qOut := cx_ok tyR23_ok ⟨rIs_sound, (rInts_sound.coe [.ld (.ints []), .ld (.ints [])] rfl), (rLists_sound.coe [.ld (.intss []), .ld (.intss [])] rfl), (rCheck_sound.coe [.agg [.id, .ld (.intss [])]] rfl), (rSame_sound.coe [.agg [.id, .ld (.intss [])], .agg [.id, .ld (.intss [])]] rfl), (rHas_sound.coe [.ld (.ints []), .id] rfl), rAhead_sound, (rLit_sound.coe [.id, .ld (.bools [])] rfl), (rHolds_sound.coe [.ld (.ints []), .ld (.bools [])] rfl), (rNorm_sound.coe [.ld (.ints [])] rfl), (rResolve_sound.coe [.ld (.ints []), .ld (.ints []), .id] rfl), (qhas_sound.coe [.ld (.ints []), .id] rfl), (qHas_sound.coe [.ld (.ints []), .id] rfl), (qown_sound.coe [.ld (.ints [])] rfl), (qBools_sound.coe [.ld (.bools []), .ld (.bools [])] rfl), (qUndos_sound.coe [.ld (.undos []), .ld (.undos [])] rfl), (qFew_sound.coe [.agg [.id, .ld (.intss [])], .id, .id] rfl), (qBack_sound.coe [.ld (.undos []), .ld (.bools [])] rfl), trivial⟩
def qOut_σ : CtF
  | [.agg [.im (.val (.int .i64 N)), .im (.ls (.intss L))], .im (.val (.int .i64 v))], [] => some (L.length ≤ 10000 ∧ (∀ l ∈ L, l.length ≤ 1000), .tup [.agg [.int (Cn.ouN N L v), .row 0], .agg [.int (Cn.ouV N L v), .row 1], .int (Cn.ouE N L v)], [some (.row 43 (.intss (Cn.ouX N L v))), some (.row 43 (.intss (Cn.ouU N L v)))])
  | _, _ => none
theorem qOut_sound : Sound Try.prog 13 qOut_σ := by
 refine sound_mk (cx := cx_qOut) (fn := Try.f13) Try.func13 (by kernel_rfl) rfl ?_
 intro w0 G0 args os p r outs hσ hp hm0 hd0
 have hcx : CxOk Try.prog cx_qOut := cx_qOut_ok
 have hmx : Try.prog.follows .mixedOrders = true := by kernel_rfl
 unfold qOut_σ at hσ
 split at hσ
 ·
  rename_i N L v
  simp only [Option.some.injEq, Prod.mk.injEq] at hσ
  obtain ⟨rfl, rfl, rfl⟩ := hσ
  obtain ⟨wW, wO, wm, wβ, wd⟩ := w0
  replace hm0 : wm = 0 := hm0
  subst hm0
  replace hd0 : wd = [] := hd0
  subst hd0
  refine ⟨by kernel_rfl, ?_⟩
  change Tri ⟨_, _, _, _, _, _⟩ [(0, .agg [.int N, .intss L]), (1, .int v)] [] _ _
  obtain ⟨hm1, hm2⟩ := hp
  have hck : L.length ≤ maxLen ∧ ∀ l ∈ L, l.length ≤ maxLen := ⟨by unfold maxLen; omega, fun l hl => by have := hm2 l hl; unfold maxLen; omega⟩
  have hm7 : ∀ k, k < L.length → (L.getD k []).length ≤ 1000 := fun k hk => hm2 _ (Cn.getD_memL hk)
  refine tri_seq ?_
  refine tri_regD hcx [(1001, .to 604), (1002, .to 605), (1000, .frz)] [2, 4, 5] [1] [] [] [(2, .pto [.int N, .ls (.intss L)]), (4, .loc 604 0), (5, .loc 605 0)] [(604, .box [.int 0, .im (.val (.slice none 0 0))]), (605, .box [.int 0, .im (.val (.slice none 0 0))])] (by kernel_rfl) ?_ ?_
  ·
   exact az
  refine fin_then ?_
  refine tri_seq ?_
  refine tri_seq ?_
  refine tri_regD hcx [] [7] [2, 4, 5, 1] [604, 605] [(L.length ≤ maxLen ∧ ∀ l ∈ L, l.length ≤ maxLen)] [(7, .int (Cn.chkV N L))] [] (by kernel_rfl) ?_ ?_
  ·
   refine (ap ?_ az)
   first | exact hck | (first | omega | exact id | exact vcNot | exact vcG | exact vcH | (intro _; omega) | exact (fun _ h => h) | (intro h; simp at h; omega) | (simp only [List.length_cons, List.length_nil, List.length_append, List.length_map, List.length_set, List.length_replicate]; omega) | (intro h; simp [h]; done)) | (have := hm7 k (by omega); exact ⟨by unfold maxLen; omega, by omega, by omega⟩) | (have := hm7 k (by omega); unfold maxLen; omega) | (have := hm7 k (by omega); omega) | (constructor <;> omega) | exact ⟨by have := hpl p hp_; omega, by have := hql q hq_; omega⟩ | (have := hpl p hp_; have := hql q hq_; have := Cn.resL_len ((Cn.posL (L.take k) v).getD p []) ((Cn.negL (L.take k) v).getD q []) v; omega)
  refine fin_then ?_
  refine tri_seq ?_
  refine tri_regD hcx [] [25] [7, 2, 4, 5, 1] [604, 605] [] [(25, .bool ((Cn.chkV N L) != 0))] [] (by kernel_rfl) ?_ ?_
  ·
   exact az
  refine fin_then ?_
  refine tri_cond (b := ((Cn.chkV N L) != 0)) (by kernel_rfl) (fun hb0 => ?_) (fun hb0 => ?_)
  ·
   skip
   have h0 := bne_iff_ne.1 hb0
   obtain ⟨hA, hB, hC, hD, hE⟩ := Cn.ou_no (v := v) (Cn.ou_chk h0) h0
   refine tri_seq ?_
   refine tri_regD hcx [(604, .to 604), (605, .to 605)] [6] [4, 5] [] [] [(6, .int (Cn.chkV N L))] [(604, .box [.int 0, .im (.val (.slice none 0 0))]), (605, .box [.int 0, .im (.val (.slice none 0 0))])] (by kernel_rfl) ?_ ?_
   ·
    exact az
   refine fin_then ?_
   refine tri_ret ?_
   refine fin_then_ret ?_
   refine fin_rowB 604 1 700 43 (.intss []) (by kernel_rfl) (by kernel_rfl) (by kernel_rfl) (by kernel_rfl) (H' := [(604, .box [.int 0, .row 700]), (605, .box [.int 0, .im (.val (.slice none 0 0))])]) (by kernel_rfl) ?_
   refine fin_rowB 605 1 701 43 (.intss []) (by kernel_rfl) (by kernel_rfl) (by kernel_rfl) (by kernel_rfl) (H' := [(700, .row 43 (.intss [])), (604, .box [.int 0, .row 700]), (605, .box [.int 0, .row 701])]) (by kernel_rfl) ?_
   refine fin_ren (ρ := [(700, .to 0), (701, .to 1), (604, .to 990), (605, .to 991)]) (keys := [4, 5, 6]) (E' := [(4, .loc 990 0), (5, .loc 991 0), (6, .int (Cn.chkV N L))]) (H' := [(0, .row 43 (.intss [])), (1, .row 43 (.intss [])), (990, .box [.int 0, .row 0]), (991, .box [.int 0, .row 1])]) (by kernel_rfl) ?_
   exact fin_ret [] rfl rfl trivial hcx (avs := [.agg [.int 0, .row 0], .agg [.int 0, .row 1], .int (Cn.chkV N L)]) (by kernel_rfl) (congrArg AV.tup (consE (congrArg AV.agg (consE (congrArg AV.int (show 0 = (Cn.ouN N L v) from (by first | exact hA.symm | exact hC.symm | exact hE.symm))) rfl)) (consE (congrArg AV.agg (consE (congrArg AV.int (show 0 = (Cn.ouV N L v) from (by first | exact hA.symm | exact hC.symm | exact hE.symm))) rfl)) (consE (congrArg AV.int (show (Cn.chkV N L) = (Cn.ouE N L v) from (by first | exact hA.symm | exact hC.symm | exact hE.symm))) rfl)))) [true, true] (Eq.trans (show _ = [some (.row 43 (.intss [])), some (.row 43 (.intss []))] from by kernel_rfl) (consO (congrArg some (congrArg (fun x => AObj.row 43 (.intss x)) (show [] = (Cn.ouX N L v) from (by first | exact hB.symm | rw [hB, hOX])))) (consO (congrArg some (congrArg (fun x => AObj.row 43 (.intss x)) (show [] = (Cn.ouU N L v) from (by first | exact hD.symm | rw [hD, hkL])))) rfl)))
  ·
   skip
   have h0 := bneF hb0
   have hc0 : Cn.chkV N L = 0 := h0
   have hN := Cn.chkV_0.1 hc0
   refine tri_skip ?_
   refine fin_then ?_
   refine tri_seq ?_
   refine tri_seq ?_
   refine tri_regD hcx [] [36] [2, 4, 5, 1] [604, 605] [((!(decide (v < 1))) = true → ((!(decide (v < 1))) = true)), ((!(decide (v < 1))) = true → ((!(decide (v < 1))) = true)), ((!(decide (v < 1))) = true → ((!(decide (v < 1))) = true)), ((decide (v < 1)) = false → (!(decide (v < 1))) = true)] [(36, .bool ((decide (v < 1)) || (decide (v > N))))] [] (by kernel_rfl) ?_ ?_
   ·
    refine (ap ?_ (ap ?_ (ap ?_ (ap (by exact vcNot) az))))
    all_goals
     first | exact hck | (first | omega | exact id | exact vcNot | exact vcG | exact vcH | (intro _; omega) | exact (fun _ h => h) | (intro h; simp at h; omega) | (simp only [List.length_cons, List.length_nil, List.length_append, List.length_map, List.length_set, List.length_replicate]; omega) | (intro h; simp [h]; done)) | (have := hm7 k (by omega); exact ⟨by unfold maxLen; omega, by omega, by omega⟩) | (have := hm7 k (by omega); unfold maxLen; omega) | (have := hm7 k (by omega); omega) | (constructor <;> omega) | exact ⟨by have := hpl p hp_; omega, by have := hql q hq_; omega⟩ | (have := hpl p hp_; have := hql q hq_; have := Cn.resL_len ((Cn.posL (L.take k) v).getD p []) ((Cn.negL (L.take k) v).getD q []) v; omega)
   refine fin_then ?_
   refine tri_cond (b := ((decide (v < 1)) || (decide (v > N)))) (by kernel_rfl) (fun hb1 => ?_) (fun hb1 => ?_)
   ·
    skip
    have h1 := hb1
    try simp only [Bool.or_eq_true, Bool.or_eq_false_iff, Bool.and_eq_true, Bool.and_eq_false_iff, Bool.not_eq_true', Bool.not_eq_false', decide_eq_true_eq, decide_eq_false_iff_not, bne_iff_ne, bne_eq_false_iff_eq, beq_iff_eq, beq_eq_false_iff_ne] at h1
    obtain ⟨hA, hB, hC, hD, hE⟩ := Cn.ou_no (Cn.ou_lit hc0 (by omega)) (by decide)
    refine tri_seq ?_
    refine tri_regD hcx [(604, .to 604), (605, .to 605)] [6] [4, 5] [] [] [(6, .int 140)] [(604, .box [.int 0, .im (.val (.slice none 0 0))]), (605, .box [.int 0, .im (.val (.slice none 0 0))])] (by kernel_rfl) ?_ ?_
    ·
     exact az
    refine fin_then ?_
    refine tri_ret ?_
    refine fin_then_ret ?_
    refine fin_rowB 604 1 700 43 (.intss []) (by kernel_rfl) (by kernel_rfl) (by kernel_rfl) (by kernel_rfl) (H' := [(604, .box [.int 0, .row 700]), (605, .box [.int 0, .im (.val (.slice none 0 0))])]) (by kernel_rfl) ?_
    refine fin_rowB 605 1 701 43 (.intss []) (by kernel_rfl) (by kernel_rfl) (by kernel_rfl) (by kernel_rfl) (H' := [(700, .row 43 (.intss [])), (604, .box [.int 0, .row 700]), (605, .box [.int 0, .row 701])]) (by kernel_rfl) ?_
    refine fin_ren (ρ := [(700, .to 0), (701, .to 1), (604, .to 990), (605, .to 991)]) (keys := [4, 5, 6]) (E' := [(4, .loc 990 0), (5, .loc 991 0), (6, .int 140)]) (H' := [(0, .row 43 (.intss [])), (1, .row 43 (.intss [])), (990, .box [.int 0, .row 0]), (991, .box [.int 0, .row 1])]) (by kernel_rfl) ?_
    exact fin_ret [] rfl rfl trivial hcx (avs := [.agg [.int 0, .row 0], .agg [.int 0, .row 1], .int 140]) (by kernel_rfl) (congrArg AV.tup (consE (congrArg AV.agg (consE (congrArg AV.int (show 0 = (Cn.ouN N L v) from (by first | exact hA.symm | exact hC.symm | exact hE.symm))) rfl)) (consE (congrArg AV.agg (consE (congrArg AV.int (show 0 = (Cn.ouV N L v) from (by first | exact hA.symm | exact hC.symm | exact hE.symm))) rfl)) (consE (congrArg AV.int (show 140 = (Cn.ouE N L v) from (by first | exact hA.symm | exact hC.symm | exact hE.symm))) rfl)))) [true, true] (Eq.trans (show _ = [some (.row 43 (.intss [])), some (.row 43 (.intss []))] from by kernel_rfl) (consO (congrArg some (congrArg (fun x => AObj.row 43 (.intss x)) (show [] = (Cn.ouX N L v) from (by first | exact hB.symm | rw [hB, hOX])))) (consO (congrArg some (congrArg (fun x => AObj.row 43 (.intss x)) (show [] = (Cn.ouU N L v) from (by first | exact hD.symm | rw [hD, hkL])))) rfl)))
   ·
    skip
    have h1 := hb1
    try simp only [Bool.or_eq_true, Bool.or_eq_false_iff, Bool.and_eq_true, Bool.and_eq_false_iff, Bool.not_eq_true', Bool.not_eq_false', decide_eq_true_eq, decide_eq_false_iff_not, bne_iff_ne, bne_eq_false_iff_eq, beq_iff_eq, beq_eq_false_iff_ne] at h1
    have hv : ¬ (v < 1 ∨ N < v) := by omega
    have hv1 : 1 ≤ v := by omega
    have hv2 : v ≤ 65536 := by omega
    refine tri_skip ?_
    refine fin_then ?_
    refine tri_seq ?_
    refine tri_regD hcx [(1003, .to 608)] [8] [2, 4, 5, 1] [604, 605] [] [(8, .loc 608 0)] [(608, .box [.int N, .im (.val (.slice none 0 0))])] (by kernel_rfl) ?_ ?_
    ·
     exact az
    refine fin_then ?_
    refine tri_seq ?_
    refine tri_regD hcx [(1002, .to 609)] [9] [8, 2, 4, 5, 1] [608, 604, 605] [] [(9, .loc 609 0)] [(609, .box [.int v, .im (.val (.slice none 0 0))])] (by kernel_rfl) ?_ ?_
    ·
     exact az
    refine fin_then ?_
    refine tri_seq ?_
    refine tri_regD hcx [] [10, 11] [9, 8, 2, 4, 5, 1] [609, 608, 604, 605] [] [(10, .im (.val (.slice none 0 0))), (11, .im (.val (.slice none 0 0)))] [] (by kernel_rfl) ?_ ?_
    ·
     exact az
    refine fin_then ?_
    refine tri_seq ?_
    refine tri_seq ?_
    refine tri_rowB 608 1 10 43 (.intss []) (by kernel_rfl) (by kernel_rfl) (by kernel_rfl) (by kernel_rfl) (H' := [(609, .box [.int v, .im (.val (.slice none 0 0))]), (608, .box [.int N, .row 10]), (604, .box [.int 0, .im (.val (.slice none 0 0))]), (605, .box [.int 0, .im (.val (.slice none 0 0))])]) (by kernel_rfl) ?_
    refine tri_rowB 609 1 11 43 (.intss []) (by kernel_rfl) (by kernel_rfl) (by kernel_rfl) (by kernel_rfl) (H' := [(10, .row 43 (.intss [])), (609, .box [.int v, .row 11]), (608, .box [.int N, .row 10]), (604, .box [.int 0, .im (.val (.slice none 0 0))]), (605, .box [.int 0, .im (.val (.slice none 0 0))])]) (by kernel_rfl) ?_
    refine tri_row 10 12 43 (.intss []) (by kernel_rfl) (by kernel_rfl) (by kernel_rfl) (by kernel_rfl) (E' := [(10, .row 12), (11, .im (.val (.slice none 0 0))), (9, .loc 609 0), (8, .loc 608 0), (2, .pto [.int N, .ls (.intss L)]), (4, .loc 604 0), (5, .loc 605 0), (1, .int v)]) (by kernel_rfl) ?_
    refine tri_row 11 13 43 (.intss []) (by kernel_rfl) (by kernel_rfl) (by kernel_rfl) (by kernel_rfl) (E' := [(10, .row 12), (11, .row 13), (9, .loc 609 0), (8, .loc 608 0), (2, .pto [.int N, .ls (.intss L)]), (4, .loc 604 0), (5, .loc 605 0), (1, .int v)]) (by kernel_rfl) ?_
    refine tri_regD hcx [] [45, 46, 47] [10, 11, 9, 8, 4, 5, 1] [13, 12, 11, 10, 609, 608, 604, 605] [] [(45, .intss L), (46, .int (L.length : Int)), (47, .int 0)] [] (by kernel_rfl) ?_ ?_
    ·
     exact az
    refine fin_then ?_
    refine tri_block ?_
    refine tri_ren (ρ := [(10, .to 10), (11, .to 11), (12, .to 12), (13, .to 13), (604, .to 604), (605, .to 605), (608, .to 608), (609, .to 609)]) (keys := [1, 4, 5, 8, 9, 10, 11, 45, 46, 47]) (E' := [(1, .int v), (4, .loc 604 0), (5, .loc 605 0), (8, .loc 608 0), (9, .loc 609 0), (10, .row 12), (11, .row 13), (45, .intss L), (46, .int (L.length : Int)), (47, .int 0)]) (H' := [(10, .row 43 (.intss [])), (11, .row 43 (.intss [])), (12, .row 43 (.intss [])), (13, .row 43 (.intss [])), (604, .box [.int 0, .im (.val (.slice none 0 0))]), (605, .box [.int 0, .im (.val (.slice none 0 0))]), (608, .box [.int N, .row 10]), (609, .box [.int v, .row 11])]) (by kernel_rfl) ?_
    refine tri_loop (X := Nat) (fun x0 => x0 ≤ L.length) (fun x0 => [(1, .int v), (4, .loc 604 0), (5, .loc 605 0), (8, .loc 608 0), (9, .loc 609 0), (10, .row 12), (11, .row 13), (45, .intss L), (46, .int (L.length : Int)), (47, .int (x0 : Int))]) (fun x0 => [(10, .row 43 (.intss (Cn.xOf (L.take x0) v))), (11, .row 43 (.intss (Cn.uOf (L.take x0) v))), (12, .row 43 (.intss (Cn.posL (L.take x0) v))), (13, .row 43 (.intss (Cn.negL (L.take x0) v))), (604, .box [.int 0, .im (.val (.slice none 0 0))]), (605, .box [.int 0, .im (.val (.slice none 0 0))]), (608, .box [.int N, .row 10]), (609, .box [.int v, .row 11])]) (fun x0 => L.length - x0) (0) ?_ ?_ ?_ ?_
    ·
     show 0 ≤ L.length
     omega
    ·
     exact subE_mk (l := [.int v, .loc 604 0, .loc 605 0, .loc 608 0, .loc 609 0, .row 12, .row 13, .intss L, .int (L.length : Int), .int 0]) (m := [.int v, .loc 604 0, .loc 605 0, .loc 608 0, .loc 609 0, .row 12, .row 13, .intss L, .int (L.length : Int), .int (0 : Int)]) (by kernel_rfl) (by kernel_rfl) (consE rfl (consE rfl (consE rfl (consE rfl (consE rfl (consE rfl (consE rfl (consE rfl (consE rfl (consE (congrArg AV.int (show 0 = (0 : Int) from (by first | rfl | omega | (simp; done)))) rfl))))))))))
    ·
     exact Eq.trans (show _ = [(10, .row 43 (.intss [])), (11, .row 43 (.intss [])), (12, .row 43 (.intss [])), (13, .row 43 (.intss [])), (604, .box [.int 0, .im (.val (.slice none 0 0))]), (605, .box [.int 0, .im (.val (.slice none 0 0))]), (608, .box [.int N, .row 10]), (609, .box [.int v, .row 11])] from by kernel_rfl) (consH (congrArg (fun x => ((10 : Nat), x)) (congrArg (fun x => AObj.row 43 (.intss x)) (show [] = (Cn.xOf (L.take 0) v) from (by simp [Cn.xOf])))) (consH (congrArg (fun x => ((11 : Nat), x)) (congrArg (fun x => AObj.row 43 (.intss x)) (show [] = (Cn.uOf (L.take 0) v) from (by simp [Cn.uOf])))) (consH (congrArg (fun x => ((12 : Nat), x)) (congrArg (fun x => AObj.row 43 (.intss x)) (show [] = (Cn.posL (L.take 0) v) from (by simp [Cn.posL, Cn.withL, Cn.uOf])))) (consH (congrArg (fun x => ((13 : Nat), x)) (congrArg (fun x => AObj.row 43 (.intss x)) (show [] = (Cn.negL (L.take 0) v) from (by simp [Cn.negL, Cn.withL, Cn.uOf])))) (consH rfl (consH rfl (consH rfl (consH rfl rfl))))))))
    ·
     intro k hI
     replace hI : k ≤ L.length := hI
     change Tri _ [(1, .int v), (4, .loc 604 0), (5, .loc 605 0), (8, .loc 608 0), (9, .loc 609 0), (10, .row 12), (11, .row 13), (45, .intss L), (46, .int (L.length : Int)), (47, .int (k : Int))] [(10, .row 43 (.intss (Cn.xOf (L.take k) v))), (11, .row 43 (.intss (Cn.uOf (L.take k) v))), (12, .row 43 (.intss (Cn.posL (L.take k) v))), (13, .row 43 (.intss (Cn.negL (L.take k) v))), (604, .box [.int 0, .im (.val (.slice none 0 0))]), (605, .box [.int 0, .im (.val (.slice none 0 0))]), (608, .box [.int N, .row 10]), (609, .box [.int v, .row 11])] _ _
     have hxl := Cn.xOf_len (c := L.take k) (v := v)
     have hul := Cn.uOf_len (c := L.take k) (v := v)
     have htl : (L.take k).length ≤ k := by rw [List.length_take]; omega
     have hpl0 : (Cn.posL (L.take k) v).length ≤ 10000 := Nat.le_trans Cn.with_len (by omega)
     have hql0 : (Cn.negL (L.take k) v).length ≤ 10000 := Nat.le_trans Cn.with_len (by omega)
     refine tri_seq ?_
     refine tri_regD hcx [] [48] [1, 4, 5, 8, 9, 10, 11, 45, 46, 47] [10, 11, 12, 13, 604, 605, 608, 609] [] [(48, .bool (decide ((k : Int) < (L.length : Int))))] [] (by kernel_rfl) ?_ ?_
     ·
      exact az
     refine fin_then ?_
     refine tri_seq ?_
     refine tri_cond (b := (decide ((k : Int) < (L.length : Int)))) (by kernel_rfl) (fun hb2 => ?_) (fun hb2 => ?_)
     ·
      skip
      have h2 := of_decide_eq_true hb2
      refine tri_skip ?_
      refine fin_then ?_
      refine tri_seq ?_
      refine tri_block ?_
      refine tri_seq ?_
      refine tri_regD hcx [] [13] [1, 4, 5, 8, 9, 10, 11, 45, 46, 47] [10, 11, 12, 13, 604, 605, 608, 609] [((0 : Int) ≤ (k : Int) ∧ (k : Int) < (L.length : Int))] [(13, .ints (L.getD k []))] [] (by kernel_rfl) ?_ ?_
      ·
       refine (ap ?_ az)
       first | exact hck | (first | omega | exact id | exact vcNot | exact vcG | exact vcH | (intro _; omega) | exact (fun _ h => h) | (intro h; simp at h; omega) | (simp only [List.length_cons, List.length_nil, List.length_append, List.length_map, List.length_set, List.length_replicate]; omega) | (intro h; simp [h]; done)) | (have := hm7 k (by omega); exact ⟨by unfold maxLen; omega, by omega, by omega⟩) | (have := hm7 k (by omega); unfold maxLen; omega) | (have := hm7 k (by omega); omega) | (constructor <;> omega) | exact ⟨by have := hpl p hp_; omega, by have := hql q hq_; omega⟩ | (have := hpl p hp_; have := hql q hq_; have := Cn.resL_len ((Cn.posL (L.take k) v).getD p []) ((Cn.negL (L.take k) v).getD q []) v; omega)
      refine fin_then ?_
      refine tri_seq ?_
      refine tri_seq ?_
      refine tri_regD hcx [] [54] [13, 1, 4, 5, 8, 9, 10, 11, 45, 46, 47] [10, 11, 12, 13, 604, 605, 608, 609] [((L.getD k []).length ≤ maxLen ∧ -65536 ≤ v ∧ v ≤ 65536)] [(54, .bool (!(Cn.hasV v (L.getD k []))))] [] (by kernel_rfl) ?_ ?_
      ·
       refine (ap ?_ az)
       first | exact hck | (first | omega | exact id | exact vcNot | exact vcG | exact vcH | (intro _; omega) | exact (fun _ h => h) | (intro h; simp at h; omega) | (simp only [List.length_cons, List.length_nil, List.length_append, List.length_map, List.length_set, List.length_replicate]; omega) | (intro h; simp [h]; done)) | (have := hm7 k (by omega); exact ⟨by unfold maxLen; omega, by omega, by omega⟩) | (have := hm7 k (by omega); unfold maxLen; omega) | (have := hm7 k (by omega); omega) | (constructor <;> omega) | exact ⟨by have := hpl p hp_; omega, by have := hql q hq_; omega⟩ | (have := hpl p hp_; have := hql q hq_; have := Cn.resL_len ((Cn.posL (L.take k) v).getD p []) ((Cn.negL (L.take k) v).getD q []) v; omega)
      refine fin_then ?_
      refine tri_cond (b := (!(Cn.hasV v (L.getD k [])))) (by kernel_rfl) (fun hb3 => ?_) (fun hb3 => ?_)
      ·
       skip
       have h3 := hb3
       have hh : Cn.hasV v (L.getD k []) = false := by simpa using h3
       obtain ⟨hwa, hwb, _⟩ := Cn.w_none (c := L) (k := k) (v := v) h3
       refine tri_seq ?_
       refine tri_drawD [0, 1, 0, 4, 12, 31, 63, 127] hcx hmx [(1005, .to 10), (608, .to 608)] [] [1, 4, 5, 8, 9, 10, 11, 45, 46, 47] [11, 12, 13, 604, 605, 609] [((L.getD k []).length ≤ 1000000), (((Cn.xOf (L.take k) v).length + [(L.getD k [])].length) * 24 ≤ 140737488355328)] [] [(10, .row 43 (.intss ((Cn.xOf (L.take k) v) ++ [(L.getD k [])]))), (608, .box [.int N, .row 10])] (by kernel_rfl) ?_ ?_
       ·
        refine (ap ?_ (ap ?_ az))
        all_goals
         first | exact hck | (first | omega | exact id | exact vcNot | exact vcG | exact vcH | (intro _; omega) | exact (fun _ h => h) | (intro h; simp at h; omega) | (simp only [List.length_cons, List.length_nil, List.length_append, List.length_map, List.length_set, List.length_replicate]; omega) | (intro h; simp [h]; done)) | (have := hm7 k (by omega); exact ⟨by unfold maxLen; omega, by omega, by omega⟩) | (have := hm7 k (by omega); unfold maxLen; omega) | (have := hm7 k (by omega); omega) | (constructor <;> omega) | exact ⟨by have := hpl p hp_; omega, by have := hql q hq_; omega⟩ | (have := hpl p hp_; have := hql q hq_; have := Cn.resL_len ((Cn.posL (L.take k) v).getD p []) ((Cn.negL (L.take k) v).getD q []) v; omega)
       refine fin_then ?_
       refine tri_exit ?_
       refine fin_then_exit ?_
       refine fin_block_same ?_
       refine fin_then ?_
       refine tri_regD hcx [] [47] [1, 4, 5, 8, 9, 10, 11, 45, 46] [10, 608, 11, 12, 13, 604, 605, 609] [Fit ((k : Int) + 1)] [(47, .int ((k : Int) + 1))] [] (by kernel_rfl) ?_ ?_
       ·
        refine (ap ?_ az)
        first | exact hck | (first | omega | exact id | exact vcNot | exact vcG | exact vcH | (intro _; omega) | exact (fun _ h => h) | (intro h; simp at h; omega) | (simp only [List.length_cons, List.length_nil, List.length_append, List.length_map, List.length_set, List.length_replicate]; omega) | (intro h; simp [h]; done)) | (have := hm7 k (by omega); exact ⟨by unfold maxLen; omega, by omega, by omega⟩) | (have := hm7 k (by omega); unfold maxLen; omega) | (have := hm7 k (by omega); omega) | (constructor <;> omega) | exact ⟨by have := hpl p hp_; omega, by have := hql q hq_; omega⟩ | (have := hpl p hp_; have := hql q hq_; have := Cn.resL_len ((Cn.posL (L.take k) v).getD p []) ((Cn.negL (L.take k) v).getD q []) v; omega)
       refine fin_ren (ρ := [(10, .to 10), (11, .to 11), (12, .to 12), (13, .to 13), (604, .to 604), (605, .to 605), (608, .to 608), (609, .to 609)]) (keys := [1, 4, 5, 8, 9, 10, 11, 45, 46, 47]) (E' := [(1, .int v), (4, .loc 604 0), (5, .loc 605 0), (8, .loc 608 0), (9, .loc 609 0), (10, .row 12), (11, .row 13), (45, .intss L), (46, .int (L.length : Int)), (47, .int ((k : Int) + 1))]) (H' := [(10, .row 43 (.intss ((Cn.xOf (L.take k) v) ++ [(L.getD k [])]))), (11, .row 43 (.intss (Cn.uOf (L.take k) v))), (12, .row 43 (.intss (Cn.posL (L.take k) v))), (13, .row 43 (.intss (Cn.negL (L.take k) v))), (604, .box [.int 0, .im (.val (.slice none 0 0))]), (605, .box [.int 0, .im (.val (.slice none 0 0))]), (608, .box [.int N, .row 10]), (609, .box [.int v, .row 11])]) (by kernel_rfl) ?_
       refine fin_round (k + 1) ?_ ?_ ?_ ?_
       ·
        show (k + 1) ≤ L.length
        omega
       ·
        show L.length - (k + 1) < L.length - k
        omega
       ·
        exact subE_mk (l := [.int v, .loc 604 0, .loc 605 0, .loc 608 0, .loc 609 0, .row 12, .row 13, .intss L, .int (L.length : Int), .int ((k : Int) + 1)]) (m := [.int v, .loc 604 0, .loc 605 0, .loc 608 0, .loc 609 0, .row 12, .row 13, .intss L, .int (L.length : Int), .int ((k + 1) : Int)]) (by kernel_rfl) (by kernel_rfl) (consE rfl (consE rfl (consE rfl (consE rfl (consE rfl (consE rfl (consE rfl (consE rfl (consE rfl (consE (congrArg AV.int (show ((k : Int) + 1) = ((k + 1) : Int) from (by first | rfl | omega | (simp; done)))) rfl))))))))))
       ·
        exact Eq.trans (show _ = [(10, .row 43 (.intss ((Cn.xOf (L.take k) v) ++ [(L.getD k [])]))), (11, .row 43 (.intss (Cn.uOf (L.take k) v))), (12, .row 43 (.intss (Cn.posL (L.take k) v))), (13, .row 43 (.intss (Cn.negL (L.take k) v))), (604, .box [.int 0, .im (.val (.slice none 0 0))]), (605, .box [.int 0, .im (.val (.slice none 0 0))]), (608, .box [.int N, .row 10]), (609, .box [.int v, .row 11])] from by kernel_rfl) (consH (congrArg (fun x => ((10 : Nat), x)) (congrArg (fun x => AObj.row 43 (.intss x)) (show ((Cn.xOf (L.take k) v) ++ [(L.getD k [])]) = (Cn.xOf (L.take (k + 1)) v) from (by first | exact (Cn.uOf_next_y (by omega) hh).2 | exact (Cn.uOf_next_n (by omega) hh).1)))) (consH (congrArg (fun x => ((11 : Nat), x)) (congrArg (fun x => AObj.row 43 (.intss x)) (show (Cn.uOf (L.take k) v) = (Cn.uOf (L.take (k + 1)) v) from (by first | exact (Cn.uOf_next_y (by omega) hh).1 | exact (Cn.uOf_next_n (by omega) hh).2)))) (consH (congrArg (fun x => ((12 : Nat), x)) (congrArg (fun x => AObj.row 43 (.intss x)) (show (Cn.posL (L.take k) v) = (Cn.posL (L.take (k + 1)) v) from (by rw [Cn.pos_eq, Cn.pos_eq]; first | exact Cn.filt_same (by omega) hwa | exact Cn.filt_add (by omega) hwa)))) (consH (congrArg (fun x => ((13 : Nat), x)) (congrArg (fun x => AObj.row 43 (.intss x)) (show (Cn.negL (L.take k) v) = (Cn.negL (L.take (k + 1)) v) from (by rw [Cn.neg_eq, Cn.neg_eq]; first | exact Cn.filt_same (by omega) hwb | exact Cn.filt_add (by omega) hwb)))) (consH rfl (consH rfl (consH rfl (consH rfl rfl))))))))
      ·
       skip
       have h3 := hb3
       have hh : Cn.hasV v (L.getD k []) = true := by simpa using h3
       have h00 := h3
       refine tri_skip ?_
       refine fin_then ?_
       refine tri_seq ?_
       refine tri_drawD [0, 1, 0, 4, 12, 31, 63, 127] hcx hmx [(1005, .to 11), (609, .to 609)] [] [13, 1, 4, 5, 8, 9, 10, 11, 45, 46, 47] [10, 12, 13, 604, 605, 608] [((L.getD k []).length ≤ 1000000), (((Cn.uOf (L.take k) v).length + [(L.getD k [])].length) * 24 ≤ 140737488355328)] [] [(11, .row 43 (.intss ((Cn.uOf (L.take k) v) ++ [(L.getD k [])]))), (609, .box [.int v, .row 11])] (by kernel_rfl) ?_ ?_
       ·
        refine (ap ?_ (ap ?_ az))
        all_goals
         first | exact hck | (first | omega | exact id | exact vcNot | exact vcG | exact vcH | (intro _; omega) | exact (fun _ h => h) | (intro h; simp at h; omega) | (simp only [List.length_cons, List.length_nil, List.length_append, List.length_map, List.length_set, List.length_replicate]; omega) | (intro h; simp [h]; done)) | (have := hm7 k (by omega); exact ⟨by unfold maxLen; omega, by omega, by omega⟩) | (have := hm7 k (by omega); unfold maxLen; omega) | (have := hm7 k (by omega); omega) | (constructor <;> omega) | exact ⟨by have := hpl p hp_; omega, by have := hql q hq_; omega⟩ | (have := hpl p hp_; have := hql q hq_; have := Cn.resL_len ((Cn.posL (L.take k) v).getD p []) ((Cn.negL (L.take k) v).getD q []) v; omega)
       refine fin_then ?_
       refine tri_seq ?_
       refine tri_seq ?_
       refine tri_regD hcx [] [73] [13, 1, 4, 5, 8, 9, 10, 11, 45, 46, 47] [11, 609, 10, 12, 13, 604, 605, 608] [Fit (-v), ((L.getD k []).length ≤ maxLen)] [(73, .bool (!((L.getD k []).contains (-v))))] [] (by kernel_rfl) ?_ ?_
       ·
        refine (ap ?_ (ap ?_ az))
        all_goals
         first | exact hck | (first | omega | exact id | exact vcNot | exact vcG | exact vcH | (intro _; omega) | exact (fun _ h => h) | (intro h; simp at h; omega) | (simp only [List.length_cons, List.length_nil, List.length_append, List.length_map, List.length_set, List.length_replicate]; omega) | (intro h; simp [h]; done)) | (have := hm7 k (by omega); exact ⟨by unfold maxLen; omega, by omega, by omega⟩) | (have := hm7 k (by omega); unfold maxLen; omega) | (have := hm7 k (by omega); omega) | (constructor <;> omega) | exact ⟨by have := hpl p hp_; omega, by have := hql q hq_; omega⟩ | (have := hpl p hp_; have := hql q hq_; have := Cn.resL_len ((Cn.posL (L.take k) v).getD p []) ((Cn.negL (L.take k) v).getD q []) v; omega)
       refine fin_then ?_
       refine tri_cond (b := (!((L.getD k []).contains (-v)))) (by kernel_rfl) (fun hb4 => ?_) (fun hb4 => ?_)
       ·
        skip
        have h4 := hb4
        have hwa := Cn.w_pos_t (c := L) (k := k) (v := v) h00 h4
        refine tri_regD hcx [(1003, .to 12)] [10] [13, 1, 4, 5, 8, 9, 11, 45, 46, 47] [11, 609, 10, 13, 604, 605, 608] [(((Cn.posL (L.take k) v).length + [(L.getD k [])].length) * 24 ≤ 140737488355328)] [(10, .row 12)] [(12, .row 43 (.intss ((Cn.posL (L.take k) v) ++ [(L.getD k [])])))] (by kernel_rfl) ?_ ?_
        ·
         refine (ap ?_ az)
         first | exact hck | (first | omega | exact id | exact vcNot | exact vcG | exact vcH | (intro _; omega) | exact (fun _ h => h) | (intro h; simp at h; omega) | (simp only [List.length_cons, List.length_nil, List.length_append, List.length_map, List.length_set, List.length_replicate]; omega) | (intro h; simp [h]; done)) | (have := hm7 k (by omega); exact ⟨by unfold maxLen; omega, by omega, by omega⟩) | (have := hm7 k (by omega); unfold maxLen; omega) | (have := hm7 k (by omega); omega) | (constructor <;> omega) | exact ⟨by have := hpl p hp_; omega, by have := hql q hq_; omega⟩ | (have := hpl p hp_; have := hql q hq_; have := Cn.resL_len ((Cn.posL (L.take k) v).getD p []) ((Cn.negL (L.take k) v).getD q []) v; omega)
        refine fin_then ?_
        refine tri_seq ?_
        refine tri_regD hcx [] [81] [10, 13, 1, 4, 5, 8, 9, 11, 45, 46, 47] [12, 11, 609, 10, 13, 604, 605, 608] [((L.getD k []).length ≤ maxLen)] [(81, .bool (!((L.getD k []).contains v)))] [] (by kernel_rfl) ?_ ?_
        ·
         refine (ap ?_ az)
         first | exact hck | (first | omega | exact id | exact vcNot | exact vcG | exact vcH | (intro _; omega) | exact (fun _ h => h) | (intro h; simp at h; omega) | (simp only [List.length_cons, List.length_nil, List.length_append, List.length_map, List.length_set, List.length_replicate]; omega) | (intro h; simp [h]; done)) | (have := hm7 k (by omega); exact ⟨by unfold maxLen; omega, by omega, by omega⟩) | (have := hm7 k (by omega); unfold maxLen; omega) | (have := hm7 k (by omega); omega) | (constructor <;> omega) | exact ⟨by have := hpl p hp_; omega, by have := hql q hq_; omega⟩ | (have := hpl p hp_; have := hql q hq_; have := Cn.resL_len ((Cn.posL (L.take k) v).getD p []) ((Cn.negL (L.take k) v).getD q []) v; omega)
        refine fin_then ?_
        refine tri_cond (b := (!((L.getD k []).contains v))) (by kernel_rfl) (fun hb5 => ?_) (fun hb5 => ?_)
        ·
         skip
         have h5 := hb5
         have hwb := Cn.w_neg_t (c := L) (k := k) (v := v) h00 h5
         refine tri_regD hcx [(1003, .to 13)] [11] [10, 1, 4, 5, 8, 9, 45, 46, 47] [12, 11, 609, 10, 604, 605, 608] [(((Cn.negL (L.take k) v).length + [(L.getD k [])].length) * 24 ≤ 140737488355328)] [(11, .row 13)] [(13, .row 43 (.intss ((Cn.negL (L.take k) v) ++ [(L.getD k [])])))] (by kernel_rfl) ?_ ?_
         ·
          refine (ap ?_ az)
          first | exact hck | (first | omega | exact id | exact vcNot | exact vcG | exact vcH | (intro _; omega) | exact (fun _ h => h) | (intro h; simp at h; omega) | (simp only [List.length_cons, List.length_nil, List.length_append, List.length_map, List.length_set, List.length_replicate]; omega) | (intro h; simp [h]; done)) | (have := hm7 k (by omega); exact ⟨by unfold maxLen; omega, by omega, by omega⟩) | (have := hm7 k (by omega); unfold maxLen; omega) | (have := hm7 k (by omega); omega) | (constructor <;> omega) | exact ⟨by have := hpl p hp_; omega, by have := hql q hq_; omega⟩ | (have := hpl p hp_; have := hql q hq_; have := Cn.resL_len ((Cn.posL (L.take k) v).getD p []) ((Cn.negL (L.take k) v).getD q []) v; omega)
         refine fin_block ?_
         refine fin_then ?_
         refine tri_regD hcx [] [47] [11, 10, 1, 4, 5, 8, 9, 45, 46] [13, 12, 11, 609, 10, 604, 605, 608] [Fit ((k : Int) + 1)] [(47, .int ((k : Int) + 1))] [] (by kernel_rfl) ?_ ?_
         ·
          refine (ap ?_ az)
          first | exact hck | (first | omega | exact id | exact vcNot | exact vcG | exact vcH | (intro _; omega) | exact (fun _ h => h) | (intro h; simp at h; omega) | (simp only [List.length_cons, List.length_nil, List.length_append, List.length_map, List.length_set, List.length_replicate]; omega) | (intro h; simp [h]; done)) | (have := hm7 k (by omega); exact ⟨by unfold maxLen; omega, by omega, by omega⟩) | (have := hm7 k (by omega); unfold maxLen; omega) | (have := hm7 k (by omega); omega) | (constructor <;> omega) | exact ⟨by have := hpl p hp_; omega, by have := hql q hq_; omega⟩ | (have := hpl p hp_; have := hql q hq_; have := Cn.resL_len ((Cn.posL (L.take k) v).getD p []) ((Cn.negL (L.take k) v).getD q []) v; omega)
         refine fin_ren (ρ := [(10, .to 10), (11, .to 11), (12, .to 12), (13, .to 13), (604, .to 604), (605, .to 605), (608, .to 608), (609, .to 609)]) (keys := [1, 4, 5, 8, 9, 10, 11, 45, 46, 47]) (E' := [(1, .int v), (4, .loc 604 0), (5, .loc 605 0), (8, .loc 608 0), (9, .loc 609 0), (10, .row 12), (11, .row 13), (45, .intss L), (46, .int (L.length : Int)), (47, .int ((k : Int) + 1))]) (H' := [(10, .row 43 (.intss (Cn.xOf (L.take k) v))), (11, .row 43 (.intss ((Cn.uOf (L.take k) v) ++ [(L.getD k [])]))), (12, .row 43 (.intss ((Cn.posL (L.take k) v) ++ [(L.getD k [])]))), (13, .row 43 (.intss ((Cn.negL (L.take k) v) ++ [(L.getD k [])]))), (604, .box [.int 0, .im (.val (.slice none 0 0))]), (605, .box [.int 0, .im (.val (.slice none 0 0))]), (608, .box [.int N, .row 10]), (609, .box [.int v, .row 11])]) (by kernel_rfl) ?_
         refine fin_round (k + 1) ?_ ?_ ?_ ?_
         ·
          show (k + 1) ≤ L.length
          omega
         ·
          show L.length - (k + 1) < L.length - k
          omega
         ·
          exact subE_mk (l := [.int v, .loc 604 0, .loc 605 0, .loc 608 0, .loc 609 0, .row 12, .row 13, .intss L, .int (L.length : Int), .int ((k : Int) + 1)]) (m := [.int v, .loc 604 0, .loc 605 0, .loc 608 0, .loc 609 0, .row 12, .row 13, .intss L, .int (L.length : Int), .int ((k + 1) : Int)]) (by kernel_rfl) (by kernel_rfl) (consE rfl (consE rfl (consE rfl (consE rfl (consE rfl (consE rfl (consE rfl (consE rfl (consE rfl (consE (congrArg AV.int (show ((k : Int) + 1) = ((k + 1) : Int) from (by first | rfl | omega | (simp; done)))) rfl))))))))))
         ·
          exact Eq.trans (show _ = [(10, .row 43 (.intss (Cn.xOf (L.take k) v))), (11, .row 43 (.intss ((Cn.uOf (L.take k) v) ++ [(L.getD k [])]))), (12, .row 43 (.intss ((Cn.posL (L.take k) v) ++ [(L.getD k [])]))), (13, .row 43 (.intss ((Cn.negL (L.take k) v) ++ [(L.getD k [])]))), (604, .box [.int 0, .im (.val (.slice none 0 0))]), (605, .box [.int 0, .im (.val (.slice none 0 0))]), (608, .box [.int N, .row 10]), (609, .box [.int v, .row 11])] from by kernel_rfl) (consH (congrArg (fun x => ((10 : Nat), x)) (congrArg (fun x => AObj.row 43 (.intss x)) (show (Cn.xOf (L.take k) v) = (Cn.xOf (L.take (k + 1)) v) from (by first | exact (Cn.uOf_next_y (by omega) hh).2 | exact (Cn.uOf_next_n (by omega) hh).1)))) (consH (congrArg (fun x => ((11 : Nat), x)) (congrArg (fun x => AObj.row 43 (.intss x)) (show ((Cn.uOf (L.take k) v) ++ [(L.getD k [])]) = (Cn.uOf (L.take (k + 1)) v) from (by first | exact (Cn.uOf_next_y (by omega) hh).1 | exact (Cn.uOf_next_n (by omega) hh).2)))) (consH (congrArg (fun x => ((12 : Nat), x)) (congrArg (fun x => AObj.row 43 (.intss x)) (show ((Cn.posL (L.take k) v) ++ [(L.getD k [])]) = (Cn.posL (L.take (k + 1)) v) from (by rw [Cn.pos_eq, Cn.pos_eq]; first | exact Cn.filt_same (by omega) hwa | exact Cn.filt_add (by omega) hwa)))) (consH (congrArg (fun x => ((13 : Nat), x)) (congrArg (fun x => AObj.row 43 (.intss x)) (show ((Cn.negL (L.take k) v) ++ [(L.getD k [])]) = (Cn.negL (L.take (k + 1)) v) from (by rw [Cn.neg_eq, Cn.neg_eq]; first | exact Cn.filt_same (by omega) hwb | exact Cn.filt_add (by omega) hwb)))) (consH rfl (consH rfl (consH rfl (consH rfl rfl))))))))
        ·
         skip
         have h5 := hb5
         have hwb := Cn.w_neg_f (c := L) (k := k) (v := v) h5
         refine tri_skip ?_
         refine fin_block ?_
         refine fin_then ?_
         refine tri_regD hcx [] [47] [10, 1, 4, 5, 8, 9, 11, 45, 46] [12, 11, 609, 10, 13, 604, 605, 608] [Fit ((k : Int) + 1)] [(47, .int ((k : Int) + 1))] [] (by kernel_rfl) ?_ ?_
         ·
          refine (ap ?_ az)
          first | exact hck | (first | omega | exact id | exact vcNot | exact vcG | exact vcH | (intro _; omega) | exact (fun _ h => h) | (intro h; simp at h; omega) | (simp only [List.length_cons, List.length_nil, List.length_append, List.length_map, List.length_set, List.length_replicate]; omega) | (intro h; simp [h]; done)) | (have := hm7 k (by omega); exact ⟨by unfold maxLen; omega, by omega, by omega⟩) | (have := hm7 k (by omega); unfold maxLen; omega) | (have := hm7 k (by omega); omega) | (constructor <;> omega) | exact ⟨by have := hpl p hp_; omega, by have := hql q hq_; omega⟩ | (have := hpl p hp_; have := hql q hq_; have := Cn.resL_len ((Cn.posL (L.take k) v).getD p []) ((Cn.negL (L.take k) v).getD q []) v; omega)
         refine fin_ren (ρ := [(10, .to 10), (11, .to 11), (12, .to 12), (13, .to 13), (604, .to 604), (605, .to 605), (608, .to 608), (609, .to 609)]) (keys := [1, 4, 5, 8, 9, 10, 11, 45, 46, 47]) (E' := [(1, .int v), (4, .loc 604 0), (5, .loc 605 0), (8, .loc 608 0), (9, .loc 609 0), (10, .row 12), (11, .row 13), (45, .intss L), (46, .int (L.length : Int)), (47, .int ((k : Int) + 1))]) (H' := [(10, .row 43 (.intss (Cn.xOf (L.take k) v))), (11, .row 43 (.intss ((Cn.uOf (L.take k) v) ++ [(L.getD k [])]))), (12, .row 43 (.intss ((Cn.posL (L.take k) v) ++ [(L.getD k [])]))), (13, .row 43 (.intss (Cn.negL (L.take k) v))), (604, .box [.int 0, .im (.val (.slice none 0 0))]), (605, .box [.int 0, .im (.val (.slice none 0 0))]), (608, .box [.int N, .row 10]), (609, .box [.int v, .row 11])]) (by kernel_rfl) ?_
         refine fin_round (k + 1) ?_ ?_ ?_ ?_
         ·
          show (k + 1) ≤ L.length
          omega
         ·
          show L.length - (k + 1) < L.length - k
          omega
         ·
          exact subE_mk (l := [.int v, .loc 604 0, .loc 605 0, .loc 608 0, .loc 609 0, .row 12, .row 13, .intss L, .int (L.length : Int), .int ((k : Int) + 1)]) (m := [.int v, .loc 604 0, .loc 605 0, .loc 608 0, .loc 609 0, .row 12, .row 13, .intss L, .int (L.length : Int), .int ((k + 1) : Int)]) (by kernel_rfl) (by kernel_rfl) (consE rfl (consE rfl (consE rfl (consE rfl (consE rfl (consE rfl (consE rfl (consE rfl (consE rfl (consE (congrArg AV.int (show ((k : Int) + 1) = ((k + 1) : Int) from (by first | rfl | omega | (simp; done)))) rfl))))))))))
         ·
          exact Eq.trans (show _ = [(10, .row 43 (.intss (Cn.xOf (L.take k) v))), (11, .row 43 (.intss ((Cn.uOf (L.take k) v) ++ [(L.getD k [])]))), (12, .row 43 (.intss ((Cn.posL (L.take k) v) ++ [(L.getD k [])]))), (13, .row 43 (.intss (Cn.negL (L.take k) v))), (604, .box [.int 0, .im (.val (.slice none 0 0))]), (605, .box [.int 0, .im (.val (.slice none 0 0))]), (608, .box [.int N, .row 10]), (609, .box [.int v, .row 11])] from by kernel_rfl) (consH (congrArg (fun x => ((10 : Nat), x)) (congrArg (fun x => AObj.row 43 (.intss x)) (show (Cn.xOf (L.take k) v) = (Cn.xOf (L.take (k + 1)) v) from (by first | exact (Cn.uOf_next_y (by omega) hh).2 | exact (Cn.uOf_next_n (by omega) hh).1)))) (consH (congrArg (fun x => ((11 : Nat), x)) (congrArg (fun x => AObj.row 43 (.intss x)) (show ((Cn.uOf (L.take k) v) ++ [(L.getD k [])]) = (Cn.uOf (L.take (k + 1)) v) from (by first | exact (Cn.uOf_next_y (by omega) hh).1 | exact (Cn.uOf_next_n (by omega) hh).2)))) (consH (congrArg (fun x => ((12 : Nat), x)) (congrArg (fun x => AObj.row 43 (.intss x)) (show ((Cn.posL (L.take k) v) ++ [(L.getD k [])]) = (Cn.posL (L.take (k + 1)) v) from (by rw [Cn.pos_eq, Cn.pos_eq]; first | exact Cn.filt_same (by omega) hwa | exact Cn.filt_add (by omega) hwa)))) (consH (congrArg (fun x => ((13 : Nat), x)) (congrArg (fun x => AObj.row 43 (.intss x)) (show (Cn.negL (L.take k) v) = (Cn.negL (L.take (k + 1)) v) from (by rw [Cn.neg_eq, Cn.neg_eq]; first | exact Cn.filt_same (by omega) hwb | exact Cn.filt_add (by omega) hwb)))) (consH rfl (consH rfl (consH rfl (consH rfl rfl))))))))
       ·
        skip
        have h4 := hb4
        have hwa := Cn.w_pos_f (c := L) (k := k) (v := v) h4
        refine tri_skip ?_
        refine fin_then ?_
        refine tri_seq ?_
        refine tri_regD hcx [] [81] [13, 1, 4, 5, 8, 9, 10, 11, 45, 46, 47] [11, 609, 10, 12, 13, 604, 605, 608] [((L.getD k []).length ≤ maxLen)] [(81, .bool (!((L.getD k []).contains v)))] [] (by kernel_rfl) ?_ ?_
        ·
         refine (ap ?_ az)
         first | exact hck | (first | omega | exact id | exact vcNot | exact vcG | exact vcH | (intro _; omega) | exact (fun _ h => h) | (intro h; simp at h; omega) | (simp only [List.length_cons, List.length_nil, List.length_append, List.length_map, List.length_set, List.length_replicate]; omega) | (intro h; simp [h]; done)) | (have := hm7 k (by omega); exact ⟨by unfold maxLen; omega, by omega, by omega⟩) | (have := hm7 k (by omega); unfold maxLen; omega) | (have := hm7 k (by omega); omega) | (constructor <;> omega) | exact ⟨by have := hpl p hp_; omega, by have := hql q hq_; omega⟩ | (have := hpl p hp_; have := hql q hq_; have := Cn.resL_len ((Cn.posL (L.take k) v).getD p []) ((Cn.negL (L.take k) v).getD q []) v; omega)
        refine fin_then ?_
        refine tri_cond (b := (!((L.getD k []).contains v))) (by kernel_rfl) (fun hb6 => ?_) (fun hb6 => ?_)
        ·
         skip
         have h6 := hb6
         have hwb := Cn.w_neg_t (c := L) (k := k) (v := v) h00 h6
         refine tri_regD hcx [(1003, .to 13)] [11] [1, 4, 5, 8, 9, 10, 45, 46, 47] [11, 609, 10, 12, 604, 605, 608] [(((Cn.negL (L.take k) v).length + [(L.getD k [])].length) * 24 ≤ 140737488355328)] [(11, .row 13)] [(13, .row 43 (.intss ((Cn.negL (L.take k) v) ++ [(L.getD k [])])))] (by kernel_rfl) ?_ ?_
         ·
          refine (ap ?_ az)
          first | exact hck | (first | omega | exact id | exact vcNot | exact vcG | exact vcH | (intro _; omega) | exact (fun _ h => h) | (intro h; simp at h; omega) | (simp only [List.length_cons, List.length_nil, List.length_append, List.length_map, List.length_set, List.length_replicate]; omega) | (intro h; simp [h]; done)) | (have := hm7 k (by omega); exact ⟨by unfold maxLen; omega, by omega, by omega⟩) | (have := hm7 k (by omega); unfold maxLen; omega) | (have := hm7 k (by omega); omega) | (constructor <;> omega) | exact ⟨by have := hpl p hp_; omega, by have := hql q hq_; omega⟩ | (have := hpl p hp_; have := hql q hq_; have := Cn.resL_len ((Cn.posL (L.take k) v).getD p []) ((Cn.negL (L.take k) v).getD q []) v; omega)
         refine fin_block ?_
         refine fin_then ?_
         refine tri_regD hcx [] [47] [11, 1, 4, 5, 8, 9, 10, 45, 46] [13, 11, 609, 10, 12, 604, 605, 608] [Fit ((k : Int) + 1)] [(47, .int ((k : Int) + 1))] [] (by kernel_rfl) ?_ ?_
         ·
          refine (ap ?_ az)
          first | exact hck | (first | omega | exact id | exact vcNot | exact vcG | exact vcH | (intro _; omega) | exact (fun _ h => h) | (intro h; simp at h; omega) | (simp only [List.length_cons, List.length_nil, List.length_append, List.length_map, List.length_set, List.length_replicate]; omega) | (intro h; simp [h]; done)) | (have := hm7 k (by omega); exact ⟨by unfold maxLen; omega, by omega, by omega⟩) | (have := hm7 k (by omega); unfold maxLen; omega) | (have := hm7 k (by omega); omega) | (constructor <;> omega) | exact ⟨by have := hpl p hp_; omega, by have := hql q hq_; omega⟩ | (have := hpl p hp_; have := hql q hq_; have := Cn.resL_len ((Cn.posL (L.take k) v).getD p []) ((Cn.negL (L.take k) v).getD q []) v; omega)
         refine fin_ren (ρ := [(10, .to 10), (11, .to 11), (12, .to 12), (13, .to 13), (604, .to 604), (605, .to 605), (608, .to 608), (609, .to 609)]) (keys := [1, 4, 5, 8, 9, 10, 11, 45, 46, 47]) (E' := [(1, .int v), (4, .loc 604 0), (5, .loc 605 0), (8, .loc 608 0), (9, .loc 609 0), (10, .row 12), (11, .row 13), (45, .intss L), (46, .int (L.length : Int)), (47, .int ((k : Int) + 1))]) (H' := [(10, .row 43 (.intss (Cn.xOf (L.take k) v))), (11, .row 43 (.intss ((Cn.uOf (L.take k) v) ++ [(L.getD k [])]))), (12, .row 43 (.intss (Cn.posL (L.take k) v))), (13, .row 43 (.intss ((Cn.negL (L.take k) v) ++ [(L.getD k [])]))), (604, .box [.int 0, .im (.val (.slice none 0 0))]), (605, .box [.int 0, .im (.val (.slice none 0 0))]), (608, .box [.int N, .row 10]), (609, .box [.int v, .row 11])]) (by kernel_rfl) ?_
         refine fin_round (k + 1) ?_ ?_ ?_ ?_
         ·
          show (k + 1) ≤ L.length
          omega
         ·
          show L.length - (k + 1) < L.length - k
          omega
         ·
          exact subE_mk (l := [.int v, .loc 604 0, .loc 605 0, .loc 608 0, .loc 609 0, .row 12, .row 13, .intss L, .int (L.length : Int), .int ((k : Int) + 1)]) (m := [.int v, .loc 604 0, .loc 605 0, .loc 608 0, .loc 609 0, .row 12, .row 13, .intss L, .int (L.length : Int), .int ((k + 1) : Int)]) (by kernel_rfl) (by kernel_rfl) (consE rfl (consE rfl (consE rfl (consE rfl (consE rfl (consE rfl (consE rfl (consE rfl (consE rfl (consE (congrArg AV.int (show ((k : Int) + 1) = ((k + 1) : Int) from (by first | rfl | omega | (simp; done)))) rfl))))))))))
         ·
          exact Eq.trans (show _ = [(10, .row 43 (.intss (Cn.xOf (L.take k) v))), (11, .row 43 (.intss ((Cn.uOf (L.take k) v) ++ [(L.getD k [])]))), (12, .row 43 (.intss (Cn.posL (L.take k) v))), (13, .row 43 (.intss ((Cn.negL (L.take k) v) ++ [(L.getD k [])]))), (604, .box [.int 0, .im (.val (.slice none 0 0))]), (605, .box [.int 0, .im (.val (.slice none 0 0))]), (608, .box [.int N, .row 10]), (609, .box [.int v, .row 11])] from by kernel_rfl) (consH (congrArg (fun x => ((10 : Nat), x)) (congrArg (fun x => AObj.row 43 (.intss x)) (show (Cn.xOf (L.take k) v) = (Cn.xOf (L.take (k + 1)) v) from (by first | exact (Cn.uOf_next_y (by omega) hh).2 | exact (Cn.uOf_next_n (by omega) hh).1)))) (consH (congrArg (fun x => ((11 : Nat), x)) (congrArg (fun x => AObj.row 43 (.intss x)) (show ((Cn.uOf (L.take k) v) ++ [(L.getD k [])]) = (Cn.uOf (L.take (k + 1)) v) from (by first | exact (Cn.uOf_next_y (by omega) hh).1 | exact (Cn.uOf_next_n (by omega) hh).2)))) (consH (congrArg (fun x => ((12 : Nat), x)) (congrArg (fun x => AObj.row 43 (.intss x)) (show (Cn.posL (L.take k) v) = (Cn.posL (L.take (k + 1)) v) from (by rw [Cn.pos_eq, Cn.pos_eq]; first | exact Cn.filt_same (by omega) hwa | exact Cn.filt_add (by omega) hwa)))) (consH (congrArg (fun x => ((13 : Nat), x)) (congrArg (fun x => AObj.row 43 (.intss x)) (show ((Cn.negL (L.take k) v) ++ [(L.getD k [])]) = (Cn.negL (L.take (k + 1)) v) from (by rw [Cn.neg_eq, Cn.neg_eq]; first | exact Cn.filt_same (by omega) hwb | exact Cn.filt_add (by omega) hwb)))) (consH rfl (consH rfl (consH rfl (consH rfl rfl))))))))
        ·
         skip
         have h6 := hb6
         have hwb := Cn.w_neg_f (c := L) (k := k) (v := v) h6
         refine tri_skip ?_
         refine fin_block ?_
         refine fin_then ?_
         refine tri_regD hcx [] [47] [1, 4, 5, 8, 9, 10, 11, 45, 46] [11, 609, 10, 12, 13, 604, 605, 608] [Fit ((k : Int) + 1)] [(47, .int ((k : Int) + 1))] [] (by kernel_rfl) ?_ ?_
         ·
          refine (ap ?_ az)
          first | exact hck | (first | omega | exact id | exact vcNot | exact vcG | exact vcH | (intro _; omega) | exact (fun _ h => h) | (intro h; simp at h; omega) | (simp only [List.length_cons, List.length_nil, List.length_append, List.length_map, List.length_set, List.length_replicate]; omega) | (intro h; simp [h]; done)) | (have := hm7 k (by omega); exact ⟨by unfold maxLen; omega, by omega, by omega⟩) | (have := hm7 k (by omega); unfold maxLen; omega) | (have := hm7 k (by omega); omega) | (constructor <;> omega) | exact ⟨by have := hpl p hp_; omega, by have := hql q hq_; omega⟩ | (have := hpl p hp_; have := hql q hq_; have := Cn.resL_len ((Cn.posL (L.take k) v).getD p []) ((Cn.negL (L.take k) v).getD q []) v; omega)
         refine fin_ren (ρ := [(10, .to 10), (11, .to 11), (12, .to 12), (13, .to 13), (604, .to 604), (605, .to 605), (608, .to 608), (609, .to 609)]) (keys := [1, 4, 5, 8, 9, 10, 11, 45, 46, 47]) (E' := [(1, .int v), (4, .loc 604 0), (5, .loc 605 0), (8, .loc 608 0), (9, .loc 609 0), (10, .row 12), (11, .row 13), (45, .intss L), (46, .int (L.length : Int)), (47, .int ((k : Int) + 1))]) (H' := [(10, .row 43 (.intss (Cn.xOf (L.take k) v))), (11, .row 43 (.intss ((Cn.uOf (L.take k) v) ++ [(L.getD k [])]))), (12, .row 43 (.intss (Cn.posL (L.take k) v))), (13, .row 43 (.intss (Cn.negL (L.take k) v))), (604, .box [.int 0, .im (.val (.slice none 0 0))]), (605, .box [.int 0, .im (.val (.slice none 0 0))]), (608, .box [.int N, .row 10]), (609, .box [.int v, .row 11])]) (by kernel_rfl) ?_
         refine fin_round (k + 1) ?_ ?_ ?_ ?_
         ·
          show (k + 1) ≤ L.length
          omega
         ·
          show L.length - (k + 1) < L.length - k
          omega
         ·
          exact subE_mk (l := [.int v, .loc 604 0, .loc 605 0, .loc 608 0, .loc 609 0, .row 12, .row 13, .intss L, .int (L.length : Int), .int ((k : Int) + 1)]) (m := [.int v, .loc 604 0, .loc 605 0, .loc 608 0, .loc 609 0, .row 12, .row 13, .intss L, .int (L.length : Int), .int ((k + 1) : Int)]) (by kernel_rfl) (by kernel_rfl) (consE rfl (consE rfl (consE rfl (consE rfl (consE rfl (consE rfl (consE rfl (consE rfl (consE rfl (consE (congrArg AV.int (show ((k : Int) + 1) = ((k + 1) : Int) from (by first | rfl | omega | (simp; done)))) rfl))))))))))
         ·
          exact Eq.trans (show _ = [(10, .row 43 (.intss (Cn.xOf (L.take k) v))), (11, .row 43 (.intss ((Cn.uOf (L.take k) v) ++ [(L.getD k [])]))), (12, .row 43 (.intss (Cn.posL (L.take k) v))), (13, .row 43 (.intss (Cn.negL (L.take k) v))), (604, .box [.int 0, .im (.val (.slice none 0 0))]), (605, .box [.int 0, .im (.val (.slice none 0 0))]), (608, .box [.int N, .row 10]), (609, .box [.int v, .row 11])] from by kernel_rfl) (consH (congrArg (fun x => ((10 : Nat), x)) (congrArg (fun x => AObj.row 43 (.intss x)) (show (Cn.xOf (L.take k) v) = (Cn.xOf (L.take (k + 1)) v) from (by first | exact (Cn.uOf_next_y (by omega) hh).2 | exact (Cn.uOf_next_n (by omega) hh).1)))) (consH (congrArg (fun x => ((11 : Nat), x)) (congrArg (fun x => AObj.row 43 (.intss x)) (show ((Cn.uOf (L.take k) v) ++ [(L.getD k [])]) = (Cn.uOf (L.take (k + 1)) v) from (by first | exact (Cn.uOf_next_y (by omega) hh).1 | exact (Cn.uOf_next_n (by omega) hh).2)))) (consH (congrArg (fun x => ((12 : Nat), x)) (congrArg (fun x => AObj.row 43 (.intss x)) (show (Cn.posL (L.take k) v) = (Cn.posL (L.take (k + 1)) v) from (by rw [Cn.pos_eq, Cn.pos_eq]; first | exact Cn.filt_same (by omega) hwa | exact Cn.filt_add (by omega) hwa)))) (consH (congrArg (fun x => ((13 : Nat), x)) (congrArg (fun x => AObj.row 43 (.intss x)) (show (Cn.negL (L.take k) v) = (Cn.negL (L.take (k + 1)) v) from (by rw [Cn.neg_eq, Cn.neg_eq]; first | exact Cn.filt_same (by omega) hwb | exact Cn.filt_add (by omega) hwb)))) (consH rfl (consH rfl (consH rfl (consH rfl rfl))))))))
     ·
      skip
      have h2 := of_decide_eq_false hb2
      have hkL : (L.take k) = L := by rw [show k = L.length from (by omega), List.take_length]
      have hpl : ∀ p, p < (Cn.posL (L.take k) v).length → ((Cn.posL (L.take k) v).getD p []).length ≤ 1000 := fun p hp => hm2 _ (List.mem_of_mem_take (Cn.pos_mem (Cn.getD_memL (d := []) hp)))
      have hql : ∀ q, q < (Cn.negL (L.take k) v).length → ((Cn.negL (L.take k) v).getD q []).length ≤ 1000 := fun q hq => hm2 _ (List.mem_of_mem_take (Cn.neg_mem (Cn.getD_memL (d := []) hq)))
      refine tri_exit ?_
      refine fin_then_exit ?_
      refine fin_then_exit ?_
      refine fin_block_same ?_
      refine fin_then ?_
      refine tri_seq ?_
      refine tri_seq ?_
      refine tri_ren (ρ := [(10, .to 10), (11, .to 11), (13, .to 13), (604, .to 604), (605, .to 605), (608, .to 608), (609, .to 609), (12, .frz)]) (keys := [48, 1, 4, 5, 8, 9, 10, 11, 45, 46, 47]) (E' := [(48, .bool (decide ((k : Int) < (L.length : Int)))), (1, .int v), (4, .loc 604 0), (5, .loc 605 0), (8, .loc 608 0), (9, .loc 609 0), (10, .intss (Cn.posL (L.take k) v)), (11, .row 13), (45, .intss L), (46, .int (L.length : Int)), (47, .int (k : Int))]) (H' := [(10, .row 43 (.intss (Cn.xOf (L.take k) v))), (11, .row 43 (.intss (Cn.uOf (L.take k) v))), (13, .row 43 (.intss (Cn.negL (L.take k) v))), (604, .box [.int 0, .im (.val (.slice none 0 0))]), (605, .box [.int 0, .im (.val (.slice none 0 0))]), (608, .box [.int N, .row 10]), (609, .box [.int v, .row 11])]) (by kernel_rfl) ?_
      refine tri_ren (ρ := [(10, .to 10), (11, .to 11), (604, .to 604), (605, .to 605), (608, .to 608), (609, .to 609), (13, .frz)]) (keys := [48, 1, 4, 5, 8, 9, 10, 11, 45, 46, 47]) (E' := [(48, .bool (decide ((k : Int) < (L.length : Int)))), (1, .int v), (4, .loc 604 0), (5, .loc 605 0), (8, .loc 608 0), (9, .loc 609 0), (10, .intss (Cn.posL (L.take k) v)), (11, .intss (Cn.negL (L.take k) v)), (45, .intss L), (46, .int (L.length : Int)), (47, .int (k : Int))]) (H' := [(10, .row 43 (.intss (Cn.xOf (L.take k) v))), (11, .row 43 (.intss (Cn.uOf (L.take k) v))), (604, .box [.int 0, .im (.val (.slice none 0 0))]), (605, .box [.int 0, .im (.val (.slice none 0 0))]), (608, .box [.int N, .row 10]), (609, .box [.int v, .row 11])]) (by kernel_rfl) ?_
      refine tri_regD hcx [] [87, 88, 89] [1, 4, 5, 8, 9, 11] [10, 11, 604, 605, 608, 609] [] [(87, .intss (Cn.posL (L.take k) v)), (88, .int ((Cn.posL (L.take k) v).length : Int)), (89, .int 0)] [] (by kernel_rfl) ?_ ?_
      ·
       exact az
      refine fin_then ?_
      refine tri_block ?_
      refine tri_loop (X := Nat) (fun x0 => x0 ≤ (Cn.posL (L.take k) v).length ∧ Cn.okX (L.take k) v 65536 x0 0) (fun x0 => [(1, .int v), (4, .loc 604 0), (5, .loc 605 0), (8, .loc 608 0), (9, .loc 609 0), (11, .intss (Cn.negL (L.take k) v)), (87, .intss (Cn.posL (L.take k) v)), (88, .int ((Cn.posL (L.take k) v).length : Int)), (89, .int (x0 : Int))]) (fun x0 => [(10, .row 43 (.intss (Cn.stX (L.take k) v x0 0))), (11, .row 43 (.intss (Cn.uOf (L.take k) v))), (604, .box [.int 0, .im (.val (.slice none 0 0))]), (605, .box [.int 0, .im (.val (.slice none 0 0))]), (608, .box [.int N, .row 10]), (609, .box [.int v, .row 11])]) (fun x0 => (Cn.posL (L.take k) v).length - x0) (0) ?_ ?_ ?_ ?_
      ·
       show 0 ≤ (Cn.posL (L.take k) v).length ∧ Cn.okX (L.take k) v 65536 0 0
       exact ⟨Nat.zero_le _, Cn.ok_zero⟩
      ·
       exact subE_mk (l := [.int v, .loc 604 0, .loc 605 0, .loc 608 0, .loc 609 0, .intss (Cn.negL (L.take k) v), .intss (Cn.posL (L.take k) v), .int ((Cn.posL (L.take k) v).length : Int), .int 0]) (m := [.int v, .loc 604 0, .loc 605 0, .loc 608 0, .loc 609 0, .intss (Cn.negL (L.take k) v), .intss (Cn.posL (L.take k) v), .int ((Cn.posL (L.take k) v).length : Int), .int (0 : Int)]) (by kernel_rfl) (by kernel_rfl) (consE rfl (consE rfl (consE rfl (consE rfl (consE rfl (consE rfl (consE rfl (consE rfl (consE (congrArg AV.int (show 0 = (0 : Int) from (by first | rfl | omega | (simp; done)))) rfl)))))))))
      ·
       exact Eq.trans (show _ = [(10, .row 43 (.intss (Cn.xOf (L.take k) v))), (11, .row 43 (.intss (Cn.uOf (L.take k) v))), (604, .box [.int 0, .im (.val (.slice none 0 0))]), (605, .box [.int 0, .im (.val (.slice none 0 0))]), (608, .box [.int N, .row 10]), (609, .box [.int v, .row 11])] from by kernel_rfl) (consH (congrArg (fun x => ((10 : Nat), x)) (congrArg (fun x => AObj.row 43 (.intss x)) (show (Cn.xOf (L.take k) v) = (Cn.stX (L.take k) v 0 0) from (by exact Cn.st_zero)))) (consH rfl (consH rfl (consH rfl (consH rfl (consH rfl rfl))))))
      ·
       intro p hI
       replace hI : p ≤ (Cn.posL (L.take k) v).length ∧ Cn.okX (L.take k) v 65536 p 0 := hI
       change Tri _ [(1, .int v), (4, .loc 604 0), (5, .loc 605 0), (8, .loc 608 0), (9, .loc 609 0), (11, .intss (Cn.negL (L.take k) v)), (87, .intss (Cn.posL (L.take k) v)), (88, .int ((Cn.posL (L.take k) v).length : Int)), (89, .int (p : Int))] [(10, .row 43 (.intss (Cn.stX (L.take k) v p 0))), (11, .row 43 (.intss (Cn.uOf (L.take k) v))), (604, .box [.int 0, .im (.val (.slice none 0 0))]), (605, .box [.int 0, .im (.val (.slice none 0 0))]), (608, .box [.int N, .row 10]), (609, .box [.int v, .row 11])] _ _
       obtain ⟨hpk, hok1⟩ := hI
       refine tri_seq ?_
       refine tri_regD hcx [] [90] [1, 4, 5, 8, 9, 11, 87, 88, 89] [10, 11, 604, 605, 608, 609] [] [(90, .bool (decide ((p : Int) < ((Cn.posL (L.take k) v).length : Int))))] [] (by kernel_rfl) ?_ ?_
       ·
        exact az
       refine fin_then ?_
       refine tri_seq ?_
       refine tri_cond (b := (decide ((p : Int) < ((Cn.posL (L.take k) v).length : Int)))) (by kernel_rfl) (fun hb7 => ?_) (fun hb7 => ?_)
       ·
        skip
        have h7 := of_decide_eq_true hb7
        have hp_ : p < (Cn.posL (L.take k) v).length := by omega
        refine tri_skip ?_
        refine fin_then ?_
        refine tri_seq ?_
        refine tri_block ?_
        refine tri_seq ?_
        refine tri_regD hcx [] [15] [1, 4, 5, 8, 9, 11, 87, 88, 89] [10, 11, 604, 605, 608, 609] [((0 : Int) ≤ (p : Int) ∧ (p : Int) < ((Cn.posL (L.take k) v).length : Int))] [(15, .ints ((Cn.posL (L.take k) v).getD p []))] [] (by kernel_rfl) ?_ ?_
        ·
         refine (ap ?_ az)
         first | exact hck | (first | omega | exact id | exact vcNot | exact vcG | exact vcH | (intro _; omega) | exact (fun _ h => h) | (intro h; simp at h; omega) | (simp only [List.length_cons, List.length_nil, List.length_append, List.length_map, List.length_set, List.length_replicate]; omega) | (intro h; simp [h]; done)) | (have := hm7 k (by omega); exact ⟨by unfold maxLen; omega, by omega, by omega⟩) | (have := hm7 k (by omega); unfold maxLen; omega) | (have := hm7 k (by omega); omega) | (constructor <;> omega) | exact ⟨by have := hpl p hp_; omega, by have := hql q hq_; omega⟩ | (have := hpl p hp_; have := hql q hq_; have := Cn.resL_len ((Cn.posL (L.take k) v).getD p []) ((Cn.negL (L.take k) v).getD q []) v; omega)
        refine fin_then ?_
        refine tri_seq ?_
        refine tri_regD hcx [] [93, 94, 95] [15, 1, 4, 5, 8, 9, 11, 87, 88, 89] [10, 11, 604, 605, 608, 609] [] [(93, .intss (Cn.negL (L.take k) v)), (94, .int ((Cn.negL (L.take k) v).length : Int)), (95, .int 0)] [] (by kernel_rfl) ?_ ?_
        ·
         exact az
        refine fin_then ?_
        refine tri_block ?_
        refine tri_loop (X := Nat) (fun x0 => x0 ≤ (Cn.negL (L.take k) v).length ∧ Cn.okX (L.take k) v 65536 p x0) (fun x0 => [(1, .int v), (4, .loc 604 0), (5, .loc 605 0), (8, .loc 608 0), (9, .loc 609 0), (11, .intss (Cn.negL (L.take k) v)), (15, .ints ((Cn.posL (L.take k) v).getD p [])), (87, .intss (Cn.posL (L.take k) v)), (88, .int ((Cn.posL (L.take k) v).length : Int)), (89, .int (p : Int)), (93, .intss (Cn.negL (L.take k) v)), (94, .int ((Cn.negL (L.take k) v).length : Int)), (95, .int (x0 : Int))]) (fun x0 => [(10, .row 43 (.intss (Cn.stX (L.take k) v p x0))), (11, .row 43 (.intss (Cn.uOf (L.take k) v))), (604, .box [.int 0, .im (.val (.slice none 0 0))]), (605, .box [.int 0, .im (.val (.slice none 0 0))]), (608, .box [.int N, .row 10]), (609, .box [.int v, .row 11])]) (fun x0 => (Cn.negL (L.take k) v).length - x0) (0) ?_ ?_ ?_ ?_
        ·
         show 0 ≤ (Cn.negL (L.take k) v).length ∧ Cn.okX (L.take k) v 65536 p 0
         exact ⟨Nat.zero_le _, hok1⟩
        ·
         exact subE_mk (l := [.int v, .loc 604 0, .loc 605 0, .loc 608 0, .loc 609 0, .intss (Cn.negL (L.take k) v), .ints ((Cn.posL (L.take k) v).getD p []), .intss (Cn.posL (L.take k) v), .int ((Cn.posL (L.take k) v).length : Int), .int (p : Int), .intss (Cn.negL (L.take k) v), .int ((Cn.negL (L.take k) v).length : Int), .int 0]) (m := [.int v, .loc 604 0, .loc 605 0, .loc 608 0, .loc 609 0, .intss (Cn.negL (L.take k) v), .ints ((Cn.posL (L.take k) v).getD p []), .intss (Cn.posL (L.take k) v), .int ((Cn.posL (L.take k) v).length : Int), .int (p : Int), .intss (Cn.negL (L.take k) v), .int ((Cn.negL (L.take k) v).length : Int), .int (0 : Int)]) (by kernel_rfl) (by kernel_rfl) (consE rfl (consE rfl (consE rfl (consE rfl (consE rfl (consE rfl (consE rfl (consE rfl (consE rfl (consE rfl (consE rfl (consE rfl (consE (congrArg AV.int (show 0 = (0 : Int) from (by first | rfl | omega | (simp; done)))) rfl)))))))))))))
        ·
         kernel_rfl
        ·
         intro q hI
         replace hI : q ≤ (Cn.negL (L.take k) v).length ∧ Cn.okX (L.take k) v 65536 p q := hI
         change Tri _ [(1, .int v), (4, .loc 604 0), (5, .loc 605 0), (8, .loc 608 0), (9, .loc 609 0), (11, .intss (Cn.negL (L.take k) v)), (15, .ints ((Cn.posL (L.take k) v).getD p [])), (87, .intss (Cn.posL (L.take k) v)), (88, .int ((Cn.posL (L.take k) v).length : Int)), (89, .int (p : Int)), (93, .intss (Cn.negL (L.take k) v)), (94, .int ((Cn.negL (L.take k) v).length : Int)), (95, .int (q : Int))] [(10, .row 43 (.intss (Cn.stX (L.take k) v p q))), (11, .row 43 (.intss (Cn.uOf (L.take k) v))), (604, .box [.int 0, .im (.val (.slice none 0 0))]), (605, .box [.int 0, .im (.val (.slice none 0 0))]), (608, .box [.int N, .row 10]), (609, .box [.int v, .row 11])] _ _
         obtain ⟨hqk, hok2⟩ := hI
         have hsl := Cn.ok_len (by rw [hkL]; exact hm1) (by decide) hok2
         refine tri_seq ?_
         refine tri_regD hcx [] [96] [1, 4, 5, 8, 9, 11, 15, 87, 88, 89, 93, 94, 95] [10, 11, 604, 605, 608, 609] [] [(96, .bool (decide ((q : Int) < ((Cn.negL (L.take k) v).length : Int))))] [] (by kernel_rfl) ?_ ?_
         ·
          exact az
         refine fin_then ?_
         refine tri_seq ?_
         refine tri_cond (b := (decide ((q : Int) < ((Cn.negL (L.take k) v).length : Int)))) (by kernel_rfl) (fun hb8 => ?_) (fun hb8 => ?_)
         ·
          skip
          have h8 := of_decide_eq_true hb8
          have hq_ : q < (Cn.negL (L.take k) v).length := by omega
          refine tri_skip ?_
          refine fin_then ?_
          refine tri_seq ?_
          refine tri_block ?_
          refine tri_seq ?_
          refine tri_regD hcx [] [17] [1, 4, 5, 8, 9, 11, 15, 87, 88, 89, 93, 94, 95] [10, 11, 604, 605, 608, 609] [((0 : Int) ≤ (q : Int) ∧ (q : Int) < ((Cn.negL (L.take k) v).length : Int))] [(17, .ints ((Cn.negL (L.take k) v).getD q []))] [] (by kernel_rfl) ?_ ?_
          ·
           refine (ap ?_ az)
           first | exact hck | (first | omega | exact id | exact vcNot | exact vcG | exact vcH | (intro _; omega) | exact (fun _ h => h) | (intro h; simp at h; omega) | (simp only [List.length_cons, List.length_nil, List.length_append, List.length_map, List.length_set, List.length_replicate]; omega) | (intro h; simp [h]; done)) | (have := hm7 k (by omega); exact ⟨by unfold maxLen; omega, by omega, by omega⟩) | (have := hm7 k (by omega); unfold maxLen; omega) | (have := hm7 k (by omega); omega) | (constructor <;> omega) | exact ⟨by have := hpl p hp_; omega, by have := hql q hq_; omega⟩ | (have := hpl p hp_; have := hql q hq_; have := Cn.resL_len ((Cn.posL (L.take k) v).getD p []) ((Cn.negL (L.take k) v).getD q []) v; omega)
          refine fin_then ?_
          refine tri_seq ?_
          refine tri_regD hcx [] [18] [1, 4, 5, 8, 9, 11, 15, 87, 88, 89, 93, 94, 95] [10, 11, 604, 605, 608, 609] [(((Cn.posL (L.take k) v).getD p []).length ≤ 100000 ∧ ((Cn.negL (L.take k) v).getD q []).length ≤ 100000)] [(18, .ints (Cn.resL ((Cn.posL (L.take k) v).getD p []) ((Cn.negL (L.take k) v).getD q []) v))] [] (by kernel_rfl) ?_ ?_
          ·
           refine (ap ?_ az)
           first | exact hck | (first | omega | exact id | exact vcNot | exact vcG | exact vcH | (intro _; omega) | exact (fun _ h => h) | (intro h; simp at h; omega) | (simp only [List.length_cons, List.length_nil, List.length_append, List.length_map, List.length_set, List.length_replicate]; omega) | (intro h; simp [h]; done)) | (have := hm7 k (by omega); exact ⟨by unfold maxLen; omega, by omega, by omega⟩) | (have := hm7 k (by omega); unfold maxLen; omega) | (have := hm7 k (by omega); omega) | (constructor <;> omega) | exact ⟨by have := hpl p hp_; omega, by have := hql q hq_; omega⟩ | (have := hpl p hp_; have := hql q hq_; have := Cn.resL_len ((Cn.posL (L.take k) v).getD p []) ((Cn.negL (L.take k) v).getD q []) v; omega)
          refine fin_then ?_
          refine tri_seq ?_
          refine tri_seq ?_
          refine tri_regD hcx [] [21] [18, 1, 4, 5, 8, 9, 11, 15, 87, 88, 89, 93, 94, 95] [10, 11, 604, 605, 608, 609] [((Cn.resL ((Cn.posL (L.take k) v).getD p []) ((Cn.negL (L.take k) v).getD q []) v).length ≤ 1000000)] [(21, .bool (Cn.tautL (Cn.resL ((Cn.posL (L.take k) v).getD p []) ((Cn.negL (L.take k) v).getD q []) v)))] [] (by kernel_rfl) ?_ ?_
          ·
           refine (ap ?_ az)
           first | exact hck | (first | omega | exact id | exact vcNot | exact vcG | exact vcH | (intro _; omega) | exact (fun _ h => h) | (intro h; simp at h; omega) | (simp only [List.length_cons, List.length_nil, List.length_append, List.length_map, List.length_set, List.length_replicate]; omega) | (intro h; simp [h]; done)) | (have := hm7 k (by omega); exact ⟨by unfold maxLen; omega, by omega, by omega⟩) | (have := hm7 k (by omega); unfold maxLen; omega) | (have := hm7 k (by omega); omega) | (constructor <;> omega) | exact ⟨by have := hpl p hp_; omega, by have := hql q hq_; omega⟩ | (have := hpl p hp_; have := hql q hq_; have := Cn.resL_len ((Cn.posL (L.take k) v).getD p []) ((Cn.negL (L.take k) v).getD q []) v; omega)
          refine fin_then ?_
          refine tri_seq ?_
          refine tri_regD hcx [] [112] [18, 1, 4, 5, 8, 9, 11, 15, 87, 88, 89, 93, 94, 95] [10, 11, 604, 605, 608, 609] [] [(112, .bool (!(Cn.tautL (Cn.resL ((Cn.posL (L.take k) v).getD p []) ((Cn.negL (L.take k) v).getD q []) v))))] [] (by kernel_rfl) ?_ ?_
          ·
           exact az
          refine fin_then ?_
          refine tri_cond (b := (!(Cn.tautL (Cn.resL ((Cn.posL (L.take k) v).getD p []) ((Cn.negL (L.take k) v).getD q []) v)))) (by kernel_rfl) (fun hb9 => ?_) (fun hb9 => ?_)
          ·
           skip
           have h9 := hb9
           have ht : Cn.tautL (Cn.resL ((Cn.posL (L.take k) v).getD p []) ((Cn.negL (L.take k) v).getD q []) v) = false := by simpa using h9
           refine tri_regD hcx [(1004, .to 10), (608, .to 608)] [] [1, 4, 5, 8, 9, 11, 15, 87, 88, 89, 93, 94, 95] [11, 604, 605, 609] [(((Cn.stX (L.take k) v p q).length + [(Cn.resL ((Cn.posL (L.take k) v).getD p []) ((Cn.negL (L.take k) v).getD q []) v)].length) * 24 ≤ 140737488355328)] [] [(10, .row 43 (.intss ((Cn.stX (L.take k) v p q) ++ [(Cn.resL ((Cn.posL (L.take k) v).getD p []) ((Cn.negL (L.take k) v).getD q []) v)]))), (608, .box [.int N, .row 10])] (by kernel_rfl) ?_ ?_
           ·
            refine (ap ?_ az)
            first | exact hck | (first | omega | exact id | exact vcNot | exact vcG | exact vcH | (intro _; omega) | exact (fun _ h => h) | (intro h; simp at h; omega) | (simp only [List.length_cons, List.length_nil, List.length_append, List.length_map, List.length_set, List.length_replicate]; omega) | (intro h; simp [h]; done)) | (have := hm7 k (by omega); exact ⟨by unfold maxLen; omega, by omega, by omega⟩) | (have := hm7 k (by omega); unfold maxLen; omega) | (have := hm7 k (by omega); omega) | (constructor <;> omega) | exact ⟨by have := hpl p hp_; omega, by have := hql q hq_; omega⟩ | (have := hpl p hp_; have := hql q hq_; have := Cn.resL_len ((Cn.posL (L.take k) v).getD p []) ((Cn.negL (L.take k) v).getD q []) v; omega)
           refine fin_then ?_
           refine tri_seq ?_
           refine tri_regD hcx [] [122] [1, 4, 5, 8, 9, 11, 15, 87, 88, 89, 93, 94, 95] [10, 608, 11, 604, 605, 609] [] [(122, .bool (decide ((((Cn.stX (L.take k) v p q) ++ [(Cn.resL ((Cn.posL (L.take k) v).getD p []) ((Cn.negL (L.take k) v).getD q []) v)]).length : Int) > 65536)))] [] (by kernel_rfl) ?_ ?_
           ·
            exact az
           refine fin_then ?_
           refine tri_cond (b := (decide ((((Cn.stX (L.take k) v p q) ++ [(Cn.resL ((Cn.posL (L.take k) v).getD p []) ((Cn.negL (L.take k) v).getD q []) v)]).length : Int) > 65536))) (by kernel_rfl) (fun hb10 => ?_) (fun hb10 => ?_)
           ·
            skip
            have h10 := of_decide_eq_true hb10
            have hE2 : Cn.ouE N L v = 2 := by first | (refine Cn.ou_big hc0 hv (fun hle => ?_); have h9 := Cn.st_brk hp_ hq_ ht hok2 h10; rw [hkL] at h9; rw [h9, ← hkL] at hle; omega) | (exfalso; rcases hok2 with hz | hz; (have h9 := h10; rw [hz] at h9; omega); omega)
            obtain ⟨hA, hB, hC, hD, hE⟩ := Cn.ou_no hE2 (by decide)
            refine tri_seq ?_
            refine tri_regD hcx [(604, .to 604), (605, .to 605)] [6] [4, 5] [] [] [(6, .int 2)] [(604, .box [.int 0, .im (.val (.slice none 0 0))]), (605, .box [.int 0, .im (.val (.slice none 0 0))])] (by kernel_rfl) ?_ ?_
            ·
             exact az
            refine fin_then ?_
            refine tri_ret ?_
            refine fin_block_ret ?_
            refine fin_then_ret ?_
            refine fin_then_ret ?_
            refine fin_block_ret ?_
            refine fin_block_ret ?_
            refine fin_then_ret ?_
            refine fin_then_ret ?_
            refine fin_block_ret ?_
            refine fin_then_ret ?_
            refine fin_rowB 604 1 700 43 (.intss []) (by kernel_rfl) (by kernel_rfl) (by kernel_rfl) (by kernel_rfl) (H' := [(604, .box [.int 0, .row 700]), (605, .box [.int 0, .im (.val (.slice none 0 0))])]) (by kernel_rfl) ?_
            refine fin_rowB 605 1 701 43 (.intss []) (by kernel_rfl) (by kernel_rfl) (by kernel_rfl) (by kernel_rfl) (H' := [(700, .row 43 (.intss [])), (604, .box [.int 0, .row 700]), (605, .box [.int 0, .row 701])]) (by kernel_rfl) ?_
            refine fin_ren (ρ := [(700, .to 0), (701, .to 1), (604, .to 990), (605, .to 991)]) (keys := [4, 5, 6]) (E' := [(4, .loc 990 0), (5, .loc 991 0), (6, .int 2)]) (H' := [(0, .row 43 (.intss [])), (1, .row 43 (.intss [])), (990, .box [.int 0, .row 0]), (991, .box [.int 0, .row 1])]) (by kernel_rfl) ?_
            exact fin_ret [] rfl rfl trivial hcx (avs := [.agg [.int 0, .row 0], .agg [.int 0, .row 1], .int 2]) (by kernel_rfl) (congrArg AV.tup (consE (congrArg AV.agg (consE (congrArg AV.int (show 0 = (Cn.ouN N L v) from (by first | exact hA.symm | exact hC.symm | exact hE.symm))) rfl)) (consE (congrArg AV.agg (consE (congrArg AV.int (show 0 = (Cn.ouV N L v) from (by first | exact hA.symm | exact hC.symm | exact hE.symm))) rfl)) (consE (congrArg AV.int (show 2 = (Cn.ouE N L v) from (by first | exact hA.symm | exact hC.symm | exact hE.symm))) rfl)))) [true, true] (Eq.trans (show _ = [some (.row 43 (.intss [])), some (.row 43 (.intss []))] from by kernel_rfl) (consO (congrArg some (congrArg (fun x => AObj.row 43 (.intss x)) (show [] = (Cn.ouX N L v) from (by first | exact hB.symm | rw [hB, hOX])))) (consO (congrArg some (congrArg (fun x => AObj.row 43 (.intss x)) (show [] = (Cn.ouU N L v) from (by first | exact hD.symm | rw [hD, hkL])))) rfl)))
           ·
            skip
            have h10 := of_decide_eq_false hb10
            have hle := h10
            refine tri_skip ?_
            refine fin_block ?_
            refine fin_then ?_
            refine tri_regD hcx [] [95] [1, 4, 5, 8, 9, 11, 15, 87, 88, 89, 93, 94] [10, 608, 11, 604, 605, 609] [Fit ((q : Int) + 1)] [(95, .int ((q : Int) + 1))] [] (by kernel_rfl) ?_ ?_
            ·
             refine (ap ?_ az)
             first | exact hck | (first | omega | exact id | exact vcNot | exact vcG | exact vcH | (intro _; omega) | exact (fun _ h => h) | (intro h; simp at h; omega) | (simp only [List.length_cons, List.length_nil, List.length_append, List.length_map, List.length_set, List.length_replicate]; omega) | (intro h; simp [h]; done)) | (have := hm7 k (by omega); exact ⟨by unfold maxLen; omega, by omega, by omega⟩) | (have := hm7 k (by omega); unfold maxLen; omega) | (have := hm7 k (by omega); omega) | (constructor <;> omega) | exact ⟨by have := hpl p hp_; omega, by have := hql q hq_; omega⟩ | (have := hpl p hp_; have := hql q hq_; have := Cn.resL_len ((Cn.posL (L.take k) v).getD p []) ((Cn.negL (L.take k) v).getD q []) v; omega)
            refine fin_ren (ρ := [(10, .to 10), (11, .to 11), (604, .to 604), (605, .to 605), (608, .to 608), (609, .to 609)]) (keys := [1, 4, 5, 8, 9, 11, 15, 87, 88, 89, 93, 94, 95]) (E' := [(1, .int v), (4, .loc 604 0), (5, .loc 605 0), (8, .loc 608 0), (9, .loc 609 0), (11, .intss (Cn.negL (L.take k) v)), (15, .ints ((Cn.posL (L.take k) v).getD p [])), (87, .intss (Cn.posL (L.take k) v)), (88, .int ((Cn.posL (L.take k) v).length : Int)), (89, .int (p : Int)), (93, .intss (Cn.negL (L.take k) v)), (94, .int ((Cn.negL (L.take k) v).length : Int)), (95, .int ((q : Int) + 1))]) (H' := [(10, .row 43 (.intss ((Cn.stX (L.take k) v p q) ++ [(Cn.resL ((Cn.posL (L.take k) v).getD p []) ((Cn.negL (L.take k) v).getD q []) v)]))), (11, .row 43 (.intss (Cn.uOf (L.take k) v))), (604, .box [.int 0, .im (.val (.slice none 0 0))]), (605, .box [.int 0, .im (.val (.slice none 0 0))]), (608, .box [.int N, .row 10]), (609, .box [.int v, .row 11])]) (by kernel_rfl) ?_
            refine fin_round (q + 1) ?_ ?_ ?_ ?_
            ·
             show (q + 1) ≤ (Cn.negL (L.take k) v).length ∧ Cn.okX (L.take k) v 65536 p (q + 1)
             exact ⟨by omega, by first | exact Cn.ok_skip hq_ ht hok2 | exact Cn.ok_add hq_ ht (Int.not_lt.1 hle)⟩
            ·
             show (Cn.negL (L.take k) v).length - (q + 1) < (Cn.negL (L.take k) v).length - q
             omega
            ·
             exact subE_mk (l := [.int v, .loc 604 0, .loc 605 0, .loc 608 0, .loc 609 0, .intss (Cn.negL (L.take k) v), .ints ((Cn.posL (L.take k) v).getD p []), .intss (Cn.posL (L.take k) v), .int ((Cn.posL (L.take k) v).length : Int), .int (p : Int), .intss (Cn.negL (L.take k) v), .int ((Cn.negL (L.take k) v).length : Int), .int ((q : Int) + 1)]) (m := [.int v, .loc 604 0, .loc 605 0, .loc 608 0, .loc 609 0, .intss (Cn.negL (L.take k) v), .ints ((Cn.posL (L.take k) v).getD p []), .intss (Cn.posL (L.take k) v), .int ((Cn.posL (L.take k) v).length : Int), .int (p : Int), .intss (Cn.negL (L.take k) v), .int ((Cn.negL (L.take k) v).length : Int), .int ((q + 1) : Int)]) (by kernel_rfl) (by kernel_rfl) (consE rfl (consE rfl (consE rfl (consE rfl (consE rfl (consE rfl (consE rfl (consE rfl (consE rfl (consE rfl (consE rfl (consE rfl (consE (congrArg AV.int (show ((q : Int) + 1) = ((q + 1) : Int) from (by first | rfl | omega | (simp; done)))) rfl)))))))))))))
            ·
             exact Eq.trans (show _ = [(10, .row 43 (.intss ((Cn.stX (L.take k) v p q) ++ [(Cn.resL ((Cn.posL (L.take k) v).getD p []) ((Cn.negL (L.take k) v).getD q []) v)]))), (11, .row 43 (.intss (Cn.uOf (L.take k) v))), (604, .box [.int 0, .im (.val (.slice none 0 0))]), (605, .box [.int 0, .im (.val (.slice none 0 0))]), (608, .box [.int N, .row 10]), (609, .box [.int v, .row 11])] from by kernel_rfl) (consH (congrArg (fun x => ((10 : Nat), x)) (congrArg (fun x => AObj.row 43 (.intss x)) (show ((Cn.stX (L.take k) v p q) ++ [(Cn.resL ((Cn.posL (L.take k) v).getD p []) ((Cn.negL (L.take k) v).getD q []) v)]) = (Cn.stX (L.take k) v p (q + 1)) from (by first | exact Cn.st_skip hq_ ht | exact Cn.st_add hq_ ht)))) (consH rfl (consH rfl (consH rfl (consH rfl (consH rfl rfl))))))
          ·
           skip
           have h9 := hb9
           have ht : Cn.tautL (Cn.resL ((Cn.posL (L.take k) v).getD p []) ((Cn.negL (L.take k) v).getD q []) v) = true := by simpa using h9
           refine tri_skip ?_
           refine fin_then ?_
           refine tri_seq ?_
           refine tri_regD hcx [] [122] [1, 4, 5, 8, 9, 11, 15, 87, 88, 89, 93, 94, 95] [10, 11, 604, 605, 608, 609] [] [(122, .bool (decide (((Cn.stX (L.take k) v p q).length : Int) > 65536)))] [] (by kernel_rfl) ?_ ?_
           ·
            exact az
           refine fin_then ?_
           refine tri_cond (b := (decide (((Cn.stX (L.take k) v p q).length : Int) > 65536))) (by kernel_rfl) (fun hb11 => ?_) (fun hb11 => ?_)
           ·
            skip
            have h11 := of_decide_eq_true hb11
            have hE2 : Cn.ouE N L v = 2 := by first | (refine Cn.ou_big hc0 hv (fun hle => ?_); have h9 := Cn.st_brk hp_ hq_ ht hok2 h11; rw [hkL] at h9; rw [h9, ← hkL] at hle; omega) | (exfalso; rcases hok2 with hz | hz; (have h9 := h11; rw [hz] at h9; omega); omega)
            obtain ⟨hA, hB, hC, hD, hE⟩ := Cn.ou_no hE2 (by decide)
            refine tri_seq ?_
            refine tri_regD hcx [(604, .to 604), (605, .to 605)] [6] [4, 5] [] [] [(6, .int 2)] [(604, .box [.int 0, .im (.val (.slice none 0 0))]), (605, .box [.int 0, .im (.val (.slice none 0 0))])] (by kernel_rfl) ?_ ?_
            ·
             exact az
            refine fin_then ?_
            refine tri_ret ?_
            refine fin_block_ret ?_
            refine fin_then_ret ?_
            refine fin_then_ret ?_
            refine fin_block_ret ?_
            refine fin_block_ret ?_
            refine fin_then_ret ?_
            refine fin_then_ret ?_
            refine fin_block_ret ?_
            refine fin_then_ret ?_
            refine fin_rowB 604 1 700 43 (.intss []) (by kernel_rfl) (by kernel_rfl) (by kernel_rfl) (by kernel_rfl) (H' := [(604, .box [.int 0, .row 700]), (605, .box [.int 0, .im (.val (.slice none 0 0))])]) (by kernel_rfl) ?_
            refine fin_rowB 605 1 701 43 (.intss []) (by kernel_rfl) (by kernel_rfl) (by kernel_rfl) (by kernel_rfl) (H' := [(700, .row 43 (.intss [])), (604, .box [.int 0, .row 700]), (605, .box [.int 0, .row 701])]) (by kernel_rfl) ?_
            refine fin_ren (ρ := [(700, .to 0), (701, .to 1), (604, .to 990), (605, .to 991)]) (keys := [4, 5, 6]) (E' := [(4, .loc 990 0), (5, .loc 991 0), (6, .int 2)]) (H' := [(0, .row 43 (.intss [])), (1, .row 43 (.intss [])), (990, .box [.int 0, .row 0]), (991, .box [.int 0, .row 1])]) (by kernel_rfl) ?_
            exact fin_ret [] rfl rfl trivial hcx (avs := [.agg [.int 0, .row 0], .agg [.int 0, .row 1], .int 2]) (by kernel_rfl) (congrArg AV.tup (consE (congrArg AV.agg (consE (congrArg AV.int (show 0 = (Cn.ouN N L v) from (by first | exact hA.symm | exact hC.symm | exact hE.symm))) rfl)) (consE (congrArg AV.agg (consE (congrArg AV.int (show 0 = (Cn.ouV N L v) from (by first | exact hA.symm | exact hC.symm | exact hE.symm))) rfl)) (consE (congrArg AV.int (show 2 = (Cn.ouE N L v) from (by first | exact hA.symm | exact hC.symm | exact hE.symm))) rfl)))) [true, true] (Eq.trans (show _ = [some (.row 43 (.intss [])), some (.row 43 (.intss []))] from by kernel_rfl) (consO (congrArg some (congrArg (fun x => AObj.row 43 (.intss x)) (show [] = (Cn.ouX N L v) from (by first | exact hB.symm | rw [hB, hOX])))) (consO (congrArg some (congrArg (fun x => AObj.row 43 (.intss x)) (show [] = (Cn.ouU N L v) from (by first | exact hD.symm | rw [hD, hkL])))) rfl)))
           ·
            skip
            have h11 := of_decide_eq_false hb11
            have hle := h11
            refine tri_skip ?_
            refine fin_block ?_
            refine fin_then ?_
            refine tri_regD hcx [] [95] [1, 4, 5, 8, 9, 11, 15, 87, 88, 89, 93, 94] [10, 11, 604, 605, 608, 609] [Fit ((q : Int) + 1)] [(95, .int ((q : Int) + 1))] [] (by kernel_rfl) ?_ ?_
            ·
             refine (ap ?_ az)
             first | exact hck | (first | omega | exact id | exact vcNot | exact vcG | exact vcH | (intro _; omega) | exact (fun _ h => h) | (intro h; simp at h; omega) | (simp only [List.length_cons, List.length_nil, List.length_append, List.length_map, List.length_set, List.length_replicate]; omega) | (intro h; simp [h]; done)) | (have := hm7 k (by omega); exact ⟨by unfold maxLen; omega, by omega, by omega⟩) | (have := hm7 k (by omega); unfold maxLen; omega) | (have := hm7 k (by omega); omega) | (constructor <;> omega) | exact ⟨by have := hpl p hp_; omega, by have := hql q hq_; omega⟩ | (have := hpl p hp_; have := hql q hq_; have := Cn.resL_len ((Cn.posL (L.take k) v).getD p []) ((Cn.negL (L.take k) v).getD q []) v; omega)
            refine fin_round (q + 1) ?_ ?_ ?_ ?_
            ·
             show (q + 1) ≤ (Cn.negL (L.take k) v).length ∧ Cn.okX (L.take k) v 65536 p (q + 1)
             exact ⟨by omega, by first | exact Cn.ok_skip hq_ ht hok2 | exact Cn.ok_add hq_ ht (Int.not_lt.1 hle)⟩
            ·
             show (Cn.negL (L.take k) v).length - (q + 1) < (Cn.negL (L.take k) v).length - q
             omega
            ·
             exact subE_mk (l := [.int v, .loc 604 0, .loc 605 0, .loc 608 0, .loc 609 0, .intss (Cn.negL (L.take k) v), .ints ((Cn.posL (L.take k) v).getD p []), .intss (Cn.posL (L.take k) v), .int ((Cn.posL (L.take k) v).length : Int), .int (p : Int), .intss (Cn.negL (L.take k) v), .int ((Cn.negL (L.take k) v).length : Int), .int ((q : Int) + 1)]) (m := [.int v, .loc 604 0, .loc 605 0, .loc 608 0, .loc 609 0, .intss (Cn.negL (L.take k) v), .ints ((Cn.posL (L.take k) v).getD p []), .intss (Cn.posL (L.take k) v), .int ((Cn.posL (L.take k) v).length : Int), .int (p : Int), .intss (Cn.negL (L.take k) v), .int ((Cn.negL (L.take k) v).length : Int), .int ((q + 1) : Int)]) (by kernel_rfl) (by kernel_rfl) (consE rfl (consE rfl (consE rfl (consE rfl (consE rfl (consE rfl (consE rfl (consE rfl (consE rfl (consE rfl (consE rfl (consE rfl (consE (congrArg AV.int (show ((q : Int) + 1) = ((q + 1) : Int) from (by first | rfl | omega | (simp; done)))) rfl)))))))))))))
            ·
             exact Eq.trans (show _ = [(10, .row 43 (.intss (Cn.stX (L.take k) v p q))), (11, .row 43 (.intss (Cn.uOf (L.take k) v))), (604, .box [.int 0, .im (.val (.slice none 0 0))]), (605, .box [.int 0, .im (.val (.slice none 0 0))]), (608, .box [.int N, .row 10]), (609, .box [.int v, .row 11])] from by kernel_rfl) (consH (congrArg (fun x => ((10 : Nat), x)) (congrArg (fun x => AObj.row 43 (.intss x)) (show (Cn.stX (L.take k) v p q) = (Cn.stX (L.take k) v p (q + 1)) from (by first | exact Cn.st_skip hq_ ht | exact Cn.st_add hq_ ht)))) (consH rfl (consH rfl (consH rfl (consH rfl (consH rfl rfl))))))
         ·
          skip
          have h8 := of_decide_eq_false hb8
          refine tri_exit ?_
          refine fin_then_exit ?_
          refine fin_then_exit ?_
          refine fin_block_same ?_
          refine fin_block ?_
          refine fin_then ?_
          refine tri_regD hcx [] [89] [1, 4, 5, 8, 9, 11, 87, 88] [10, 11, 604, 605, 608, 609] [Fit ((p : Int) + 1)] [(89, .int ((p : Int) + 1))] [] (by kernel_rfl) ?_ ?_
          ·
           refine (ap ?_ az)
           first | exact hck | (first | omega | exact id | exact vcNot | exact vcG | exact vcH | (intro _; omega) | exact (fun _ h => h) | (intro h; simp at h; omega) | (simp only [List.length_cons, List.length_nil, List.length_append, List.length_map, List.length_set, List.length_replicate]; omega) | (intro h; simp [h]; done)) | (have := hm7 k (by omega); exact ⟨by unfold maxLen; omega, by omega, by omega⟩) | (have := hm7 k (by omega); unfold maxLen; omega) | (have := hm7 k (by omega); omega) | (constructor <;> omega) | exact ⟨by have := hpl p hp_; omega, by have := hql q hq_; omega⟩ | (have := hpl p hp_; have := hql q hq_; have := Cn.resL_len ((Cn.posL (L.take k) v).getD p []) ((Cn.negL (L.take k) v).getD q []) v; omega)
          refine fin_round (p + 1) ?_ ?_ ?_ ?_
          ·
           show (p + 1) ≤ (Cn.posL (L.take k) v).length ∧ Cn.okX (L.take k) v 65536 (p + 1) 0
           exact ⟨by omega, Cn.ok_next hp_ (by have hqe : q = (Cn.negL (L.take k) v).length := (by omega); rw [hqe] at hok2; exact hok2)⟩
          ·
           show (Cn.posL (L.take k) v).length - (p + 1) < (Cn.posL (L.take k) v).length - p
           omega
          ·
           exact subE_mk (l := [.int v, .loc 604 0, .loc 605 0, .loc 608 0, .loc 609 0, .intss (Cn.negL (L.take k) v), .intss (Cn.posL (L.take k) v), .int ((Cn.posL (L.take k) v).length : Int), .int ((p : Int) + 1)]) (m := [.int v, .loc 604 0, .loc 605 0, .loc 608 0, .loc 609 0, .intss (Cn.negL (L.take k) v), .intss (Cn.posL (L.take k) v), .int ((Cn.posL (L.take k) v).length : Int), .int ((p + 1) : Int)]) (by kernel_rfl) (by kernel_rfl) (consE rfl (consE rfl (consE rfl (consE rfl (consE rfl (consE rfl (consE rfl (consE rfl (consE (congrArg AV.int (show ((p : Int) + 1) = ((p + 1) : Int) from (by first | rfl | omega | (simp; done)))) rfl)))))))))
          ·
           exact Eq.trans (show _ = [(10, .row 43 (.intss (Cn.stX (L.take k) v p q))), (11, .row 43 (.intss (Cn.uOf (L.take k) v))), (604, .box [.int 0, .im (.val (.slice none 0 0))]), (605, .box [.int 0, .im (.val (.slice none 0 0))]), (608, .box [.int N, .row 10]), (609, .box [.int v, .row 11])] from by kernel_rfl) (consH (congrArg (fun x => ((10 : Nat), x)) (congrArg (fun x => AObj.row 43 (.intss x)) (show (Cn.stX (L.take k) v p q) = (Cn.stX (L.take k) v (p + 1) 0) from (by rw [show q = (Cn.negL (L.take k) v).length from (by omega)]; exact Cn.st_next hp_)))) (consH rfl (consH rfl (consH rfl (consH rfl (consH rfl rfl))))))
       ·
        skip
        have h7 := of_decide_eq_false hb7
        have hpe : p = (Cn.posL (L.take k) v).length := by omega
        have hOX : Cn.outX L v 65536 = (Cn.stX (L.take k) v p 0) := by (have h9 := Cn.st_end (by rw [← hpe]; exact hok1); rw [← hpe, hkL] at h9; rw [h9, hkL])
        obtain ⟨hE, hA, hB, hC, hD⟩ := Cn.ou_ok hc0 hv (by rw [hOX]; rcases hok1 with hz | hz; (rw [hz]; omega); exact hz)
        refine tri_exit ?_
        refine fin_then_exit ?_
        refine fin_then_exit ?_
        refine fin_block_same ?_
        refine fin_then ?_
        refine tri_seq ?_
        refine tri_drawD [0, 0, 1, 7, 15] hcx hmx [(604, .to 604), (605, .to 605)] [6] [4, 5] [10, 11] [] [(6, .int 0)] [(604, .box [.int N, .row 10]), (605, .box [.int v, .row 11])] (by kernel_rfl) ?_ ?_
        ·
         exact az
        refine fin_then ?_
        refine tri_ret ?_
        refine fin_ren (ρ := [(10, .to 0), (11, .to 1), (604, .to 990), (605, .to 991)]) (keys := [4, 5, 6]) (E' := [(4, .loc 990 0), (5, .loc 991 0), (6, .int 0)]) (H' := [(0, .row 43 (.intss (Cn.stX (L.take k) v p 0))), (1, .row 43 (.intss (Cn.uOf (L.take k) v))), (990, .box [.int N, .row 0]), (991, .box [.int v, .row 1])]) (by kernel_rfl) ?_
        exact fin_ret [] rfl rfl trivial hcx (avs := [.agg [.int N, .row 0], .agg [.int v, .row 1], .int 0]) (by kernel_rfl) (congrArg AV.tup (consE (congrArg AV.agg (consE (congrArg AV.int (show N = (Cn.ouN N L v) from (by first | exact hA.symm | exact hC.symm | exact hE.symm))) rfl)) (consE (congrArg AV.agg (consE (congrArg AV.int (show v = (Cn.ouV N L v) from (by first | exact hA.symm | exact hC.symm | exact hE.symm))) rfl)) (consE (congrArg AV.int (show 0 = (Cn.ouE N L v) from (by first | exact hA.symm | exact hC.symm | exact hE.symm))) rfl)))) [true, true] (Eq.trans (show _ = [some (.row 43 (.intss (Cn.stX (L.take k) v p 0))), some (.row 43 (.intss (Cn.uOf (L.take k) v)))] from by kernel_rfl) (consO (congrArg some (congrArg (fun x => AObj.row 43 (.intss x)) (show (Cn.stX (L.take k) v p 0) = (Cn.ouX N L v) from (by first | exact hB.symm | rw [hB, hOX])))) (consO (congrArg some (congrArg (fun x => AObj.row 43 (.intss x)) (show (Cn.uOf (L.take k) v) = (Cn.ouU N L v) from (by first | exact hD.symm | rw [hD, hkL])))) rfl)))
 ·
  cases hσ
end Go.Proofs.Ythhfdjcaafckbaa.En
