/- The law CnfResolveSpec. -/
import Derived.Test.YtiokflebeojokaaGreatDoorLive14S
import Derived.Test.YtiokflebeojokaaGreatDoorLaw14Q
namespace Go.Proofs.YtiokflebeojokaaGreatDoor.En
open Go Go.RowKit
set_option linter.unusedVariables false
set_option linter.unusedSimpArgs false
set_option linter.unnecessarySimpa false
def tyL14CnfResolveSpec : List (Nat × TD) := [(3, ⟨1, false, [.int .i64 0], [], none, 8, false, 1, 1⟩),
  (25, ⟨1, false, [.slice none 0 0], [], some 3, 24, false, 0, 3⟩),
  (32, ⟨1, false, [.int .i64 0], [], none, 8, false, 1, 1⟩)]
theorem tyL14CnfResolveSpec_ok : AllTy Tryz.prog tyL14CnfResolveSpec := ⟨⟨by kernel_rfl, by kernel_rfl⟩, ⟨by kernel_rfl, by kernel_rfl⟩, ⟨by kernel_rfl, by kernel_rfl⟩, trivial⟩
def cx_lCnfResolveSpec : Cx := ⟨tyL14CnfResolveSpec, [(27, (coeF [.ld (.ints []), .ld (.ints []), .id] cResolve_σ)), (28, (coeF [.ld (.ints []), .ld (.ints []), .id] rResolve_σ)), (16, (coeF [.ld (.ints []), .ld (.ints [])] rInts_σ)), (12, live14_σ)]⟩
theorem cx_lCnfResolveSpec_ok : CxOk Tryz.prog cx_lCnfResolveSpec := cx_ok tyL14CnfResolveSpec_ok ⟨(cResolve_sound.coe [.ld (.ints []), .ld (.ints []), .id] rfl), (rResolve_sound.coe [.ld (.ints []), .ld (.ints []), .id] rfl), (rInts_sound.coe [.ld (.ints []), .ld (.ints [])] rfl), live14_sound, trivial⟩
def lCnfResolveSpec_σ : CtF
  | [.im (.ls (.ints a)), .im (.ls (.ints b)), .im (.val (.int .i64 v))], [] => some (a.length ≤ maxLen ∧ b.length ≤ maxLen ∧ Fit v, .bool true, [])
  | _, _ => none
theorem lCnfResolveSpec_sound : Sound Tryz.prog 4 lCnfResolveSpec_σ := by
 refine sound_mk (cx := cx_lCnfResolveSpec) (fn := Tryz.f4) Tryz.func4 (by kernel_rfl) rfl ?_
 intro w0 G0 args os p r outs hσ hp hm0 hd0
 have hcx : CxOk Tryz.prog cx_lCnfResolveSpec := cx_lCnfResolveSpec_ok
 unfold lCnfResolveSpec_σ at hσ
 split at hσ
 ·
  rename_i a b v
  simp only [Option.some.injEq, Prod.mk.injEq] at hσ
  obtain ⟨rfl, rfl, rfl⟩ := hσ
  obtain ⟨wW, wO, wm, wβ, wd⟩ := w0
  replace hm0 : wm = 0 := hm0
  subst hm0
  replace hd0 : wd = [] := hd0
  subst hd0
  refine ⟨by kernel_rfl, ?_⟩
  change Tri ⟨_, _, _, _, _, _⟩ [(0, .ints a), (1, .ints b), (2, .int v)] [] _ _
  obtain ⟨hm1, hm2, hv⟩ := hp
  unfold maxLen at hm1 hm2
  refine tri_seq ?_
  refine tri_regD hcx [] [] [0, 1, 2] [] [] [] [] (by kernel_rfl) ?_ ?_
  ·
   exact az
  refine fin_then ?_
  refine tri_seq ?_
  refine tri_seq ?_
  refine tri_regD hcx [] [13] [0, 1, 2] [] [(True)] [(13, .bool (!true))] [] (by kernel_rfl) ?_ ?_
  ·
   refine (ap ?_ az)
   first | trivial | exact id | exact hp | omega | exact (fun _ h => h) | (unfold maxLen; omega) | (constructor <;> omega) | exact ⟨by omega, by omega, hv⟩ | (have := Cn.resL_len a b v; unfold maxLen; omega)
  refine fin_then ?_
  refine tri_cond (b := (!true)) (by kernel_rfl) (fun hb0 => ?_) (fun hb0 => ?_)
  ·
   skip
   have h0 := hb0
   cases h0
  ·
   skip
   have h0 := (notB_f hb0)
   refine tri_skip ?_
   refine fin_then ?_
   refine tri_seq ?_
   refine tri_seq ?_
   refine tri_regD hcx [] [21] [0, 1, 2] [] [((!(decide ((a.length : Int) > 100))) = true → ((!(decide ((a.length : Int) > 100))) = true)), ((!(decide ((a.length : Int) > 100))) = true → ((!(decide ((a.length : Int) > 100))) = true)), ((decide ((a.length : Int) > 100)) = false → (!(decide ((a.length : Int) > 100))) = true)] [(21, .bool ((decide ((a.length : Int) > 100)) || (decide ((b.length : Int) > 100))))] [] (by kernel_rfl) ?_ ?_
   ·
    refine (ap ?_ (ap ?_ (ap (by exact vcNot) az)))
    all_goals
     first | trivial | exact id | exact hp | omega | exact (fun _ h => h) | (unfold maxLen; omega) | (constructor <;> omega) | exact ⟨by omega, by omega, hv⟩ | (have := Cn.resL_len a b v; unfold maxLen; omega)
   refine fin_then ?_
   refine tri_cond (b := ((decide ((a.length : Int) > 100)) || (decide ((b.length : Int) > 100)))) (by kernel_rfl) (fun hb1 => ?_) (fun hb1 => ?_)
   ·
    skip
    have h1 := hb1
    try simp only [Bool.or_eq_true, Bool.or_eq_false_iff, Bool.and_eq_true, Bool.and_eq_false_iff, Bool.not_eq_true', Bool.not_eq_false', decide_eq_true_eq, decide_eq_false_iff_not, bne_iff_ne, bne_eq_false_iff_eq, beq_iff_eq, beq_eq_false_iff_ne] at h1
    refine tri_seq ?_
    refine tri_regD hcx [] [6] [] [] [] [(6, .bool true)] [] (by kernel_rfl) ?_ ?_
    ·
     exact az
    refine fin_then ?_
    refine tri_ret ?_
    refine fin_then_ret ?_
    exact fin_ret [] rfl rfl trivial hcx (avs := [.bool true]) (by kernel_rfl) rfl [] rfl
   ·
    skip
    have h1 := hb1
    have hz : a.length ≤ 100 ∧ b.length ≤ 100 := by have hz := h1; rw [Bool.or_eq_false_iff] at hz; simp at hz; omega
    refine tri_skip ?_
    refine fin_then ?_
    refine tri_seq ?_
    refine tri_regD hcx [(1003, .to 226)] [7, 8] [0, 1, 2] [] [(a.length ≤ 100000 ∧ b.length ≤ 100000 ∧ Fit v)] [(7, .row 226), (8, .int (Cn.resE a b v))] [(226, .row 3 (.ints (Cn.resL a b v)))] (by kernel_rfl) ?_ ?_
    ·
     refine (ap ?_ az)
     first | trivial | exact id | exact hp | omega | exact (fun _ h => h) | (unfold maxLen; omega) | (constructor <;> omega) | exact ⟨by omega, by omega, hv⟩ | (have := Cn.resL_len a b v; unfold maxLen; omega)
    refine fin_then ?_
    refine tri_seq ?_
    refine tri_regD hcx [] [9, 10] [7, 8] [226] [(a.length ≤ 100000 ∧ b.length ≤ 100000)] [(9, .ints (Cn.resL a b v)), (10, .int (Cn.resE a b v))] [] (by kernel_rfl) ?_ ?_
    ·
     refine (ap ?_ az)
     first | trivial | exact id | exact hp | omega | exact (fun _ h => h) | (unfold maxLen; omega) | (constructor <;> omega) | exact ⟨by omega, by omega, hv⟩ | (have := Cn.resL_len a b v; unfold maxLen; omega)
    refine fin_then ?_
    refine tri_seq ?_
    refine tri_regD hcx [] [11] [10, 8] [] [((Cn.resL a b v).length ≤ maxLen)] [(11, .bool (decide ((Cn.resL a b v) = (Cn.resL a b v))))] [] (by kernel_rfl) ?_ ?_
    ·
     refine (ap ?_ az)
     first | trivial | exact id | exact hp | omega | exact (fun _ h => h) | (unfold maxLen; omega) | (constructor <;> omega) | exact ⟨by omega, by omega, hv⟩ | (have := Cn.resL_len a b v; unfold maxLen; omega)
    refine fin_then ?_
    refine tri_seq ?_
    refine tri_regD hcx [] [6] [] [] [((decide ((Cn.resL a b v) = (Cn.resL a b v))) = true → ((decide ((Cn.resL a b v) = (Cn.resL a b v))) = true)), ((decide ((Cn.resL a b v) = (Cn.resL a b v))) = true → ((decide ((Cn.resL a b v) = (Cn.resL a b v))) = true)), ((decide ((Cn.resL a b v) = (Cn.resL a b v))) = true → (decide ((Cn.resL a b v) = (Cn.resL a b v))) = true)] [(6, .bool ((decide ((Cn.resL a b v) = (Cn.resL a b v))) && ((Cn.resE a b v) == (Cn.resE a b v))))] [] (by kernel_rfl) ?_ ?_
    ·
     refine (ap ?_ (ap ?_ (ap (by exact id) az)))
     all_goals
      first | trivial | exact id | exact hp | omega | exact (fun _ h => h) | (unfold maxLen; omega) | (constructor <;> omega) | exact ⟨by omega, by omega, hv⟩ | (have := Cn.resL_len a b v; unfold maxLen; omega)
    refine fin_then ?_
    refine tri_ret ?_
    exact fin_ret [] rfl rfl trivial hcx (avs := [.bool ((decide ((Cn.resL a b v) = (Cn.resL a b v))) && ((Cn.resE a b v) == (Cn.resE a b v)))]) (by kernel_rfl) (congrArg AV.bool (show ((decide ((Cn.resL a b v) = (Cn.resL a b v))) && ((Cn.resE a b v) == (Cn.resE a b v))) = true from (by first | rfl | simp))) [] rfl
 ·
  cases hσ
end Go.Proofs.YtiokflebeojokaaGreatDoor.En
