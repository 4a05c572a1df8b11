/- The law CnfDimacsSpec. -/
import Derived.Test.YtiokflebeojokaaGreatDoorLive14S
import Derived.Test.YtiokflebeojokaaGreatDoorSpec14S
import Derived.Test.YtiokflebeojokaaGreatDoorFewZ
namespace Go.Proofs.YtiokflebeojokaaGreatDoor.En
open Go Go.RowKit
set_option linter.unusedVariables false
set_option linter.unusedSimpArgs false
set_option linter.unnecessarySimpa false
attribute [local irreducible] Cn.getV Cn.wordsV Cn.putB Cn.chkV
def tyL14CnfDimacsSpec : List (Nat × TD) := [(3, ⟨1, false, [.int .i64 0], [], none, 8, false, 1, 1⟩),
  (5, ⟨1, false, [.int .u8 0], [], none, 1, false, 2, 8⟩),
  (9, ⟨1, false, [.string ⟨#[]⟩], [], none, 16, false, 9, 9⟩),
  (22, ⟨1, false, [.slice none 0 0], [], some 25, 24, false, 0, 0⟩),
  (24, ⟨2, true, [.int .i64 0, .slice none 0 0], [(0, 3), (1, 22)], none, 32, false, 0, 6⟩),
  (25, ⟨1, false, [.slice none 0 0], [], some 3, 24, false, 0, 3⟩),
  (32, ⟨1, false, [.int .i64 0], [], none, 8, false, 1, 1⟩),
  (41, ⟨1, false, [.slice none 0 0], [], some 5, 24, false, 0, 0⟩)]
theorem tyL14CnfDimacsSpec_ok : AllTy Tryz.prog tyL14CnfDimacsSpec := ⟨⟨by kernel_rfl, by kernel_rfl⟩, ⟨by kernel_rfl, by kernel_rfl⟩, ⟨by kernel_rfl, by kernel_rfl⟩, ⟨by kernel_rfl, by kernel_rfl⟩, ⟨by kernel_rfl, by kernel_rfl⟩, ⟨by kernel_rfl, by kernel_rfl⟩, ⟨by kernel_rfl, by kernel_rfl⟩, ⟨by kernel_rfl, by kernel_rfl⟩, trivial⟩
def cx_lCnfDimacsSpec : Cx := ⟨tyL14CnfDimacsSpec, [(31, (coeF [.ld (.bytes [])] cGet_σ)), (32, (coeF [.ld (.bytes [])] rGet_σ)), (30, (coeF [.agg [.id, .ld (.intss [])]] rPut_σ)), (20, (coeF [.agg [.id, .ld (.intss [])], .agg [.id, .ld (.intss [])]] rSame_σ)), (13, (coeF [.agg [.id, .ld (.intss [])]] lFew_σ)), (12, live14_σ), (29, sPut)], false⟩
theorem cx_lCnfDimacsSpec_ok : CxOk Tryz.prog cx_lCnfDimacsSpec := cx_ok tyL14CnfDimacsSpec_ok ⟨(cGet_sound.coe [.ld (.bytes [])] rfl), (rGet_sound.coe [.ld (.bytes [])] rfl), (rPut_sound.coe [.agg [.id, .ld (.intss [])]] rfl), (rSame_sound.coe [.agg [.id, .ld (.intss [])], .agg [.id, .ld (.intss [])]] rfl), (lFew_sound.coe [.agg [.id, .ld (.intss [])]] rfl), live14_sound, sPut_sound, trivial⟩
def lCnfDimacsSpec_σ : CtF
  | [.agg [.im (.val (.int .i64 N)), .im (.ls (.intss L))], .im (.ls (.bytes b))], [] => some (L.length ≤ maxLen ∧ (∀ l ∈ L, l.length ≤ 17592186043904) ∧ b.length ≤ maxLen ∧ Cn.isBytes b, .bool true, [])
  | _, _ => none
theorem lCnfDimacsSpec_sound : Sound Tryz.prog 5 lCnfDimacsSpec_σ := by
 refine sound_mk (cx := cx_lCnfDimacsSpec) (fn := Tryz.f5) Tryz.func5 (by kernel_rfl) rfl ?_
 intro w0 G0 args os p r outs hσ hp hm0 hd0
 have hcx : CxOk Tryz.prog cx_lCnfDimacsSpec := cx_lCnfDimacsSpec_ok
 unfold lCnfDimacsSpec_σ at hσ
 split at hσ
 ·
  rename_i N L b
  simp only [Option.some.injEq, Prod.mk.injEq] at hσ
  obtain ⟨rfl, rfl, rfl⟩ := hσ
  obtain ⟨wW, wO, wm, wβ, wd⟩ := w0
  replace hm0 : wm = 0 := hm0
  subst hm0
  replace hd0 : wd = [] := hd0
  subst hd0
  refine ⟨by kernel_rfl, ?_⟩
  change Tri ⟨_, _, _, _, _, _⟩ [(0, .agg [.int N, .intss L]), (1, .bytes b)] [] _ _
  obtain ⟨hL, hLm, hb, hbb⟩ := hp
  have hb9 := hb
  unfold maxLen at hb9
  refine tri_seq ?_
  refine tri_regD hcx [(1000, .frz)] [2] [1] [] [] [(2, .pto [.int N, .ls (.intss L)])] [] (by kernel_rfl) ?_ ?_
  ·
   exact az
  refine fin_then ?_
  refine tri_seq ?_
  refine tri_seq ?_
  refine tri_regD hcx [] [15] [2, 1] [] [(True)] [(15, .bool (!true))] [] (by kernel_rfl) ?_ ?_
  ·
   refine (ap ?_ az)
   exact True.intro
  refine fin_then ?_
  refine tri_cond (b := (!true)) (by kernel_rfl) (fun hb0 => ?_) (fun hb0 => ?_)
  ·
   skip
   have h0 := hb0
   cases h0
  ·
   skip
   have h0 := (notB_f hb0)
   refine tri_skip ?_
   refine fin_then ?_
   refine tri_seq ?_
   refine tri_seq ?_
   refine tri_regD hcx [] [23] [2, 1] [] [(L.length ≤ maxLen), ((!(!(Cn.fewP L))) = true → ((!(!(Cn.fewP L))) = true)), ((!(!(Cn.fewP L))) = true → ((!(!(Cn.fewP L))) = true)), ((!(Cn.fewP L)) = false → (!(!(Cn.fewP L))) = true)] [(23, .bool ((!(Cn.fewP L)) || (decide ((b.length : Int) > 3000))))] [] (by kernel_rfl) ?_ ?_
   ·
    refine (ap ?_ (ap ?_ (ap ?_ (ap (by exact vcNot) az))))
    all_goals
     first | exact id | exact hL
   refine fin_then ?_
   refine tri_cond (b := ((!(Cn.fewP L)) || (decide ((b.length : Int) > 3000)))) (by kernel_rfl) (fun hb1 => ?_) (fun hb1 => ?_)
   ·
    skip
    have h1 := hb1
    skip
    refine tri_seq ?_
    refine tri_regD hcx [] [4] [] [] [] [(4, .bool true)] [] (by kernel_rfl) ?_ ?_
    ·
     exact az
    refine fin_then ?_
    refine tri_ret ?_
    refine fin_then_ret ?_
    exact fin_ret [] rfl rfl trivial hcx (avs := [.bool true]) (by kernel_rfl) rfl [] rfl
   ·
    skip
    have h1 := hb1
    have hz : Cn.fewP L = true ∧ b.length ≤ 3000 := by have hz := h1; simp only [Bool.or_eq_false_iff, Bool.not_eq_false'] at hz; exact ⟨hz.1, by have := hz.2; simp at this; omega⟩
    obtain ⟨hs1, hs2⟩ := Cn.few_size hLm hz.1
    have hz2 := hz.2
    have hLs : ∀ l ∈ L, l.length ≤ 1000 := fun l hl => by have := Cn.size_mem hl; omega
    have hgl := Cn.get_lens hz2
    refine tri_skip ?_
    refine fin_then ?_
    refine tri_seq ?_
    refine tri_regD hcx [] [5, 6] [2, 1] [] [(L.length ≤ 1000000 ∧ (∀ l ∈ L, l.length ≤ 1000000000) ∧ Cn.sizeL L ≤ 1000000000)] [(5, .bytes (if Cn.chkV N L = 0 then Cn.putB N L else [])), (6, .int (Cn.chkV N L))] [] (by kernel_rfl) ?_ ?_
    ·
     refine (ap ?_ az)
     exact ⟨by omega, fun l hl => by have := hLs l hl; omega, by omega⟩
    refine fin_then ?_
    refine tri_seq ?_
    refine tri_regD hcx [] [7, 8] [5, 6, 1] [] [(L.length ≤ 1000000 ∧ (∀ l ∈ L, l.length ≤ 1000000000) ∧ Cn.sizeL L ≤ 1000000000)] [(7, .bytes (if Cn.chkV N L = 0 then Cn.putB N L else [])), (8, .int (Cn.chkV N L))] [] (by kernel_rfl) ?_ ?_
    ·
     refine (ap ?_ az)
     exact ⟨by omega, fun l hl => by have := hLs l hl; omega, by omega⟩
    refine fin_then ?_
    refine tri_seq ?_
    refine tri_regD hcx [(1005, .to 609)] [9, 10] [7, 8, 5, 6, 1] [] [(b.length ≤ 100000 ∧ Cn.isBytes b)] [(9, .loc 609 0), (10, .int ((Cn.getV (Cn.wordsV b)).2.2))] [(609, .box [.int ((Cn.getV (Cn.wordsV b)).1), .intss ((Cn.getV (Cn.wordsV b)).2.1)])] (by kernel_rfl) ?_ ?_
    ·
     refine (ap ?_ az)
     exact ⟨by omega, hbb⟩
    refine fin_then ?_
    refine tri_seq ?_
    refine tri_regD hcx [(1005, .to 611)] [11, 12] [9, 10, 7, 8, 5, 6] [609] [(b.length ≤ 100000 ∧ Cn.isBytes b)] [(11, .loc 611 0), (12, .int ((Cn.getV (Cn.wordsV b)).2.2))] [(611, .box [.int ((Cn.getV (Cn.wordsV b)).1), .intss ((Cn.getV (Cn.wordsV b)).2.1)])] (by kernel_rfl) ?_ ?_
    ·
     refine (ap ?_ az)
     exact ⟨by omega, hbb⟩
    refine fin_then ?_
    refine tri_seq ?_
    refine tri_regD hcx [] [13] [12, 10, 7, 8, 5, 6] [] [(((Cn.getV (Cn.wordsV b)).2.1).length ≤ maxLen ∧ ∀ l ∈ ((Cn.getV (Cn.wordsV b)).2.1), l.length ≤ maxLen)] [(13, .bool ((((Cn.getV (Cn.wordsV b)).1) == ((Cn.getV (Cn.wordsV b)).1)) && decide (((Cn.getV (Cn.wordsV b)).2.1) = ((Cn.getV (Cn.wordsV b)).2.1))))] [] (by kernel_rfl) ?_ ?_
    ·
     refine (ap ?_ az)
     exact hgl
    refine fin_then ?_
    refine tri_seq ?_
    refine tri_regD hcx [] [4] [] [] [(((strOfNums (if Cn.chkV N L = 0 then Cn.putB N L else [])).toList == (strOfNums (if Cn.chkV N L = 0 then Cn.putB N L else [])).toList) = true → (((strOfNums (if Cn.chkV N L = 0 then Cn.putB N L else [])).toList == (strOfNums (if Cn.chkV N L = 0 then Cn.putB N L else [])).toList) = true)), (((strOfNums (if Cn.chkV N L = 0 then Cn.putB N L else [])).toList == (strOfNums (if Cn.chkV N L = 0 then Cn.putB N L else [])).toList) = true → (((strOfNums (if Cn.chkV N L = 0 then Cn.putB N L else [])).toList == (strOfNums (if Cn.chkV N L = 0 then Cn.putB N L else [])).toList) = true)), (((strOfNums (if Cn.chkV N L = 0 then Cn.putB N L else [])).toList == (strOfNums (if Cn.chkV N L = 0 then Cn.putB N L else [])).toList) = true → ((strOfNums (if Cn.chkV N L = 0 then Cn.putB N L else [])).toList == (strOfNums (if Cn.chkV N L = 0 then Cn.putB N L else [])).toList) = true), ((((strOfNums (if Cn.chkV N L = 0 then Cn.putB N L else [])).toList == (strOfNums (if Cn.chkV N L = 0 then Cn.putB N L else [])).toList) && ((Cn.chkV N L) == (Cn.chkV N L))) = true → (((strOfNums (if Cn.chkV N L = 0 then Cn.putB N L else [])).toList == (strOfNums (if Cn.chkV N L = 0 then Cn.putB N L else [])).toList) && ((Cn.chkV N L) == (Cn.chkV N L))) = true), (((((strOfNums (if Cn.chkV N L = 0 then Cn.putB N L else [])).toList == (strOfNums (if Cn.chkV N L = 0 then Cn.putB N L else [])).toList) && ((Cn.chkV N L) == (Cn.chkV N L))) && ((((Cn.getV (Cn.wordsV b)).1) == ((Cn.getV (Cn.wordsV b)).1)) && decide (((Cn.getV (Cn.wordsV b)).2.1) = ((Cn.getV (Cn.wordsV b)).2.1)))) = true → (((((strOfNums (if Cn.chkV N L = 0 then Cn.putB N L else [])).toList == (strOfNums (if Cn.chkV N L = 0 then Cn.putB N L else [])).toList) && ((Cn.chkV N L) == (Cn.chkV N L))) && ((((Cn.getV (Cn.wordsV b)).1) == ((Cn.getV (Cn.wordsV b)).1)) && decide (((Cn.getV (Cn.wordsV b)).2.1) = ((Cn.getV (Cn.wordsV b)).2.1)))) = true)), (((((strOfNums (if Cn.chkV N L = 0 then Cn.putB N L else [])).toList == (strOfNums (if Cn.chkV N L = 0 then Cn.putB N L else [])).toList) && ((Cn.chkV N L) == (Cn.chkV N L))) && ((((Cn.getV (Cn.wordsV b)).1) == ((Cn.getV (Cn.wordsV b)).1)) && decide (((Cn.getV (Cn.wordsV b)).2.1) = ((Cn.getV (Cn.wordsV b)).2.1)))) = true → (((((strOfNums (if Cn.chkV N L = 0 then Cn.putB N L else [])).toList == (strOfNums (if Cn.chkV N L = 0 then Cn.putB N L else [])).toList) && ((Cn.chkV N L) == (Cn.chkV N L))) && ((((Cn.getV (Cn.wordsV b)).1) == ((Cn.getV (Cn.wordsV b)).1)) && decide (((Cn.getV (Cn.wordsV b)).2.1) = ((Cn.getV (Cn.wordsV b)).2.1)))) = true)), (((((strOfNums (if Cn.chkV N L = 0 then Cn.putB N L else [])).toList == (strOfNums (if Cn.chkV N L = 0 then Cn.putB N L else [])).toList) && ((Cn.chkV N L) == (Cn.chkV N L))) && ((((Cn.getV (Cn.wordsV b)).1) == ((Cn.getV (Cn.wordsV b)).1)) && decide (((Cn.getV (Cn.wordsV b)).2.1) = ((Cn.getV (Cn.wordsV b)).2.1)))) = true → ((((strOfNums (if Cn.chkV N L = 0 then Cn.putB N L else [])).toList == (strOfNums (if Cn.chkV N L = 0 then Cn.putB N L else [])).toList) && ((Cn.chkV N L) == (Cn.chkV N L))) && ((((Cn.getV (Cn.wordsV b)).1) == ((Cn.getV (Cn.wordsV b)).1)) && decide (((Cn.getV (Cn.wordsV b)).2.1) = ((Cn.getV (Cn.wordsV b)).2.1)))) = true)] [(4, .bool (((((strOfNums (if Cn.chkV N L = 0 then Cn.putB N L else [])).toList == (strOfNums (if Cn.chkV N L = 0 then Cn.putB N L else [])).toList) && ((Cn.chkV N L) == (Cn.chkV N L))) && ((((Cn.getV (Cn.wordsV b)).1) == ((Cn.getV (Cn.wordsV b)).1)) && decide (((Cn.getV (Cn.wordsV b)).2.1) = ((Cn.getV (Cn.wordsV b)).2.1)))) && (((Cn.getV (Cn.wordsV b)).2.2) == ((Cn.getV (Cn.wordsV b)).2.2))))] [] (by kernel_rfl) ?_ ?_
    ·
     refine (ap ?_ (ap ?_ (ap (by exact id) (ap (by exact id) (ap ?_ (ap ?_ (ap (by exact id) az)))))))
     all_goals
      exact id
    refine fin_then ?_
    refine tri_ret ?_
    exact fin_ret [] rfl rfl trivial hcx (avs := [.bool (((((strOfNums (if Cn.chkV N L = 0 then Cn.putB N L else [])).toList == (strOfNums (if Cn.chkV N L = 0 then Cn.putB N L else [])).toList) && ((Cn.chkV N L) == (Cn.chkV N L))) && ((((Cn.getV (Cn.wordsV b)).1) == ((Cn.getV (Cn.wordsV b)).1)) && decide (((Cn.getV (Cn.wordsV b)).2.1) = ((Cn.getV (Cn.wordsV b)).2.1)))) && (((Cn.getV (Cn.wordsV b)).2.2) == ((Cn.getV (Cn.wordsV b)).2.2)))]) (by kernel_rfl) (congrArg AV.bool (show (((((strOfNums (if Cn.chkV N L = 0 then Cn.putB N L else [])).toList == (strOfNums (if Cn.chkV N L = 0 then Cn.putB N L else [])).toList) && ((Cn.chkV N L) == (Cn.chkV N L))) && ((((Cn.getV (Cn.wordsV b)).1) == ((Cn.getV (Cn.wordsV b)).1)) && decide (((Cn.getV (Cn.wordsV b)).2.1) = ((Cn.getV (Cn.wordsV b)).2.1)))) && (((Cn.getV (Cn.wordsV b)).2.2) == ((Cn.getV (Cn.wordsV b)).2.2))) = true from (by simp))) [] rfl
 ·
  cases hσ
end Go.Proofs.YtiokflebeojokaaGreatDoor.En
