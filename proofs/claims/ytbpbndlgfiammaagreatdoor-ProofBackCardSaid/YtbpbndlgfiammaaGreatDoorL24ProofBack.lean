/- The law ProofBack. -/
import Derived.Test.YtbpbndlgfiammaaGreatDoorLive24S
import Derived.Test.YtbpbndlgfiammaaGreatDoorRef24A
import Derived.Test.YtbpbndlgfiammaaGreatDoorLaw24P
import Derived.Test.YtbpbndlgfiammaaGreatDoorRef24B
import Derived.Test.YtbpbndlgfiammaaGreatDoorTxtC
namespace Go.Proofs.YtbpbndlgfiammaaGreatDoor.En
open Go Go.RowKit
set_option linter.unusedVariables false
set_option linter.unusedSimpArgs false
set_option linter.unnecessarySimpa false
def tyL24ProofBack : List (Nat × TD) := [(3, ⟨1, false, [.int .i64 0], [], none, 8, false, 1, 1⟩),
  (5, ⟨1, false, [.int .u8 0], [], none, 1, false, 2, 8⟩),
  (9, ⟨1, false, [.string ⟨#[]⟩], [], none, 16, false, 9, 9⟩),
  (22, ⟨1, false, [.slice none 0 0], [], some 23, 24, false, 0, 0⟩),
  (23, ⟨1, false, [.slice none 0 0], [], some 3, 24, false, 0, 3⟩),
  (28, ⟨2, true, [.int .i64 0, .slice none 0 0], [(0, 3), (1, 22)], none, 32, false, 0, 6⟩),
  (29, ⟨1, false, [.slice none 0 0], [], some 43, 24, false, 0, 0⟩),
  (31, ⟨1, false, [.int .i64 0], [], none, 8, false, 1, 1⟩),
  (34, ⟨1, false, [.slice none 0 0], [], some 5, 24, false, 0, 0⟩),
  (43, ⟨2, true, [.int .i64 0, .slice none 0 0], [(0, 3), (1, 23)], none, 32, false, 0, 7⟩)]
theorem tyL24ProofBack_ok : AllTy Tryz.prog tyL24ProofBack := ⟨⟨by kernel_rfl, by kernel_rfl, by kernel_rfl⟩, ⟨by kernel_rfl, by kernel_rfl, by kernel_rfl⟩, ⟨by kernel_rfl, by kernel_rfl, by kernel_rfl⟩, ⟨by kernel_rfl, by kernel_rfl, by kernel_rfl⟩, ⟨by kernel_rfl, by kernel_rfl, by kernel_rfl⟩, ⟨by kernel_rfl, by kernel_rfl, by kernel_rfl⟩, ⟨by kernel_rfl, by kernel_rfl, by kernel_rfl⟩, ⟨by kernel_rfl, by kernel_rfl, by kernel_rfl⟩, ⟨by kernel_rfl, by kernel_rfl, by kernel_rfl⟩, ⟨by kernel_rfl, by kernel_rfl, by kernel_rfl⟩, trivial⟩
def cx_lProofBack : Cx := ⟨tyL24ProofBack, [(13, (coeF [.ld (.intss []), .id] rFewC_σ)), (16, (coeF [.ld (.lines []), .id] rFewL_σ)), (17, (coeF [.agg [.id, .ld (.intss [])], .ld (.lines []), .ld (.ints [])] pCheck_σ)), (19, (coeF [.ld (.lines [])] pPut_σ)), (21, (coeF [.ld (.bytes [])] pGet_σ)), (23, (coeF [.ld (.lines []), .ld (.lines [])] rSame_σ)), (12, live24_σ)], true⟩
theorem cx_lProofBack_ok : CxOk Tryz.prog cx_lProofBack := cx_ok tyL24ProofBack_ok ⟨(rFewC_sound.coe [.ld (.intss []), .id] rfl), (rFewL_sound.coe [.ld (.lines []), .id] rfl), (pCheck_sound.coe [.agg [.id, .ld (.intss [])], .ld (.lines []), .ld (.ints [])] rfl), (pPut_sound.coe [.ld (.lines [])] rfl), (pGet_sound.coe [.ld (.bytes [])] rfl), (rSame_sound.coe [.ld (.lines []), .ld (.lines [])] rfl), live24_sound, trivial⟩
def lProofBack_σ : CtF
  | [.agg [.im (.val (.int .i64 N)), .im (.ls (.intss L))], .im (.ls (.lines p)), .im (.ls (.ints core)), .im (.ls (.bytes b))], [] => some ((L.length ≤ maxLen ∧ (∀ x ∈ L, x.length ≤ 17592186043904)) ∧ (p.length ≤ maxLen ∧ (∀ x ∈ p, x.2.length ≤ 17592186043904)) ∧ core.length ≤ maxLen ∧ b.length ≤ maxLen ∧ Cn.isBytes b, .bool true, [])
  | _, _ => none
theorem lProofBack_sound : Sound Tryz.prog 6 lProofBack_σ := by
 refine sound_mk (cx := cx_lProofBack) (fn := Tryz.f6) Tryz.func6 (by kernel_rfl) rfl ?_
 intro w0 G0 args os p r outs hσ hp hm0 hd0
 have hcx : CxOk Tryz.prog cx_lProofBack := cx_lProofBack_ok
 have hmx : Tryz.prog.follows .mixedOrders = true := by kernel_rfl
 unfold lProofBack_σ at hσ
 split at hσ
 ·
  rename_i N L p core b
  simp only [Option.some.injEq, Prod.mk.injEq] at hσ
  obtain ⟨rfl, rfl, rfl⟩ := hσ
  obtain ⟨wW, wO, wm, wβ, wd⟩ := w0
  replace hm0 : wm = 0 := hm0
  subst hm0
  replace hd0 : wd = [] := hd0
  subst hd0
  refine ⟨by kernel_rfl, ?_⟩
  change Tri ⟨_, _, _, _, _, _⟩ [(0, .agg [.int N, .intss L]), (1, .lines p), (2, .ints core), (3, .bytes b)] [] _ _
  obtain ⟨⟨hL, hLm⟩, ⟨hP, hPm⟩, hC, hb, hbb⟩ := hp
  have hL9 := hL
  have hP9 := hP
  have hC9 := hC
  have hb9 := hb
  unfold maxLen at hL9 hP9 hC9 hb9
  refine tri_seq ?_
  refine tri_regD hcx [(1000, .frz)] [4] [1, 2, 3] [] [] [(4, .pto [.int N, .ls (.intss L)])] [] (by kernel_rfl) ?_ ?_
  ·
   exact az
  refine fin_then ?_
  refine tri_seq ?_
  refine tri_seq ?_
  refine tri_regD hcx [] [18] [4, 1, 2, 3] [] [(True)] [(18, .bool (!true))] [] (by kernel_rfl) ?_ ?_
  ·
   refine (ap ?_ az)
   exact True.intro
  refine fin_then ?_
  refine tri_cond (b := (!true)) (by kernel_rfl) (fun hb0 => ?_) (fun hb0 => ?_)
  ·
   skip
   have h0 := hb0
   cases h0
  ·
   skip
   have h0 := (notB_f hb0)
   refine tri_skip ?_
   refine fin_then ?_
   refine tri_seq ?_
   refine tri_seq ?_
   refine tri_regD hcx [] [37] [4, 1, 2, 3] [] [(L.length ≤ maxLen ∧ (∀ x ∈ L, x.length ≤ 17592186043904) ∧ 0 ≤ (40 : Int) ∧ (40 : Int) ≤ 1000), ((!(!(Cn.fewC L (40 : Int)))) = true → ((!(!(Cn.fewC L (40 : Int)))) = true)), ((!(!(Cn.fewC L (40 : Int)))) = true → (p.length ≤ maxLen ∧ (∀ x ∈ p, x.2.length ≤ 17592186043904) ∧ 0 ≤ (40 : Int) ∧ (40 : Int) ≤ 1000)), ((!(!(Cn.fewC L (40 : Int)))) = true → ((!(!(Cn.fewC L (40 : Int)))) = true)), ((!(Cn.fewC L (40 : Int))) = false → (!(!(Cn.fewC L (40 : Int)))) = true), ((!((!(Cn.fewC L (40 : Int))) || (!(Cn.fewL p (40 : Int))))) = true → ((!((!(Cn.fewC L (40 : Int))) || (!(Cn.fewL p (40 : Int))))) = true)), ((!((!(Cn.fewC L (40 : Int))) || (!(Cn.fewL p (40 : Int))))) = true → ((!((!(Cn.fewC L (40 : Int))) || (!(Cn.fewL p (40 : Int))))) = true)), (((!(Cn.fewC L (40 : Int))) || (!(Cn.fewL p (40 : Int)))) = false → (!((!(Cn.fewC L (40 : Int))) || (!(Cn.fewL p (40 : Int))))) = true), ((!(((!(Cn.fewC L (40 : Int))) || (!(Cn.fewL p (40 : Int)))) || (decide ((core.length : Int) > 40)))) = true → ((!(((!(Cn.fewC L (40 : Int))) || (!(Cn.fewL p (40 : Int)))) || (decide ((core.length : Int) > 40)))) = true)), ((!(((!(Cn.fewC L (40 : Int))) || (!(Cn.fewL p (40 : Int)))) || (decide ((core.length : Int) > 40)))) = true → ((!(((!(Cn.fewC L (40 : Int))) || (!(Cn.fewL p (40 : Int)))) || (decide ((core.length : Int) > 40)))) = true)), ((((!(Cn.fewC L (40 : Int))) || (!(Cn.fewL p (40 : Int)))) || (decide ((core.length : Int) > 40))) = false → (!(((!(Cn.fewC L (40 : Int))) || (!(Cn.fewL p (40 : Int)))) || (decide ((core.length : Int) > 40)))) = true)] [(37, .bool ((((!(Cn.fewC L (40 : Int))) || (!(Cn.fewL p (40 : Int)))) || (decide ((core.length : Int) > 40))) || (decide ((b.length : Int) > 2000))))] [] (by kernel_rfl) ?_ ?_
   ·
    refine (ap ?_ (ap ?_ (ap ?_ (ap ?_ (ap (by exact vcNot) (ap ?_ (ap ?_ (ap (by exact vcNot) (ap ?_ (ap ?_ (ap (by exact vcNot) az)))))))))))
    all_goals
     first | exact id | exact ⟨hL, hLm, by decide, by decide⟩ | exact (fun _ => ⟨hP, hPm, by decide, by decide⟩)
   refine fin_then ?_
   refine tri_cond (b := ((((!(Cn.fewC L (40 : Int))) || (!(Cn.fewL p (40 : Int)))) || (decide ((core.length : Int) > 40))) || (decide ((b.length : Int) > 2000)))) (by kernel_rfl) (fun hb1 => ?_) (fun hb1 => ?_)
   ·
    skip
    have h1 := hb1
    skip
    refine tri_seq ?_
    refine tri_regD hcx [] [8] [] [] [] [(8, .bool true)] [] (by kernel_rfl) ?_ ?_
    ·
     exact az
    refine fin_then ?_
    refine tri_ret ?_
    refine fin_then_ret ?_
    exact fin_ret [] rfl rfl trivial hcx (avs := [.bool true]) (by kernel_rfl) rfl [] rfl
   ·
    skip
    have h1 := hb1
    obtain ⟨hf1, hf2, hcl, hbl⟩ := Cn.c_back h1
    have e1 := Cn.fewC_iff hf1
    have e2 := Cn.fewL_iff hf2
    have hsz := e2.2.1
    have hpc := Cn.pre_chk e1 e2 (core := core) (by omega)
    refine tri_skip ?_
    refine fin_then ?_
    refine tri_seq ?_
    refine tri_regD hcx [] [9, 10] [4, 1, 2, 3] [] [(Cn.szP p ≤ 1000000000)] [(9, .bytes (Cn.putV p)), (10, .int (Cn.frmV p))] [] (by kernel_rfl) ?_ ?_
    ·
     refine (ap ?_ az)
     omega
    refine fin_then ?_
    refine tri_seq ?_
    refine tri_seq ?_
    refine tri_regD hcx [] [44] [9, 4, 1, 2, 3] [] [] [(44, .bool ((Cn.frmV p) == 0))] [] (by kernel_rfl) ?_ ?_
    ·
     exact az
    refine fin_then ?_
    refine tri_cond (b := ((Cn.frmV p) == 0)) (by kernel_rfl) (fun hb2 => ?_) (fun hb2 => ?_)
    ·
     skip
     have h2 := eq_of_beq hb2
     have he : Cn.frmV p = 0 := h2
     have hG := Cn.get_putV he
     have hpv := Cn.put_fit he (by omega)
     have hps := Cn.same_pre e2
     refine tri_seq ?_
     refine tri_regD hcx [] [11, 12] [4, 1, 2, 3] [] [((Cn.putV p).length ≤ 1000000 ∧ Cn.isBytes (Cn.putV p))] [(11, .lines ((Cn.getV24 (Cn.putV p)).1)), (12, .int ((Cn.getV24 (Cn.putV p)).2))] [] (by kernel_rfl) ?_ ?_
     ·
      refine (ap ?_ az)
      omega
     refine fin_then ?_
     refine tri_seq ?_
     refine tri_drawD [0, 1, 3, 7, 7, 31, 63, 127, 255, 511, 511, 511, 4095, 511, 511, 511, 65535, 131071, 262143] hcx hmx [] [68] [3] [] [((!(((Cn.getV24 (Cn.putV p)).2) != 0)) = true → ((!(((Cn.getV24 (Cn.putV p)).2) != 0)) = true)), ((!(((Cn.getV24 (Cn.putV p)).2) != 0)) = true → ((!(((Cn.getV24 (Cn.putV p)).2) != 0)) = true)), ((!(((Cn.getV24 (Cn.putV p)).2) != 0)) = true → (((Cn.getV24 (Cn.putV p)).1).length ≤ maxLen ∧ p.length ≤ maxLen ∧ (∀ x ∈ ((Cn.getV24 (Cn.putV p)).1), x.2.length ≤ maxLen) ∧ ∀ x ∈ p, x.2.length ≤ maxLen)), ((!(((Cn.getV24 (Cn.putV p)).2) != 0)) = true → ((!(((Cn.getV24 (Cn.putV p)).2) != 0)) = true)), ((((Cn.getV24 (Cn.putV p)).2) != 0) = false → (!(((Cn.getV24 (Cn.putV p)).2) != 0)) = true), ((!((((Cn.getV24 (Cn.putV p)).2) != 0) || (!(((Cn.getV24 (Cn.putV p)).1) == p)))) = true → ((!((((Cn.getV24 (Cn.putV p)).2) != 0) || (!(((Cn.getV24 (Cn.putV p)).1) == p)))) = true)), ((!((((Cn.getV24 (Cn.putV p)).2) != 0) || (!(((Cn.getV24 (Cn.putV p)).1) == p)))) = true → ((!((((Cn.getV24 (Cn.putV p)).2) != 0) || (!(((Cn.getV24 (Cn.putV p)).1) == p)))) = true)), ((!((((Cn.getV24 (Cn.putV p)).2) != 0) || (!(((Cn.getV24 (Cn.putV p)).1) == p)))) = true → ((!((((Cn.getV24 (Cn.putV p)).2) != 0) || (!(((Cn.getV24 (Cn.putV p)).1) == p)))) = true)), ((!((((Cn.getV24 (Cn.putV p)).2) != 0) || (!(((Cn.getV24 (Cn.putV p)).1) == p)))) = true → (L.length ≤ maxLen ∧ (∀ x ∈ L, x.length ≤ 1000000000000) ∧ ((Cn.getV24 (Cn.putV p)).1).length ≤ maxLen ∧ (∀ x ∈ ((Cn.getV24 (Cn.putV p)).1), x.2.length ≤ 1000000000000) ∧ core.length ≤ 1000000000000)), ((!((((Cn.getV24 (Cn.putV p)).2) != 0) || (!(((Cn.getV24 (Cn.putV p)).1) == p)))) = true → ((!((((Cn.getV24 (Cn.putV p)).2) != 0) || (!(((Cn.getV24 (Cn.putV p)).1) == p)))) = true)), ((!((((Cn.getV24 (Cn.putV p)).2) != 0) || (!(((Cn.getV24 (Cn.putV p)).1) == p)))) = true → ((!((((Cn.getV24 (Cn.putV p)).2) != 0) || (!(((Cn.getV24 (Cn.putV p)).1) == p)))) = true)), ((!((((Cn.getV24 (Cn.putV p)).2) != 0) || (!(((Cn.getV24 (Cn.putV p)).1) == p)))) = true → ((!((((Cn.getV24 (Cn.putV p)).2) != 0) || (!(((Cn.getV24 (Cn.putV p)).1) == p)))) = true)), ((!((((Cn.getV24 (Cn.putV p)).2) != 0) || (!(((Cn.getV24 (Cn.putV p)).1) == p)))) = true → (L.length ≤ maxLen ∧ (∀ x ∈ L, x.length ≤ 1000000000000) ∧ p.length ≤ maxLen ∧ (∀ x ∈ p, x.2.length ≤ 1000000000000) ∧ core.length ≤ 1000000000000)), ((!((((Cn.getV24 (Cn.putV p)).2) != 0) || (!(((Cn.getV24 (Cn.putV p)).1) == p)))) = true → ((!((((Cn.getV24 (Cn.putV p)).2) != 0) || (!(((Cn.getV24 (Cn.putV p)).1) == p)))) = true)), ((!((((Cn.getV24 (Cn.putV p)).2) != 0) || (!(((Cn.getV24 (Cn.putV p)).1) == p)))) = true → ((!((((Cn.getV24 (Cn.putV p)).2) != 0) || (!(((Cn.getV24 (Cn.putV p)).1) == p)))) = true)), (((((Cn.getV24 (Cn.putV p)).2) != 0) || (!(((Cn.getV24 (Cn.putV p)).1) == p))) = false → (!((((Cn.getV24 (Cn.putV p)).2) != 0) || (!(((Cn.getV24 (Cn.putV p)).1) == p)))) = true)] [(68, .bool (((((Cn.getV24 (Cn.putV p)).2) != 0) || (!(((Cn.getV24 (Cn.putV p)).1) == p))) || ((Cn.chkC N L ((Cn.getV24 (Cn.putV p)).1) core) != (Cn.chkC N L p core))))] [] (by kernel_rfl) ?_ ?_
     ·
      refine (ap ?_ (ap ?_ (ap ?_ (ap ?_ (ap (by exact vcNot) (ap ?_ (ap ?_ (ap ?_ (ap ?_ (ap ?_ (ap ?_ (ap ?_ (ap ?_ (ap ?_ (ap ?_ (ap (by exact vcNot) az))))))))))))))))
      all_goals
       first | exact id | exact (fun _ => by rw [hG]; exact hps) | exact (fun _ => hpc) | exact (fun _ => by rw [hG]; exact hpc)
     refine fin_then ?_
     refine tri_cond (b := (((((Cn.getV24 (Cn.putV p)).2) != 0) || (!(((Cn.getV24 (Cn.putV p)).1) == p))) || ((Cn.chkC N L ((Cn.getV24 (Cn.putV p)).1) core) != (Cn.chkC N L p core)))) (by kernel_rfl) (fun hb3 => ?_) (fun hb3 => ?_)
     ·
      skip
      have h3 := hb3
      (exfalso; exact Cn.back_dead24 hG h3)
     ·
      skip
      have h3 := hb3
      skip
      refine tri_skip ?_
      refine fin_then ?_
      refine tri_seq ?_
      refine tri_regD hcx [] [13, 14] [3] [] [(b.length ≤ 1000000 ∧ Cn.isBytes b)] [(13, .lines ((Cn.getV24 b).1)), (14, .int ((Cn.getV24 b).2))] [] (by kernel_rfl) ?_ ?_
      ·
       refine (ap ?_ az)
       exact ⟨by omega, hbb⟩
      refine fin_then ?_
      refine tri_seq ?_
      refine tri_seq ?_
      refine tri_regD hcx [] [75] [13, 3] [] [] [(75, .bool (((Cn.getV24 b).2) != 0))] [] (by kernel_rfl) ?_ ?_
      ·
       exact az
      refine fin_then ?_
      refine tri_cond (b := (((Cn.getV24 b).2) != 0)) (by kernel_rfl) (fun hb4 => ?_) (fun hb4 => ?_)
      ·
       skip
       have h4 := bne_iff_ne.1 hb4
       have hn := Cn.gv_no h4
       refine tri_seq ?_
       refine tri_regD hcx [] [8] [] [] [] [(8, .bool ((((Cn.getV24 b).1).length : Int) == 0))] [] (by kernel_rfl) ?_ ?_
       ·
        exact az
       refine fin_then ?_
       refine tri_ret ?_
       refine fin_then_ret ?_
       exact fin_ret [] rfl rfl trivial hcx (avs := [.bool ((((Cn.getV24 b).1).length : Int) == 0)]) (by kernel_rfl) (congrArg AV.bool (show ((((Cn.getV24 b).1).length : Int) == 0) = true from (by first | rfl | (rw [hn]; rfl) | (rw [y1, y2]; simp; done) | done))) [] rfl
      ·
       skip
       have h4 := bneF hb4
       have hy : (Cn.getV24 b).2 = 0 := by simpa using h4
       obtain ⟨y1, y2, y3⟩ := Cn.gv_yes hbb hy
       refine tri_skip ?_
       refine fin_then ?_
       refine tri_seq ?_
       refine tri_regD hcx [] [15, 16] [3] [] [(Cn.szP ((Cn.getV24 b).1) ≤ 1000000000)] [(15, .bytes (Cn.putV ((Cn.getV24 b).1))), (16, .int (Cn.frmV ((Cn.getV24 b).1)))] [] (by kernel_rfl) ?_ ?_
       ·
        refine (ap ?_ az)
        omega
       refine fin_then ?_
       refine tri_seq ?_
       refine tri_regD hcx [] [8] [] [] [(((Cn.frmV ((Cn.getV24 b).1)) == 0) = true → (((Cn.frmV ((Cn.getV24 b).1)) == 0) = true)), (((Cn.frmV ((Cn.getV24 b).1)) == 0) = true → (((Cn.frmV ((Cn.getV24 b).1)) == 0) = true)), (((Cn.frmV ((Cn.getV24 b).1)) == 0) = true → (((Cn.frmV ((Cn.getV24 b).1)) == 0) = true)), (((Cn.frmV ((Cn.getV24 b).1)) == 0) = true → (((Cn.frmV ((Cn.getV24 b).1)) == 0) = true)), (((Cn.frmV ((Cn.getV24 b).1)) == 0) = true → ((Cn.frmV ((Cn.getV24 b).1)) == 0) = true)] [(8, .bool (((Cn.frmV ((Cn.getV24 b).1)) == 0) && ((strOfNums (Cn.putV ((Cn.getV24 b).1))).toList == (strOfNums b).toList)))] [] (by kernel_rfl) ?_ ?_
       ·
        refine (ap ?_ (ap ?_ (ap ?_ (ap ?_ (ap (by exact id) az)))))
        all_goals
         exact id
       refine fin_then ?_
       refine tri_ret ?_
       exact fin_ret [] rfl rfl trivial hcx (avs := [.bool (((Cn.frmV ((Cn.getV24 b).1)) == 0) && ((strOfNums (Cn.putV ((Cn.getV24 b).1))).toList == (strOfNums b).toList))]) (by kernel_rfl) (congrArg AV.bool (show (((Cn.frmV ((Cn.getV24 b).1)) == 0) && ((strOfNums (Cn.putV ((Cn.getV24 b).1))).toList == (strOfNums b).toList)) = true from (by first | rfl | (rw [hn]; rfl) | (rw [y1, y2]; simp; done) | done))) [] rfl
    ·
     skip
     have h2 := neB hb2
     skip
     refine tri_skip ?_
     refine fin_then ?_
     refine tri_seq ?_
     refine tri_regD hcx [] [13, 14] [3] [] [(b.length ≤ 1000000 ∧ Cn.isBytes b)] [(13, .lines ((Cn.getV24 b).1)), (14, .int ((Cn.getV24 b).2))] [] (by kernel_rfl) ?_ ?_
     ·
      refine (ap ?_ az)
      exact ⟨by omega, hbb⟩
     refine fin_then ?_
     refine tri_seq ?_
     refine tri_seq ?_
     refine tri_regD hcx [] [75] [13, 3] [] [] [(75, .bool (((Cn.getV24 b).2) != 0))] [] (by kernel_rfl) ?_ ?_
     ·
      exact az
     refine fin_then ?_
     refine tri_cond (b := (((Cn.getV24 b).2) != 0)) (by kernel_rfl) (fun hb5 => ?_) (fun hb5 => ?_)
     ·
      skip
      have h5 := bne_iff_ne.1 hb5
      have hn := Cn.gv_no h5
      refine tri_seq ?_
      refine tri_regD hcx [] [8] [] [] [] [(8, .bool ((((Cn.getV24 b).1).length : Int) == 0))] [] (by kernel_rfl) ?_ ?_
      ·
       exact az
      refine fin_then ?_
      refine tri_ret ?_
      refine fin_then_ret ?_
      exact fin_ret [] rfl rfl trivial hcx (avs := [.bool ((((Cn.getV24 b).1).length : Int) == 0)]) (by kernel_rfl) (congrArg AV.bool (show ((((Cn.getV24 b).1).length : Int) == 0) = true from (by first | rfl | (rw [hn]; rfl) | (rw [y1, y2]; simp; done) | done))) [] rfl
     ·
      skip
      have h5 := bneF hb5
      have hy : (Cn.getV24 b).2 = 0 := by simpa using h5
      obtain ⟨y1, y2, y3⟩ := Cn.gv_yes hbb hy
      refine tri_skip ?_
      refine fin_then ?_
      refine tri_seq ?_
      refine tri_regD hcx [] [15, 16] [3] [] [(Cn.szP ((Cn.getV24 b).1) ≤ 1000000000)] [(15, .bytes (Cn.putV ((Cn.getV24 b).1))), (16, .int (Cn.frmV ((Cn.getV24 b).1)))] [] (by kernel_rfl) ?_ ?_
      ·
       refine (ap ?_ az)
       omega
      refine fin_then ?_
      refine tri_seq ?_
      refine tri_regD hcx [] [8] [] [] [(((Cn.frmV ((Cn.getV24 b).1)) == 0) = true → (((Cn.frmV ((Cn.getV24 b).1)) == 0) = true)), (((Cn.frmV ((Cn.getV24 b).1)) == 0) = true → (((Cn.frmV ((Cn.getV24 b).1)) == 0) = true)), (((Cn.frmV ((Cn.getV24 b).1)) == 0) = true → (((Cn.frmV ((Cn.getV24 b).1)) == 0) = true)), (((Cn.frmV ((Cn.getV24 b).1)) == 0) = true → (((Cn.frmV ((Cn.getV24 b).1)) == 0) = true)), (((Cn.frmV ((Cn.getV24 b).1)) == 0) = true → ((Cn.frmV ((Cn.getV24 b).1)) == 0) = true)] [(8, .bool (((Cn.frmV ((Cn.getV24 b).1)) == 0) && ((strOfNums (Cn.putV ((Cn.getV24 b).1))).toList == (strOfNums b).toList)))] [] (by kernel_rfl) ?_ ?_
      ·
       refine (ap ?_ (ap ?_ (ap ?_ (ap ?_ (ap (by exact id) az)))))
       all_goals
        exact id
      refine fin_then ?_
      refine tri_ret ?_
      exact fin_ret [] rfl rfl trivial hcx (avs := [.bool (((Cn.frmV ((Cn.getV24 b).1)) == 0) && ((strOfNums (Cn.putV ((Cn.getV24 b).1))).toList == (strOfNums b).toList))]) (by kernel_rfl) (congrArg AV.bool (show (((Cn.frmV ((Cn.getV24 b).1)) == 0) && ((strOfNums (Cn.putV ((Cn.getV24 b).1))).toList == (strOfNums b).toList)) = true from (by first | rfl | (rw [hn]; rfl) | (rw [y1, y2]; simp; done) | done))) [] rfl
 ·
  cases hσ
end Go.Proofs.YtbpbndlgfiammaaGreatDoor.En
