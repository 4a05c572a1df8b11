/- The law ProofTexts. -/
import Derived.Test.YtbpbndlgfiammaaGreatDoorLive24S
import Derived.Test.YtbpbndlgfiammaaGreatDoorRef24A
import Derived.Test.YtbpbndlgfiammaaGreatDoorLaw24P
import Derived.Test.YtbpbndlgfiammaaGreatDoorRef24B
import Derived.Test.YtbpbndlgfiammaaGreatDoorRef24C
import Derived.Test.YtbpbndlgfiammaaGreatDoorRef24D
import Derived.Test.YtbpbndlgfiammaaGreatDoorTxtC
namespace Go.Proofs.YtbpbndlgfiammaaGreatDoor.En
open Go Go.RowKit
set_option linter.unusedVariables false
set_option linter.unusedSimpArgs false
set_option linter.unnecessarySimpa false
def tyL24ProofTexts : List (Nat × TD) := [(3, ⟨1, false, [.int .i64 0], [], none, 8, false, 1, 1⟩),
  (5, ⟨1, false, [.int .u8 0], [], none, 1, false, 2, 8⟩),
  (9, ⟨1, false, [.string ⟨#[]⟩], [], none, 16, false, 9, 9⟩),
  (23, ⟨1, false, [.slice none 0 0], [], some 3, 24, false, 0, 3⟩),
  (29, ⟨1, false, [.slice none 0 0], [], some 43, 24, false, 0, 0⟩),
  (31, ⟨1, false, [.int .i64 0], [], none, 8, false, 1, 1⟩),
  (34, ⟨1, false, [.slice none 0 0], [], some 5, 24, false, 0, 0⟩),
  (43, ⟨2, true, [.int .i64 0, .slice none 0 0], [(0, 3), (1, 23)], none, 32, false, 0, 7⟩)]
theorem tyL24ProofTexts_ok : AllTy Tryz.prog tyL24ProofTexts := ⟨⟨by kernel_rfl, by kernel_rfl, by kernel_rfl⟩, ⟨by kernel_rfl, by kernel_rfl, by kernel_rfl⟩, ⟨by kernel_rfl, by kernel_rfl, by kernel_rfl⟩, ⟨by kernel_rfl, by kernel_rfl, by kernel_rfl⟩, ⟨by kernel_rfl, by kernel_rfl, by kernel_rfl⟩, ⟨by kernel_rfl, by kernel_rfl, by kernel_rfl⟩, ⟨by kernel_rfl, by kernel_rfl, by kernel_rfl⟩, ⟨by kernel_rfl, by kernel_rfl, by kernel_rfl⟩, trivial⟩
def cx_lProofTexts : Cx := ⟨tyL24ProofTexts, [(16, (coeF [.ld (.lines []), .id] rFewL_σ)), (19, (coeF [.ld (.lines [])] pPut_σ)), (21, (coeF [.ld (.bytes [])] pGet_σ)), (23, (coeF [.ld (.lines []), .ld (.lines [])] rSame_σ)), (12, live24_σ), (20, (coeF [.ld (.lines [])] rPut24_σ)), (22, (coeF [.ld (.bytes [])] rGetQ_σ))], true⟩
theorem cx_lProofTexts_ok : CxOk Tryz.prog cx_lProofTexts := cx_ok tyL24ProofTexts_ok ⟨(rFewL_sound.coe [.ld (.lines []), .id] rfl), (pPut_sound.coe [.ld (.lines [])] rfl), (pGet_sound.coe [.ld (.bytes [])] rfl), (rSame_sound.coe [.ld (.lines []), .ld (.lines [])] rfl), live24_sound, (rPut24_sound.coe [.ld (.lines [])] rfl), (rGetQ_sound.coe [.ld (.bytes [])] rfl), trivial⟩
def lProofTexts_σ : CtF
  | [.im (.ls (.lines p)), .im (.ls (.bytes b))], [] => some ((p.length ≤ maxLen ∧ (∀ x ∈ p, x.2.length ≤ 17592186043904)) ∧ b.length ≤ maxLen ∧ Cn.isBytes b, .bool true, [])
  | _, _ => none
theorem lProofTexts_sound : Sound Tryz.prog 5 lProofTexts_σ := by
 refine sound_mk (cx := cx_lProofTexts) (fn := Tryz.f5) Tryz.func5 (by kernel_rfl) rfl ?_
 intro w0 G0 args os p r outs hσ hp hm0 hd0
 have hcx : CxOk Tryz.prog cx_lProofTexts := cx_lProofTexts_ok
 unfold lProofTexts_σ at hσ
 split at hσ
 ·
  rename_i p b
  simp only [Option.some.injEq, Prod.mk.injEq] at hσ
  obtain ⟨rfl, rfl, rfl⟩ := hσ
  obtain ⟨wW, wO, wm, wβ, wd⟩ := w0
  replace hm0 : wm = 0 := hm0
  subst hm0
  replace hd0 : wd = [] := hd0
  subst hd0
  refine ⟨by kernel_rfl, ?_⟩
  change Tri ⟨_, _, _, _, _, _⟩ [(0, .lines p), (1, .bytes b)] [] _ _
  obtain ⟨⟨hP, hPm⟩, hb, hbb⟩ := hp
  have hP9 := hP
  have hb9 := hb
  unfold maxLen at hP9 hb9
  refine tri_seq ?_
  refine tri_regD hcx [] [] [0, 1] [] [] [] [] (by kernel_rfl) ?_ ?_
  ·
   exact az
  refine fin_then ?_
  refine tri_seq ?_
  refine tri_seq ?_
  refine tri_regD hcx [] [14] [0, 1] [] [(True)] [(14, .bool (!true))] [] (by kernel_rfl) ?_ ?_
  ·
   refine (ap ?_ az)
   first | omega | exact True.intro | exact id | exact (fun _ h => h) | exact ⟨hP, hPm, by decide, by decide⟩ | exact ⟨by omega, hbb⟩ | exact hgf | exact (fun _ => hgf) | (constructor <;> omega) | (intro _; constructor <;> omega) | done
  refine fin_then ?_
  refine tri_cond (b := (!true)) (by kernel_rfl) (fun hb0 => ?_) (fun hb0 => ?_)
  ·
   skip
   have h0 := hb0
   cases h0
  ·
   skip
   have h0 := (notB_f hb0)
   refine tri_skip ?_
   refine fin_then ?_
   refine tri_seq ?_
   refine tri_seq ?_
   refine tri_regD hcx [] [22] [0, 1] [] [(p.length ≤ maxLen ∧ (∀ x ∈ p, x.2.length ≤ 17592186043904) ∧ 0 ≤ (200 : Int) ∧ (200 : Int) ≤ 1000), ((!(!(Cn.fewL p (200 : Int)))) = true → ((!(!(Cn.fewL p (200 : Int)))) = true)), ((!(!(Cn.fewL p (200 : Int)))) = true → ((!(!(Cn.fewL p (200 : Int)))) = true)), ((!(Cn.fewL p (200 : Int))) = false → (!(!(Cn.fewL p (200 : Int)))) = true)] [(22, .bool ((!(Cn.fewL p (200 : Int))) || (decide ((b.length : Int) > 2000))))] [] (by kernel_rfl) ?_ ?_
   ·
    refine (ap ?_ (ap ?_ (ap ?_ (ap (by exact vcNot) az))))
    all_goals
     first | omega | exact True.intro | exact id | exact (fun _ h => h) | exact ⟨hP, hPm, by decide, by decide⟩ | exact ⟨by omega, hbb⟩ | exact hgf | exact (fun _ => hgf) | (constructor <;> omega) | (intro _; constructor <;> omega) | done
   refine fin_then ?_
   refine tri_cond (b := ((!(Cn.fewL p (200 : Int))) || (decide ((b.length : Int) > 2000)))) (by kernel_rfl) (fun hb1 => ?_) (fun hb1 => ?_)
   ·
    skip
    have h1 := hb1
    skip
    refine tri_seq ?_
    refine tri_regD hcx [] [4] [] [] [] [(4, .bool true)] [] (by kernel_rfl) ?_ ?_
    ·
     exact az
    refine fin_then ?_
    refine tri_ret ?_
    refine fin_then_ret ?_
    exact fin_ret [] rfl rfl trivial hcx (avs := [.bool true]) (by kernel_rfl) rfl [] rfl
   ·
    skip
    have h1 := hb1
    obtain ⟨hf2, hbl⟩ := Cn.c_texts h1
    have e2 := Cn.fewL_iff hf2
    have hsz := e2.2.1
    have hgf := Cn.gv_fit hbb (by omega)
    refine tri_skip ?_
    refine fin_then ?_
    refine tri_seq ?_
    refine tri_regD hcx [] [5, 6] [0, 1] [] [(Cn.szP p ≤ 1000000000)] [(5, .bytes (Cn.putV p)), (6, .int (Cn.frmV p))] [] (by kernel_rfl) ?_ ?_
    ·
     refine (ap ?_ az)
     first | omega | exact True.intro | exact id | exact (fun _ h => h) | exact ⟨hP, hPm, by decide, by decide⟩ | exact ⟨by omega, hbb⟩ | exact hgf | exact (fun _ => hgf) | (constructor <;> omega) | (intro _; constructor <;> omega) | done
    refine fin_then ?_
    refine tri_seq ?_
    refine tri_regD hcx [] [7, 8] [5, 6, 1] [] [(Cn.szP p ≤ 1000000000)] [(7, .bytes (Cn.putV p)), (8, .int (Cn.frmV p))] [] (by kernel_rfl) ?_ ?_
    ·
     refine (ap ?_ az)
     first | omega | exact True.intro | exact id | exact (fun _ h => h) | exact ⟨hP, hPm, by decide, by decide⟩ | exact ⟨by omega, hbb⟩ | exact hgf | exact (fun _ => hgf) | (constructor <;> omega) | (intro _; constructor <;> omega) | done
    refine fin_then ?_
    refine tri_seq ?_
    refine tri_regD hcx [] [9, 10] [7, 8, 5, 6, 1] [] [(b.length ≤ 1000000 ∧ Cn.isBytes b)] [(9, .lines ((Cn.getV24 b).1)), (10, .int ((Cn.getV24 b).2))] [] (by kernel_rfl) ?_ ?_
    ·
     refine (ap ?_ az)
     first | omega | exact True.intro | exact id | exact (fun _ h => h) | exact ⟨hP, hPm, by decide, by decide⟩ | exact ⟨by omega, hbb⟩ | exact hgf | exact (fun _ => hgf) | (constructor <;> omega) | (intro _; constructor <;> omega) | done
    refine fin_then ?_
    refine tri_seq ?_
    refine tri_regD hcx [] [11, 12] [9, 10, 7, 8, 5, 6] [] [(b.length ≤ 1000000 ∧ Cn.isBytes b)] [(11, .lines ((Cn.getV24 b).1)), (12, .int ((Cn.getV24 b).2))] [] (by kernel_rfl) ?_ ?_
    ·
     refine (ap ?_ az)
     first | omega | exact True.intro | exact id | exact (fun _ h => h) | exact ⟨hP, hPm, by decide, by decide⟩ | exact ⟨by omega, hbb⟩ | exact hgf | exact (fun _ => hgf) | (constructor <;> omega) | (intro _; constructor <;> omega) | done
    refine fin_then ?_
    refine tri_seq ?_
    refine tri_regD hcx [] [4] [] [] [(((strOfNums (Cn.putV p)).toList == (strOfNums (Cn.putV p)).toList) = true → (((strOfNums (Cn.putV p)).toList == (strOfNums (Cn.putV p)).toList) = true)), (((strOfNums (Cn.putV p)).toList == (strOfNums (Cn.putV p)).toList) = true → (((strOfNums (Cn.putV p)).toList == (strOfNums (Cn.putV p)).toList) = true)), (((strOfNums (Cn.putV p)).toList == (strOfNums (Cn.putV p)).toList) = true → ((strOfNums (Cn.putV p)).toList == (strOfNums (Cn.putV p)).toList) = true), ((((strOfNums (Cn.putV p)).toList == (strOfNums (Cn.putV p)).toList) && ((Cn.frmV p) == (Cn.frmV p))) = true → ((((strOfNums (Cn.putV p)).toList == (strOfNums (Cn.putV p)).toList) && ((Cn.frmV p) == (Cn.frmV p))) = true)), ((((strOfNums (Cn.putV p)).toList == (strOfNums (Cn.putV p)).toList) && ((Cn.frmV p) == (Cn.frmV p))) = true → ((((strOfNums (Cn.putV p)).toList == (strOfNums (Cn.putV p)).toList) && ((Cn.frmV p) == (Cn.frmV p))) = true)), ((((strOfNums (Cn.putV p)).toList == (strOfNums (Cn.putV p)).toList) && ((Cn.frmV p) == (Cn.frmV p))) = true → (((Cn.getV24 b).1).length ≤ maxLen ∧ ((Cn.getV24 b).1).length ≤ maxLen ∧ (∀ x ∈ ((Cn.getV24 b).1), x.2.length ≤ maxLen) ∧ ∀ x ∈ ((Cn.getV24 b).1), x.2.length ≤ maxLen)), ((((strOfNums (Cn.putV p)).toList == (strOfNums (Cn.putV p)).toList) && ((Cn.frmV p) == (Cn.frmV p))) = true → (((strOfNums (Cn.putV p)).toList == (strOfNums (Cn.putV p)).toList) && ((Cn.frmV p) == (Cn.frmV p))) = true), (((((strOfNums (Cn.putV p)).toList == (strOfNums (Cn.putV p)).toList) && ((Cn.frmV p) == (Cn.frmV p))) && (((Cn.getV24 b).1) == ((Cn.getV24 b).1))) = true → (((((strOfNums (Cn.putV p)).toList == (strOfNums (Cn.putV p)).toList) && ((Cn.frmV p) == (Cn.frmV p))) && (((Cn.getV24 b).1) == ((Cn.getV24 b).1))) = true)), (((((strOfNums (Cn.putV p)).toList == (strOfNums (Cn.putV p)).toList) && ((Cn.frmV p) == (Cn.frmV p))) && (((Cn.getV24 b).1) == ((Cn.getV24 b).1))) = true → (((((strOfNums (Cn.putV p)).toList == (strOfNums (Cn.putV p)).toList) && ((Cn.frmV p) == (Cn.frmV p))) && (((Cn.getV24 b).1) == ((Cn.getV24 b).1))) = true)), (((((strOfNums (Cn.putV p)).toList == (strOfNums (Cn.putV p)).toList) && ((Cn.frmV p) == (Cn.frmV p))) && (((Cn.getV24 b).1) == ((Cn.getV24 b).1))) = true → ((((strOfNums (Cn.putV p)).toList == (strOfNums (Cn.putV p)).toList) && ((Cn.frmV p) == (Cn.frmV p))) && (((Cn.getV24 b).1) == ((Cn.getV24 b).1))) = true)] [(4, .bool (((((strOfNums (Cn.putV p)).toList == (strOfNums (Cn.putV p)).toList) && ((Cn.frmV p) == (Cn.frmV p))) && (((Cn.getV24 b).1) == ((Cn.getV24 b).1))) && (((Cn.getV24 b).2) == ((Cn.getV24 b).2))))] [] (by kernel_rfl) ?_ ?_
    ·
     refine (ap ?_ (ap ?_ (ap (by exact id) (ap ?_ (ap ?_ (ap ?_ (ap (by exact id) (ap ?_ (ap ?_ (ap (by exact id) az))))))))))
     all_goals
      first | omega | exact True.intro | exact id | exact (fun _ h => h) | exact ⟨hP, hPm, by decide, by decide⟩ | exact ⟨by omega, hbb⟩ | exact hgf | exact (fun _ => hgf) | (constructor <;> omega) | (intro _; constructor <;> omega) | done
    refine fin_then ?_
    refine tri_ret ?_
    exact fin_ret [] rfl rfl trivial hcx (avs := [.bool (((((strOfNums (Cn.putV p)).toList == (strOfNums (Cn.putV p)).toList) && ((Cn.frmV p) == (Cn.frmV p))) && (((Cn.getV24 b).1) == ((Cn.getV24 b).1))) && (((Cn.getV24 b).2) == ((Cn.getV24 b).2)))]) (by kernel_rfl) (congrArg AV.bool (show (((((strOfNums (Cn.putV p)).toList == (strOfNums (Cn.putV p)).toList) && ((Cn.frmV p) == (Cn.frmV p))) && (((Cn.getV24 b).1) == ((Cn.getV24 b).1))) && (((Cn.getV24 b).2) == ((Cn.getV24 b).2))) = true from (by first | rfl | (simp; done) | done))) [] rfl
 ·
  cases hσ
end Go.Proofs.YtbpbndlgfiammaaGreatDoor.En
