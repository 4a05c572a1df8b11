/- The law CnfDimacsReadable. -/
import Derived.Test.YtiokflebeojokaaGreatDoorLive14S
import Derived.Test.YtiokflebeojokaaGreatDoorWordsR
namespace Go.Proofs.YtiokflebeojokaaGreatDoor.En
open Go Go.RowKit
set_option linter.unusedVariables false
set_option linter.unusedSimpArgs false
set_option linter.unnecessarySimpa false
def tyL14CnfDimacsReadable : List (Nat × TD) := [(3, ⟨1, false, [.int .i64 0], [], none, 8, false, 1, 1⟩),
  (5, ⟨1, false, [.int .u8 0], [], none, 1, false, 2, 8⟩),
  (22, ⟨1, false, [.slice none 0 0], [], some 25, 24, false, 0, 0⟩),
  (24, ⟨2, true, [.int .i64 0, .slice none 0 0], [(0, 3), (1, 22)], none, 32, false, 0, 6⟩),
  (25, ⟨1, false, [.slice none 0 0], [], some 3, 24, false, 0, 3⟩),
  (32, ⟨1, false, [.int .i64 0], [], none, 8, false, 1, 1⟩),
  (41, ⟨1, false, [.slice none 0 0], [], some 5, 24, false, 0, 0⟩)]
theorem tyL14CnfDimacsReadable_ok : AllTy Tryz.prog tyL14CnfDimacsReadable := ⟨⟨by kernel_rfl, by kernel_rfl⟩, ⟨by kernel_rfl, by kernel_rfl⟩, ⟨by kernel_rfl, by kernel_rfl⟩, ⟨by kernel_rfl, by kernel_rfl⟩, ⟨by kernel_rfl, by kernel_rfl⟩, ⟨by kernel_rfl, by kernel_rfl⟩, ⟨by kernel_rfl, by kernel_rfl⟩, trivial⟩
def cx_lCnfDimacsReadable : Cx := ⟨tyL14CnfDimacsReadable, [(31, (coeF [.ld (.bytes [])] cGet_σ)), (17, (coeF [.agg [.id, .ld (.intss [])]] cCheck_σ)), (19, (coeF [.agg [.id, .ld (.intss [])], .agg [.id, .ld (.intss [])]] cSame_σ)), (12, live14_σ), (29, sPut)]⟩
theorem cx_lCnfDimacsReadable_ok : CxOk Tryz.prog cx_lCnfDimacsReadable := cx_ok tyL14CnfDimacsReadable_ok ⟨(cGet_sound.coe [.ld (.bytes [])] rfl), (cCheck_sound.coe [.agg [.id, .ld (.intss [])]] rfl), (cSame_sound.coe [.agg [.id, .ld (.intss [])], .agg [.id, .ld (.intss [])]] rfl), live14_sound, sPut_sound, trivial⟩
def lCnfDimacsReadable_σ : CtF
  | [.im (.ls (.bytes b))], [] => some (b.length ≤ maxLen ∧ Cn.isBytes b, .bool true, [])
  | _, _ => none
theorem lCnfDimacsReadable_sound : Sound Tryz.prog 10 lCnfDimacsReadable_σ := by
 refine sound_mk (cx := cx_lCnfDimacsReadable) (fn := Tryz.f10) Tryz.func10 (by kernel_rfl) rfl ?_
 intro w0 G0 args os p r outs hσ hp hm0 hd0
 have hcx : CxOk Tryz.prog cx_lCnfDimacsReadable := cx_lCnfDimacsReadable_ok
 unfold lCnfDimacsReadable_σ at hσ
 split at hσ
 ·
  rename_i b
  simp only [Option.some.injEq, Prod.mk.injEq] at hσ
  obtain ⟨rfl, rfl, rfl⟩ := hσ
  obtain ⟨wW, wO, wm, wβ, wd⟩ := w0
  replace hm0 : wm = 0 := hm0
  subst hm0
  replace hd0 : wd = [] := hd0
  subst hd0
  refine ⟨by kernel_rfl, ?_⟩
  change Tri ⟨_, _, _, _, _, _⟩ [(0, .bytes b)] [] _ _
  obtain ⟨hm, hb⟩ := hp
  have hm9 := hm
  unfold maxLen at hm9
  refine tri_seq ?_
  refine tri_regD hcx [] [] [0] [] [] [] [] (by kernel_rfl) ?_ ?_
  ·
   exact az
  refine fin_then ?_
  refine tri_seq ?_
  refine tri_seq ?_
  refine tri_regD hcx [] [10] [0] [] [(True)] [(10, .bool (!true))] [] (by kernel_rfl) ?_ ?_
  ·
   refine (ap ?_ az)
   first | omega | exact id | exact ⟨by omega, hb⟩ | exact ⟨by omega, fun l hl => by have := hl2 l hl; omega, by omega⟩ | exact hpb | exact hPL | exact (fun _ => hPL) | exact (fun _ h => h) | (intro _; unfold maxLen at hPL; omega) | trivial | done
  refine fin_then ?_
  refine tri_cond (b := (!true)) (by kernel_rfl) (fun hb0 => ?_) (fun hb0 => ?_)
  ·
   skip
   have h0 := hb0
   cases h0
  ·
   skip
   have h0 := (notB_f hb0)
   refine tri_skip ?_
   refine fin_then ?_
   refine tri_seq ?_
   refine tri_seq ?_
   refine tri_regD hcx [] [13] [0] [] [] [(13, .bool (decide ((b.length : Int) > 3000)))] [] (by kernel_rfl) ?_ ?_
   ·
    exact az
   refine fin_then ?_
   refine tri_cond (b := (decide ((b.length : Int) > 3000))) (by kernel_rfl) (fun hb1 => ?_) (fun hb1 => ?_)
   ·
    skip
    have h1 := of_decide_eq_true hb1
    refine tri_seq ?_
    refine tri_regD hcx [] [2] [] [] [] [(2, .bool true)] [] (by kernel_rfl) ?_ ?_
    ·
     exact az
    refine fin_then ?_
    refine tri_ret ?_
    refine fin_then_ret ?_
    exact fin_ret [] rfl rfl trivial hcx (avs := [.bool true]) (by kernel_rfl) rfl [] rfl
   ·
    skip
    have h1 := hb1
    have hz : b.length ≤ 3000 := by have hz := h1; simp at hz; omega
    refine tri_skip ?_
    refine fin_then ?_
    refine tri_seq ?_
    refine tri_regD hcx [(1005, .to 603)] [3, 4] [] [] [(b.length ≤ 100000 ∧ Cn.isBytes b)] [(3, .loc 603 0), (4, .int ((Cn.getV (Cn.wordsV b)).2.2))] [(603, .box [.int ((Cn.getV (Cn.wordsV b)).1), .intss ((Cn.getV (Cn.wordsV b)).2.1)])] (by kernel_rfl) ?_ ?_
    ·
     refine (ap ?_ az)
     first | omega | exact id | exact ⟨by omega, hb⟩ | exact ⟨by omega, fun l hl => by have := hl2 l hl; omega, by omega⟩ | exact hpb | exact hPL | exact (fun _ => hPL) | exact (fun _ h => h) | (intro _; unfold maxLen at hPL; omega) | trivial | done
    refine fin_then ?_
    refine tri_seq ?_
    refine tri_seq ?_
    refine tri_regD hcx [] [20] [3] [603] [] [(20, .bool (((Cn.getV (Cn.wordsV b)).2.2) != 0))] [] (by kernel_rfl) ?_ ?_
    ·
     exact az
    refine fin_then ?_
    refine tri_cond (b := (((Cn.getV (Cn.wordsV b)).2.2) != 0)) (by kernel_rfl) (fun hb2 => ?_) (fun hb2 => ?_)
    ·
     skip
     have h2 := hb2
     have he := Cn.get_no (W := Cn.wordsV b) (by simpa using h2)
     refine tri_seq ?_
     refine tri_regD hcx [] [2] [] [] [((((Cn.getV (Cn.wordsV b)).1) == 0) = true → ((((Cn.getV (Cn.wordsV b)).1) == 0) = true)), ((((Cn.getV (Cn.wordsV b)).1) == 0) = true → ((((Cn.getV (Cn.wordsV b)).1) == 0) = true)), ((((Cn.getV (Cn.wordsV b)).1) == 0) = true → ((((Cn.getV (Cn.wordsV b)).1) == 0) = true)), ((((Cn.getV (Cn.wordsV b)).1) == 0) = true → (((Cn.getV (Cn.wordsV b)).1) == 0) = true)] [(2, .bool ((((Cn.getV (Cn.wordsV b)).1) == 0) && ((((Cn.getV (Cn.wordsV b)).2.1).length : Int) == 0)))] [] (by kernel_rfl) ?_ ?_
     ·
      refine (ap ?_ (ap ?_ (ap ?_ (ap (by exact id) az))))
      all_goals
       first | omega | exact id | exact ⟨by omega, hb⟩ | exact ⟨by omega, fun l hl => by have := hl2 l hl; omega, by omega⟩ | exact hpb | exact hPL | exact (fun _ => hPL) | exact (fun _ h => h) | (intro _; unfold maxLen at hPL; omega) | trivial | done
     refine fin_then ?_
     refine tri_ret ?_
     refine fin_then_ret ?_
     exact fin_ret [] rfl rfl trivial hcx (avs := [.bool ((((Cn.getV (Cn.wordsV b)).1) == 0) && ((((Cn.getV (Cn.wordsV b)).2.1).length : Int) == 0))]) (by kernel_rfl) (congrArg AV.bool (show ((((Cn.getV (Cn.wordsV b)).1) == 0) && ((((Cn.getV (Cn.wordsV b)).2.1).length : Int) == 0)) = true from (by first | (rw [he.1, he.2]; rfl) | (rw [if_pos hy, Cn.get_put hy, hy]; simp) | rfl))) [] rfl
    ·
     skip
     have h2 := hb2
     have he : (Cn.getV (Cn.wordsV b)).2.2 = 0 := by simpa using h2
     have hy := (Cn.get_yes he).1
     have hs := Cn.get_size he
     have hl1 : (Cn.getV (Cn.wordsV b)).2.1.length ≤ 3000 := by omega
     have hl2 : ∀ l ∈ (Cn.getV (Cn.wordsV b)).2.1, l.length ≤ 3000 := fun l hl => by have := Cn.size_mem hl; omega
     have hl3 : Cn.sizeL (Cn.getV (Cn.wordsV b)).2.1 ≤ 3000 := by omega
     have hpl := Cn.put_len hy
     have hpb : (if Cn.chkV (Cn.getV (Cn.wordsV b)).1 (Cn.getV (Cn.wordsV b)).2.1 = 0 then Cn.putB (Cn.getV (Cn.wordsV b)).1 (Cn.getV (Cn.wordsV b)).2.1 else []).length ≤ 100000 ∧ Cn.isBytes (if Cn.chkV (Cn.getV (Cn.wordsV b)).1 (Cn.getV (Cn.wordsV b)).2.1 = 0 then Cn.putB (Cn.getV (Cn.wordsV b)).1 (Cn.getV (Cn.wordsV b)).2.1 else []) := by rw [if_pos hy]; exact ⟨by omega, Cn.put_bytes _ _⟩
     have hPL : (Cn.getV (Cn.wordsV b)).2.1.length ≤ maxLen ∧ ∀ l ∈ (Cn.getV (Cn.wordsV b)).2.1, l.length ≤ maxLen := ⟨by unfold maxLen; omega, fun l hl => by have := hl2 l hl; unfold maxLen; omega⟩
     refine tri_skip ?_
     refine fin_then ?_
     refine tri_seq ?_
     refine tri_regD hcx [] [5, 6] [3] [603] [(((Cn.getV (Cn.wordsV b)).2.1).length ≤ 1000000 ∧ (∀ l ∈ ((Cn.getV (Cn.wordsV b)).2.1), l.length ≤ 1000000000) ∧ Cn.sizeL ((Cn.getV (Cn.wordsV b)).2.1) ≤ 1000000000)] [(5, .bytes (if Cn.chkV ((Cn.getV (Cn.wordsV b)).1) ((Cn.getV (Cn.wordsV b)).2.1) = 0 then Cn.putB ((Cn.getV (Cn.wordsV b)).1) ((Cn.getV (Cn.wordsV b)).2.1) else [])), (6, .int (Cn.chkV ((Cn.getV (Cn.wordsV b)).1) ((Cn.getV (Cn.wordsV b)).2.1)))] [] (by kernel_rfl) ?_ ?_
     ·
      refine (ap ?_ az)
      first | omega | exact id | exact ⟨by omega, hb⟩ | exact ⟨by omega, fun l hl => by have := hl2 l hl; omega, by omega⟩ | exact hpb | exact hPL | exact (fun _ => hPL) | exact (fun _ h => h) | (intro _; unfold maxLen at hPL; omega) | trivial | done
     refine fin_then ?_
     refine tri_seq ?_
     refine tri_regD hcx [(1005, .to 607)] [7, 8] [6, 3] [603] [((if Cn.chkV ((Cn.getV (Cn.wordsV b)).1) ((Cn.getV (Cn.wordsV b)).2.1) = 0 then Cn.putB ((Cn.getV (Cn.wordsV b)).1) ((Cn.getV (Cn.wordsV b)).2.1) else []).length ≤ 100000 ∧ Cn.isBytes (if Cn.chkV ((Cn.getV (Cn.wordsV b)).1) ((Cn.getV (Cn.wordsV b)).2.1) = 0 then Cn.putB ((Cn.getV (Cn.wordsV b)).1) ((Cn.getV (Cn.wordsV b)).2.1) else []))] [(7, .loc 607 0), (8, .int ((Cn.getV (Cn.wordsV (if Cn.chkV ((Cn.getV (Cn.wordsV b)).1) ((Cn.getV (Cn.wordsV b)).2.1) = 0 then Cn.putB ((Cn.getV (Cn.wordsV b)).1) ((Cn.getV (Cn.wordsV b)).2.1) else []))).2.2))] [(607, .box [.int ((Cn.getV (Cn.wordsV (if Cn.chkV ((Cn.getV (Cn.wordsV b)).1) ((Cn.getV (Cn.wordsV b)).2.1) = 0 then Cn.putB ((Cn.getV (Cn.wordsV b)).1) ((Cn.getV (Cn.wordsV b)).2.1) else []))).1), .intss ((Cn.getV (Cn.wordsV (if Cn.chkV ((Cn.getV (Cn.wordsV b)).1) ((Cn.getV (Cn.wordsV b)).2.1) = 0 then Cn.putB ((Cn.getV (Cn.wordsV b)).1) ((Cn.getV (Cn.wordsV b)).2.1) else []))).2.1)])] (by kernel_rfl) ?_ ?_
     ·
      refine (ap ?_ az)
      first | omega | exact id | exact ⟨by omega, hb⟩ | exact ⟨by omega, fun l hl => by have := hl2 l hl; omega, by omega⟩ | exact hpb | exact hPL | exact (fun _ => hPL) | exact (fun _ h => h) | (intro _; unfold maxLen at hPL; omega) | trivial | done
     refine fin_then ?_
     refine tri_seq ?_
     refine tri_regD hcx [] [2] [] [] [(((Cn.getV (Cn.wordsV b)).2.1).length ≤ maxLen ∧ ∀ l ∈ ((Cn.getV (Cn.wordsV b)).2.1), l.length ≤ maxLen), (((Cn.chkV ((Cn.getV (Cn.wordsV b)).1) ((Cn.getV (Cn.wordsV b)).2.1)) == 0) = true → (((Cn.chkV ((Cn.getV (Cn.wordsV b)).1) ((Cn.getV (Cn.wordsV b)).2.1)) == 0) = true)), (((Cn.chkV ((Cn.getV (Cn.wordsV b)).1) ((Cn.getV (Cn.wordsV b)).2.1)) == 0) = true → ((Cn.chkV ((Cn.getV (Cn.wordsV b)).1) ((Cn.getV (Cn.wordsV b)).2.1)) == 0) = true), ((((Cn.chkV ((Cn.getV (Cn.wordsV b)).1) ((Cn.getV (Cn.wordsV b)).2.1)) == 0) && ((Cn.chkV ((Cn.getV (Cn.wordsV b)).1) ((Cn.getV (Cn.wordsV b)).2.1)) == 0)) = true → ((((Cn.chkV ((Cn.getV (Cn.wordsV b)).1) ((Cn.getV (Cn.wordsV b)).2.1)) == 0) && ((Cn.chkV ((Cn.getV (Cn.wordsV b)).1) ((Cn.getV (Cn.wordsV b)).2.1)) == 0)) = true)), ((((Cn.chkV ((Cn.getV (Cn.wordsV b)).1) ((Cn.getV (Cn.wordsV b)).2.1)) == 0) && ((Cn.chkV ((Cn.getV (Cn.wordsV b)).1) ((Cn.getV (Cn.wordsV b)).2.1)) == 0)) = true → (((Cn.chkV ((Cn.getV (Cn.wordsV b)).1) ((Cn.getV (Cn.wordsV b)).2.1)) == 0) && ((Cn.chkV ((Cn.getV (Cn.wordsV b)).1) ((Cn.getV (Cn.wordsV b)).2.1)) == 0)) = true), (((((Cn.chkV ((Cn.getV (Cn.wordsV b)).1) ((Cn.getV (Cn.wordsV b)).2.1)) == 0) && ((Cn.chkV ((Cn.getV (Cn.wordsV b)).1) ((Cn.getV (Cn.wordsV b)).2.1)) == 0)) && (((Cn.getV (Cn.wordsV (if Cn.chkV ((Cn.getV (Cn.wordsV b)).1) ((Cn.getV (Cn.wordsV b)).2.1) = 0 then Cn.putB ((Cn.getV (Cn.wordsV b)).1) ((Cn.getV (Cn.wordsV b)).2.1) else []))).2.2) == 0)) = true → (((((Cn.chkV ((Cn.getV (Cn.wordsV b)).1) ((Cn.getV (Cn.wordsV b)).2.1)) == 0) && ((Cn.chkV ((Cn.getV (Cn.wordsV b)).1) ((Cn.getV (Cn.wordsV b)).2.1)) == 0)) && (((Cn.getV (Cn.wordsV (if Cn.chkV ((Cn.getV (Cn.wordsV b)).1) ((Cn.getV (Cn.wordsV b)).2.1) = 0 then Cn.putB ((Cn.getV (Cn.wordsV b)).1) ((Cn.getV (Cn.wordsV b)).2.1) else []))).2.2) == 0)) = true)), (((((Cn.chkV ((Cn.getV (Cn.wordsV b)).1) ((Cn.getV (Cn.wordsV b)).2.1)) == 0) && ((Cn.chkV ((Cn.getV (Cn.wordsV b)).1) ((Cn.getV (Cn.wordsV b)).2.1)) == 0)) && (((Cn.getV (Cn.wordsV (if Cn.chkV ((Cn.getV (Cn.wordsV b)).1) ((Cn.getV (Cn.wordsV b)).2.1) = 0 then Cn.putB ((Cn.getV (Cn.wordsV b)).1) ((Cn.getV (Cn.wordsV b)).2.1) else []))).2.2) == 0)) = true → (((((Cn.chkV ((Cn.getV (Cn.wordsV b)).1) ((Cn.getV (Cn.wordsV b)).2.1)) == 0) && ((Cn.chkV ((Cn.getV (Cn.wordsV b)).1) ((Cn.getV (Cn.wordsV b)).2.1)) == 0)) && (((Cn.getV (Cn.wordsV (if Cn.chkV ((Cn.getV (Cn.wordsV b)).1) ((Cn.getV (Cn.wordsV b)).2.1) = 0 then Cn.putB ((Cn.getV (Cn.wordsV b)).1) ((Cn.getV (Cn.wordsV b)).2.1) else []))).2.2) == 0)) = true)), (((((Cn.chkV ((Cn.getV (Cn.wordsV b)).1) ((Cn.getV (Cn.wordsV b)).2.1)) == 0) && ((Cn.chkV ((Cn.getV (Cn.wordsV b)).1) ((Cn.getV (Cn.wordsV b)).2.1)) == 0)) && (((Cn.getV (Cn.wordsV (if Cn.chkV ((Cn.getV (Cn.wordsV b)).1) ((Cn.getV (Cn.wordsV b)).2.1) = 0 then Cn.putB ((Cn.getV (Cn.wordsV b)).1) ((Cn.getV (Cn.wordsV b)).2.1) else []))).2.2) == 0)) = true → (((Cn.getV (Cn.wordsV b)).2.1).length ≤ maxLen ∧ (∀ l ∈ ((Cn.getV (Cn.wordsV b)).2.1), l.length ≤ maxLen))), (((((Cn.chkV ((Cn.getV (Cn.wordsV b)).1) ((Cn.getV (Cn.wordsV b)).2.1)) == 0) && ((Cn.chkV ((Cn.getV (Cn.wordsV b)).1) ((Cn.getV (Cn.wordsV b)).2.1)) == 0)) && (((Cn.getV (Cn.wordsV (if Cn.chkV ((Cn.getV (Cn.wordsV b)).1) ((Cn.getV (Cn.wordsV b)).2.1) = 0 then Cn.putB ((Cn.getV (Cn.wordsV b)).1) ((Cn.getV (Cn.wordsV b)).2.1) else []))).2.2) == 0)) = true → ((((Cn.chkV ((Cn.getV (Cn.wordsV b)).1) ((Cn.getV (Cn.wordsV b)).2.1)) == 0) && ((Cn.chkV ((Cn.getV (Cn.wordsV b)).1) ((Cn.getV (Cn.wordsV b)).2.1)) == 0)) && (((Cn.getV (Cn.wordsV (if Cn.chkV ((Cn.getV (Cn.wordsV b)).1) ((Cn.getV (Cn.wordsV b)).2.1) = 0 then Cn.putB ((Cn.getV (Cn.wordsV b)).1) ((Cn.getV (Cn.wordsV b)).2.1) else []))).2.2) == 0)) = true)] [(2, .bool (((((Cn.chkV ((Cn.getV (Cn.wordsV b)).1) ((Cn.getV (Cn.wordsV b)).2.1)) == 0) && ((Cn.chkV ((Cn.getV (Cn.wordsV b)).1) ((Cn.getV (Cn.wordsV b)).2.1)) == 0)) && (((Cn.getV (Cn.wordsV (if Cn.chkV ((Cn.getV (Cn.wordsV b)).1) ((Cn.getV (Cn.wordsV b)).2.1) = 0 then Cn.putB ((Cn.getV (Cn.wordsV b)).1) ((Cn.getV (Cn.wordsV b)).2.1) else []))).2.2) == 0)) && ((((Cn.getV (Cn.wordsV b)).1) == ((Cn.getV (Cn.wordsV (if Cn.chkV ((Cn.getV (Cn.wordsV b)).1) ((Cn.getV (Cn.wordsV b)).2.1) = 0 then Cn.putB ((Cn.getV (Cn.wordsV b)).1) ((Cn.getV (Cn.wordsV b)).2.1) else []))).1)) && decide (((Cn.getV (Cn.wordsV b)).2.1) = ((Cn.getV (Cn.wordsV (if Cn.chkV ((Cn.getV (Cn.wordsV b)).1) ((Cn.getV (Cn.wordsV b)).2.1) = 0 then Cn.putB ((Cn.getV (Cn.wordsV b)).1) ((Cn.getV (Cn.wordsV b)).2.1) else []))).2.1)))))] [] (by kernel_rfl) ?_ ?_
     ·
      refine (ap ?_ (ap ?_ (ap (by exact id) (ap ?_ (ap (by exact id) (ap ?_ (ap ?_ (ap ?_ (ap (by exact id) az)))))))))
      all_goals
       first | omega | exact id | exact ⟨by omega, hb⟩ | exact ⟨by omega, fun l hl => by have := hl2 l hl; omega, by omega⟩ | exact hpb | exact hPL | exact (fun _ => hPL) | exact (fun _ h => h) | (intro _; unfold maxLen at hPL; omega) | trivial | done
     refine fin_then ?_
     refine tri_ret ?_
     exact fin_ret [] rfl rfl trivial hcx (avs := [.bool (((((Cn.chkV ((Cn.getV (Cn.wordsV b)).1) ((Cn.getV (Cn.wordsV b)).2.1)) == 0) && ((Cn.chkV ((Cn.getV (Cn.wordsV b)).1) ((Cn.getV (Cn.wordsV b)).2.1)) == 0)) && (((Cn.getV (Cn.wordsV (if Cn.chkV ((Cn.getV (Cn.wordsV b)).1) ((Cn.getV (Cn.wordsV b)).2.1) = 0 then Cn.putB ((Cn.getV (Cn.wordsV b)).1) ((Cn.getV (Cn.wordsV b)).2.1) else []))).2.2) == 0)) && ((((Cn.getV (Cn.wordsV b)).1) == ((Cn.getV (Cn.wordsV (if Cn.chkV ((Cn.getV (Cn.wordsV b)).1) ((Cn.getV (Cn.wordsV b)).2.1) = 0 then Cn.putB ((Cn.getV (Cn.wordsV b)).1) ((Cn.getV (Cn.wordsV b)).2.1) else []))).1)) && decide (((Cn.getV (Cn.wordsV b)).2.1) = ((Cn.getV (Cn.wordsV (if Cn.chkV ((Cn.getV (Cn.wordsV b)).1) ((Cn.getV (Cn.wordsV b)).2.1) = 0 then Cn.putB ((Cn.getV (Cn.wordsV b)).1) ((Cn.getV (Cn.wordsV b)).2.1) else []))).2.1))))]) (by kernel_rfl) (congrArg AV.bool (show (((((Cn.chkV ((Cn.getV (Cn.wordsV b)).1) ((Cn.getV (Cn.wordsV b)).2.1)) == 0) && ((Cn.chkV ((Cn.getV (Cn.wordsV b)).1) ((Cn.getV (Cn.wordsV b)).2.1)) == 0)) && (((Cn.getV (Cn.wordsV (if Cn.chkV ((Cn.getV (Cn.wordsV b)).1) ((Cn.getV (Cn.wordsV b)).2.1) = 0 then Cn.putB ((Cn.getV (Cn.wordsV b)).1) ((Cn.getV (Cn.wordsV b)).2.1) else []))).2.2) == 0)) && ((((Cn.getV (Cn.wordsV b)).1) == ((Cn.getV (Cn.wordsV (if Cn.chkV ((Cn.getV (Cn.wordsV b)).1) ((Cn.getV (Cn.wordsV b)).2.1) = 0 then Cn.putB ((Cn.getV (Cn.wordsV b)).1) ((Cn.getV (Cn.wordsV b)).2.1) else []))).1)) && decide (((Cn.getV (Cn.wordsV b)).2.1) = ((Cn.getV (Cn.wordsV (if Cn.chkV ((Cn.getV (Cn.wordsV b)).1) ((Cn.getV (Cn.wordsV b)).2.1) = 0 then Cn.putB ((Cn.getV (Cn.wordsV b)).1) ((Cn.getV (Cn.wordsV b)).2.1) else []))).2.1)))) = true from (by first | (rw [he.1, he.2]; rfl) | (rw [if_pos hy, Cn.get_put hy, hy]; simp) | rfl))) [] rfl
 ·
  cases hσ
end Go.Proofs.YtiokflebeojokaaGreatDoor.En
