/- The law ProofSound. -/
import Derived.Test.YtbpbndlgfiammaaGreatDoorLive24S
import Derived.Test.YtbpbndlgfiammaaGreatDoorRef24A
import Derived.Test.YtbpbndlgfiammaaGreatDoorAllX
import Derived.Test.YtbpbndlgfiammaaGreatDoorLaw24P
namespace Go.Proofs.YtbpbndlgfiammaaGreatDoor.En
open Go Go.RowKit
set_option linter.unusedVariables false
set_option linter.unusedSimpArgs false
set_option linter.unnecessarySimpa false
def tyL24ProofSound : List (Nat × TD) := [(3, ⟨1, false, [.int .i64 0], [], none, 8, false, 1, 1⟩),
  (4, ⟨1, false, [.bool false], [], none, 1, true, 0, 2⟩),
  (22, ⟨1, false, [.slice none 0 0], [], some 23, 24, false, 0, 0⟩),
  (23, ⟨1, false, [.slice none 0 0], [], some 3, 24, false, 0, 3⟩),
  (28, ⟨2, true, [.int .i64 0, .slice none 0 0], [(0, 3), (1, 22)], none, 32, false, 0, 6⟩),
  (29, ⟨1, false, [.slice none 0 0], [], some 43, 24, false, 0, 0⟩),
  (31, ⟨1, false, [.int .i64 0], [], none, 8, false, 1, 1⟩),
  (43, ⟨2, true, [.int .i64 0, .slice none 0 0], [(0, 3), (1, 23)], none, 32, false, 0, 7⟩),
  (45, ⟨1, false, [.slice none 0 0], [], some 4, 24, false, 0, 0⟩)]
theorem tyL24ProofSound_ok : AllTy Tryz.prog tyL24ProofSound := ⟨⟨by kernel_rfl, by kernel_rfl, by kernel_rfl⟩, ⟨by kernel_rfl, by kernel_rfl, by kernel_rfl⟩, ⟨by kernel_rfl, by kernel_rfl, by kernel_rfl⟩, ⟨by kernel_rfl, by kernel_rfl, by kernel_rfl⟩, ⟨by kernel_rfl, by kernel_rfl, by kernel_rfl⟩, ⟨by kernel_rfl, by kernel_rfl, by kernel_rfl⟩, ⟨by kernel_rfl, by kernel_rfl, by kernel_rfl⟩, ⟨by kernel_rfl, by kernel_rfl, by kernel_rfl⟩, ⟨by kernel_rfl, by kernel_rfl, by kernel_rfl⟩, trivial⟩
def cx_lProofSound : Cx := ⟨tyL24ProofSound, [(13, (coeF [.ld (.intss []), .id] rFewC_σ)), (16, (coeF [.ld (.lines []), .id] rFewL_σ)), (17, (coeF [.agg [.id, .ld (.intss [])], .ld (.lines []), .ld (.ints [])] pCheck_σ)), (24, sAll), (28, (coeF [.ld (.ints []), .ld (.bools [])] cHolds_σ)), (25, (coeF [.agg [.id, .ld (.intss [])], .ld (.bools [])] cValue_σ)), (27, (coeF [.agg [.id, .ld (.intss [])]] cCheck_σ)), (12, live24_σ), (26, (coeF [.ld (.ints []), .ld (.bools [])] lAll_σ)), (29, (coeF [.ld (.ints []), .id] lOpen_σ))], true⟩
theorem cx_lProofSound_ok : CxOk Tryz.prog cx_lProofSound := cx_ok tyL24ProofSound_ok ⟨(rFewC_sound.coe [.ld (.intss []), .id] rfl), (rFewL_sound.coe [.ld (.lines []), .id] rfl), (pCheck_sound.coe [.agg [.id, .ld (.intss [])], .ld (.lines []), .ld (.ints [])] rfl), sAll_sound, (cHolds_sound.coe [.ld (.ints []), .ld (.bools [])] rfl), (cValue_sound.coe [.agg [.id, .ld (.intss [])], .ld (.bools [])] rfl), (cCheck_sound.coe [.agg [.id, .ld (.intss [])]] rfl), live24_sound, (lAll_sound.coe [.ld (.ints []), .ld (.bools [])] rfl), (lOpen_sound.coe [.ld (.ints []), .id] rfl), trivial⟩
def lProofSound_σ : CtF
  | [.agg [.im (.val (.int .i64 N)), .im (.ls (.intss L))], .im (.ls (.lines p)), .im (.ls (.ints core))], [] => some ((L.length ≤ maxLen ∧ (∀ x ∈ L, x.length ≤ 17592186043904)) ∧ (p.length ≤ maxLen ∧ (∀ x ∈ p, x.2.length ≤ 17592186043904)) ∧ core.length ≤ maxLen, .bool true, [])
  | _, _ => none
theorem lProofSound_sound : Sound Tryz.prog 8 lProofSound_σ := by
 refine sound_mk (cx := cx_lProofSound) (fn := Tryz.f8) Tryz.func8 (by kernel_rfl) rfl ?_
 intro w0 G0 args os p r outs hσ hp hm0 hd0
 have hcx : CxOk Tryz.prog cx_lProofSound := cx_lProofSound_ok
 unfold lProofSound_σ at hσ
 split at hσ
 ·
  rename_i N L p core
  simp only [Option.some.injEq, Prod.mk.injEq] at hσ
  obtain ⟨rfl, rfl, rfl⟩ := hσ
  obtain ⟨wW, wO, wm, wβ, wd⟩ := w0
  replace hm0 : wm = 0 := hm0
  subst hm0
  replace hd0 : wd = [] := hd0
  subst hd0
  refine ⟨by kernel_rfl, ?_⟩
  change Tri ⟨_, _, _, _, _, _⟩ [(0, .agg [.int N, .intss L]), (1, .lines p), (2, .ints core)] [] _ _
  obtain ⟨⟨hL, hLm⟩, ⟨hP, hPm⟩, hC⟩ := hp
  have hL9 := hL
  have hP9 := hP
  have hC9 := hC
  unfold maxLen at hL9 hP9 hC9
  refine tri_seq ?_
  refine tri_regD hcx [(1000, .frz)] [3] [1, 2] [] [] [(3, .pto [.int N, .ls (.intss L)])] [] (by kernel_rfl) ?_ ?_
  ·
   exact az
  refine fin_then ?_
  refine tri_seq ?_
  refine tri_seq ?_
  refine tri_regD hcx [] [10] [3, 1, 2] [] [(True)] [(10, .bool (!true))] [] (by kernel_rfl) ?_ ?_
  ·
   refine (ap ?_ az)
   exact True.intro
  refine fin_then ?_
  refine tri_cond (b := (!true)) (by kernel_rfl) (fun hb0 => ?_) (fun hb0 => ?_)
  ·
   skip
   have h0 := hb0
   cases h0
  ·
   skip
   have h0 := (notB_f hb0)
   refine tri_skip ?_
   refine fin_then ?_
   refine tri_seq ?_
   refine tri_seq ?_
   refine tri_regD hcx [] [41] [3, 2] [] [((!(decide (N < 0))) = true → ((!(decide (N < 0))) = true)), ((!(decide (N < 0))) = true → ((!(decide (N < 0))) = true)), ((decide (N < 0)) = false → (!(decide (N < 0))) = true), ((!((decide (N < 0)) || (decide (N > 9)))) = true → ((!((decide (N < 0)) || (decide (N > 9)))) = true)), ((!((decide (N < 0)) || (decide (N > 9)))) = true → ((!((decide (N < 0)) || (decide (N > 9)))) = true)), ((!((decide (N < 0)) || (decide (N > 9)))) = true → (L.length ≤ maxLen ∧ (∀ x ∈ L, x.length ≤ 17592186043904) ∧ 0 ≤ (40 : Int) ∧ (40 : Int) ≤ 1000)), ((!((decide (N < 0)) || (decide (N > 9)))) = true → ((!((decide (N < 0)) || (decide (N > 9)))) = true)), (((decide (N < 0)) || (decide (N > 9))) = false → (!((decide (N < 0)) || (decide (N > 9)))) = true), ((!(((decide (N < 0)) || (decide (N > 9))) || (!(Cn.fewC L (40 : Int))))) = true → ((!(((decide (N < 0)) || (decide (N > 9))) || (!(Cn.fewC L (40 : Int))))) = true)), ((!(((decide (N < 0)) || (decide (N > 9))) || (!(Cn.fewC L (40 : Int))))) = true → (p.length ≤ maxLen ∧ (∀ x ∈ p, x.2.length ≤ 17592186043904) ∧ 0 ≤ (60 : Int) ∧ (60 : Int) ≤ 1000)), ((!(((decide (N < 0)) || (decide (N > 9))) || (!(Cn.fewC L (40 : Int))))) = true → ((!(((decide (N < 0)) || (decide (N > 9))) || (!(Cn.fewC L (40 : Int))))) = true)), ((((decide (N < 0)) || (decide (N > 9))) || (!(Cn.fewC L (40 : Int)))) = false → (!(((decide (N < 0)) || (decide (N > 9))) || (!(Cn.fewC L (40 : Int))))) = true), ((!((((decide (N < 0)) || (decide (N > 9))) || (!(Cn.fewC L (40 : Int)))) || (!(Cn.fewL p (60 : Int))))) = true → ((!((((decide (N < 0)) || (decide (N > 9))) || (!(Cn.fewC L (40 : Int)))) || (!(Cn.fewL p (60 : Int))))) = true)), ((!((((decide (N < 0)) || (decide (N > 9))) || (!(Cn.fewC L (40 : Int)))) || (!(Cn.fewL p (60 : Int))))) = true → ((!((((decide (N < 0)) || (decide (N > 9))) || (!(Cn.fewC L (40 : Int)))) || (!(Cn.fewL p (60 : Int))))) = true)), (((((decide (N < 0)) || (decide (N > 9))) || (!(Cn.fewC L (40 : Int)))) || (!(Cn.fewL p (60 : Int)))) = false → (!((((decide (N < 0)) || (decide (N > 9))) || (!(Cn.fewC L (40 : Int)))) || (!(Cn.fewL p (60 : Int))))) = true), ((!(((((decide (N < 0)) || (decide (N > 9))) || (!(Cn.fewC L (40 : Int)))) || (!(Cn.fewL p (60 : Int)))) || (decide ((core.length : Int) > 20)))) = true → ((!(((((decide (N < 0)) || (decide (N > 9))) || (!(Cn.fewC L (40 : Int)))) || (!(Cn.fewL p (60 : Int)))) || (decide ((core.length : Int) > 20)))) = true)), ((!(((((decide (N < 0)) || (decide (N > 9))) || (!(Cn.fewC L (40 : Int)))) || (!(Cn.fewL p (60 : Int)))) || (decide ((core.length : Int) > 20)))) = true → ((!(((((decide (N < 0)) || (decide (N > 9))) || (!(Cn.fewC L (40 : Int)))) || (!(Cn.fewL p (60 : Int)))) || (decide ((core.length : Int) > 20)))) = true)), ((!(((((decide (N < 0)) || (decide (N > 9))) || (!(Cn.fewC L (40 : Int)))) || (!(Cn.fewL p (60 : Int)))) || (decide ((core.length : Int) > 20)))) = true → ((!(((((decide (N < 0)) || (decide (N > 9))) || (!(Cn.fewC L (40 : Int)))) || (!(Cn.fewL p (60 : Int)))) || (decide ((core.length : Int) > 20)))) = true)), ((!(((((decide (N < 0)) || (decide (N > 9))) || (!(Cn.fewC L (40 : Int)))) || (!(Cn.fewL p (60 : Int)))) || (decide ((core.length : Int) > 20)))) = true → (L.length ≤ maxLen ∧ (∀ x ∈ L, x.length ≤ 1000000000000) ∧ p.length ≤ maxLen ∧ (∀ x ∈ p, x.2.length ≤ 1000000000000) ∧ core.length ≤ 1000000000000)), ((!(((((decide (N < 0)) || (decide (N > 9))) || (!(Cn.fewC L (40 : Int)))) || (!(Cn.fewL p (60 : Int)))) || (decide ((core.length : Int) > 20)))) = true → ((!(((((decide (N < 0)) || (decide (N > 9))) || (!(Cn.fewC L (40 : Int)))) || (!(Cn.fewL p (60 : Int)))) || (decide ((core.length : Int) > 20)))) = true)), ((((((decide (N < 0)) || (decide (N > 9))) || (!(Cn.fewC L (40 : Int)))) || (!(Cn.fewL p (60 : Int)))) || (decide ((core.length : Int) > 20))) = false → (!(((((decide (N < 0)) || (decide (N > 9))) || (!(Cn.fewC L (40 : Int)))) || (!(Cn.fewL p (60 : Int)))) || (decide ((core.length : Int) > 20)))) = true)] [(41, .bool ((((((decide (N < 0)) || (decide (N > 9))) || (!(Cn.fewC L (40 : Int)))) || (!(Cn.fewL p (60 : Int)))) || (decide ((core.length : Int) > 20))) || ((Cn.chkC N L p core) != 0)))] [] (by kernel_rfl) ?_ ?_
   ·
    refine (ap ?_ (ap ?_ (ap (by exact vcNot) (ap ?_ (ap ?_ (ap ?_ (ap ?_ (ap (by exact vcNot) (ap ?_ (ap ?_ (ap ?_ (ap (by exact vcNot) (ap ?_ (ap ?_ (ap (by exact vcNot) (ap ?_ (ap ?_ (ap ?_ (ap ?_ (ap ?_ (ap (by exact vcNot) az)))))))))))))))))))))
    all_goals
     first | exact id | exact (fun _ => ⟨hL, hLm, by decide, by decide⟩) | exact (fun _ => ⟨hP, hPm, by decide, by decide⟩) | (intro hg; have hq := Cn.g_sound hg; exact Cn.pre_chk (Cn.fewC_iff hq.1) (Cn.fewL_iff hq.2.1) (by have := hq.2.2; omega))
   refine fin_then ?_
   refine tri_cond (b := ((((((decide (N < 0)) || (decide (N > 9))) || (!(Cn.fewC L (40 : Int)))) || (!(Cn.fewL p (60 : Int)))) || (decide ((core.length : Int) > 20))) || ((Cn.chkC N L p core) != 0))) (by kernel_rfl) (fun hb1 => ?_) (fun hb1 => ?_)
   ·
    skip
    have h1 := hb1
    skip
    refine tri_seq ?_
    refine tri_regD hcx [] [6] [] [] [] [(6, .bool true)] [] (by kernel_rfl) ?_ ?_
    ·
     exact az
    refine fin_then ?_
    refine tri_ret ?_
    refine fin_then_ret ?_
    exact fin_ret [] rfl rfl trivial hcx (avs := [.bool true]) (by kernel_rfl) rfl [] rfl
   ·
    skip
    have h1 := hb1
    obtain ⟨⟨hN0, hN9⟩, hf1, hf2, hcl, hck⟩ := Cn.c_sound h1
    obtain ⟨a1, a2, a3⟩ := Cn.fewC_iff hf1
    have hLm2 : ∀ l ∈ L, l.length ≤ maxLen := fun l hl => by have := a3 l hl; unfold maxLen; omega
    have hp2 := Cn.two_pow9 (n := N.toNat) (by omega)
    have hal : ∀ m : Nat, (allV N.toNat (m : Int)).length ≤ maxLen := fun m => by rw [allV_len]; unfold maxLen; omega
    refine tri_skip ?_
    refine fin_then ?_
    refine tri_seq ?_
    refine tri_seq ?_
    refine tri_regD hcx [] [44, 45] [3, 2] [] [((0 : Int) ≤ N ∧ N ≤ 64 ∧ Fit (1 * 2 ^ N.toNat))] [(44, .int (1 * 2 ^ N.toNat)), (45, .int 0)] [] (by kernel_rfl) ?_ ?_
    ·
     refine (ap ?_ az)
     omega
    refine fin_then ?_
    refine tri_block ?_
    refine tri_loop (X := Nat) (fun x0 => (x0 : Int) ≤ 1 * 2 ^ N.toNat) (fun x0 => [(2, .ints core), (3, .pto [.int N, .ls (.intss L)]), (44, .int (1 * 2 ^ N.toNat)), (45, .int (x0 : Int))]) (fun x0 => []) (fun x0 => (1 * 2 ^ N.toNat : Int).toNat - x0) (0) ?_ ?_ ?_ ?_
    ·
     show (0 : Int) ≤ 1 * 2 ^ N.toNat
     omega
    ·
     exact subE_mk (l := [.ints core, .pto [.int N, .ls (.intss L)], .int (1 * 2 ^ N.toNat), .int 0]) (m := [.ints core, .pto [.int N, .ls (.intss L)], .int (1 * 2 ^ N.toNat), .int (0 : Int)]) (by kernel_rfl) (by kernel_rfl) (consE rfl (consE rfl (consE rfl (consE (congrArg AV.int (show 0 = (0 : Int) from (by first | rfl | omega | (simp; done)))) rfl))))
    ·
     kernel_rfl
    ·
     intro m hI
     replace hI : (m : Int) ≤ 1 * 2 ^ N.toNat := hI
     change Tri _ [(2, .ints core), (3, .pto [.int N, .ls (.intss L)]), (44, .int (1 * 2 ^ N.toNat)), (45, .int (m : Int))] [] _ _
     refine tri_seq ?_
     refine tri_regD hcx [] [46] [2, 3, 44, 45] [] [] [(46, .bool (decide ((m : Int) < (1 * 2 ^ N.toNat))))] [] (by kernel_rfl) ?_ ?_
     ·
      exact az
     refine fin_then ?_
     refine tri_seq ?_
     refine tri_cond (b := (decide ((m : Int) < (1 * 2 ^ N.toNat)))) (by kernel_rfl) (fun hb2 => ?_) (fun hb2 => ?_)
     ·
      skip
      have h2 := of_decide_eq_true hb2
      refine tri_skip ?_
      refine fin_then ?_
      refine tri_seq ?_
      refine tri_block ?_
      refine tri_seq ?_
      refine tri_regD hcx [] [7] [2, 3, 44, 45] [] [] [(7, .int (m : Int))] [] (by kernel_rfl) ?_ ?_
      ·
       exact az
      refine fin_then ?_
      refine tri_seq ?_
      refine tri_regD hcx [(1003, .to 251)] [8] [2, 3, 44, 45] [] [(0 ≤ N ∧ N ≤ 60)] [(8, .row 251)] [(251, .row 4 (.bools (allV N.toNat (m : Int))))] (by kernel_rfl) ?_ ?_
      ·
       refine (ap ?_ az)
       omega
      refine fin_then ?_
      refine tri_seq ?_
      refine tri_regD hcx [] [59] [2, 3, 44, 45] [] [(L.length ≤ maxLen ∧ (∀ l ∈ L, l.length ≤ maxLen) ∧ (allV N.toNat (m : Int)).length ≤ maxLen), ((Cn.valV N L (allV N.toNat (m : Int))) = true → ((Cn.valV N L (allV N.toNat (m : Int))) = true)), ((Cn.valV N L (allV N.toNat (m : Int))) = true → ((Cn.valV N L (allV N.toNat (m : Int))) = true)), ((Cn.valV N L (allV N.toNat (m : Int))) = true → (core.length ≤ maxLen ∧ (allV N.toNat (m : Int)).length ≤ maxLen)), ((Cn.valV N L (allV N.toNat (m : Int))) = true → (Cn.valV N L (allV N.toNat (m : Int))) = true)] [(59, .bool ((Cn.valV N L (allV N.toNat (m : Int))) && (core.all fun x => Cn.holdsV (allV N.toNat (m : Int)) [x])))] [] (by kernel_rfl) ?_ ?_
      ·
       refine (ap ?_ (ap ?_ (ap ?_ (ap ?_ (ap (by exact id) az)))))
       all_goals
        first | exact id | exact ⟨hL, hLm2, hal _⟩ | exact (fun _ => ⟨hC, hal _⟩)
      refine fin_then ?_
      refine tri_cond (b := ((Cn.valV N L (allV N.toNat (m : Int))) && (core.all fun x => Cn.holdsV (allV N.toNat (m : Int)) [x]))) (by kernel_rfl) (fun hb3 => ?_) (fun hb3 => ?_)
      ·
       skip
       have h3 := hb3
       (exfalso; exact Cn.dead_sound hck h3)
      ·
       skip
       have h3 := hb3
       skip
       refine tri_skip ?_
       refine fin_block ?_
       refine fin_then ?_
       refine tri_regD hcx [] [45] [2, 3, 44] [] [Fit ((m : Int) + 1)] [(45, .int ((m : Int) + 1))] [] (by kernel_rfl) ?_ ?_
       ·
        refine (ap ?_ az)
        omega
       refine fin_round (m + 1) ?_ ?_ ?_ ?_
       ·
        show ((m + 1) : Int) ≤ 1 * 2 ^ N.toNat
        omega
       ·
        show (1 * 2 ^ N.toNat : Int).toNat - (m + 1) < (1 * 2 ^ N.toNat : Int).toNat - m
        omega
       ·
        exact subE_mk (l := [.ints core, .pto [.int N, .ls (.intss L)], .int (1 * 2 ^ N.toNat), .int ((m : Int) + 1)]) (m := [.ints core, .pto [.int N, .ls (.intss L)], .int (1 * 2 ^ N.toNat), .int ((m + 1) : Int)]) (by kernel_rfl) (by kernel_rfl) (consE rfl (consE rfl (consE rfl (consE (congrArg AV.int (show ((m : Int) + 1) = ((m + 1) : Int) from (by first | rfl | omega | (simp; done)))) rfl))))
       ·
        kernel_rfl
     ·
      skip
      have h2 := of_decide_eq_false hb2
      refine tri_exit ?_
      refine fin_then_exit ?_
      refine fin_then_exit ?_
      refine fin_block_same ?_
      refine fin_then ?_
      refine tri_seq ?_
      refine tri_regD hcx [] [6] [] [] [] [(6, .bool true)] [] (by kernel_rfl) ?_ ?_
      ·
       exact az
      refine fin_then ?_
      refine tri_ret ?_
      exact fin_ret [] rfl rfl trivial hcx (avs := [.bool true]) (by kernel_rfl) rfl [] rfl
 ·
  cases hσ
end Go.Proofs.YtbpbndlgfiammaaGreatDoor.En
