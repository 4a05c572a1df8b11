/- The law ProofImplied. -/
import Derived.Test.YtbpbndlgfiammaaGreatDoorLive24S
import Derived.Test.YtbpbndlgfiammaaGreatDoorRef24A
import Derived.Test.YtbpbndlgfiammaaGreatDoorAllX
import Derived.Test.YtbpbndlgfiammaaGreatDoorLaw24P
namespace Go.Proofs.YtbpbndlgfiammaaGreatDoor.En
open Go Go.RowKit
set_option linter.unusedVariables false
set_option linter.unusedSimpArgs false
set_option linter.unnecessarySimpa false
def tyL24ProofImplied : List (Nat × TD) := [(3, ⟨1, false, [.int .i64 0], [], none, 8, false, 1, 1⟩),
  (4, ⟨1, false, [.bool false], [], none, 1, true, 0, 2⟩),
  (22, ⟨1, false, [.slice none 0 0], [], some 23, 24, false, 0, 0⟩),
  (23, ⟨1, false, [.slice none 0 0], [], some 3, 24, false, 0, 3⟩),
  (28, ⟨2, true, [.int .i64 0, .slice none 0 0], [(0, 3), (1, 22)], none, 32, false, 0, 6⟩),
  (31, ⟨1, false, [.int .i64 0], [], none, 8, false, 1, 1⟩),
  (45, ⟨1, false, [.slice none 0 0], [], some 4, 24, false, 0, 0⟩)]
theorem tyL24ProofImplied_ok : AllTy Tryz.prog tyL24ProofImplied := ⟨⟨by kernel_rfl, by kernel_rfl, by kernel_rfl⟩, ⟨by kernel_rfl, by kernel_rfl, by kernel_rfl⟩, ⟨by kernel_rfl, by kernel_rfl, by kernel_rfl⟩, ⟨by kernel_rfl, by kernel_rfl, by kernel_rfl⟩, ⟨by kernel_rfl, by kernel_rfl, by kernel_rfl⟩, ⟨by kernel_rfl, by kernel_rfl, by kernel_rfl⟩, ⟨by kernel_rfl, by kernel_rfl, by kernel_rfl⟩, trivial⟩
def cx_lProofImplied : Cx := ⟨tyL24ProofImplied, [(13, (coeF [.ld (.intss []), .id] rFewC_σ)), (14, (coeF [.ld (.intss []), .ld (.ints [])] pFlw_σ)), (24, sAll), (28, (coeF [.ld (.ints []), .ld (.bools [])] cHolds_σ)), (25, (coeF [.agg [.id, .ld (.intss [])], .ld (.bools [])] cValue_σ)), (27, (coeF [.agg [.id, .ld (.intss [])]] cCheck_σ)), (12, live24_σ), (29, (coeF [.ld (.ints []), .id] lOpen_σ))], true⟩
theorem cx_lProofImplied_ok : CxOk Tryz.prog cx_lProofImplied := cx_ok tyL24ProofImplied_ok ⟨(rFewC_sound.coe [.ld (.intss []), .id] rfl), (pFlw_sound.coe [.ld (.intss []), .ld (.ints [])] rfl), sAll_sound, (cHolds_sound.coe [.ld (.ints []), .ld (.bools [])] rfl), (cValue_sound.coe [.agg [.id, .ld (.intss [])], .ld (.bools [])] rfl), (cCheck_sound.coe [.agg [.id, .ld (.intss [])]] rfl), live24_sound, (lOpen_sound.coe [.ld (.ints []), .id] rfl), trivial⟩
def lProofImplied_σ : CtF
  | [.agg [.im (.val (.int .i64 N)), .im (.ls (.intss L))], .im (.ls (.ints l)), .im (.ls (.ints more))], [] => some ((L.length ≤ maxLen ∧ (∀ x ∈ L, x.length ≤ 17592186043904)) ∧ l.length ≤ maxLen ∧ more.length ≤ maxLen, .bool true, [])
  | _, _ => none
theorem lProofImplied_sound : Sound Tryz.prog 9 lProofImplied_σ := by
 refine sound_mk (cx := cx_lProofImplied) (fn := Tryz.f9) Tryz.func9 (by kernel_rfl) rfl ?_
 intro w0 G0 args os p r outs hσ hp hm0 hd0
 have hcx : CxOk Tryz.prog cx_lProofImplied := cx_lProofImplied_ok
 unfold lProofImplied_σ at hσ
 split at hσ
 ·
  rename_i N L l more
  simp only [Option.some.injEq, Prod.mk.injEq] at hσ
  obtain ⟨rfl, rfl, rfl⟩ := hσ
  obtain ⟨wW, wO, wm, wβ, wd⟩ := w0
  replace hm0 : wm = 0 := hm0
  subst hm0
  replace hd0 : wd = [] := hd0
  subst hd0
  refine ⟨by kernel_rfl, ?_⟩
  change Tri ⟨_, _, _, _, _, _⟩ [(0, .agg [.int N, .intss L]), (1, .ints l), (2, .ints more)] [] _ _
  obtain ⟨⟨hL, hLm⟩, hl, hM⟩ := hp
  have hL9 := hL
  have hl9 := hl
  have hM9 := hM
  unfold maxLen at hL9 hl9 hM9
  have hLm2 : ∀ l ∈ L, l.length ≤ maxLen := fun l hl => by have := hLm l hl; unfold maxLen; omega
  refine tri_seq ?_
  refine tri_regD hcx [(1000, .frz)] [3] [1, 2] [] [] [(3, .pto [.int N, .ls (.intss L)])] [] (by kernel_rfl) ?_ ?_
  ·
   exact az
  refine fin_then ?_
  refine tri_seq ?_
  refine tri_seq ?_
  refine tri_regD hcx [] [12] [3, 1, 2] [] [(True)] [(12, .bool (!true))] [] (by kernel_rfl) ?_ ?_
  ·
   refine (ap ?_ az)
   exact True.intro
  refine fin_then ?_
  refine tri_cond (b := (!true)) (by kernel_rfl) (fun hb0 => ?_) (fun hb0 => ?_)
  ·
   skip
   have h0 := hb0
   cases h0
  ·
   skip
   have h0 := (notB_f hb0)
   refine tri_skip ?_
   refine fin_then ?_
   refine tri_seq ?_
   refine tri_seq ?_
   refine tri_regD hcx [] [48] [3, 1, 2] [] [((!(decide (N < 0))) = true → ((!(decide (N < 0))) = true)), ((!(decide (N < 0))) = true → ((!(decide (N < 0))) = true)), ((decide (N < 0)) = false → (!(decide (N < 0))) = true), ((!((decide (N < 0)) || (decide (N > 9)))) = true → ((!((decide (N < 0)) || (decide (N > 9)))) = true)), ((!((decide (N < 0)) || (decide (N > 9)))) = true → ((!((decide (N < 0)) || (decide (N > 9)))) = true)), ((!((decide (N < 0)) || (decide (N > 9)))) = true → (L.length ≤ maxLen ∧ (∀ x ∈ L, x.length ≤ 17592186043904) ∧ 0 ≤ (40 : Int) ∧ (40 : Int) ≤ 1000)), ((!((decide (N < 0)) || (decide (N > 9)))) = true → ((!((decide (N < 0)) || (decide (N > 9)))) = true)), (((decide (N < 0)) || (decide (N > 9))) = false → (!((decide (N < 0)) || (decide (N > 9)))) = true), ((!(((decide (N < 0)) || (decide (N > 9))) || (!(Cn.fewC L (40 : Int))))) = true → ((!(((decide (N < 0)) || (decide (N > 9))) || (!(Cn.fewC L (40 : Int))))) = true)), ((!(((decide (N < 0)) || (decide (N > 9))) || (!(Cn.fewC L (40 : Int))))) = true → ((!(((decide (N < 0)) || (decide (N > 9))) || (!(Cn.fewC L (40 : Int))))) = true)), ((((decide (N < 0)) || (decide (N > 9))) || (!(Cn.fewC L (40 : Int)))) = false → (!(((decide (N < 0)) || (decide (N > 9))) || (!(Cn.fewC L (40 : Int))))) = true), ((!((((decide (N < 0)) || (decide (N > 9))) || (!(Cn.fewC L (40 : Int)))) || (decide ((l.length : Int) > 30)))) = true → ((!((((decide (N < 0)) || (decide (N > 9))) || (!(Cn.fewC L (40 : Int)))) || (decide ((l.length : Int) > 30)))) = true)), ((!((((decide (N < 0)) || (decide (N > 9))) || (!(Cn.fewC L (40 : Int)))) || (decide ((l.length : Int) > 30)))) = true → ((!((((decide (N < 0)) || (decide (N > 9))) || (!(Cn.fewC L (40 : Int)))) || (decide ((l.length : Int) > 30)))) = true)), (((((decide (N < 0)) || (decide (N > 9))) || (!(Cn.fewC L (40 : Int)))) || (decide ((l.length : Int) > 30))) = false → (!((((decide (N < 0)) || (decide (N > 9))) || (!(Cn.fewC L (40 : Int)))) || (decide ((l.length : Int) > 30)))) = true), ((!(((((decide (N < 0)) || (decide (N > 9))) || (!(Cn.fewC L (40 : Int)))) || (decide ((l.length : Int) > 30))) || (decide ((more.length : Int) > 30)))) = true → ((!(((((decide (N < 0)) || (decide (N > 9))) || (!(Cn.fewC L (40 : Int)))) || (decide ((l.length : Int) > 30))) || (decide ((more.length : Int) > 30)))) = true)), ((!(((((decide (N < 0)) || (decide (N > 9))) || (!(Cn.fewC L (40 : Int)))) || (decide ((l.length : Int) > 30))) || (decide ((more.length : Int) > 30)))) = true → (L.length ≤ maxLen ∧ ∀ l ∈ L, l.length ≤ maxLen)), ((!(((((decide (N < 0)) || (decide (N > 9))) || (!(Cn.fewC L (40 : Int)))) || (decide ((l.length : Int) > 30))) || (decide ((more.length : Int) > 30)))) = true → ((!(((((decide (N < 0)) || (decide (N > 9))) || (!(Cn.fewC L (40 : Int)))) || (decide ((l.length : Int) > 30))) || (decide ((more.length : Int) > 30)))) = true)), ((((((decide (N < 0)) || (decide (N > 9))) || (!(Cn.fewC L (40 : Int)))) || (decide ((l.length : Int) > 30))) || (decide ((more.length : Int) > 30))) = false → (!(((((decide (N < 0)) || (decide (N > 9))) || (!(Cn.fewC L (40 : Int)))) || (decide ((l.length : Int) > 30))) || (decide ((more.length : Int) > 30)))) = true), ((!((((((decide (N < 0)) || (decide (N > 9))) || (!(Cn.fewC L (40 : Int)))) || (decide ((l.length : Int) > 30))) || (decide ((more.length : Int) > 30))) || ((Cn.chkV N L) != 0))) = true → ((!((((((decide (N < 0)) || (decide (N > 9))) || (!(Cn.fewC L (40 : Int)))) || (decide ((l.length : Int) > 30))) || (decide ((more.length : Int) > 30))) || ((Cn.chkV N L) != 0))) = true)), ((!((((((decide (N < 0)) || (decide (N > 9))) || (!(Cn.fewC L (40 : Int)))) || (decide ((l.length : Int) > 30))) || (decide ((more.length : Int) > 30))) || ((Cn.chkV N L) != 0))) = true → ((!((((((decide (N < 0)) || (decide (N > 9))) || (!(Cn.fewC L (40 : Int)))) || (decide ((l.length : Int) > 30))) || (decide ((more.length : Int) > 30))) || ((Cn.chkV N L) != 0))) = true)), ((!((((((decide (N < 0)) || (decide (N > 9))) || (!(Cn.fewC L (40 : Int)))) || (decide ((l.length : Int) > 30))) || (decide ((more.length : Int) > 30))) || ((Cn.chkV N L) != 0))) = true → ((!((((((decide (N < 0)) || (decide (N > 9))) || (!(Cn.fewC L (40 : Int)))) || (decide ((l.length : Int) > 30))) || (decide ((more.length : Int) > 30))) || ((Cn.chkV N L) != 0))) = true)), ((!((((((decide (N < 0)) || (decide (N > 9))) || (!(Cn.fewC L (40 : Int)))) || (decide ((l.length : Int) > 30))) || (decide ((more.length : Int) > 30))) || ((Cn.chkV N L) != 0))) = true → (L.length ≤ 1000000000 ∧ (∀ x ∈ L, x.length ≤ maxLen) ∧ l.length ≤ maxLen)), ((!((((((decide (N < 0)) || (decide (N > 9))) || (!(Cn.fewC L (40 : Int)))) || (decide ((l.length : Int) > 30))) || (decide ((more.length : Int) > 30))) || ((Cn.chkV N L) != 0))) = true → ((!((((((decide (N < 0)) || (decide (N > 9))) || (!(Cn.fewC L (40 : Int)))) || (decide ((l.length : Int) > 30))) || (decide ((more.length : Int) > 30))) || ((Cn.chkV N L) != 0))) = true)), (((((((decide (N < 0)) || (decide (N > 9))) || (!(Cn.fewC L (40 : Int)))) || (decide ((l.length : Int) > 30))) || (decide ((more.length : Int) > 30))) || ((Cn.chkV N L) != 0)) = false → (!((((((decide (N < 0)) || (decide (N > 9))) || (!(Cn.fewC L (40 : Int)))) || (decide ((l.length : Int) > 30))) || (decide ((more.length : Int) > 30))) || ((Cn.chkV N L) != 0))) = true)] [(48, .bool (((((((decide (N < 0)) || (decide (N > 9))) || (!(Cn.fewC L (40 : Int)))) || (decide ((l.length : Int) > 30))) || (decide ((more.length : Int) > 30))) || ((Cn.chkV N L) != 0)) || (!(Cn.flwV L l))))] [] (by kernel_rfl) ?_ ?_
   ·
    refine (ap ?_ (ap ?_ (ap (by exact vcNot) (ap ?_ (ap ?_ (ap ?_ (ap ?_ (ap (by exact vcNot) (ap ?_ (ap ?_ (ap (by exact vcNot) (ap ?_ (ap ?_ (ap (by exact vcNot) (ap ?_ (ap ?_ (ap ?_ (ap (by exact vcNot) (ap ?_ (ap ?_ (ap ?_ (ap ?_ (ap ?_ (ap (by exact vcNot) az))))))))))))))))))))))))
    all_goals
     first | exact id | exact (fun _ => ⟨hL, hLm, by decide, by decide⟩) | exact (fun _ => ⟨hL, hLm2⟩) | (intro hg; have hq := Cn.fewC_iff (Cn.g_implied hg); exact ⟨by omega, hLm2, hl⟩)
   refine fin_then ?_
   refine tri_cond (b := (((((((decide (N < 0)) || (decide (N > 9))) || (!(Cn.fewC L (40 : Int)))) || (decide ((l.length : Int) > 30))) || (decide ((more.length : Int) > 30))) || ((Cn.chkV N L) != 0)) || (!(Cn.flwV L l)))) (by kernel_rfl) (fun hb1 => ?_) (fun hb1 => ?_)
   ·
    skip
    have h1 := hb1
    skip
    refine tri_seq ?_
    refine tri_regD hcx [] [6] [] [] [] [(6, .bool true)] [] (by kernel_rfl) ?_ ?_
    ·
     exact az
    refine fin_then ?_
    refine tri_ret ?_
    refine fin_then_ret ?_
    exact fin_ret [] rfl rfl trivial hcx (avs := [.bool true]) (by kernel_rfl) rfl [] rfl
   ·
    skip
    have h1 := hb1
    obtain ⟨⟨hN0, hN9⟩, hf1, hz1, hz2, hck, hfl⟩ := Cn.c_implied h1
    obtain ⟨a1, a2, a3⟩ := Cn.fewC_iff hf1
    have hp2 := Cn.two_pow9 (n := N.toNat) (by omega)
    have hal : ∀ m : Nat, (allV N.toNat (m : Int)).length ≤ maxLen := fun m => by rw [allV_len]; unfold maxLen; omega
    refine tri_skip ?_
    refine fin_then ?_
    refine tri_seq ?_
    refine tri_seq ?_
    refine tri_regD hcx [] [51, 52] [3, 1, 2] [] [((0 : Int) ≤ N ∧ N ≤ 64 ∧ Fit (1 * 2 ^ N.toNat))] [(51, .int (1 * 2 ^ N.toNat)), (52, .int 0)] [] (by kernel_rfl) ?_ ?_
    ·
     refine (ap ?_ az)
     omega
    refine fin_then ?_
    refine tri_block ?_
    refine tri_loop (X := Nat) (fun x0 => (x0 : Int) ≤ 1 * 2 ^ N.toNat) (fun x0 => [(1, .ints l), (2, .ints more), (3, .pto [.int N, .ls (.intss L)]), (51, .int (1 * 2 ^ N.toNat)), (52, .int (x0 : Int))]) (fun x0 => []) (fun x0 => (1 * 2 ^ N.toNat : Int).toNat - x0) (0) ?_ ?_ ?_ ?_
    ·
     show (0 : Int) ≤ 1 * 2 ^ N.toNat
     omega
    ·
     exact subE_mk (l := [.ints l, .ints more, .pto [.int N, .ls (.intss L)], .int (1 * 2 ^ N.toNat), .int 0]) (m := [.ints l, .ints more, .pto [.int N, .ls (.intss L)], .int (1 * 2 ^ N.toNat), .int (0 : Int)]) (by kernel_rfl) (by kernel_rfl) (consE rfl (consE rfl (consE rfl (consE rfl (consE (congrArg AV.int (show 0 = (0 : Int) from (by first | rfl | omega | (simp; done)))) rfl)))))
    ·
     kernel_rfl
    ·
     intro m hI
     replace hI : (m : Int) ≤ 1 * 2 ^ N.toNat := hI
     change Tri _ [(1, .ints l), (2, .ints more), (3, .pto [.int N, .ls (.intss L)]), (51, .int (1 * 2 ^ N.toNat)), (52, .int (m : Int))] [] _ _
     refine tri_seq ?_
     refine tri_regD hcx [] [53] [1, 2, 3, 51, 52] [] [] [(53, .bool (decide ((m : Int) < (1 * 2 ^ N.toNat))))] [] (by kernel_rfl) ?_ ?_
     ·
      exact az
     refine fin_then ?_
     refine tri_seq ?_
     refine tri_cond (b := (decide ((m : Int) < (1 * 2 ^ N.toNat)))) (by kernel_rfl) (fun hb2 => ?_) (fun hb2 => ?_)
     ·
      skip
      have h2 := of_decide_eq_true hb2
      refine tri_skip ?_
      refine fin_then ?_
      refine tri_seq ?_
      refine tri_block ?_
      refine tri_seq ?_
      refine tri_regD hcx [] [7] [1, 2, 3, 51, 52] [] [] [(7, .int (m : Int))] [] (by kernel_rfl) ?_ ?_
      ·
       exact az
      refine fin_then ?_
      refine tri_seq ?_
      refine tri_regD hcx [(1003, .to 258)] [8] [1, 2, 3, 51, 52] [] [(0 ≤ N ∧ N ≤ 60)] [(8, .row 258)] [(258, .row 4 (.bools (allV N.toNat (m : Int))))] (by kernel_rfl) ?_ ?_
      ·
       refine (ap ?_ az)
       omega
      refine fin_then ?_
      refine tri_seq ?_
      refine tri_regD hcx [] [74] [1, 2, 3, 51, 52] [] [(L.length ≤ maxLen ∧ (∀ l ∈ L, l.length ≤ maxLen) ∧ (allV N.toNat (m : Int)).length ≤ maxLen), ((Cn.valV N L (allV N.toNat (m : Int))) = true → ((Cn.valV N L (allV N.toNat (m : Int))) = true)), ((Cn.valV N L (allV N.toNat (m : Int))) = true → ((Cn.valV N L (allV N.toNat (m : Int))) = true)), ((Cn.valV N L (allV N.toNat (m : Int))) = true → (l.length ≤ maxLen ∧ (allV N.toNat (m : Int)).length ≤ maxLen)), ((Cn.valV N L (allV N.toNat (m : Int))) = true → ((Cn.valV N L (allV N.toNat (m : Int))) = true)), ((Cn.valV N L (allV N.toNat (m : Int))) = true → (Cn.valV N L (allV N.toNat (m : Int))) = true), (((Cn.valV N L (allV N.toNat (m : Int))) && (!(Cn.holdsV (allV N.toNat (m : Int)) l))) = true → (((Cn.valV N L (allV N.toNat (m : Int))) && (!(Cn.holdsV (allV N.toNat (m : Int)) l))) = true)), (((Cn.valV N L (allV N.toNat (m : Int))) && (!(Cn.holdsV (allV N.toNat (m : Int)) l))) = true → (((Cn.valV N L (allV N.toNat (m : Int))) && (!(Cn.holdsV (allV N.toNat (m : Int)) l))) = true)), (((Cn.valV N L (allV N.toNat (m : Int))) && (!(Cn.holdsV (allV N.toNat (m : Int)) l))) = true → (((Cn.valV N L (allV N.toNat (m : Int))) && (!(Cn.holdsV (allV N.toNat (m : Int)) l))) = true)), (((Cn.valV N L (allV N.toNat (m : Int))) && (!(Cn.holdsV (allV N.toNat (m : Int)) l))) = true → (l.length ≤ maxLen ∧ 0 ≤ N ∧ N ≤ 65536)), (((Cn.valV N L (allV N.toNat (m : Int))) && (!(Cn.holdsV (allV N.toNat (m : Int)) l))) = true → (((Cn.valV N L (allV N.toNat (m : Int))) && (!(Cn.holdsV (allV N.toNat (m : Int)) l))) = true)), (((Cn.valV N L (allV N.toNat (m : Int))) && (!(Cn.holdsV (allV N.toNat (m : Int)) l))) = true → ((Cn.valV N L (allV N.toNat (m : Int))) && (!(Cn.holdsV (allV N.toNat (m : Int)) l))) = true)] [(74, .bool (((Cn.valV N L (allV N.toNat (m : Int))) && (!(Cn.holdsV (allV N.toNat (m : Int)) l))) && (!(l.any fun x => decide (x > N) || decide (x < -N)))))] [] (by kernel_rfl) ?_ ?_
      ·
       refine (ap ?_ (ap ?_ (ap ?_ (ap ?_ (ap ?_ (ap (by exact id) (ap ?_ (ap ?_ (ap ?_ (ap ?_ (ap ?_ (ap (by exact id) az))))))))))))
       all_goals
        first | omega | exact id | exact ⟨hL, hLm2, hal _⟩ | exact (fun _ => ⟨hl, hal _⟩)
      refine fin_then ?_
      refine tri_cond (b := (((Cn.valV N L (allV N.toNat (m : Int))) && (!(Cn.holdsV (allV N.toNat (m : Int)) l))) && (!(l.any fun x => decide (x > N) || decide (x < -N))))) (by kernel_rfl) (fun hb3 => ?_) (fun hb3 => ?_)
      ·
       skip
       have h3 := hb3
       (exfalso; exact Cn.dead_implied hfl h3)
      ·
       skip
       have h3 := hb3
       skip
       refine tri_skip ?_
       refine fin_block ?_
       refine fin_then ?_
       refine tri_regD hcx [] [52] [1, 2, 3, 51] [] [Fit ((m : Int) + 1)] [(52, .int ((m : Int) + 1))] [] (by kernel_rfl) ?_ ?_
       ·
        refine (ap ?_ az)
        omega
       refine fin_round (m + 1) ?_ ?_ ?_ ?_
       ·
        show ((m + 1) : Int) ≤ 1 * 2 ^ N.toNat
        omega
       ·
        show (1 * 2 ^ N.toNat : Int).toNat - (m + 1) < (1 * 2 ^ N.toNat : Int).toNat - m
        omega
       ·
        exact subE_mk (l := [.ints l, .ints more, .pto [.int N, .ls (.intss L)], .int (1 * 2 ^ N.toNat), .int ((m : Int) + 1)]) (m := [.ints l, .ints more, .pto [.int N, .ls (.intss L)], .int (1 * 2 ^ N.toNat), .int ((m + 1) : Int)]) (by kernel_rfl) (by kernel_rfl) (consE rfl (consE rfl (consE rfl (consE rfl (consE (congrArg AV.int (show ((m : Int) + 1) = ((m + 1) : Int) from (by first | rfl | omega | (simp; done)))) rfl)))))
       ·
        kernel_rfl
     ·
      skip
      have h2 := of_decide_eq_false hb2
      refine tri_exit ?_
      refine fin_then_exit ?_
      refine fin_then_exit ?_
      refine fin_block_same ?_
      refine fin_then ?_
      refine tri_seq ?_
      refine tri_regD hcx [(1003, .to 279)] [9] [1, 2, 3] [] [(l.length * 8 ≤ 140737488355328), ((l.length + more.length) * 8 ≤ 140737488355328)] [(9, .row 279)] [(279, .row 3 (.ints (l ++ more)))] (by kernel_rfl) ?_ ?_
      ·
       refine (ap ?_ (ap ?_ az))
       all_goals
        omega
      refine fin_then ?_
      refine tri_seq ?_
      refine tri_regD hcx [(1005, .to 285)] [10] [9, 1, 3] [279] [(L.length * 24 ≤ 140737488355328), ((L.length + [more].length) * 24 ≤ 140737488355328)] [(10, .row 285)] [(285, .row 23 (.intss (L ++ [more])))] (by kernel_rfl) ?_ ?_
      ·
       refine (ap ?_ (ap ?_ az))
       all_goals
        first | omega | (simp only [List.length_append, List.length_cons, List.length_nil]; omega)
      refine fin_then ?_
      refine tri_seq ?_
      refine tri_regD hcx [] [6] [] [] [(L.length ≤ 1000000000 ∧ (∀ x ∈ L, x.length ≤ maxLen) ∧ (l ++ more).length ≤ maxLen), ((Cn.flwV L (l ++ more)) = true → ((Cn.flwV L (l ++ more)) = true)), ((Cn.flwV L (l ++ more)) = true → ((Cn.flwV L (l ++ more)) = true)), ((Cn.flwV L (l ++ more)) = true → ((L ++ [more]).length ≤ 1000000000 ∧ (∀ x ∈ (L ++ [more]), x.length ≤ maxLen) ∧ l.length ≤ maxLen)), ((Cn.flwV L (l ++ more)) = true → (Cn.flwV L (l ++ more)) = true)] [(6, .bool ((Cn.flwV L (l ++ more)) && (Cn.flwV (L ++ [more]) l)))] [] (by kernel_rfl) ?_ ?_
      ·
       refine (ap ?_ (ap ?_ (ap ?_ (ap ?_ (ap (by exact id) az)))))
       all_goals
        first | exact id | exact ⟨by omega, hLm2, by simp only [List.length_append]; unfold maxLen; omega⟩ | exact (fun _ => ⟨by simp only [List.length_append, List.length_cons, List.length_nil]; omega, Cn.mem_snoc hLm2 hM, hl⟩)
      refine fin_then ?_
      refine tri_ret ?_
      exact fin_ret [] rfl rfl trivial hcx (avs := [.bool ((Cn.flwV L (l ++ more)) && (Cn.flwV (L ++ [more]) l))]) (by kernel_rfl) (congrArg AV.bool (show ((Cn.flwV L (l ++ more)) && (Cn.flwV (L ++ [more]) l)) = true from (by first | rfl | (rw [Cn.imp_1 hfl, Cn.imp_2 hfl]; rfl) | done))) [] rfl
 ·
  cases hσ
end Go.Proofs.YtbpbndlgfiammaaGreatDoor.En
