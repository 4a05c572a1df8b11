/- Lemmas and contracts for the row. -/
import Derived.Test.YtbpbndlgfiammaaGreatDoorPkRowProofTidyT
import Derived.Test.YtbpbndlgfiammaaGreatDoorPkRowProofTidyAN
import Derived.Test.YtbpbndlgfiammaaGreatDoorPkRowProofTidyAK
import Derived.Test.YtbpbndlgfiammaaGreatDoorPkRowProofTidyAJ
import Derived.Test.YtbpbndlgfiammaaGreatDoorPkRowProofTidyAD
import Derived.Test.YtbpbndlgfiammaaGreatDoorPkRowProofTidyAA
set_option linter.unusedVariables false
set_option linter.unusedSimpArgs false
set_option linter.unnecessarySimpa false
namespace Go.Proofs.YtbpbndlgfiammaaGreatDoor.En
open Go Go.RowKit
def tyL24ProofTidy : List (Nat × TD) := [(3, ⟨1, false, [.int .i64 0], [], none, 8, false, 1, 1⟩),
  (22, ⟨1, false, [.slice none 0 0], [], some 23, 24, false, 0, 0⟩),
  (23, ⟨1, false, [.slice none 0 0], [], some 3, 24, false, 0, 3⟩),
  (28, ⟨2, true, [.int .i64 0, .slice none 0 0], [(0, 3), (1, 22)], none, 32, false, 0, 6⟩),
  (31, ⟨1, false, [.int .i64 0], [], none, 8, false, 1, 1⟩)]
theorem tyL24ProofTidy_ok : AllTy Tryz.prog tyL24ProofTidy := ⟨⟨by kernel_rfl, by kernel_rfl, by kernel_rfl⟩, ⟨by kernel_rfl, by kernel_rfl, by kernel_rfl⟩, ⟨by kernel_rfl, by kernel_rfl, by kernel_rfl⟩, ⟨by kernel_rfl, by kernel_rfl, by kernel_rfl⟩, ⟨by kernel_rfl, by kernel_rfl, by kernel_rfl⟩, trivial⟩
def cx_lProofTidy : Cx := ⟨tyL24ProofTidy, [(13, (coeF [.ld (.intss []), .id] rFewC_σ)), (14, (coeF [.ld (.intss []), .ld (.ints [])] pFlw_σ)), (12, live24_σ), (30, (coeF [.agg [.id, .ld (.intss [])], .id] tViv_σ)), (31, sSub)], true⟩
theorem cx_lProofTidy_ok : CxOk Tryz.prog cx_lProofTidy := cx_ok tyL24ProofTidy_ok ⟨(rFewC_sound.coe [.ld (.intss []), .id] rfl), (pFlw_sound.coe [.ld (.intss []), .ld (.ints [])] rfl), live24_sound, (tViv_sound.coe [.agg [.id, .ld (.intss [])], .id] rfl), sSub_sound, trivial⟩
def lProofTidy_σ : CtF
  | [.agg [.im (.val (.int .i64 N)), .im (.ls (.intss L))], .im (.val (.int .i64 k))], [] => some ((L.length ≤ maxLen ∧ (∀ x ∈ L, x.length ≤ 17592186043904)) ∧ Fit k, .bool true, [])
  | _, _ => none
theorem lProofTidy_sound : Sound Tryz.prog 10 lProofTidy_σ := by
 refine Sw (cx := cx_lProofTidy) Tryz.f10 Tryz.func10 ?_
 intro wW wO wβ G0 args os p r outs hσ hp
 have hcx := cx_lProofTidy_ok
 unfold lProofTidy_σ at hσ
 split at hσ
 ·
  rename_i N L k
  cases hσ
  refine ⟨by kernel_rfl, ?_⟩
  obtain ⟨⟨hL, hLm⟩, hfk⟩ := hp
  have hL9 := hL
  unfold maxLen at hL9
  have hLm2 : ∀ l ∈ L, l.length ≤ maxLen := fun l hl => by have := hLm l hl; unfold maxLen; omega
  refine Sz hcx [(1000, .frz)] [2] [0] [] (Zs (Sq hcx [] [8] [] [] [(True)] ?_ (Zi (b := !true) (fun h0 => ?_) fun h0 => ?_)))
  ·
   refine ap ?_ az
   first | omega | exact True.intro | exact id | exact (fun _ h => h) | exact ⟨hL, hLm, by decide, by decide⟩ | exact (fun _ => ⟨hL, hLm, by decide, by decide⟩) | exact ⟨by omega, hl1, hfk⟩ | exact ⟨by omega, hLm2, by unfold maxLen; omega⟩ | exact (fun _ => ⟨by omega, hLm2, by unfold maxLen; omega⟩) | (intro _; exact ⟨by unfold maxLen; omega, by have := hl1 _ (Cn.getD_memL (d := ([] : List Int)) (k := k.toNat) (by omega)); unfold maxLen; omega⟩) | (constructor <;> omega) | (intro _; constructor <;> omega) | (intro _; omega) | done
  ·
   cases h0
  ·
   replace h0 := (notB_f h0)
   refine Zk (Ft (Zs (Sq hcx [] [17] [8] [] [(L.length ≤ maxLen ∧ (∀ x ∈ L, x.length ≤ 17592186043904) ∧ 0 ≤ (30 : Int) ∧ (30 : Int) ≤ 1000), ((!(!(Cn.fewC L (30 : Int)))) = true → ((!(!(Cn.fewC L (30 : Int)))) = true)), ((!(!(Cn.fewC L (30 : Int)))) = true → ((!(!(Cn.fewC L (30 : Int)))) = true)), ((!(Cn.fewC L (30 : Int))) = false → (!(!(Cn.fewC L (30 : Int)))) = true)] ?_ (Zi (b := (!(Cn.fewC L (30 : Int))) || (decide (N > 60))) (fun h1 => ?_) fun h1 => ?_))))
   ·
    refine ap ?_ (ap ?_ (ap ?_ (ap (by exact vcNot) az))) <;>
     first | omega | exact True.intro | exact id | exact (fun _ h => h) | exact ⟨hL, hLm, by decide, by decide⟩ | exact (fun _ => ⟨hL, hLm, by decide, by decide⟩) | exact ⟨by omega, hl1, hfk⟩ | exact ⟨by omega, hLm2, by unfold maxLen; omega⟩ | exact (fun _ => ⟨by omega, hLm2, by unfold maxLen; omega⟩) | (intro _; exact ⟨by unfold maxLen; omega, by have := hl1 _ (Cn.getD_memL (d := ([] : List Int)) (k := k.toNat) (by omega)); unfold maxLen; omega⟩) | (constructor <;> omega) | (intro _; constructor <;> omega) | (intro _; omega) | done
   ·
    skip
    exact Sz hcx [] [4] [17, 2, 1] [] (Zr (Fr (Ru hcx [])))
   ·
    obtain ⟨hf1, hN⟩ := Cn.c_tidy h1
    obtain ⟨a1, a2, a3⟩ := Cn.fewC_iff hf1
    have hl1 : ∀ l ∈ L, l.length ≤ 1000000 := fun l hl => by have := a3 l hl; omega
    have hvl := Cn.vr_len (N := N) (k := k) hl1
    refine Zk (Ft (Sq hcx [] [5, 6] [17] [] [(L.length ≤ 100000 ∧ (∀ z9 ∈ L, z9.length ≤ 1000000) ∧ Fit k)] ?_ (Zs (Sz hcx [] [25] [6] [] (Zx (a := ((Cn.vivR N L k).2)) (b := 0) (fun h2 => ?_) fun h2 => ?_)))))
    ·
     refine ap ?_ az
     first | omega | exact True.intro | exact id | exact (fun _ h => h) | exact ⟨hL, hLm, by decide, by decide⟩ | exact (fun _ => ⟨hL, hLm, by decide, by decide⟩) | exact ⟨by omega, hl1, hfk⟩ | exact ⟨by omega, hLm2, by unfold maxLen; omega⟩ | exact (fun _ => ⟨by omega, hLm2, by unfold maxLen; omega⟩) | (intro _; exact ⟨by unfold maxLen; omega, by have := hl1 _ (Cn.getD_memL (d := ([] : List Int)) (k := k.toNat) (by omega)); unfold maxLen; omega⟩) | (constructor <;> omega) | (intro _; constructor <;> omega) | (intro _; omega) | done
    ·
     have hr := Cn.ty_err h2
     exact Sz hcx [] [4] [25, 5, 2, 1] [] (Zr (Fr (Rv hcx (congrArg AV.bool (show ((((Cn.vivR N L k).1).length : Int) == 0) = true from (by first | rfl | exact hr | exact Cn.ty_end h0 | done))) [] rfl)))
    ·
     have h0 : (Cn.vivR N L k).2 = 0 := by first | exact h2 | exact Decidable.not_not.1 h2
     refine Zk (Ft (Zs (Sq hcx [] [37] [25] [] [((!(decide (k < 0))) = true → ((!(decide (k < 0))) = true)), ((!(decide (k < 0))) = true → ((!(decide (k < 0))) = true)), ((!(decide (k < 0))) = true → ((!(decide (k < 0))) = true)), ((!(decide (k < 0))) = true → ((!(decide (k < 0))) = true)), ((decide (k < 0)) = false → (!(decide (k < 0))) = true)] ?_ (Zi (b := (decide (k < 0)) || (decide (k ≥ (L.length : Int)))) (fun h3 => ?_) fun h3 => ?_))))
     ·
      refine ap ?_ (ap ?_ (ap ?_ (ap ?_ (ap (by exact vcNot) az)))) <;>
       first | omega | exact True.intro | exact id | exact (fun _ h => h) | exact ⟨hL, hLm, by decide, by decide⟩ | exact (fun _ => ⟨hL, hLm, by decide, by decide⟩) | exact ⟨by omega, hl1, hfk⟩ | exact ⟨by omega, hLm2, by unfold maxLen; omega⟩ | exact (fun _ => ⟨by omega, hLm2, by unfold maxLen; omega⟩) | (intro _; exact ⟨by unfold maxLen; omega, by have := hl1 _ (Cn.getD_memL (d := ([] : List Int)) (k := k.toNat) (by omega)); unfold maxLen; omega⟩) | (constructor <;> omega) | (intro _; constructor <;> omega) | (intro _; omega) | done
     ·
      (exfalso; exact Cn.ty_dead h0 h3)
     ·
      obtain ⟨hck, hkk, _⟩ := Cn.vr_yes h0
      refine Zk (Ft (Sq hcx [] [4] [37, 5, 2, 1] [] [(L.length ≤ 1000000000 ∧ (∀ x ∈ L, x.length ≤ maxLen) ∧ ((Cn.vivR N L k).1).length ≤ maxLen), ((Cn.flwV L ((Cn.vivR N L k).1)) = true → ((Cn.flwV L ((Cn.vivR N L k).1)) = true)), ((Cn.flwV L ((Cn.vivR N L k).1)) = true → ((Cn.flwV L ((Cn.vivR N L k).1)) = true)), ((Cn.flwV L ((Cn.vivR N L k).1)) = true → ((Cn.flwV L ((Cn.vivR N L k).1)) = true)), ((Cn.flwV L ((Cn.vivR N L k).1)) = true → ((0 : Int) ≤ k ∧ k < (L.length : Int))), ((Cn.flwV L ((Cn.vivR N L k).1)) = true → ((Cn.flwV L ((Cn.vivR N L k).1)) = true)), ((Cn.flwV L ((Cn.vivR N L k).1)) = true → ((Cn.flwV L ((Cn.vivR N L k).1)) = true)), ((Cn.flwV L ((Cn.vivR N L k).1)) = true → ((Cn.flwV L ((Cn.vivR N L k).1)) = true)), ((Cn.flwV L ((Cn.vivR N L k).1)) = true → (((Cn.vivR N L k).1).length ≤ maxLen ∧ (L.getD k.toNat []).length ≤ maxLen)), ((Cn.flwV L ((Cn.vivR N L k).1)) = true → (Cn.flwV L ((Cn.vivR N L k).1)) = true)] ?_ (Zr (Rv hcx (congrArg AV.bool (show ((Cn.flwV L ((Cn.vivR N L k).1)) && (!(((Cn.vivR N L k).1).any fun x => !((L.getD k.toNat []).contains x)))) = true from (by first | rfl | exact hr | exact Cn.ty_end h0 | done))) [] rfl))))
      ·
       refine ap ?_ (ap ?_ (ap ?_ (ap ?_ (ap ?_ (ap ?_ (ap ?_ (ap ?_ (ap ?_ (ap (by exact id) az))))))))) <;>
        first | omega | exact True.intro | exact id | exact (fun _ h => h) | exact ⟨hL, hLm, by decide, by decide⟩ | exact (fun _ => ⟨hL, hLm, by decide, by decide⟩) | exact ⟨by omega, hl1, hfk⟩ | exact ⟨by omega, hLm2, by unfold maxLen; omega⟩ | exact (fun _ => ⟨by omega, hLm2, by unfold maxLen; omega⟩) | (intro _; exact ⟨by unfold maxLen; omega, by have := hl1 _ (Cn.getD_memL (d := ([] : List Int)) (k := k.toNat) (by omega)); unfold maxLen; omega⟩) | (constructor <;> omega) | (intro _; constructor <;> omega) | (intro _; omega) | done
 ·
  cases hσ
end Go.Proofs.YtbpbndlgfiammaaGreatDoor.En
