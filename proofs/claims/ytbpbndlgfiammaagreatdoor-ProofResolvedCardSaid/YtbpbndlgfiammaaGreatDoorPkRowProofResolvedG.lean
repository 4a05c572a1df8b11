/- Lemmas and contracts for the row. -/
import Derived.Test.YtbpbndlgfiammaaGreatDoorPkRowProofResolvedC
import Derived.Test.YtbpbndlgfiammaaGreatDoorPkRowProofResolvedF
import Derived.Test.YtbpbndlgfiammaaGreatDoorPkRowProofResolvedA
import Derived.WalkKit
import Derived.Below
import Derived.ChangeSlices
import Derived.WideShapes
import Derived.Lib.SmallJoins
import Derived.Deep.Grids
import Derived.Test.YtbpbndlgfiammaaGreatDoorProg
import Derived.KernelRfl
import Derived.Test.YtbpbndlgfiammaaGreatDoorPkRowProofResolvedD
import Derived.Deep.Slices
import Derived.Deep.SlicePairs
import Derived.Test.YtbpbndlgfiammaaGreatDoorPkRowProofResolvedE
import Derived.Test.YtbpbndlgfiammaaGreatDoorRows
import Derived.ProofKit
import Derived.LaidMore
import Derived.Lay
import Derived.LaidHandle
import Derived.MakeChecks
import Derived.OpenShut
import Derived.Stop.Joined
import Derived.Lib.LaidU8
import Derived.Shelf.Vars
import Derived.SizedLaws
import Derived.Handed
set_option linter.unusedVariables false
set_option linter.unusedSimpArgs false
set_option linter.unnecessarySimpa false
namespace Go.Proofs.YtbpbndlgfiammaaGreatDoor.En
open Go Go.RowKit
def tyL24ProofResolved : List (Nat × TD) := [(3, ⟨1, false, [.int .i64 0], [], none, 8, false, 1, 1⟩),
  (22, ⟨1, false, [.slice none 0 0], [], some 23, 24, false, 0, 0⟩),
  (23, ⟨1, false, [.slice none 0 0], [], some 3, 24, false, 0, 3⟩),
  (28, ⟨2, true, [.int .i64 0, .slice none 0 0], [(0, 3), (1, 22)], none, 32, false, 0, 6⟩),
  (31, ⟨1, false, [.int .i64 0], [], none, 8, false, 1, 1⟩),
  (58, ⟨2, true, [.int .i64 0, .slice none 0 0], [(0, 3), (1, 22)], none, 32, false, 0, 6⟩)]
theorem tyL24ProofResolved_ok : AllTy Tryz.prog tyL24ProofResolved := ⟨⟨by kernel_rfl, by kernel_rfl, by kernel_rfl⟩, ⟨by kernel_rfl, by kernel_rfl, by kernel_rfl⟩, ⟨by kernel_rfl, by kernel_rfl, by kernel_rfl⟩, ⟨by kernel_rfl, by kernel_rfl, by kernel_rfl⟩, ⟨by kernel_rfl, by kernel_rfl, by kernel_rfl⟩, ⟨by kernel_rfl, by kernel_rfl, by kernel_rfl⟩, trivial⟩
def cx_lProofResolved : Cx := ⟨tyL24ProofResolved, [(13, (coeF [.ld (.intss []), .id] rFewC_σ)), (14, (coeF [.ld (.intss []), .ld (.ints [])] pFlw_σ)), (12, live24_σ), (27, (coeF [.agg [.id, .ld (.intss [])]] cCheck_σ)), (32, (coeF [.ld (.ints []), .ld (.ints []), .id] cResolve_σ)), (33, (coeF [.agg [.id, .ld (.intss [])], .id] eOutF_σ))], true⟩
theorem cx_lProofResolved_ok : CxOk Tryz.prog cx_lProofResolved := cx_ok tyL24ProofResolved_ok ⟨(rFewC_sound.coe [.ld (.intss []), .id] rfl), (pFlw_sound.coe [.ld (.intss []), .ld (.ints [])] rfl), live24_sound, (cCheck_sound.coe [.agg [.id, .ld (.intss [])]] rfl), (cResolve_sound.coe [.ld (.ints []), .ld (.ints []), .id] rfl), (eOutF_sound.coe [.agg [.id, .ld (.intss [])], .id] rfl), trivial⟩
def lProofResolved_σ : CtF
  | [.agg [.im (.val (.int .i64 N)), .im (.ls (.intss L))], .im (.val (.int .i64 i)), .im (.val (.int .i64 k)), .im (.val (.int .i64 v))], [] => some ((L.length ≤ maxLen ∧ (∀ x ∈ L, x.length ≤ 17592186043904)) ∧ Fit i ∧ Fit k ∧ Fit v, .bool true, [])
  | _, _ => none
theorem lProofResolved_sound : Sound Tryz.prog 11 lProofResolved_σ := by
 refine Sw (cx := cx_lProofResolved) Tryz.f11 Tryz.func11 ?_
 intro wW wO wβ G0 args os p r outs hσ hp
 have hcx := cx_lProofResolved_ok
 have hmx : Tryz.prog.follows .mixedOrders = true := by kernel_rfl
 unfold lProofResolved_σ at hσ
 split at hσ
 ·
  rename_i N L i k v
  cases hσ
  refine ⟨by kernel_rfl, ?_⟩
  obtain ⟨⟨hL, hLm⟩, hfi, hfk, hfv⟩ := hp
  have hL9 := hL
  unfold maxLen at hL9
  have hLm2 : ∀ l ∈ L, l.length ≤ maxLen := fun l hl => by have := hLm l hl; unfold maxLen; omega
  refine Sz hcx [(1000, .frz)] [4] [0] [] (Zs (Sq hcx [] [17] [] [] [(True)] ?_ (Zi (b := !true) (fun h0 => ?_) fun h0 => ?_)))
  ·
   refine ap ?_ az
   first | omega | exact True.intro | exact id | exact (fun _ h => h) | exact ⟨hL, hLm, by decide, by decide⟩ | exact (fun _ => ⟨hL, hLm, by decide, by decide⟩) | exact (fun _ => ⟨hL, hLm2⟩) | exact ⟨by omega, by omega, hfv⟩ | exact ⟨by omega, hl1⟩ | exact (fun _ => ⟨by show (2 : Nat) ≤ _; decide, fun x hx => by rcases List.mem_cons.1 hx with rfl | hx; (unfold maxLen; omega); rw [List.mem_singleton.1 hx]; unfold maxLen; omega, by unfold maxLen; omega⟩) | exact ⟨by omega, hLm2, by have := hxl _ (Cn.getD_memL (d := []) (k := j) (by omega)); unfold maxLen; omega⟩ | (constructor <;> omega) | (intro _; constructor <;> omega) | done
  ·
   cases h0
  ·
   replace h0 := (notB_f h0)
   refine Zk (Ft (Zs (Sq hcx [] [31] [17] [] [(L.length ≤ maxLen ∧ (∀ x ∈ L, x.length ≤ 17592186043904) ∧ 0 ≤ (20 : Int) ∧ (20 : Int) ≤ 1000), ((!(!(Cn.fewC L (20 : Int)))) = true → ((!(!(Cn.fewC L (20 : Int)))) = true)), ((!(!(Cn.fewC L (20 : Int)))) = true → ((!(!(Cn.fewC L (20 : Int)))) = true)), ((!(Cn.fewC L (20 : Int))) = false → (!(!(Cn.fewC L (20 : Int)))) = true), ((!((!(Cn.fewC L (20 : Int))) || (decide (N > 30)))) = true → ((!((!(Cn.fewC L (20 : Int))) || (decide (N > 30)))) = true)), ((!((!(Cn.fewC L (20 : Int))) || (decide (N > 30)))) = true → (L.length ≤ maxLen ∧ ∀ l ∈ L, l.length ≤ maxLen)), ((!((!(Cn.fewC L (20 : Int))) || (decide (N > 30)))) = true → ((!((!(Cn.fewC L (20 : Int))) || (decide (N > 30)))) = true)), (((!(Cn.fewC L (20 : Int))) || (decide (N > 30))) = false → (!((!(Cn.fewC L (20 : Int))) || (decide (N > 30)))) = true)] ?_ (Zi (b := ((!(Cn.fewC L (20 : Int))) || (decide (N > 30))) || ((Cn.chkV N L) != 0)) (fun h1 => ?_) fun h1 => ?_))))
   ·
    refine ap ?_ (ap ?_ (ap ?_ (ap (by exact vcNot) (ap ?_ (ap ?_ (ap ?_ (ap (by exact vcNot) az))))))) <;>
     first | omega | exact True.intro | exact id | exact (fun _ h => h) | exact ⟨hL, hLm, by decide, by decide⟩ | exact (fun _ => ⟨hL, hLm, by decide, by decide⟩) | exact (fun _ => ⟨hL, hLm2⟩) | exact ⟨by omega, by omega, hfv⟩ | exact ⟨by omega, hl1⟩ | exact (fun _ => ⟨by show (2 : Nat) ≤ _; decide, fun x hx => by rcases List.mem_cons.1 hx with rfl | hx; (unfold maxLen; omega); rw [List.mem_singleton.1 hx]; unfold maxLen; omega, by unfold maxLen; omega⟩) | exact ⟨by omega, hLm2, by have := hxl _ (Cn.getD_memL (d := []) (k := j) (by omega)); unfold maxLen; omega⟩ | (constructor <;> omega) | (intro _; constructor <;> omega) | done
   ·
    skip
    exact Sz hcx [] [8] [31, 4, 1, 2, 3] [] (Zr (Fr (Ru hcx [])))
   ·
    obtain ⟨hf1, hN, hck⟩ := Cn.c_resd h1
    obtain ⟨a1, a2, a3⟩ := Cn.fewC_iff hf1
    have hl1 : ∀ l ∈ L, l.length ≤ 1000 := fun l hl => by have := a3 l hl; omega
    have hgl := Cn.getD_len hl1
    have hxl := Cn.ou_len (N := N) (v := v) hl1
    have hxn := Cn.ou_num (N := N) (c := L) (v := v) (by omega)
    refine Zk (Ft (Zs (Sq hcx [] [51] [31] [] [((decide (i ≥ 0)) = true → ((decide (i ≥ 0)) = true)), ((decide (i ≥ 0)) = true → (decide (i ≥ 0)) = true), (((decide (i ≥ 0)) && (decide (k ≥ 0))) = true → (((decide (i ≥ 0)) && (decide (k ≥ 0))) = true)), (((decide (i ≥ 0)) && (decide (k ≥ 0))) = true → (((decide (i ≥ 0)) && (decide (k ≥ 0))) = true)), (((decide (i ≥ 0)) && (decide (k ≥ 0))) = true → (((decide (i ≥ 0)) && (decide (k ≥ 0))) = true)), (((decide (i ≥ 0)) && (decide (k ≥ 0))) = true → (((decide (i ≥ 0)) && (decide (k ≥ 0))) = true)), (((decide (i ≥ 0)) && (decide (k ≥ 0))) = true → ((decide (i ≥ 0)) && (decide (k ≥ 0))) = true), ((((decide (i ≥ 0)) && (decide (k ≥ 0))) && (decide (i < (L.length : Int)))) = true → ((((decide (i ≥ 0)) && (decide (k ≥ 0))) && (decide (i < (L.length : Int)))) = true)), ((((decide (i ≥ 0)) && (decide (k ≥ 0))) && (decide (i < (L.length : Int)))) = true → ((((decide (i ≥ 0)) && (decide (k ≥ 0))) && (decide (i < (L.length : Int)))) = true)), ((((decide (i ≥ 0)) && (decide (k ≥ 0))) && (decide (i < (L.length : Int)))) = true → ((((decide (i ≥ 0)) && (decide (k ≥ 0))) && (decide (i < (L.length : Int)))) = true)), ((((decide (i ≥ 0)) && (decide (k ≥ 0))) && (decide (i < (L.length : Int)))) = true → ((((decide (i ≥ 0)) && (decide (k ≥ 0))) && (decide (i < (L.length : Int)))) = true)), ((((decide (i ≥ 0)) && (decide (k ≥ 0))) && (decide (i < (L.length : Int)))) = true → (((decide (i ≥ 0)) && (decide (k ≥ 0))) && (decide (i < (L.length : Int)))) = true)] ?_ (Zi (b := (((decide (i ≥ 0)) && (decide (k ≥ 0))) && (decide (i < (L.length : Int)))) && (decide (k < (L.length : Int)))) (fun h2 => ?_) fun h2 => ?_))))
    ·
     refine ap ?_ (ap (by exact id) (ap ?_ (ap ?_ (ap ?_ (ap ?_ (ap (by exact id) (ap ?_ (ap ?_ (ap ?_ (ap ?_ (ap (by exact id) az))))))))))) <;>
      first | omega | exact True.intro | exact id | exact (fun _ h => h) | exact ⟨hL, hLm, by decide, by decide⟩ | exact (fun _ => ⟨hL, hLm, by decide, by decide⟩) | exact (fun _ => ⟨hL, hLm2⟩) | exact ⟨by omega, by omega, hfv⟩ | exact ⟨by omega, hl1⟩ | exact (fun _ => ⟨by show (2 : Nat) ≤ _; decide, fun x hx => by rcases List.mem_cons.1 hx with rfl | hx; (unfold maxLen; omega); rw [List.mem_singleton.1 hx]; unfold maxLen; omega, by unfold maxLen; omega⟩) | exact ⟨by omega, hLm2, by have := hxl _ (Cn.getD_memL (d := []) (k := j) (by omega)); unfold maxLen; omega⟩ | (constructor <;> omega) | (intro _; constructor <;> omega) | done
    ·
     obtain ⟨hi0, hk0, hi1, hk1⟩ := Cn.c_ik h2
     have hgi := hgl i.toNat
     have hgk := hgl k.toNat
     have hrl := Cn.resL_len (L.getD i.toNat []) (L.getD k.toNat []) v
     refine Sd hcx hmx [0, 1, 0, 7, 15, 0, 32, 0, 224, 480, 0, 2047, 4095, 8191, 8191, 16383, 65535] [(1011, .to 264)] [9, 10] [51] [] [((0 : Int) ≤ i ∧ i < (L.length : Int)), ((0 : Int) ≤ k ∧ k < (L.length : Int)), ((L.getD i.toNat []).length ≤ 100000 ∧ (L.getD k.toNat []).length ≤ 100000 ∧ Fit v)] ?_ (Sd hcx hmx [0, 1, 3, 7, 15, 7, 63, 127, 7, 263, 7, 1799, 3847, 8191, 7, 32767, 65535, 131071] [] [84] [9, 10, 1, 2] [264] [(((Cn.resE (L.getD i.toNat []) (L.getD k.toNat []) v) == 0) = true → (((Cn.resE (L.getD i.toNat []) (L.getD k.toNat []) v) == 0) = true)), (((Cn.resE (L.getD i.toNat []) (L.getD k.toNat []) v) == 0) = true → (((Cn.resE (L.getD i.toNat []) (L.getD k.toNat []) v) == 0) = true)), (((Cn.resE (L.getD i.toNat []) (L.getD k.toNat []) v) == 0) = true → (((Cn.resE (L.getD i.toNat []) (L.getD k.toNat []) v) == 0) = true)), (((Cn.resE (L.getD i.toNat []) (L.getD k.toNat []) v) == 0) = true → ((0 : Int) ≤ i ∧ i < (L.length : Int))), (((Cn.resE (L.getD i.toNat []) (L.getD k.toNat []) v) == 0) = true → (((Cn.resE (L.getD i.toNat []) (L.getD k.toNat []) v) == 0) = true)), (((Cn.resE (L.getD i.toNat []) (L.getD k.toNat []) v) == 0) = true → (((Cn.resE (L.getD i.toNat []) (L.getD k.toNat []) v) == 0) = true)), (((Cn.resE (L.getD i.toNat []) (L.getD k.toNat []) v) == 0) = true → (((Cn.resE (L.getD i.toNat []) (L.getD k.toNat []) v) == 0) = true)), (((Cn.resE (L.getD i.toNat []) (L.getD k.toNat []) v) == 0) = true → (((Cn.resE (L.getD i.toNat []) (L.getD k.toNat []) v) == 0) = true)), (((Cn.resE (L.getD i.toNat []) (L.getD k.toNat []) v) == 0) = true → ((0 : Int) ≤ k ∧ k < (L.length : Int))), (((Cn.resE (L.getD i.toNat []) (L.getD k.toNat []) v) == 0) = true → (((Cn.resE (L.getD i.toNat []) (L.getD k.toNat []) v) == 0) = true)), (((Cn.resE (L.getD i.toNat []) (L.getD k.toNat []) v) == 0) = true → (((Cn.resE (L.getD i.toNat []) (L.getD k.toNat []) v) == 0) = true)), (((Cn.resE (L.getD i.toNat []) (L.getD k.toNat []) v) == 0) = true → (((Cn.resE (L.getD i.toNat []) (L.getD k.toNat []) v) == 0) = true)), (((Cn.resE (L.getD i.toNat []) (L.getD k.toNat []) v) == 0) = true → (((Cn.resE (L.getD i.toNat []) (L.getD k.toNat []) v) == 0) = true)), (((Cn.resE (L.getD i.toNat []) (L.getD k.toNat []) v) == 0) = true → (((Cn.resE (L.getD i.toNat []) (L.getD k.toNat []) v) == 0) = true)), (((Cn.resE (L.getD i.toNat []) (L.getD k.toNat []) v) == 0) = true → ([(L.getD i.toNat []), (L.getD k.toNat [])].length ≤ 1000000000 ∧ (∀ x ∈ [(L.getD i.toNat []), (L.getD k.toNat [])], x.length ≤ maxLen) ∧ (Cn.resL (L.getD i.toNat []) (L.getD k.toNat []) v).length ≤ maxLen)), (((Cn.resE (L.getD i.toNat []) (L.getD k.toNat []) v) == 0) = true → (((Cn.resE (L.getD i.toNat []) (L.getD k.toNat []) v) == 0) = true)), (((Cn.resE (L.getD i.toNat []) (L.getD k.toNat []) v) == 0) = true → ((Cn.resE (L.getD i.toNat []) (L.getD k.toNat []) v) == 0) = true)] ?_ (Zi (b := ((Cn.resE (L.getD i.toNat []) (L.getD k.toNat []) v) == 0) && (!(Cn.flwV [(L.getD i.toNat []), (L.getD k.toNat [])] (Cn.resL (L.getD i.toNat []) (L.getD k.toNat []) v)))) (fun h3 => ?_) fun h3 => ?_))
     ·
      refine ap ?_ (ap ?_ (ap ?_ az)) <;>
       first | omega | exact True.intro | exact id | exact (fun _ h => h) | exact ⟨hL, hLm, by decide, by decide⟩ | exact (fun _ => ⟨hL, hLm, by decide, by decide⟩) | exact (fun _ => ⟨hL, hLm2⟩) | exact ⟨by omega, by omega, hfv⟩ | exact ⟨by omega, hl1⟩ | exact (fun _ => ⟨by show (2 : Nat) ≤ _; decide, fun x hx => by rcases List.mem_cons.1 hx with rfl | hx; (unfold maxLen; omega); rw [List.mem_singleton.1 hx]; unfold maxLen; omega, by unfold maxLen; omega⟩) | exact ⟨by omega, hLm2, by have := hxl _ (Cn.getD_memL (d := []) (k := j) (by omega)); unfold maxLen; omega⟩ | (constructor <;> omega) | (intro _; constructor <;> omega) | done
     ·
      refine ap ?_ (ap ?_ (ap ?_ (ap ?_ (ap ?_ (ap ?_ (ap ?_ (ap ?_ (ap ?_ (ap ?_ (ap ?_ (ap ?_ (ap ?_ (ap ?_ (ap ?_ (ap ?_ (ap (by exact id) az)))))))))))))))) <;>
       first | omega | exact True.intro | exact id | exact (fun _ h => h) | exact ⟨hL, hLm, by decide, by decide⟩ | exact (fun _ => ⟨hL, hLm, by decide, by decide⟩) | exact (fun _ => ⟨hL, hLm2⟩) | exact ⟨by omega, by omega, hfv⟩ | exact ⟨by omega, hl1⟩ | exact (fun _ => ⟨by show (2 : Nat) ≤ _; decide, fun x hx => by rcases List.mem_cons.1 hx with rfl | hx; (unfold maxLen; omega); rw [List.mem_singleton.1 hx]; unfold maxLen; omega, by unfold maxLen; omega⟩) | exact ⟨by omega, hLm2, by have := hxl _ (Cn.getD_memL (d := []) (k := j) (by omega)); unfold maxLen; omega⟩ | (constructor <;> omega) | (intro _; constructor <;> omega) | done
     ·
      (exfalso; exact Cn.dead_r1 h3)
     ·
      skip
      refine Zk (Ft (Sq hcx [(1002, .to 288), (1007, .to 611)] [11, 13] [84, 3] [] [(L.length ≤ 10000 ∧ (∀ l ∈ L, l.length ≤ 1000))] ?_ (Zs (Sz hcx [] [93] [13] [] (Zx (a := (Cn.ouE N L v)) (b := 0) (fun h4 => ?_) fun h4 => ?_)))))
      ·
       refine ap ?_ az
       first | omega | exact True.intro | exact id | exact (fun _ h => h) | exact ⟨hL, hLm, by decide, by decide⟩ | exact (fun _ => ⟨hL, hLm, by decide, by decide⟩) | exact (fun _ => ⟨hL, hLm2⟩) | exact ⟨by omega, by omega, hfv⟩ | exact ⟨by omega, hl1⟩ | exact (fun _ => ⟨by show (2 : Nat) ≤ _; decide, fun x hx => by rcases List.mem_cons.1 hx with rfl | hx; (unfold maxLen; omega); rw [List.mem_singleton.1 hx]; unfold maxLen; omega, by unfold maxLen; omega⟩) | exact ⟨by omega, hLm2, by have := hxl _ (Cn.getD_memL (d := []) (k := j) (by omega)); unfold maxLen; omega⟩ | (constructor <;> omega) | (intro _; constructor <;> omega) | done
      ·
       have h93 := h4
       exact Sz hcx [] [8] [93, 11, 4] [288, 611] (Zr (Fr (Rv hcx (congrArg AV.bool (show (((Cn.ouX N L v).length : Int) == 0) = true from (by first | rfl | (rw [Cn.ou_bad h93]; rfl) | done))) [] rfl)))
      ·
       have h93 := h4
       refine Zk (Ft (Zs (Sz hcx [] [99, 100, 101] [93, 11] [611] (Zb (Lp (X := Nat) (fun x0 => x0 ≤ (Cn.ouX N L v).length) (fun x0 => ([(4, .pto [.int N, .ls (.intss L)]), (99, .row 288), (100, .int ((Cn.ouX N L v).length : Int)), (101, .int (x0 : Int))], [(288, .row 23 (.intss (Cn.ouX N L v)))])) (fun x0 => (Cn.ouX N L v).length - x0) (0) ?_ (Ex 101 (congrArg AV.int (show 0 = (0 : Int) from (by first | rfl | omega | (simp; done)))) Eb) Hb fun j hI => ?_)))))
       ·
        show 0 ≤ (Cn.ouX N L v).length
        omega
       ·
        replace hI : j ≤ (Cn.ouX N L v).length := hI
        refine Sz hcx [] [102] [] [] (Zs (Zj (p := ((j : Int) < ((Cn.ouX N L v).length : Int))) (fun h5 => ?_) fun h5 => ?_))
        ·
         refine Zk (Ft (Zs (Zb (Sq hcx [] [15] [102] [] [((0 : Int) ≤ (j : Int) ∧ (j : Int) < ((Cn.ouX N L v).length : Int)), (j < (Cn.ouX N L v).length)] ?_ (Sq hcx [] [109] [15] [] [(L.length ≤ 1000000000 ∧ (∀ x ∈ L, x.length ≤ maxLen) ∧ ((Cn.ouX N L v).getD j []).length ≤ maxLen)] ?_ (Zi (b := !(Cn.flwV L ((Cn.ouX N L v).getD j []))) (fun h6 => ?_) fun h6 => ?_))))))
         ·
          refine ap ?_ (ap ?_ az) <;>
           first | omega | exact True.intro | exact id | exact (fun _ h => h) | exact ⟨hL, hLm, by decide, by decide⟩ | exact (fun _ => ⟨hL, hLm, by decide, by decide⟩) | exact (fun _ => ⟨hL, hLm2⟩) | exact ⟨by omega, by omega, hfv⟩ | exact ⟨by omega, hl1⟩ | exact (fun _ => ⟨by show (2 : Nat) ≤ _; decide, fun x hx => by rcases List.mem_cons.1 hx with rfl | hx; (unfold maxLen; omega); rw [List.mem_singleton.1 hx]; unfold maxLen; omega, by unfold maxLen; omega⟩) | exact ⟨by omega, hLm2, by have := hxl _ (Cn.getD_memL (d := []) (k := j) (by omega)); unfold maxLen; omega⟩ | (constructor <;> omega) | (intro _; constructor <;> omega) | done
         ·
          refine ap ?_ az
          first | omega | exact True.intro | exact id | exact (fun _ h => h) | exact ⟨hL, hLm, by decide, by decide⟩ | exact (fun _ => ⟨hL, hLm, by decide, by decide⟩) | exact (fun _ => ⟨hL, hLm2⟩) | exact ⟨by omega, by omega, hfv⟩ | exact ⟨by omega, hl1⟩ | exact (fun _ => ⟨by show (2 : Nat) ≤ _; decide, fun x hx => by rcases List.mem_cons.1 hx with rfl | hx; (unfold maxLen; omega); rw [List.mem_singleton.1 hx]; unfold maxLen; omega, by unfold maxLen; omega⟩) | exact ⟨by omega, hLm2, by have := hxl _ (Cn.getD_memL (d := []) (k := j) (by omega)); unfold maxLen; omega⟩ | (constructor <;> omega) | (intro _; constructor <;> omega) | done
         ·
          (exfalso; exact Cn.dead_r2 (by omega) h6)
         ·
          skip
          refine Zk (Fb (Ft (Tq hcx [] [101] [109] [] [Fit ((j : Int) + 1)] ?_ (Lr (j + 1) ?_ ?_ (Ex 101 (congrArg AV.int (show ((j : Int) + 1) = ((j + 1) : Int) from (by first | rfl | omega | (simp; done)))) Eb) Hb))))
          ·
           refine ap ?_ az
           first | omega | exact True.intro | exact id | exact (fun _ h => h) | exact ⟨hL, hLm, by decide, by decide⟩ | exact (fun _ => ⟨hL, hLm, by decide, by decide⟩) | exact (fun _ => ⟨hL, hLm2⟩) | exact ⟨by omega, by omega, hfv⟩ | exact ⟨by omega, hl1⟩ | exact (fun _ => ⟨by show (2 : Nat) ≤ _; decide, fun x hx => by rcases List.mem_cons.1 hx with rfl | hx; (unfold maxLen; omega); rw [List.mem_singleton.1 hx]; unfold maxLen; omega, by unfold maxLen; omega⟩) | exact ⟨by omega, hLm2, by have := hxl _ (Cn.getD_memL (d := []) (k := j) (by omega)); unfold maxLen; omega⟩ | (constructor <;> omega) | (intro _; constructor <;> omega) | done
          ·
           show (j + 1) ≤ (Cn.ouX N L v).length
           omega
          ·
           try dsimp only
           omega
        ·
         exact Ze (Fe (Fe (Fs (Ft (Sz hcx [] [8] [102, 4, 99, 100, 101] [288] (Zr (Ru hcx [])))))))
    ·
     skip
     refine Zk (Ft (Sq hcx [(1002, .to 288), (1007, .to 611)] [11, 13] [51, 1, 2, 3] [] [(L.length ≤ 10000 ∧ (∀ l ∈ L, l.length ≤ 1000))] ?_ (Zs (Sz hcx [] [93] [13] [] (Zx (a := (Cn.ouE N L v)) (b := 0) (fun h7 => ?_) fun h7 => ?_)))))
     ·
      refine ap ?_ az
      first | omega | exact True.intro | exact id | exact (fun _ h => h) | exact ⟨hL, hLm, by decide, by decide⟩ | exact (fun _ => ⟨hL, hLm, by decide, by decide⟩) | exact (fun _ => ⟨hL, hLm2⟩) | exact ⟨by omega, by omega, hfv⟩ | exact ⟨by omega, hl1⟩ | exact (fun _ => ⟨by show (2 : Nat) ≤ _; decide, fun x hx => by rcases List.mem_cons.1 hx with rfl | hx; (unfold maxLen; omega); rw [List.mem_singleton.1 hx]; unfold maxLen; omega, by unfold maxLen; omega⟩) | exact ⟨by omega, hLm2, by have := hxl _ (Cn.getD_memL (d := []) (k := j) (by omega)); unfold maxLen; omega⟩ | (constructor <;> omega) | (intro _; constructor <;> omega) | done
     ·
      have h93 := h7
      exact Sz hcx [] [8] [93, 11, 4] [288, 611] (Zr (Fr (Rv hcx (congrArg AV.bool (show (((Cn.ouX N L v).length : Int) == 0) = true from (by first | rfl | (rw [Cn.ou_bad h93]; rfl) | done))) [] rfl)))
     ·
      have h93 := h7
      refine Zk (Ft (Zs (Sz hcx [] [99, 100, 101] [93, 11] [611] (Zb (Lp (X := Nat) (fun x0 => x0 ≤ (Cn.ouX N L v).length) (fun x0 => ([(4, .pto [.int N, .ls (.intss L)]), (99, .row 288), (100, .int ((Cn.ouX N L v).length : Int)), (101, .int (x0 : Int))], [(288, .row 23 (.intss (Cn.ouX N L v)))])) (fun x0 => (Cn.ouX N L v).length - x0) (0) ?_ (Ex 101 (congrArg AV.int (show 0 = (0 : Int) from (by first | rfl | omega | (simp; done)))) Eb) Hb fun j hI => ?_)))))
      ·
       show 0 ≤ (Cn.ouX N L v).length
       omega
      ·
       replace hI : j ≤ (Cn.ouX N L v).length := hI
       refine Sz hcx [] [102] [] [] (Zs (Zj (p := ((j : Int) < ((Cn.ouX N L v).length : Int))) (fun h8 => ?_) fun h8 => ?_))
       ·
        refine Zk (Ft (Zs (Zb (Sq hcx [] [15] [102] [] [((0 : Int) ≤ (j : Int) ∧ (j : Int) < ((Cn.ouX N L v).length : Int)), (j < (Cn.ouX N L v).length)] ?_ (Sq hcx [] [109] [15] [] [(L.length ≤ 1000000000 ∧ (∀ x ∈ L, x.length ≤ maxLen) ∧ ((Cn.ouX N L v).getD j []).length ≤ maxLen)] ?_ (Zi (b := !(Cn.flwV L ((Cn.ouX N L v).getD j []))) (fun h9 => ?_) fun h9 => ?_))))))
        ·
         refine ap ?_ (ap ?_ az) <;>
          first | omega | exact True.intro | exact id | exact (fun _ h => h) | exact ⟨hL, hLm, by decide, by decide⟩ | exact (fun _ => ⟨hL, hLm, by decide, by decide⟩) | exact (fun _ => ⟨hL, hLm2⟩) | exact ⟨by omega, by omega, hfv⟩ | exact ⟨by omega, hl1⟩ | exact (fun _ => ⟨by show (2 : Nat) ≤ _; decide, fun x hx => by rcases List.mem_cons.1 hx with rfl | hx; (unfold maxLen; omega); rw [List.mem_singleton.1 hx]; unfold maxLen; omega, by unfold maxLen; omega⟩) | exact ⟨by omega, hLm2, by have := hxl _ (Cn.getD_memL (d := []) (k := j) (by omega)); unfold maxLen; omega⟩ | (constructor <;> omega) | (intro _; constructor <;> omega) | done
        ·
         refine ap ?_ az
         first | omega | exact True.intro | exact id | exact (fun _ h => h) | exact ⟨hL, hLm, by decide, by decide⟩ | exact (fun _ => ⟨hL, hLm, by decide, by decide⟩) | exact (fun _ => ⟨hL, hLm2⟩) | exact ⟨by omega, by omega, hfv⟩ | exact ⟨by omega, hl1⟩ | exact (fun _ => ⟨by show (2 : Nat) ≤ _; decide, fun x hx => by rcases List.mem_cons.1 hx with rfl | hx; (unfold maxLen; omega); rw [List.mem_singleton.1 hx]; unfold maxLen; omega, by unfold maxLen; omega⟩) | exact ⟨by omega, hLm2, by have := hxl _ (Cn.getD_memL (d := []) (k := j) (by omega)); unfold maxLen; omega⟩ | (constructor <;> omega) | (intro _; constructor <;> omega) | done
        ·
         (exfalso; exact Cn.dead_r2 (by omega) h9)
        ·
         skip
         refine Zk (Fb (Ft (Tq hcx [] [101] [109] [] [Fit ((j : Int) + 1)] ?_ (Lr (j + 1) ?_ ?_ (Ex 101 (congrArg AV.int (show ((j : Int) + 1) = ((j + 1) : Int) from (by first | rfl | omega | (simp; done)))) Eb) Hb))))
         ·
          refine ap ?_ az
          first | omega | exact True.intro | exact id | exact (fun _ h => h) | exact ⟨hL, hLm, by decide, by decide⟩ | exact (fun _ => ⟨hL, hLm, by decide, by decide⟩) | exact (fun _ => ⟨hL, hLm2⟩) | exact ⟨by omega, by omega, hfv⟩ | exact ⟨by omega, hl1⟩ | exact (fun _ => ⟨by show (2 : Nat) ≤ _; decide, fun x hx => by rcases List.mem_cons.1 hx with rfl | hx; (unfold maxLen; omega); rw [List.mem_singleton.1 hx]; unfold maxLen; omega, by unfold maxLen; omega⟩) | exact ⟨by omega, hLm2, by have := hxl _ (Cn.getD_memL (d := []) (k := j) (by omega)); unfold maxLen; omega⟩ | (constructor <;> omega) | (intro _; constructor <;> omega) | done
         ·
          show (j + 1) ≤ (Cn.ouX N L v).length
          omega
         ·
          try dsimp only
          omega
       ·
        exact Ze (Fe (Fe (Fs (Ft (Sz hcx [] [8] [102, 4, 99, 100, 101] [288] (Zr (Ru hcx [])))))))
 ·
  cases hσ
end Go.Proofs.YtbpbndlgfiammaaGreatDoor.En
namespace Go.Proofs.YtbpbndlgfiammaaGreatDoor
open Go.ChangeShapes Go.WideShapes Go.ChangeAt Go.RowKit Go.Joins Go.Deep
theorem own : ownKnob Tryz.prog.godebug = none := by kernel_rfl
theorem laidOut : laidOutB Tryz.prog = true := by kernel_rfl
abbrev InI64 (n : Int) : Prop := -9223372036854775808 ≤ n ∧ n ≤ 9223372036854775807
theorem i64_of_wf {n : Int} (h : (Lit.int .i64 n).wf = true) : InI64 n := by
  simp [Lit.wf] at h
  exact h
section
variable {H : Type} {enc : TypeId × Value → H} {P : Program} {w : World} {base : Nat} {spare : Nat → Bool}
theorem cells_rd {α : Type} {encV : α → Value} {a : Addr} {zs : List α} {len : Nat} {z : α} (hl : len ≤ zs.length) (hc : ∀ i, i < zs.length → w.cell? (a.add i) = some (encV (zs.getD i z))) : Rd encV (· < w.heap.size) w (some a) (zs.take len) := fun hn => by
  rw [List.length_take] at hn
  have h0 := hc 0 (by omega)
  obtain ⟨b, off, spot⟩ := a
  have hs : spot = none := by simpa [Addr.add] using World.cell?_spot h0
  subst hs
  refine ⟨b, off, rfl, ?_, fun j hj => ?_⟩
  · exact World.block_lt_of_cell? w _ (by simpa [Addr.add] using h0)
  · rw [List.length_take] at hj
    have := hc j (by omega)
    rw [add_mk] at this
    rw [this, List.getElem_take, List.getD_eq_getElem?_getD, List.getElem?_eq_getElem (by omega)]
    rfl
end
end Go.Proofs.YtbpbndlgfiammaaGreatDoor
namespace Go.Proofs.YtbpbndlgfiammaaGreatDoor.En
open Go Go.ChangeShapes Go.WideShapes Go.ChangeAt Go.RowKit Go.Joins Go.Deep
abbrev gW (W : World) : Gh := g0 W (· < W.heap.size)
section
variable {H : Type} {enc : TypeId × Value → H} {P : Program} {w : World} {b0 : Nat} {v : Value} {d : DataW H} {p : List MemPlace} {r : Reach}
theorem cell_spot {a : Addr} {u : Value} (h : w.cell? a = some u) : ∃ b off, a = ⟨b, off, none⟩ ∧ b < w.heap.size := by
  have hb := World.block_lt_of_cell? w a h
  obtain ⟨b, off, s⟩ := a
  cases s with
  | none => exact ⟨b, off, rfl, hb⟩
  | some s => simp [World.cell?] at h; split at h <;> simp at h
end
end Go.Proofs.YtbpbndlgfiammaaGreatDoor.En
namespace Go.Proofs.YtbpbndlgfiammaaGreatDoor.En
open Go Go.ChangeShapes Go.WideShapes Go.ChangeAt Go.RowKit Go.Joins Go.Deep
section
variable {H : Type} {enc : TypeId × Value → H} {P : Program} {w : World} {b0 : Nat} {v : Value} {d : DataW H} {p : List MemPlace} {r : Reach}
end
end Go.Proofs.YtbpbndlgfiammaaGreatDoor.En
namespace Go.Proofs.YtbpbndlgfiammaaGreatDoor.En
open Go Go.ChangeShapes Go.WideShapes Go.ChangeAt Go.RowKit Go.Joins Go.Deep
theorem weights_one {H : Type} {P : Program} {t : TypeId} {ts : List TypeId} {d : DataW H} {ds : List (DataW H)} {q : Nat → Bool} (h : (DataW.weightsEach P (t :: ts) (d :: ds)).all q = true) : (DataW.weights P t d).all q = true ∧ (DataW.weightsEach P ts ds).all q = true := by
  rw [DataW.weightsEach, List.all_append, Bool.and_eq_true] at h
  exact h
section
variable {H : Type} {enc : TypeId × Value → H} {P : Program} {w : World} {b0 : Nat} {v : Value} {d : DataW H} {p : List MemPlace} {r : Reach}
theorem weights_mem {e : TypeId} {q : Nat → Bool} : ∀ {ds : List (DataW H)}, (DataW.weightsAll P e ds).all q = true → ∀ d ∈ ds, (DataW.weights P e d).all q = true
  | [], _, d, hd => by cases hd
  | x :: ds, h, d, hd => by
    rw [DataW.weightsAll, List.all_append, Bool.and_eq_true] at h
    rcases List.mem_cons.1 hd with e | e
    · rw [e]; exact h.1
    · exact weights_mem h.2 d e
theorem weights_slice {t e : TypeId} {q : Nat → Bool} {el sp : List (DataW H)} (ht : P.underlying t = some (.slice e)) (h : (DataW.weights P t (.slice el sp)).all q = true) : q ((el.length + sp.length) * P.bytesOf e) = true ∧ ∀ d ∈ el, (DataW.weights P e d).all q = true := by
  rw [DataW.weights, ht] at h
  simp only [List.all_cons, List.all_append, Bool.and_eq_true] at h
  exact ⟨h.1, weights_mem h.2.1⟩
theorem trod_intsZ {t e : TypeId} {fuel : Nat} {cs : List Value} {base : Nat} {x : DataW H × List MemPlace} (ht : P.underlying t = some (.slice e)) (he : P.underlying e = some (.int .i64)) (hc : P.cellsOf e = 1) (hb : P.bytesOf e = 8)
    (h : DataW.trod enc P w base (fun _ => true) true fuel t cs = some x) (hw : (DataW.weights P t x.1).all (· ≤ reachBytes) = true) : ∃ v xs, cs = [v] ∧ Den (gW w) (.ints xs) v ∧ xs.length ≤ 17592186043904 := by
  rcases open_ints ht he hc h with ⟨rfl, _⟩ | ⟨a, len, cap, zs, rfl, _, hl, hm, hz, hx, hcell, hwz⟩
  · exact ⟨_, [], rfl, by simp only [Den]; exact .nil _ none 0 rfl, by simp⟩
  · simp only [if_true] at hz
    have hlen : (zs.take len).length = len := by rw [List.length_take, Nat.min_eq_left (by omega)]
    have hwt := (weights_slice ht (by rw [hx] at hw; exact hw)).1
    rw [hb] at hwt
    have hle : (zs.take len).length * 8 ≤ reachBytes := by
      have := of_decide_eq_true hwt
      simp only [lits, List.length_map] at this
      omega
    have hR : reachBytes = 140737488351232 := rfl
    refine ⟨_, zs.take len, rfl, ?_, by omega⟩
    have := den_ints (W := w) (A := some a) (xs := zs.take len) (c := cap) (cells_rd (by omega) hcell) (by omega) (by omega)
    rwa [hlen] at this
theorem trod_intssZ {t e e2 : TypeId} {fuel : Nat} {cs : List Value} {base : Nat} {x : DataW H × List MemPlace} (ht : P.underlying t = some (.slice e)) (he : P.underlying e = some (.slice e2)) (he2 : P.underlying e2 = some (.int .i64)) (hc : P.cellsOf e = 1) (hc2 : P.cellsOf e2 = 1) (hb : P.bytesOf e2 = 8)
    (h : DataW.trod enc P w base (fun _ => true) true fuel t cs = some x) (hw : (DataW.weights P t x.1).all (· ≤ reachBytes) = true) : ∃ v xss, cs = [v] ∧ Den (gW w) (.intss xss) v ∧ xss.length ≤ maxLen ∧ ∀ l ∈ xss, l.length ≤ 17592186043904 := by
  rcases open_slice1 ht hc h with ⟨rfl, _⟩ | ⟨a, len, cap, m, n, V, D, Pl, rfl, _, hl, hm, hmm, hxd, hcell⟩
  · exact ⟨_, [], rfl, by simp only [Den]; exact .nil _ none 0 rfl, by simp, by simp⟩
  · simp only [if_true] at hmm
    subst hmm
    have hwd := (weights_slice ht (by rw [hxd] at hw; exact hw)).2
    have hx : ∀ i, ∃ xs : List Int, i < len → Den (gW w) (.ints xs) (V i) ∧ xs.length ≤ 17592186043904 := fun i => by
      by_cases hi : i < len
      · obtain ⟨v, xs, e1, h1, h2⟩ := trod_intsZ he he2 hc2 hb (hcell i (by omega)).2 (hwd (D i) (List.mem_map.2 ⟨i, List.mem_range.2 hi, rfl⟩))
        injection e1 with e1
        subst e1
        exact ⟨xs, fun _ => ⟨h1, h2⟩⟩
      · exact ⟨[], fun h => absurd h hi⟩
    obtain ⟨X, hX⟩ := Classical.axiomOfChoice hx
    have hlen : ((List.range len).map X).length = len := by simp
    refine ⟨_, (List.range len).map X, rfl, ?_, by omega, fun l hl => by obtain ⟨i, hi, rfl⟩ := List.mem_map.1 hl; exact (hX i (List.mem_range.1 hi)).2⟩
    simp only [Den]
    by_cases h0 : len = 0
    · subst h0; exact .nil _ _ _ rfl
    · obtain ⟨b, off, hab, hb⟩ := cell_spot (hcell 0 (by omega)).1
      have haa : a = ⟨b, off, none⟩ := by rwa [show a.add 0 = a from rfl] at hab
      subst haa
      have := Rep.ls (W := w) (G := (gW w).G) (.intss ((List.range len).map X)) b off m (fun i _ => V i) (by show ((List.range len).map X).length ≤ _; omega) (by show ((List.range len).map X).length ≤ _; omega) hb (fun i j hi hj => by
        have hi' : i < len := by simpa [LD.len] using hi
        have hj' : j = 0 := by have : j < 1 := hj; omega
        subst hj'
        have h1 := (hcell i (by omega)).1
        rw [add_mk] at h1
        show w.cell? ⟨b, off + i * 1 + 0, none⟩ = _
        rw [Nat.mul_one, Nat.add_zero]; exact h1) (fun i j hi hj => by
        have hi' : i < len := by simpa [LD.len] using hi
        have h1 := (hX i hi').1
        simp only [Den] at h1
        have e1 : ((List.range len).map X).getD i [] = X i := by simp [List.getD, hi']
        show Rep w _ (.ls (.ints (((List.range len).map X).getD i []))) (V i)
        rw [e1]; exact h1)
      have hl2 : LD.len (.intss ((List.range len).map X)) = len := hlen
      rw [hl2] at this
      exact this
end
set_option maxRecDepth 100000 in
theorem open_cnfZ {H : Type} {enc : TypeId × Value → H} {w : World} {r : Reach} {b0 : Nat} {v : Value} {d : DataW H} {p : List MemPlace} (hv : Value.okWide Tryz.prog w r b0 28 v) (h : DataW.Trod enc Tryz.prog w 0 (fun _ => true) true 28 v d p)
    (hw : (DataW.weights Tryz.prog 28 d).all (· ≤ reachBytes) = true) : ∃ N L, Den (gW w) (.agg [.int N, .intss L]) v ∧ (L.length ≤ maxLen ∧ ∀ l ∈ L, l.length ≤ 17592186043904) := by
  obtain ⟨v0, v1, y0, y1, n, rfl, rfl, rfl, h0, h1⟩ := open_agg2 Tryz.underlying28 (by kernel_rfl) (by kernel_rfl) hv h
  rw [DataW.weights, Tryz.underlying28] at hw
  simp only [DataW.weightsEach, List.all_append, Bool.and_eq_true, List.map_cons, List.map_nil] at hw
  obtain ⟨N, e2, _, wN⟩ := DataW.trod_int Tryz.underlying3 h0
  obtain ⟨u1, L, e1, r1, m1⟩ := trod_intssZ Tryz.underlying22 Tryz.underlying23 Tryz.underlying3 (by kernel_rfl) (by kernel_rfl) (by kernel_rfl) h1 hw.2.1
  simp at e1 e2
  subst e1 e2
  refine ⟨N, L, ?_, m1⟩
  rw [Den]
  refine ⟨[_, _], rfl, ?_⟩
  simp only [DenL]
  exact ⟨_, _, rfl, den_val_mk _, _, _, rfl, r1, rfl⟩
end Go.Proofs.YtbpbndlgfiammaaGreatDoor.En
namespace Go.Proofs.YtbpbndlgfiammaaGreatDoor.En
open Go Go.ChangeShapes Go.WideShapes Go.ChangeAt Go.RowKit Go.Joins Go.Deep
end Go.Proofs.YtbpbndlgfiammaaGreatDoor.En
namespace Go.Proofs.YtbpbndlgfiammaaGreatDoor
open Go.ChangeShapes Go.WideShapes Go.ChangeAt Go.RowKit
abbrev lay : List (String × DataW Unit) := [("math/bits.deBruijn32tab", Rows.laid_math_bits_deBruijn32tab), ("math/bits.deBruijn64tab", Rows.laid_math_bits_deBruijn64tab), ("internal/strconv.uint64pow10", Rows.laid_internal_strconv_uint64pow10), ("unicode/utf8.acceptRanges", Rows.laid_unicode_utf8_acceptRanges), ("strconv.ErrRange", Rows.laid_strconv_ErrRange), ("strconv.ErrSyntax", Rows.laid_strconv_ErrSyntax), ("unicode/utf8.first", Rows.laid_unicode_utf8_first)]
set_option maxRecDepth 100000 in
theorem door_met (os : Os) (args : Array Value) : laidMetH Tryz.prog lay ((World.laidAll Tryz.prog os lay).forCall (fun _ _ => 0) ⟨#[], args, []⟩).memory := by
  rw [MakeChecks.laidMetH_plain _ _ _ (by kernel_rfl)]
  exact laidMet_laidAll args (by kernel_rfl) (by kernel_rfl)
set_option maxRecDepth 100000 in
theorem shaped_all (os : Os) : (World.laidAll Tryz.prog os lay).Shaped Tryz.prog := World.shaped_of_ZipB (by kernel_rfl) (by kernel_rfl)
theorem glb_one {P : Program} {W : World} {n : String} {k : Nat} {cs : Array Value} {xs : List Value} (hg : P.globalNamed n = some k) (hv : W.var? P n = some cs) (hc : cs.toList = xs) :
    k < W.heap.size ∧ (∀ (j : Nat) (x : Value), xs[j]? = some x → W.cell? ⟨k, j, none⟩ = some x) ∧ ∃ t m, W.heap[k]? = some (.cells xs.toArray t m) := by
  have hcs : cs = xs.toArray := by rw [← hc]
  subst hcs
  have h1 := fun j => World.var?_cell hg hv j
  simp only [World.var?, hg, Option.bind_some] at hv
  split at hv
  · rename_i c t m hb
    cases hv
    refine ⟨?_, fun j x hj => ?_, t, m, hb⟩
    · by_cases h : k < W.heap.size
      · exact h
      · rw [Array.getElem?_eq_none (by omega)] at hb; cases hb
    · rw [h1 j]; simpa using hj
  · cases hv
def acc : List (List Int) := [[128, 191], [160, 191], [128, 159], [144, 191], [128, 143], [0, 0], [0, 0], [0, 0], [0, 0], [0, 0], [0, 0], [0, 0], [0, 0], [0, 0], [0, 0], [0, 0]]
theorem laid_acc : (Rows.laid_unicode_utf8_acceptRanges : DataW Unit) = .agg (acc.map fun l => .agg (l.map fun z => .lit (.int .u8 z))) := rfl
theorem laid_pow : (Rows.laid_internal_strconv_uint64pow10 : DataW Unit) = Lib.tabData .u64 En.g_pow10 := rfl
set_option maxRecDepth 100000 in
theorem laid_first : Rows.laid_unicode_utf8_first = Lib.tabData .u8 En.g_first := by
  show DataW.agg (Go.Pinned.numbers .u8 Go.Pinned.utf8FirstZ) = .agg _
  rw [show En.g_first = Go.Pinned.utf8FirstZ.map Int.ofNat by decide +kernel, List.map_map]
  rfl
theorem get_some {l : List Int} {i : Nat} (h : i < l.length) : l[i]? = some (l.getD i 0) := by rw [List.getD_eq_getElem?_getD, List.getElem?_eq_getElem h]; rfl
theorem acc_at : ∀ i, i < 16 → ∀ j, j < 2 → (acc.getD i []).getD j 0 = En.g_accept.getD (2 * i + j) 0 := by decide
theorem acc_len : ∀ i, i < 16 → (acc.getD i []).length = 2 := by decide
theorem trod_iface_cells {H : Type} {enc : TypeId × Value → H} {P : Program} {w : World} {base : Nat} {sp : Nat → Bool} {t : TypeId} {ms : Array (String × TypeId)} {fuel : Nat} {cs : List Value} {n : String} {d : DataW H} {p : List MemPlace} (ht : P.underlying t = some (.interface ms))
    (h : DataW.trod enc P w base sp false fuel t cs = some (.iface n d, p)) : ∃ u v, cs = [.iface u v] := by
  cases fuel with
  | zero => simp [DataW.trod] at h
  | succ k =>
    unfold DataW.trod at h
    rw [ht] at h
    split at h
    all_goals first
      | exact ⟨_, _, rfl⟩
      | (simp at h; done)
      | (rename_i h1 _; cases h1; done)
      | (rename_i h1; cases h1; done)
      | simp_all
theorem glb_err {P : Program} {W : World} {n m : String} {k t0 : Nat} {ms : Array (String × TypeId)} {d : DataW Unit} (hr : Lib.VarReads P W n (.iface m d)) (hg : P.globalNamed n = some k) (hty : (P.globals[k]?).map (·.type) = some t0) (hu : P.underlying t0 = some (.interface ms)) :
    k < W.heap.size ∧ ∃ te pe, W.cell? ⟨k, 0, none⟩ = some (.iface te pe) := by
  obtain ⟨g, t, cs, fuel, p, hg', hty', hvar, hd⟩ := hr
  obtain rfl := Option.some.inj (hg.symm.trans hg')
  obtain rfl := Option.some.inj (hty.symm.trans hty')
  obtain ⟨u, v, hc⟩ := trod_iface_cells hu hd
  obtain ⟨h1, h2, _⟩ := glb_one hg hvar hc
  exact ⟨h1, u, v, h2 0 _ rfl⟩
theorem returns_shaped {H : Type} {enc : TypeId × Value → H} {a : Assume} {C : Checked} {os : Os} {f : FuncId} {fn : Func} {s : ChangeSpec} {conds : List PathCond} {apart fresh handsOn again : Bool} {X : World → Array Value → Prop}
    (hX : ∀ (w w' : World) (args : Array Value), w.heap = w'.heap → X w args → X w' args)
    (own : ownKnob C.prog.godebug = none) (started : os.Started) (noInit : C.prog.inits.idxOf? f = none) (hfn : C.prog.funcs[f]? = some fn)
    (witness : ∃ (w : World) (tape : Tape) (i : Input), w.os = os ∧ (w.forCall tape i).Shaped C.prog ∧ i.vars = [] ∧ Input.okWide C.prog (w.forCall tape i) .any w.heap.size f i ∧
      ((s.pre enc C.prog fn conds apart (w.forCall tape i).memory i.args ∧ X (w.forCall tape i).memory i.args) ∧ sizedMet enc C.prog fn (OpenSpec.ofChange s) apart (w.forCall tape i).memory i.args) ∧ a.holds C.prog (lone (Frame.enter C.prog f i.args .normal) [] (w.forCall tape i)))
    (contract : ∀ (W : World) (base : Nat) (args : Array Value) (ds gs : List (DataW H)) (before : List MemPlace),
      (∀ (j : Nat) t v, fn.params[j]? = some t → args[j]? = some v → Value.okWide C.prog W .any base t v) →
      DataW.Whole enc C.prog fn.params.toList s.vars apart W args.toList ds gs before →
      (DataW.weightsEach C.prog (fn.params.toList ++ s.plain.varTypes C.prog) (ds ++ gs)).all (· ≤ reachBytes) = true → X W args → W.ShapedOpen C.prog →
      Calls C.prog f args W fun e W' => ∃ v, e = .returned v ∧ s.post enc C.prog fn apart fresh handsOn again W args v W') :
    ReturnsInHanded a C os f .any (fun w args => (s.pre enc C.prog fn conds apart w args ∧ X w args) ∧ sizedMet enc C.prog fn (OpenSpec.ofChange s) apart w args) (s.post enc C.prog fn apart fresh handsOn again) := by
  refine returnsInHanded_of_calls own started noInit witness ?_
  intro w tape i _ hsh _ hok hpre hholds
  obtain ⟨_, _, _, fn', hfn', _, _, _, _, hval⟩ := hok
  have e : fn' = fn := Option.some.inj (hfn'.symm.trans hfn)
  subst e
  obtain ⟨⟨⟨ds, gs, before, hw, hc⟩, hx⟩, hz⟩ := hpre
  have hw' := DataW.Whole.of_heap (w' := w.forCall tape i) (by rfl) hw
  refine (contract (w.forCall tape i) w.heap.size i.args ds gs before hval hw' (hz.weights hw) (hX _ _ _ (by rfl) hx) hsh).mono fun e W' ⟨v, he, hp⟩ => ?_
  subst he
  exact ChangeSpec.post_blind hp
set_option maxRecDepth 100000 in
theorem glOk_of_laid {W : World} (h : laidMetH Tryz.prog lay W) (hsh : W.ShapedOpen Tryz.prog) : En.GlOk (En.gW W) := by
  rw [MakeChecks.laidMetH_plain _ _ _ (by kernel_rfl)] at h
  have hp := Lib.laidMet.reads h (n := "internal/strconv.uint64pow10") (d := Rows.laid_internal_strconv_uint64pow10) (by simp [lay])
  have hf := Lib.laidMet.reads h (n := "unicode/utf8.first") (d := Rows.laid_unicode_utf8_first) (by simp [lay])
  have ha := Lib.laidMet.reads h (n := "unicode/utf8.acceptRanges") (d := Rows.laid_unicode_utf8_acceptRanges) (by simp [lay])
  rw [laid_pow] at hp
  rw [laid_first] at hf
  rw [laid_acc] at ha
  have kp : Tryz.prog.globalNamed "internal/strconv.uint64pow10" = some 1 := by kernel_rfl
  have kf : Tryz.prog.globalNamed "unicode/utf8.first" = some 6 := by kernel_rfl
  have ka : Tryz.prog.globalNamed "unicode/utf8.acceptRanges" = some 7 := by kernel_rfl
  have gp : (En.gW W).G 1 ∧ (∀ (j : Nat) (x : Value), (En.g_pow10.map (Value.int .u64))[j]? = some x → (En.gW W).W.cell? ⟨1, j, none⟩ = some x) ∧ ∃ t m, (En.gW W).W.heap[1]? = some (.cells ((En.g_pow10.map (Value.int .u64))).toArray t m) := by
    obtain ⟨g, t, cs, fuel, p, hg, hty, hvar, hd⟩ := hp
    obtain rfl := Option.some.inj (kp.symm.trans hg)
    obtain rfl := Option.some.inj ((show (Tryz.prog.globals[1]?).map (·.type) = some 166 by kernel_rfl).symm.trans hty)
    exact glb_one kp hvar (Lib.cells_of_tab Tryz.underlying166 Tryz.underlying128 (by kernel_rfl) (by kernel_rfl) hd)
  have gf : (En.gW W).G 6 ∧ (∀ (j : Nat) (x : Value), (En.g_first.map (Value.int .u8))[j]? = some x → (En.gW W).W.cell? ⟨6, j, none⟩ = some x) ∧ ∃ t m, (En.gW W).W.heap[6]? = some (.cells ((En.g_first.map (Value.int .u8))).toArray t m) := by
    obtain ⟨g, t, cs, fuel, p, hg, hty, hvar, hd⟩ := hf
    obtain rfl := Option.some.inj (kf.symm.trans hg)
    obtain rfl := Option.some.inj ((show (Tryz.prog.globals[6]?).map (·.type) = some 202 by kernel_rfl).symm.trans hty)
    exact glb_one kf hvar (Lib.cells_of_tab Tryz.underlying202 Tryz.underlying5 (by kernel_rfl) (by kernel_rfl) hd)
  have ga : (En.gW W).G 7 ∧ (∀ (j : Nat) (x : Value), (En.g_accept.map (Value.int .u8))[j]? = some x → (En.gW W).W.cell? ⟨7, j, none⟩ = some x) ∧ ∃ t m, (En.gW W).W.heap[7]? = some (.cells ((En.g_accept.map (Value.int .u8))).toArray t m) := by
    obtain ⟨g, t, cs, fuel, p, hg, hty, hvar, hd⟩ := ha
    obtain rfl := Option.some.inj (ka.symm.trans hg)
    obtain rfl := Option.some.inj ((show (Tryz.prog.globals[7]?).map (·.type) = some 205 by kernel_rfl).symm.trans hty)
    have hcs : cs.toList = En.g_accept.map (Value.int .u8) := by
      have hlen : cs.toList.length = 32 := by
        obtain ⟨_, _, _, _, hl, _⟩ := DataW.trod_array Tryz.underlying205 hd
        rw [hl]; kernel_rfl
      apply List.ext_getElem?
      intro i
      by_cases hi : i < 32
      · have hq : i / 2 < 16 := by omega
        obtain ⟨fuel', d, q, hdi, he⟩ := Lib.array_elem Tryz.underlying205 hd (i / 2) hq
        simp only [List.getElem?_map] at hdi
        rw [show acc[i / 2]? = some (acc.getD (i / 2) []) by rw [List.getD_eq_getElem?_getD, List.getElem?_eq_getElem (by show i / 2 < 16; exact hq)]; rfl] at hdi
        simp only [Option.map_some, Option.some.injEq] at hdi
        subst hdi
        rw [show Tryz.prog.cellsOf 204 = 2 by kernel_rfl] at he
        have hcs := Lib.ints_of_struct Tryz.underlying204 (fun j f hj => by
          match j, hj with
          | 0, hj => cases hj; exact ⟨Tryz.underlying5, rfl, by kernel_rfl⟩
          | 1, hj => cases hj; exact ⟨Tryz.underlying5, rfl, by kernel_rfl⟩
          | j + 2, hj => simp at hj) (by kernel_rfl) he
        have h2 := congrArg (·[i % 2]?) hcs
        simp only [List.getElem?_take, List.getElem?_drop, List.getElem?_map] at h2
        rw [if_pos (by omega), show i / 2 * 2 + i % 2 = i by omega] at h2
        rw [h2, List.getElem?_map]
        have e1 : (acc.getD (i / 2) [])[i % 2]? = some ((acc.getD (i / 2) []).getD (i % 2) 0) := get_some (by rw [acc_len _ hq]; omega)
        have e2 : En.g_accept[i]? = some (En.g_accept.getD i 0) := get_some (by show i < 32; exact hi)
        rw [e1, e2, acc_at _ hq _ (by omega), show 2 * (i / 2) + i % 2 = i by omega]
      · rw [List.getElem?_eq_none (by omega), List.getElem?_eq_none (by simp [En.g_accept]; omega)]
    exact glb_one ka hvar hcs
  have gr := glb_err (Lib.laidMet.reads h (n := "strconv.ErrRange") (d := Rows.laid_strconv_ErrRange) (by simp [lay])) (show Tryz.prog.globalNamed "strconv.ErrRange" = some 3 by kernel_rfl) (show (Tryz.prog.globals[3]?).map (·.type) = some 109 by kernel_rfl) Tryz.underlying109
  have gs := glb_err (Lib.laidMet.reads h (n := "strconv.ErrSyntax") (d := Rows.laid_strconv_ErrSyntax) (by simp [lay])) (show Tryz.prog.globalNamed "strconv.ErrSyntax" = some 2 by kernel_rfl) (show (Tryz.prog.globals[2]?).map (·.type) = some 109 by kernel_rfl) Tryz.underlying109
  obtain ⟨m, hm⟩ := cell_of_shapedOpen_int (g := 0) (t := 3) (zero := #[.int .i64 0]) (k := .i64) hsh (of_decide_eq_true (by kernel_rfl)) (by kernel_rfl) rfl (by kernel_rfl) (by kernel_rfl) Tryz.underlying3
  have hml : 0 < W.heap.size := World.block_lt_of_cell? W _ hm
  have one : ∀ {k : Nat} {ys : List Value}, En.glw k = 0 → ((En.gW W).G k ∧ (∀ (j : Nat) (x : Value), ys[j]? = some x → (En.gW W).W.cell? ⟨k, j, none⟩ = some x) ∧ ∃ t m, (En.gW W).W.heap[k]? = some (.cells ys.toArray t m)) → (En.gW W).G k ∧ En.GlRest (En.gW W).W k ys := fun h0 h =>
    ⟨h.1, fun _ => h.2, fun e => (by rw [h0] at e; cases e), fun e => (by rw [h0] at e; cases e)⟩
  have err : ∀ {k : Nat}, En.glw k = 2 → (k < W.heap.size ∧ ∃ te pe, W.cell? ⟨k, 0, none⟩ = some (.iface te pe)) → (En.gW W).G k ∧ En.GlRest (En.gW W).W k [] := fun h0 h =>
    ⟨h.1, fun e => (by rw [h0] at e; cases e), fun e => (by rw [h0] at e; cases e), fun _ => h.2⟩
  have num : (En.gW W).G 0 ∧ En.GlRest (En.gW W).W 0 [] := ⟨hml, fun e => (by cases e), fun _ => ⟨m, hm⟩, fun e => (by cases e)⟩
  intro k xs hk
  simp only [En.glb, En.look] at hk
  cases hb : Nat.beq 1 k with
  | true => rw [hb] at hk; have := Nat.eq_of_beq_eq_true hb; subst this; cases hk; exact one rfl gp
  | false =>
  rw [hb] at hk
  cases hb : Nat.beq 6 k with
  | true => rw [hb] at hk; have := Nat.eq_of_beq_eq_true hb; subst this; cases hk; exact one rfl gf
  | false =>
  rw [hb] at hk
  cases hb : Nat.beq 7 k with
  | true => rw [hb] at hk; have := Nat.eq_of_beq_eq_true hb; subst this; cases hk; exact one rfl ga
  | false =>
  rw [hb] at hk
  cases hb : Nat.beq 0 k with
  | true => rw [hb] at hk; have := Nat.eq_of_beq_eq_true hb; subst this; cases hk; exact num
  | false =>
  rw [hb] at hk
  cases hb : Nat.beq 2 k with
  | true => rw [hb] at hk; have := Nat.eq_of_beq_eq_true hb; subst this; cases hk; exact err rfl gs
  | false =>
  rw [hb] at hk
  cases hb : Nat.beq 3 k with
  | true => rw [hb] at hk; have := Nat.eq_of_beq_eq_true hb; subst this; cases hk; exact err rfl gr
  | false => rw [hb] at hk; cases hk
end Go.Proofs.YtbpbndlgfiammaaGreatDoor
