/- Lemmas and contracts for the row. -/
import Derived.Test.YtbpbndlgfiammaaGreatDoorPkRowProofTidyT
import Derived.Test.YtbpbndlgfiammaaGreatDoorPkRowProofTidyAE
import Derived.Test.YtbpbndlgfiammaaGreatDoorProg
import Derived.Test.YtbpbndlgfiammaaGreatDoorPkRowProofTidyAJ
set_option linter.unusedVariables false
set_option linter.unusedSimpArgs false
set_option linter.unnecessarySimpa false
namespace Go.Proofs.YtbpbndlgfiammaaGreatDoor.En
open Go Go.RowKit
def tyR24A : List (Nat × TD) := [(3, ⟨1, false, [.int .i64 0], [], none, 8, false, 1, 1⟩),
  (22, ⟨1, false, [.slice none 0 0], [], some 23, 24, false, 0, 0⟩),
  (23, ⟨1, false, [.slice none 0 0], [], some 3, 24, false, 0, 3⟩),
  (29, ⟨1, false, [.slice none 0 0], [], some 43, 24, false, 0, 0⟩),
  (43, ⟨2, true, [.int .i64 0, .slice none 0 0], [(0, 3), (1, 23)], none, 32, false, 0, 7⟩)]
theorem tyR24A_ok : AllTy Tryz.prog tyR24A := ⟨⟨by kernel_rfl, by kernel_rfl, by kernel_rfl⟩, ⟨by kernel_rfl, by kernel_rfl, by kernel_rfl⟩, ⟨by kernel_rfl, by kernel_rfl, by kernel_rfl⟩, ⟨by kernel_rfl, by kernel_rfl, by kernel_rfl⟩, ⟨by kernel_rfl, by kernel_rfl, by kernel_rfl⟩, trivial⟩
def cx_rFewC : Cx := ⟨tyR24A, [], true⟩
theorem cx_rFewC_ok : CxOk Tryz.prog cx_rFewC := cx_ok tyR24A_ok trivial
def rFewC_σ : CtF
  | [.im (.ls (.intss c)), .im (.val (.int .i64 m))], [] => some (c.length ≤ maxLen ∧ (∀ x ∈ c, x.length ≤ 17592186043904) ∧ 0 ≤ m ∧ m ≤ 1000, .bool (Cn.fewC c m), [])
  | _, _ => none
theorem rFewC_sound : Sound Tryz.prog 13 rFewC_σ := by
 refine Sw (cx := cx_rFewC) Tryz.f13 Tryz.func13 ?_
 intro wW wO wβ G0 args os p r outs hσ hp
 have hcx := cx_rFewC_ok
 unfold rFewC_σ at hσ
 split at hσ
 ·
  rename_i c m
  cases hσ
  refine ⟨by kernel_rfl, ?_⟩
  obtain ⟨hm1, hm2, hm3, hm4⟩ := hp
  unfold maxLen at hm1
  refine Sz hcx [] [] [] [] (Sz hcx [] [5] [] [] (Zs (Sz hcx [] [6] [] [] (Zb (Lp (X := Nat) (fun x0 => x0 ≤ c.length ∧ (Cn.szC (c.take x0) : Int) ≤ 6 * m) (fun x0 => ([(0, .intss c), (1, .int m), (5, .int (Cn.szC (c.take x0) : Int)), (6, .int (x0 : Int))], [])) (fun x0 => c.length - x0) (0) ?_ (Ex 6 (congrArg AV.int (show 0 = (0 : Int) from (by first | rfl | omega | (simp; done)))) Eb) Hb fun i hI => ?_)))))
  ·
   exact ⟨Nat.zero_le _, by show (0 : Int) ≤ 6 * m; omega⟩
  ·
   try dsimp only at hI
   obtain ⟨hk, hs⟩ := hI
   have hn := fun (h : i < c.length) => Cn.fewC_next h
   have hxl := fun (h : i < c.length) => hm2 _ (Cn.getD_memL (d := []) h)
   refine Zs (Sq hcx [] [15] [] [] [((decide ((i : Int) < (c.length : Int))) = true → ((decide ((i : Int) < (c.length : Int))) = true)), ((decide ((i : Int) < (c.length : Int))) = true → ((decide ((i : Int) < (c.length : Int))) = true)), ((decide ((i : Int) < (c.length : Int))) = true → (decide ((i : Int) < (c.length : Int))) = true)] ?_ (Zi (b := (decide ((i : Int) < (c.length : Int))) && (decide ((i : Int) ≤ m))) (fun h0 => ?_) fun h0 => ?_))
   ·
    refine ap ?_ (ap ?_ (ap (by exact id) az)) <;>
     first | omega | exact id | exact vcNot | exact vcG | exact vcH | (intro _; omega) | exact (fun _ h => h) | (intro h; simp at h; omega) | (simp only [List.length_cons, List.length_nil, List.length_append, List.length_map, List.length_set, List.length_replicate]; omega) | (intro h; simp [h]; done) | exact (fun _ => ⟨by omega, by omega⟩) | (constructor <;> omega) | (intro _; constructor <;> omega) | omega | done
   ·
    have h15 := (Cn.and_t h0).1
    have h15b : i < c.length := by simpa using h15
    have hn9 := hn h15b
    have hx9 := hxl h15b
    refine Zk (Ft (Zs (Zb (Sq hcx [] [5] [15] [] [((0 : Int) ≤ (i : Int) ∧ (i : Int) < (c.length : Int)), Fit (1 + ((c.getD i []).length : Int)), Fit ((Cn.szC (c.take i) : Int) + (1 + ((c.getD i []).length : Int)))] ?_ (Sq hcx [] [29] [] [] [Fit (6 * m)] ?_ (Zj (p := (((Cn.szC (c.take i) : Int) + (1 + ((c.getD i []).length : Int))) > (6 * m))) (fun h1 => ?_) fun h1 => ?_))))))
    ·
     refine ap ?_ (ap ?_ (ap ?_ az)) <;>
      first | omega | exact id | exact vcNot | exact vcG | exact vcH | (intro _; omega) | exact (fun _ h => h) | (intro h; simp at h; omega) | (simp only [List.length_cons, List.length_nil, List.length_append, List.length_map, List.length_set, List.length_replicate]; omega) | (intro h; simp [h]; done) | exact (fun _ => ⟨by omega, by omega⟩) | (constructor <;> omega) | (intro _; constructor <;> omega) | omega | done
    ·
     refine ap ?_ az
     first | omega | exact id | exact vcNot | exact vcG | exact vcH | (intro _; omega) | exact (fun _ h => h) | (intro h; simp at h; omega) | (simp only [List.length_cons, List.length_nil, List.length_append, List.length_map, List.length_set, List.length_replicate]; omega) | (intro h; simp [h]; done) | exact (fun _ => ⟨by omega, by omega⟩) | (constructor <;> omega) | (intro _; constructor <;> omega) | omega | done
    ·
     have h29 := h1
     exact Sz hcx [] [4] [29, 5, 0, 1, 6] [] (Zr (Fk (Fr (Fr (Fk (Fr (Rv hcx (congrArg AV.bool (show false = (Cn.fewC c m) from (by first | exact Cn.fewG_big (by rw [show Cn.szG _ _ = Cn.szC (c.take (i + 1)) from rfl]; omega) | exact Cn.fewG_end hs hk h15 | done))) [] rfl)))))))
    ·
     have h29 := h1
     refine Zk (Fb (Ft (Tq hcx [] [6] [29] [] [Fit ((i : Int) + 1)] ?_ (Lr (i + 1) ?_ ?_ (Ex 5 (congrArg AV.int (show ((Cn.szC (c.take i) : Int) + (1 + ((c.getD i []).length : Int))) = (Cn.szC (c.take (i + 1)) : Int) from (by (have h8 := hn (by omega); omega)))) (Ex 6 (congrArg AV.int (show ((i : Int) + 1) = ((i + 1) : Int) from (by first | rfl | omega | (simp; done)))) Eb)) Hb))))
     ·
      refine ap ?_ az
      first | omega | exact id | exact vcNot | exact vcG | exact vcH | (intro _; omega) | exact (fun _ h => h) | (intro h; simp at h; omega) | (simp only [List.length_cons, List.length_nil, List.length_append, List.length_map, List.length_set, List.length_replicate]; omega) | (intro h; simp [h]; done) | exact (fun _ => ⟨by omega, by omega⟩) | (constructor <;> omega) | (intro _; constructor <;> omega) | omega | done
     ·
      exact ⟨by omega, by omega⟩
     ·
      show c.length - (i + 1) < c.length - i
      omega
   ·
    have h15 := h0
    exact Ze (Fe (Fe (Fs (Ft (Sz hcx [] [4] [15, 0, 1, 5, 6] [] (Zr (Rv hcx (congrArg AV.bool (show (decide ((c.length : Int) ≤ m)) = (Cn.fewC c m) from (by first | exact Cn.fewG_big (by rw [show Cn.szG _ _ = Cn.szC (c.take (i + 1)) from rfl]; omega) | exact Cn.fewG_end hs hk h15 | done))) [] rfl)))))))
 ·
  cases hσ
end Go.Proofs.YtbpbndlgfiammaaGreatDoor.En
