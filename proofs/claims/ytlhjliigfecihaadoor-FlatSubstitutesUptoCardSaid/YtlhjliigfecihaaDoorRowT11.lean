/- What the rows of layer 11 have in common: the table that start-up lays (flat's neutral constants) stands where the engine reads it; a world that meets the list. -/
import Derived.Test.YtlhjliigfecihaaDoorRowE11
import Derived.Test.YtlhjliigfecihaaDoorRows
import Derived.ProofKit
import Derived.LaidMore
import Derived.Lay
import Derived.LaidHandle
import Derived.MakeChecks
import Derived.OpenShut
import Derived.Stop.Joined
import Derived.Lib.LaidU8
import Derived.Deep.DeepHandedRow
namespace Go.Proofs.YtlhjliigfecihaaDoor
open Go.ChangeShapes Go.WideShapes Go.ChangeAt Go.RowKit
set_option linter.unusedVariables false

abbrev lay : List (String × DataW Unit) := [("chalkline/flat.idle", Rows.laid_chalkline_flat_idle)]
theorem glb_one {P : Program} {W : World} {n : String} {k : Nat} {cs : Array Value} {xs : List Value} (hg : P.globalNamed n = some k) (hv : W.var? P n = some cs) (hc : cs.toList = xs) :
    k < W.heap.size ∧ (∀ (j : Nat) (x : Value), xs[j]? = some x → W.cell? ⟨k, j, none⟩ = some x) ∧ ∃ t m, W.heap[k]? = some (.cells xs.toArray t m) := by
  have hcs : cs = xs.toArray := by rw [← hc]
  subst hcs
  have h1 := fun j => World.var?_cell hg hv j
  simp only [World.var?, hg, Option.bind_some] at hv
  split at hv
  · rename_i c t m hb
    cases hv
    refine ⟨?_, fun j x hj => ?_, t, m, hb⟩
    · by_cases h : k < W.heap.size
      · exact h
      · rw [Array.getElem?_eq_none (by omega)] at hb; cases hb
    · rw [h1 j]; simpa using hj
  · cases hv
theorem laid_idle : (Rows.laid_chalkline_flat_idle : DataW Unit) = Lib.tabData .i64 En.g_idle := rfl
set_option maxRecDepth 100000 in
theorem glOk_of_laid {W : World} (h : laidMetH Tryd.prog lay W) : En.GlOk (En.gW W) := by
  rw [MakeChecks.laidMetH_plain _ _ _ (by kernel_rfl)] at h
  have hp := Lib.laidMet.reads h (n := "chalkline/flat.idle") (d := Rows.laid_chalkline_flat_idle) (by simp [lay])
  rw [laid_idle] at hp
  have kp : Tryd.prog.globalNamed "chalkline/flat.idle" = some 0 := by kernel_rfl
  have gp : (En.gW W).G 0 ∧ (∀ (j : Nat) (x : Value), (En.g_idle.map (Value.int .i64))[j]? = some x → (En.gW W).W.cell? ⟨0, j, none⟩ = some x) ∧ ∃ t m, (En.gW W).W.heap[0]? = some (.cells ((En.g_idle.map (Value.int .i64))).toArray t m) := by
    obtain ⟨g, t, cs, fuel, p, hg, hty, hvar, hd⟩ := hp
    obtain rfl := Option.some.inj (kp.symm.trans hg)
    obtain rfl := Option.some.inj ((show (Tryd.prog.globals[0]?).map (·.type) = some 57 by kernel_rfl).symm.trans hty)
    exact glb_one kp hvar (Lib.cells_of_tab Tryd.underlying57 Tryd.underlying3 (by kernel_rfl) (by kernel_rfl) hd)
  intro k xs hk
  simp only [En.glb, En.look] at hk
  cases hb : Nat.beq 0 k with
  | true => rw [hb] at hk; have := Nat.eq_of_beq_eq_true hb; subst this; cases hk; exact gp
  | false => rw [hb] at hk; cases hk
/-- A world for the witness: the settled one, the table holding what its initialiser lays. -/
noncomputable def laidWorld (os : Os) : World :=
  { World.holding Tryd.prog os ⟨#[], #[], []⟩ with heap := (World.holding Tryd.prog os ⟨#[], #[], []⟩).heap.modify 0 fun
      | .cells _ t frozen => .cells #[.int .i64 0, .int .i64 0, .int .i64 0, .int .i64 0, .int .i64 1, .int .i64 0] t frozen
      | o => o }
theorem weights_one {H : Type} {P : Program} {t : TypeId} {ts : List TypeId} {d : DataW H} {ds : List (DataW H)} {q : Nat → Bool} (h : (DataW.weightsEach P (t :: ts) (d :: ds)).all q = true) : (DataW.weights P t d).all q = true ∧ (DataW.weightsEach P ts ds).all q = true := by
  rw [DataW.weightsEach, List.all_append, Bool.and_eq_true] at h
  exact h
end Go.Proofs.YtlhjliigfecihaaDoor
