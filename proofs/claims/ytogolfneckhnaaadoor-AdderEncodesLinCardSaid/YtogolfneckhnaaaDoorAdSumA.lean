/- The adder's Sum where next or the lengths are out of range; what its contract says in general: for all slices of coefficients and literals and every next it returns what the plain function sumP says. -/
import Derived.Test.YtogolfneckhnaaaDoorAdPut
import Derived.Carry
namespace Go.Proofs.YtogolfneckhnaaaDoor
open Go.RowKit Go.Shelf

/-- what Sum returns and leaves -/
def SumPost (w : World) (r : SumR) (e : Ending) (w' : World) : Prop :=
  match r with
  | .err c => e = .returned (.tuple #[.slice none 0 0, .slice none 0 0, I64 0, I64 c]) ∧ Below w.heap.size w w'
  | .ok bits cs after => ∃ A cA C cC, e = .returned (.tuple #[.slice A bits.length cA, .slice C cs.length cC, I64 after, I64 0]) ∧ bits.length ≤ cA ∧ cs.length ≤ cC ∧
      Rd I64 (· < w'.heap.size) w' A bits ∧ RdL (· < w'.heap.size) w' C cs ∧ Below w.heap.size w w'

theorem TabAt.below {w w' : World} (h : TabAt w) (hb : Below w.heap.size w w') : TabAt w' := fun j hj =>
  (hb.cell (World.block_lt_of_cell? w _ (h j hj))).trans (h j hj)
theorem results_tmp4 {fn : Func} {t u v x : Tmp} (h : fn.results = #[.tmp t, .tmp u, .tmp v, .tmp x]) (tmps : Array Value) (P : Program) (w : World) :
    (results fn tmps).run P w = .ok (.tuple #[tmps.getD t undef, tmps.getD u undef, tmps.getD v undef, tmps.getD x undef]) w := by simp [results, h]

set_option maxRecDepth 100000 in
set_option maxHeartbeats 3200000 in
theorem sum_bad (A L : Option Addr) (cA cL : Nat) (coef l : List Int) (next : Int) (w : World)
    (hg : next < 1 ∨ 65537 < next ∨ coef.length ≠ l.length) :
    Calls Tryd.prog 13 #[.slice A coef.length cA, .slice L l.length cL, I64 next] w (SumPost w (sumP coef l next)) := by
  have hr : Hid (sumP coef l next = .err 1) := by show _ = _; rw [sumP, if_pos hg]
  have HG := Lib.hid hg
  clear hg
  rcases HG.out with h | h | h
  · go_enter Tryd.func13, Tryd.ntmps13
    go_wp2_with fail
    refine bodyPost_ret (results_tmp4 rfl _ _ _) rfl ?_
    rw [hr.out]; exact ⟨rfl, Below.refl _ _⟩
  · by_cases h' : next < 1
    · omega
    · go_enter Tryd.func13, Tryd.ntmps13
      go_wp2_with fail
      refine bodyPost_ret (results_tmp4 rfl _ _ _) rfl ?_
      rw [hr.out]; exact ⟨rfl, Below.refl _ _⟩
  · have hne : ((coef.length : Int) != (l.length : Int)) = true := by simp; omega
    clear h
    by_cases h1 : next < 1
    · go_enter Tryd.func13, Tryd.ntmps13
      go_wp2_with fail
      refine bodyPost_ret (results_tmp4 rfl _ _ _) rfl ?_
      rw [hr.out]; exact ⟨rfl, Below.refl _ _⟩
    · by_cases h2 : 65537 < next
      · go_enter Tryd.func13, Tryd.ntmps13
        go_wp2_with fail
        refine bodyPost_ret (results_tmp4 rfl _ _ _) rfl ?_
        rw [hr.out]; exact ⟨rfl, Below.refl _ _⟩
      · go_enter Tryd.func13, Tryd.ntmps13
        go_wp2_with fail
        refine bodyPost_ret (results_tmp4 rfl _ _ _) rfl ?_
        rw [hr.out]; exact ⟨rfl, Below.refl _ _⟩
end Go.Proofs.YtogolfneckhnaaaDoor
