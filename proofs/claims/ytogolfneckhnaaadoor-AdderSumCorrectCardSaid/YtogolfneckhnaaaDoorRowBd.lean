/- The numbers of a slice of integers that came in lie in int's range. -/
import Derived.Test.YtogolfneckhnaaaDoorRowTab
namespace Go.Proofs.YtogolfneckhnaaaDoor
open Go.ChangeShapes Go.WideShapes Go.ChangeAt Go.RowKit
theorem i64_of_wf {n : Int} (h : (Lit.int .i64 n).wf = true) : -9223372036854775808 ≤ n ∧ n ≤ 9223372036854775807 := by
  simp [Lit.wf] at h
  exact h
theorem IsRow.bd {w : World} {a : Option Addr} {len cap : Nat} {zs : List Int} (h : IsRow .i64 w a len cap zs) : ∀ x ∈ zs.take len, -9223372036854775808 ≤ x ∧ x ≤ 9223372036854775807 := by
  rcases h with ⟨rfl, rfl, rfl, rfl⟩ | ⟨_, rfl, h1, h2, h3, h4, h5⟩
  · intro x hx; simp at hx
  · intro x hx; exact i64_of_wf (h5 x (List.mem_of_mem_take hx))
theorem IsRow.le {w : World} {a : Option Addr} {len cap : Nat} {zs : List Int} (h : IsRow .i64 w a len cap zs) : (zs.take len).length ≤ maxLen := by
  rcases h with ⟨rfl, rfl, rfl, rfl⟩ | ⟨_, rfl, h1, h2, h3, h4, h5⟩
  · simp
  · rw [List.length_take]; omega
end Go.Proofs.YtogolfneckhnaaaDoor
