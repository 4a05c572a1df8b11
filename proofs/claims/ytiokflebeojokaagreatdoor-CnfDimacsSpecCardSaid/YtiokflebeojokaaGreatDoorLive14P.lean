/- The chapter's examples, reckoned. -/
import Derived.Test.YtiokflebeojokaaGreatDoorLaw14P
import Derived.Test.YtiokflebeojokaaGreatDoorCnfR
set_option linter.unusedSimpArgs false
set_option linter.unusedVariables false
namespace Go.Proofs.YtiokflebeojokaaGreatDoor.Cn
theorem n1 : normL [2, -1, 2] = [-1, 2] := norm_of (by decide) fun x => by
  simp only [List.mem_cons, List.not_mem_nil, or_false, mayP_iff]; omega
theorem n2 : normL [1, -1] = [1, -1] := norm_of (by decide) fun x => by
  simp only [List.mem_cons, List.not_mem_nil, or_false, mayP_iff]; omega
theorem n3 : normL [2, 3] = [2, 3] := norm_of (by decide) fun x => by
  simp only [List.mem_cons, List.not_mem_nil, or_false, mayP_iff]; omega
theorem lv1 : normL [2, -1, 2] = [-1, 2] ∧ tautL [2, -1, 2] = false := ⟨n1, by unfold tautL; rw [n1]; decide⟩
theorem lv2 : normL [1, -1] = [1, -1] ∧ tautL [1, -1] = true := ⟨n2, by unfold tautL; rw [n2]; decide⟩
theorem lv3 : resL [1, 2] [-1, 3] 1 = [2, 3] ∧ resE [1, 2] [-1, 3] 1 = 0 := ⟨n3, by decide⟩
theorem lv4 : resE [1, 2] [1, 3] 1 = 140 := by decide
theorem lv5 : chkV 3 [[1, -2], []] = 0 ∧ chkV 1 [[1, -2], []] = 1 := by decide
theorem i1 : itoaI 3 = [51] ∧ itoaI 2 = [50] ∧ itoaI 1 = [49] ∧ itoaI (-2) = [45, 50] := by
  have d : ∀ i : Nat, i < 10 → Go.Lib.decDigits i = [UInt8.ofNat (48 + i)] := fun i h => Go.Lib.decDigits_one h
  refine ⟨?_, ?_, ?_, ?_⟩
  · show (Go.Lib.decDigits 3).map _ = _; rw [d 3 (by omega)]; rfl
  · show (Go.Lib.decDigits 2).map _ = _; rw [d 2 (by omega)]; rfl
  · show (Go.Lib.decDigits 1).map _ = _; rw [d 1 (by omega)]; rfl
  · show ((45 : UInt8) :: Go.Lib.decDigits 2).map _ = _; rw [d 2 (by omega)]; rfl
theorem lv6 : putB 3 [[1, -2], []] = [112, 32, 99, 110, 102, 32, 51, 32, 50, 10, 49, 32, 45, 50, 32, 48, 10, 48, 10] := by
  obtain ⟨h3, h2, h1, h4⟩ := i1
  unfold putB clsB litsB
  simp only [List.flatMap_cons, List.flatMap_nil, List.length_cons, List.length_nil, h3, h1, h4]
  rw [show ((0 + 1 + 1 : Nat) : Int) = 2 from rfl, h2]
  rfl
theorem lv7 : getV (wordsV [99, 32, 120, 10, 112, 32, 99, 110, 102, 32, 51, 10, 50, 32, 49, 32, 45, 50, 32, 48, 32, 48]) = (3, [[1, -2], []], 0) := by decide +kernel
theorem lv8 : getV (wordsV [112, 32, 99, 110, 102, 32, 51, 32, 50, 32, 49, 32, 48]) = (0, [], 11) := by decide +kernel
end Go.Proofs.YtiokflebeojokaaGreatDoor.Cn
