/- 'fewUndos' as a plain function. No program in sight. -/
import Derived.Test.YthhfdjcaafckbaaElimR
set_option linter.unusedSimpArgs false
set_option linter.unusedVariables false
namespace Go.Proofs.Ythhfdjcaafckbaa.Cn
open Go

def fuC : List (Int × List (List Int)) → Nat → Bool
  | [], _ => true
  | w :: l, n => if 200 < n + w.2.length then false else if fewB 0 w.2 0 200 then fuC l (n + w.2.length) else false
def fuB (u : List (Int × List (List Int))) : Bool := fuC (u.take 21) 0 && decide (u.length ≤ 20)
section
variable {u : List (Int × List (List Int))} {k n : Nat}
theorem fu_drop (h : k < u.length) (h2 : k < 21) : (u.take 21).drop k = u.getD k (0, []) :: (u.take 21).drop (k + 1) := by
  have hk : k < (u.take 21).length := by rw [List.length_take]; omega
  rw [List.drop_eq_getElem_cons hk, List.getElem_take, List.getD_eq_getElem?_getD, List.getElem?_eq_getElem h]
  rfl
theorem fu_big (h : k < u.length) (h2 : k < 21) (hb : 200 < n + (u.getD k (0, [])).2.length) : fuC ((u.take 21).drop k) n = false := by
  rw [fu_drop h h2]; unfold fuC; rw [if_pos hb]
theorem fu_bad (h : k < u.length) (h2 : k < 21) (hb : ¬ 200 < n + (u.getD k (0, [])).2.length) (hf : fewB 0 (u.getD k (0, [])).2 0 200 = false) : fuC ((u.take 21).drop k) n = false := by
  rw [fu_drop h h2]; unfold fuC; rw [if_neg hb, hf]; rfl
theorem fu_next (h : k < u.length) (h2 : k < 21) (hb : ¬ 200 < n + (u.getD k (0, [])).2.length) (hf : fewB 0 (u.getD k (0, [])).2 0 200 = true) : fuC ((u.take 21).drop k) n = fuC ((u.take 21).drop (k + 1)) (n + (u.getD k (0, [])).2.length) := by
  rw [fu_drop h h2]
  conv => lhs; unfold fuC
  rw [if_neg hb, hf]; rfl
theorem fu_end (h : ¬ (k < u.length ∧ k ≤ 20)) : fuC ((u.take 21).drop k) n = true := by
  rw [List.drop_eq_nil_of_le (by rw [List.length_take]; omega)]; rfl
end
theorem fuC_all : ∀ {l : List (Int × List (List Int))} {n : Nat}, fuC l n = true → ∀ w ∈ l, w.2.length ≤ 200 ∧ ∀ c ∈ w.2, c.length ≤ 20
  | [], _, _, w, hw => by cases hw
  | x :: l, n, h, w, hw => by
    unfold fuC at h
    split at h
    · cases h
    · split at h
      · rename_i hf
        rcases List.mem_cons.1 hw with rfl | hw
        · exact ⟨by omega, (few_iff hf).2.2⟩
        · exact fuC_all h w hw
      · cases h
theorem fu_iff {u : List (Int × List (List Int))} (h : fuB u = true) : u.length ≤ 20 ∧ ∀ w ∈ u, w.2.length ≤ 200 ∧ ∀ c ∈ w.2, c.length ≤ 20 := by
  unfold fuB at h
  rw [Bool.and_eq_true, decide_eq_true_eq] at h
  refine ⟨h.2, fun w hw => fuC_all h.1 w (by rw [List.take_of_length_le (by omega)]; exact hw)⟩
end Go.Proofs.Ythhfdjcaafckbaa.Cn
