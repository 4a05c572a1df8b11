/- The set of a list of integers: the same members, in strict order; and the example of the chapter. Plain lemmas. -/
import Derived.Test.YtlhjliigfecihaaDoorTreeX
import Derived.Test.YtlhjliigfecihaaDoorTreeY
import Derived.Test.YtlhjliigfecihaaDoorTreeN
set_option linter.unusedSimpArgs false
set_option linter.unusedVariables false
set_option linter.unnecessarySimpa false
namespace Go.Proofs.YtlhjliigfecihaaDoor.Fl
open Go En
/-- compact on a sorted list: the same members, in strict order -/
theorem compact_inc (xs : List Int) (hs : xs.Pairwise fun x y => x ≤ y) : (∀ x, x ∈ Lib.compact xs ↔ x ∈ xs) ∧ (Lib.compact xs).Pairwise fun x y => x < y := by
  have key : ∀ m, m ≤ xs.length → (∀ x, x ∈ Lib.compactUpTo xs.toArray m ↔ x ∈ xs.take m) ∧ (Lib.compactUpTo xs.toArray m).Pairwise fun x y => x < y := by
    intro m
    induction m with
    | zero => intro _; simp [Lib.compactUpTo]
    | succ m ih =>
      intro hm
      obtain ⟨h1, h2⟩ := ih (by omega)
      have hlt : m < xs.length := by omega
      have eg : xs.toArray[m]! = xs[m] := by rw [getElem!_pos xs.toArray m (by simpa using hlt)]; simp
      rw [Lib.compactUpTo_succ, eg, List.take_succ_eq_append_getElem hlt]
      have hle : ∀ y ∈ xs.take m, y ≤ xs[m] := by
        intro y hy
        obtain ⟨j, hj, rfl⟩ := List.mem_iff_getElem.1 hy
        rw [List.length_take] at hj
        rw [List.getElem_take]
        exact List.pairwise_iff_getElem.1 hs j m (by omega) hlt (by omega)
      cases hk : Lib.keeps xs.toArray m with
      | true =>
        rw [if_pos rfl]
        refine ⟨fun x => by simp only [List.mem_append, h1 x], List.pairwise_append.2 ⟨h2, List.pairwise_singleton _ _, fun y hy z hz => ?_⟩⟩
        rw [List.mem_singleton] at hz
        subst hz
        have hy' := (h1 y).1 hy
        have hle' := hle y hy'
        rcases Int.lt_or_le y xs[m] with h | h
        · exact h
        · have e : y = xs[m] := by omega
          subst e
          exfalso
          simp only [Lib.keeps, decide_eq_true_eq] at hk
          rcases hk with h0 | hne
          · subst h0; simp at hy'
          · by_cases hm0 : m = 0
            · subst hm0; simp at hy'
            apply hne
            have e1 : xs.toArray[m - 1]! = xs[m - 1] := by rw [getElem!_pos xs.toArray (m - 1) (by simp; omega)]; simp
            rw [eg, e1]
            have hp : xs[m - 1] ≤ xs[m] := List.pairwise_iff_getElem.1 hs (m - 1) m (by omega) hlt (by omega)
            obtain ⟨j, hj, hj2⟩ := List.mem_iff_getElem.1 hy'
            rw [List.length_take] at hj
            rw [List.getElem_take] at hj2
            by_cases hjm : j = m - 1
            · subst hjm; exact hj2.symm
            · have h4 : xs[j] ≤ xs[m - 1] := List.pairwise_iff_getElem.1 hs j (m - 1) (by omega) (by omega) (by omega)
              omega
      | false =>
        rw [if_neg (by simp)]
        refine ⟨fun x => ?_, by simpa using h2⟩
        simp only [List.append_nil, List.mem_append, List.mem_singleton, h1 x]
        constructor
        · exact .inl
        · rintro (h | rfl)
          · exact h
          · simp only [Lib.keeps, decide_eq_false_iff_not, not_or, Decidable.not_not] at hk
            obtain ⟨hm0, he⟩ := hk
            have e1 : xs.toArray[m - 1]! = xs[m - 1] := by rw [getElem!_pos xs.toArray (m - 1) (by simp; omega)]; simp
            rw [eg, e1] at he
            rw [he]
            exact List.mem_iff_getElem.2 ⟨m - 1, by rw [List.length_take]; omega, by rw [List.getElem_take]⟩
  have := key xs.length (Nat.le_refl _)
  rw [List.take_length] at this
  exact this
theorem setI_mem {xs : List Int} {x : Int} : x ∈ setI xs ↔ x ∈ xs := by unfold setI; rw [(compact_inc _ (sortI_pw xs)).1, sortI_mem]
theorem setI_inc (xs : List Int) : (setI xs).Pairwise fun x y => x < y := (compact_inc _ (sortI_pw xs)).2
theorem setI_len (xs : List Int) : (setI xs).length ≤ xs.length := by unfold setI; exact Nat.le_trans (Lib.compact_length_le _) (by rw [sortI_len]; exact Nat.le_refl _)
/-- two lists in strict order with the same members -/
theorem inc_ext : ∀ {a b : List Int}, a.Pairwise (fun x y => x < y) → b.Pairwise (fun x y => x < y) → (∀ x, x ∈ a ↔ x ∈ b) → a = b
  | [], [], _, _, _ => rfl
  | [], y :: b, _, _, h => absurd ((h y).2 (by simp)) (by simp)
  | x :: a, [], _, _, h => absurd ((h x).1 (by simp)) (by simp)
  | x :: a, y :: b, ha, hb, h => by
    have ha1 : ∀ {z}, z ∈ a → x < z := fun h => List.rel_of_pairwise_cons ha h
    have hb1 : ∀ {z}, z ∈ b → y < z := fun h => List.rel_of_pairwise_cons hb h
    have e : x = y := by
      have h1 := (h x).1 (by simp)
      have h2 := (h y).2 (by simp)
      rcases List.mem_cons.1 h1 with e | h1
      · exact e
      · rcases List.mem_cons.1 h2 with e | h2
        · exact e.symm
        · have := hb1 h1; have := ha1 h2; omega
    subst e
    rw [inc_ext ha.of_cons hb.of_cons fun z => ?_]
    have hz := h z
    simp only [List.mem_cons] at hz
    constructor
    · intro h1
      rcases hz.1 (.inr h1) with e | h2
      · have := ha1 h1; omega
      · exact h2
    · intro h1
      rcases hz.2 (.inr h1) with e | h2
      · have := hb1 h1; omega
      · exact h2
theorem live_vars : setI (varsT (.node (4 : Int) (0 : Int) (0 : Int) [(Tree.node 2 (1 : Int) 0 []), (Tree.node (4 : Int) 0 (0 : Int) [(Tree.node 2 (2 : Int) 0 []), (Tree.node 2 (3 : Int) 0 [])]), (Tree.node 1 (1 : Int) 0 [])])) = [1, 2, 3] := by
  refine inc_ext (setI_inc _) (by decide) fun x => ?_
  rw [setI_mem]
  have : varsT (.node (4 : Int) (0 : Int) (0 : Int) [(Tree.node 2 (1 : Int) 0 []), (Tree.node (4 : Int) 0 (0 : Int) [(Tree.node 2 (2 : Int) 0 []), (Tree.node 2 (3 : Int) 0 [])]), (Tree.node 1 (1 : Int) 0 [])]) = [1, 2, 3] := by rfl
  rw [this]
end Go.Proofs.YtlhjliigfecihaaDoor.Fl
