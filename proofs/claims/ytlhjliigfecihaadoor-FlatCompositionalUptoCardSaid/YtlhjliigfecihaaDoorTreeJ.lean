/- Joining, round by round. Plain. -/
import Derived.Test.YtlhjliigfecihaaDoorTreeH
import Derived.Test.YtlhjliigfecihaaDoorTreeR
set_option linter.unusedSimpArgs false
set_option linter.unusedVariables false
namespace Go.Proofs.YtlhjliigfecihaaDoor.Fl
open Go En
variable {kind whole : Int} {l : List Tree} {i : Nat}
theorem out_take (hi : i < l.length) : outJ kind (l.take (i + 1)) = outJ kind (l.take i) ++ (if (l.getD i tree0).kind = kind then (l.getD i tree0).l else if (l.getD i tree0).kind = 1 then [] else [l.getD i tree0]) := by
  have e : l[i] = l.getD i tree0 := by rw [List.getD_eq_getElem?_getD, List.getElem?_eq_getElem hi]; rfl
  unfold outJ
  rw [List.take_succ_eq_append_getElem hi, List.flatMap_append, e, List.flatMap_cons, List.flatMap_nil, List.append_nil]
theorem out_same (hi : i < l.length) (h : (l.getD i tree0).kind = kind) : outJ kind (l.take i) ++ (l.getD i tree0).l = outJ kind (l.take (i + 1)) := by rw [out_take hi, if_pos h]
theorem out_open (hi : i < l.length) (h : ¬ (l.getD i tree0).kind = kind) (h1 : ¬ (l.getD i tree0).kind = 1) : outJ kind (l.take i) ++ [l.getD i tree0] = outJ kind (l.take (i + 1)) := by rw [out_take hi, if_neg h, if_neg h1]
theorem out_skip (hi : i < l.length) (h : ¬ (l.getD i tree0).kind = kind) (h1 : (l.getD i tree0).kind = 1) : outJ kind (l.take i) = outJ kind (l.take (i + 1)) := by rw [out_take hi, if_neg h, if_pos h1, List.append_nil]
theorem out_len : ∀ l : List Tree, (outJ kind l).length ≤ sizeL l
  | [] => Nat.zero_le _
  | x :: l => by
    have ih := out_len l
    unfold outJ at ih ⊢
    rw [List.flatMap_cons, List.length_append, sizeL]
    have hx := size_l x
    have hl : ∀ m : List Tree, m.length ≤ sizeL m := fun m => by
      induction m with
      | nil => exact Nat.le_refl _
      | cons y m ihm => rw [sizeL, List.length_cons]; have := size_pos y; omega
    have h9 : (if x.kind = kind then x.l else if x.kind = 1 then [] else [x]).length ≤ sizeT x := by
      split
      · have := hl x.l; omega
      · split
        · simp
        · simp; omega
    omega
theorem len_size : ∀ m : List Tree, m.length ≤ sizeL m
  | [] => Nat.le_refl _
  | y :: m => by rw [sizeL, List.length_cons]; have := size_pos y; have := len_size m; omega
theorem out_len_take (i : Nat) : (outJ kind (l.take i)).length ≤ sizeL l := Nat.le_trans (out_len _) (size_take l i)
theorem join_bad (hi : i < l.length) (h1 : (l.getD i tree0).kind = 1) (h2 : ¬ (l.getD i tree0).v = whole) : joinT kind whole l = cst (1 - whole) := by
  have e : l[i] = l.getD i tree0 := by rw [List.getD_eq_getElem?_getD, List.getElem?_eq_getElem hi]; rfl
  unfold joinT
  rw [if_pos (List.any_eq_true.2 ⟨l[i], List.getElem_mem hi, by rw [e, h1]; simpa using h2⟩)]
theorem join_ok (h : ∀ j, j < l.length → (l.getD j tree0).kind = 1 → (l.getD j tree0).v = whole) : (l.any fun x => x.kind == 1 && x.v != whole) = false := by
  rw [List.any_eq_false]
  intro x hx
  obtain ⟨j, hj, rfl⟩ := List.getElem_of_mem hx
  have := h j hj
  rw [List.getD_eq_getElem?_getD, List.getElem?_eq_getElem hj] at this
  simp only [Option.getD_some] at this
  simp
  exact this
theorem join_0 (h : ∀ j, j < l.length → (l.getD j tree0).kind = 1 → (l.getD j tree0).v = whole) (h0 : (outJ kind l).length = 0) : joinT kind whole l = cst whole := by
  unfold joinT
  rw [join_ok h, List.length_eq_zero_iff.1 h0]; rfl
theorem join_1 (h : ∀ j, j < l.length → (l.getD j tree0).kind = 1 → (l.getD j tree0).v = whole) (h1 : (outJ kind l).length = 1) : joinT kind whole l = (outJ kind l).getD 0 tree0 := by
  obtain ⟨y, e⟩ := List.length_eq_one_iff.1 h1
  unfold joinT
  rw [join_ok h, e]; rfl
theorem join_2 (h : ∀ j, j < l.length → (l.getD j tree0).kind = 1 → (l.getD j tree0).v = whole) (h0 : ¬ (outJ kind l).length = 0) (h1 : ¬ (outJ kind l).length = 1) : joinT kind whole l = .node kind 0 0 (outJ kind l) := by
  unfold joinT
  rw [join_ok h]
  match hm : outJ kind l, h0, h1 with
  | [], h0, _ => exact absurd rfl h0
  | [x], _, h1 => exact absurd rfl h1
  | x :: y :: m, _, _ => rfl
theorem join_0i (e : i = l.length) (h : ∀ j, j < i → (l.getD j tree0).kind = 1 → (l.getD j tree0).v = whole) (h0 : (outJ kind (l.take i)).length = 0) : joinT kind whole l = cst whole := by
  subst e; rw [List.take_length] at h0; exact join_0 h h0
theorem join_1i (e : i = l.length) (h : ∀ j, j < i → (l.getD j tree0).kind = 1 → (l.getD j tree0).v = whole) (h1 : (outJ kind (l.take i)).length = 1) : joinT kind whole l = (outJ kind (l.take i)).getD 0 tree0 := by
  subst e; rw [List.take_length] at h1 ⊢; exact join_1 h h1
theorem join_2i (e : i = l.length) (h : ∀ j, j < i → (l.getD j tree0).kind = 1 → (l.getD j tree0).v = whole) (h0 : ¬ (outJ kind (l.take i)).length = 0) (h1 : ¬ (outJ kind (l.take i)).length = 1) : joinT kind whole l = .node kind 0 0 (outJ kind (l.take i)) := by
  subst e; rw [List.take_length] at h0 h1 ⊢; exact join_2 h h0 h1
end Go.Proofs.YtlhjliigfecihaaDoor.Fl
