/- Formulas as trees: lengths that every list of a tree keeps. Plain. -/
import Derived.Test.YtlhjliigfecihaaDoorTreeP
set_option linter.unusedSimpArgs false
set_option linter.unusedVariables false
namespace Go.Proofs.YtlhjliigfecihaaDoor.Fl
open Go En
mutual
def lensT : Tree → Prop
  | .node _ _ _ l => l.length ≤ 2932031007317 ∧ lensL l
def lensL : List Tree → Prop
  | [] => True
  | t :: l => lensT t ∧ lensL l
end
theorem lens_t {t : Tree} : lensT t ↔ t.l.length ≤ 2932031007317 ∧ lensL t.l := by cases t with | node a b c l => simp only [lensT, Tree.l]
theorem lens_mem : ∀ {l : List Tree} {t : Tree}, lensL l → t ∈ l → lensT t
  | [], _, _, h => by cases h
  | x :: l, t, hl, h => by
    simp only [lensL] at hl
    rcases List.mem_cons.1 h with h | h
    · subst h; exact hl.1
    · exact lens_mem hl.2 h
theorem lens_at {l : List Tree} {i : Nat} (h : lensL l) (hi : i < l.length) : (l.getD i tree0).l.length ≤ 2932031007317 ∧ lensL (l.getD i tree0).l :=
  lens_t.1 (lens_mem h (by rw [List.getD_eq_getElem?_getD, List.getElem?_eq_getElem hi]; exact List.getElem_mem _))
theorem size_step {l : List Tree} {i : Nat} (h : i < l.length) : sizeL (l.take (i + 1)) = sizeL (l.take i) + (1 + sizeL (l.getD i tree0).l) := by
  have app : ∀ l m : List Tree, sizeL (l ++ m) = sizeL l + sizeL m := fun l m => by
    induction l with
    | nil => simp [sizeL]
    | cons x l ih => rw [List.cons_append, sizeL, sizeL, ih]; omega
  have e : l[i] = l.getD i tree0 := by rw [List.getD_eq_getElem?_getD, List.getElem?_eq_getElem h]; rfl
  rw [List.take_succ_eq_append_getElem h, app, e]
  cases l.getD i tree0 with
  | node a b c m => simp only [sizeL, sizeT, Tree.l]; omega
theorem size_take (l : List Tree) (i : Nat) : sizeL (l.take i) ≤ sizeL l := by
  induction l generalizing i with
  | nil => simp [sizeL]
  | cons x l ih =>
    cases i with
    | zero => simp [sizeL]
    | succ i => rw [List.take_succ_cons, sizeL, sizeL]; have := ih i; omega

mutual
def sameB : Tree → Tree → Bool
  | .node a b c l, .node a' b' c' l' => (a == a' && b == b' && c == c') && sameL l l'
def sameL : List Tree → List Tree → Bool
  | [], [] => true
  | x :: l, y :: m => sameB x y && sameL l m
  | [], _ :: _ => false
  | _ :: _, [] => false
end
mutual
theorem same_iff0 : ∀ x y : Tree, sameB x y = true ↔ x = y
  | .node a b c l, .node a' b' c' l' => by
    have h := sameL_iff0 l l'
    rw [sameB, Bool.and_eq_true, h]
    simp [and_assoc]
theorem sameL_iff0 : ∀ l m : List Tree, sameL l m = true ↔ l = m
  | [], [] => by simp [sameL]
  | x :: l, y :: m => by
    have h1 := same_iff0 x y
    have h2 := sameL_iff0 l m
    rw [sameL, Bool.and_eq_true, h1, h2]
    simp
  | [], _ :: _ => by simp [sameL]
  | _ :: _, [] => by simp [sameL]
end
theorem sameB_iff {x y : Tree} : sameB x y = true ↔ x = y := same_iff0 x y
theorem node_eta (x : Tree) : Tree.node x.kind x.v x.k x.l = x := by cases x; rfl
section
variable {q v k q' v' k' : Int} {l l' : List Tree}
theorem same_head {n m : Nat} (h : ((((q != q') || (v != v')) || (k != k')) || ((n : Int) != (m : Int))) = false) : q = q' ∧ v = v' ∧ k = k' ∧ n = m := by
  simp only [Bool.or_eq_false_iff, bne_eq_false_iff_eq] at h
  exact ⟨h.1.1.1, h.1.1.2, h.1.2, by omega⟩
theorem same_false {x y : Tree} (h : x ≠ y) : sameB x y = false := by
  cases hb : sameB x y with
  | false => rfl
  | true => exact absurd (sameB_iff.1 hb) h
theorem same_ne_head (h : ((((q != q') || (v != v')) || (k != k')) || ((l.length : Int) != (l'.length : Int))) = true) : sameB (.node q v k l) (.node q' v' k' l') = false :=
  same_false fun e => by
    injection e with e1 e2 e3 e4
    subst e1 e2 e3 e4
    simp at h
theorem same_no {x y : Tree} (h : (!(sameB (.node x.kind x.v x.k x.l) (.node y.kind y.v y.k y.l))) = true) : x ≠ y := fun e => by
  rw [node_eta, node_eta, sameB_iff.2 e] at h; cases h
theorem same_yes {x y : Tree} (h : (!(sameB (.node x.kind x.v x.k x.l) (.node y.kind y.v y.k y.l))) = false) : x = y := by
  rw [node_eta, node_eta, Bool.not_eq_false'] at h; exact sameB_iff.1 h
theorem same_ne {i : Nat} (h : l.getD i tree0 ≠ l'.getD i tree0) : sameB (.node q v k l) (.node q' v' k' l') = false :=
  same_false fun e => by injection e with e1 e2 e3 e4; exact h (by rw [e4])
theorem same_eq (hz : q = q' ∧ v = v' ∧ k = k' ∧ l.length = l'.length) (h : ∀ j, j < l.length → l.getD j tree0 = l'.getD j tree0) : sameB (.node q v k l) (.node q' v' k' l') = true := by
  obtain ⟨rfl, rfl, rfl, hl⟩ := hz
  refine sameB_iff.2 ?_
  have : l = l' := by
    apply List.ext_getElem hl
    intro j h1 h2
    have := h j h1
    rwa [List.getD_eq_getElem?_getD, List.getD_eq_getElem?_getD, List.getElem?_eq_getElem h1, List.getElem?_eq_getElem h2] at this
  rw [this]
theorem sameL_false {x y : List Tree} (h : x ≠ y) : sameL x y = false := by
  cases hb : sameL x y with
  | false => rfl
  | true => exact absurd ((sameL_iff0 x y).1 hb) h
theorem sameL_len (h : l.length ≠ l'.length) : sameL l l' = false := sameL_false fun e => h (by rw [e])
theorem sameL_ne {i : Nat} (h : l.getD i tree0 ≠ l'.getD i tree0) : sameL l l' = false := sameL_false fun e => h (by rw [e])
theorem sameL_eq (hl : l.length = l'.length) (h : ∀ j, j < l.length → l.getD j tree0 = l'.getD j tree0) : sameL l l' = true := by
  refine (sameL_iff0 l l').2 ?_
  apply List.ext_getElem hl
  intro j h1 h2
  have := h j h1
  rwa [List.getD_eq_getElem?_getD, List.getD_eq_getElem?_getD, List.getElem?_eq_getElem h1, List.getElem?_eq_getElem h2] at this
end
end Go.Proofs.YtlhjliigfecihaaDoor.Fl
