/- Formulas as trees: variables, substitution, duality. Plain definitions and lemmas; no program in sight. -/
import Derived.Test.YtlhjliigfecihaaDoorTreeR
set_option linter.unusedSimpArgs false
set_option linter.unusedVariables false
set_option linter.unnecessarySimpa false
namespace Go.Proofs.YtlhjliigfecihaaDoor.Fl
open Go En
variable {a : List Bool} {n v k : Int} {l m : List Tree} {x : Tree}
/-! ### variables, in preorder -/
mutual
def varsT : Tree → List Int
  | .node kind v _ l => (if kind = 2 then [v] else []) ++ varsL l
def varsL : List Tree → List Int
  | [] => []
  | t :: l => varsT t ++ varsL l
end
theorem vars_fl : ∀ l : List Tree, varsL l = l.flatMap varsT
  | [] => rfl
  | t :: l => by rw [varsL, vars_fl l]; rfl
theorem vars_mem (kind : Int) {u : Int} : u ∈ varsT (.node kind v k l) ↔ (kind = 2 ∧ u = v) ∨ ∃ x ∈ l, u ∈ varsT x := by
  rw [varsT, vars_fl, List.mem_append, List.mem_flatMap]
  refine or_congr ?_ Iff.rfl
  by_cases h : kind = 2 <;> simp [h]
theorem vars_sub {u : Int} {y : Tree} (hy : y ∈ x.l) (h : u ∈ varsT y) : u ∈ varsT x := by
  cases x with | node p q r s => exact (vars_mem p).2 (.inr ⟨y, hy, h⟩)
theorem vars_cst (b : Int) : varsT (cst b) = [] := by unfold cst; rw [varsT]; rfl
theorem vars_out {kind u : Int} {y : Tree} (hy : y ∈ outJ kind l) (h : u ∈ varsT y) : ∃ x ∈ l, u ∈ varsT x := by
  obtain ⟨x, hx, h2⟩ := List.mem_flatMap.1 hy
  refine ⟨x, hx, ?_⟩
  split at h2
  · exact vars_sub h2 h
  · split at h2
    · cases h2
    · rw [List.mem_singleton] at h2; rw [← h2]; exact h
theorem vars_join {kind whole u : Int} (hk : kind ≠ 2) (h : u ∈ varsT (joinT kind whole l)) : ∃ x ∈ l, u ∈ varsT x := by
  unfold joinT at h
  split at h
  · rw [vars_cst] at h; cases h
  · split at h
    · rw [vars_cst] at h; cases h
    · rename_i y e; exact vars_out (kind := kind) (y := y) (by rw [e]; simp) h
    · rename_i y z s e
      rcases (vars_mem kind).1 h with ⟨h1, _⟩ | ⟨x, hx, h1⟩
      · exact absurd h1 hk
      · exact vars_out (kind := kind) (by rw [e]; exact hx) h1
theorem vars_least {u : Int} (h : u ∈ varsT (leastT k l)) : ∃ x ∈ l, u ∈ varsT x := by
  have hr : ∀ {u : Int}, (∃ x ∈ restL l, u ∈ varsT x) → ∃ x ∈ l, u ∈ varsT x := fun ⟨x, hx, h⟩ => ⟨x, (List.mem_filter.1 hx).1, h⟩
  unfold leastT at h
  split at h
  · rw [vars_cst] at h; cases h
  · split at h
    · rw [vars_cst] at h; cases h
    · split at h
      · exact hr (vars_join (by decide) h)
      · split at h
        · exact hr (vars_join (by decide) h)
        · rcases (vars_mem 6).1 h with ⟨h1, _⟩ | h1
          · exact absurd h1 (by decide)
          · exact hr h1
theorem vars_simp {u : Int} : ∀ t, mayT n t = true → u ∈ varsT (simpT t) → u ∈ varsT t := tree_ind fun kind v k l ih h hu => by
  have h0 := (may_iff kind).1 h
  have hl : (∃ x ∈ l.map simpT, u ∈ varsT x) → u ∈ varsT (.node kind v k l) := fun ⟨x, hx, h9⟩ => by
    obtain ⟨y, hy, rfl⟩ := List.mem_map.1 hx
    exact (vars_mem kind).2 (.inr ⟨y, hy, ih y hy (h0.2 y hy) h9⟩)
  rw [simp_eq] at hu
  unfold simpN at hu
  split at hu
  · rename_i e
    subst e
    have h1 := h0.1
    unfold mayH at h1
    simp at h1
    obtain ⟨y, rfl⟩ := List.length_eq_one_iff.1 h1.2
    have hm := may_simp y (h0.2 y (by simp))
    simp only [List.map_cons, List.map_nil, List.getD_cons_zero] at hu hl
    split at hu
    · rw [vars_cst] at hu; cases hu
    · split at hu
      · rename_i e3
        cases hs : simpT y with
        | node p q r s =>
          rw [hs] at hm e3 hu
          have e3 : p = 3 := e3
          subst e3
          have h2 := ((may_iff 3).1 hm).1
          unfold mayH at h2
          simp at h2
          obtain ⟨z, rfl⟩ := List.length_eq_one_iff.1 h2.2
          exact hl ⟨simpT y, by simp, by rw [hs]; exact (vars_mem 3).2 (.inr ⟨z, by simp, hu⟩)⟩
      · rcases (vars_mem 3).1 hu with ⟨h9, _⟩ | h9
        · exact absurd h9 (by decide)
        · exact hl h9
  · split at hu
    · exact hl (vars_join (by decide) hu)
    · split at hu
      · exact hl (vars_join (by decide) hu)
      · split at hu
        · exact hl (vars_least hu)
        · exact hu
/-! ### a constant for a variable -/
mutual
def putT (n c : Int) : Tree → Tree
  | .node kind v k l => if kind = 2 ∧ v = n then cst c else .node kind v k (putsL n c l)
def putsL (n c : Int) : List Tree → List Tree
  | [] => []
  | t :: l => putT n c t :: putsL n c l
end
theorem puts_map (n c : Int) : ∀ l : List Tree, putsL n c l = l.map (putT n c)
  | [] => rfl
  | t :: l => by rw [putsL, puts_map n c l]; rfl
theorem put_eq (n c kind v k : Int) (l : List Tree) : putT n c (.node kind v k l) = if kind = 2 ∧ v = n then cst c else .node kind v k (l.map (putT n c)) := by rw [putT, puts_map]
theorem may_put {N c : Int} (hc : c = 0 ∨ c = 1) : ∀ t, mayT N t = true → mayT N (putT n c t) = true := tree_ind fun kind v k l ih h => by
  have h0 := (may_iff kind).1 h
  rw [put_eq]
  split
  · exact may_cst hc
  · rw [may_iff, List.length_map]
    exact ⟨h0.1, fun x hx => by obtain ⟨y, hy, rfl⟩ := List.mem_map.1 hx; exact ih y hy (h0.2 y hy)⟩
theorem size_put {c : Int} : ∀ t, sizeT (putT n c t) ≤ sizeT t := tree_ind fun kind v k l ih => by
  rw [put_eq, size_node]
  split
  · rw [size_cst]; omega
  · rw [size_node]
    have : ∀ l : List Tree, (∀ x ∈ l, sizeT (putT n c x) ≤ sizeT x) → sizeL (l.map (putT n c)) ≤ sizeL l := fun l => by
      induction l with
      | nil => intro _; exact Nat.le_refl _
      | cons x l ih2 =>
        intro h
        rw [List.map_cons, sizeL, sizeL]
        have := h x (by simp)
        have := ih2 fun y hy => h y (by simp [hy])
        omega
    have := this l ih
    omega
theorem vars_put {c u : Int} : ∀ t, u ∈ varsT (putT n c t) → u ≠ n := tree_ind fun kind v k l ih h => by
  rw [put_eq] at h
  split at h
  · rw [vars_cst] at h; cases h
  · rename_i h9
    rcases (vars_mem kind).1 h with ⟨h1, h2⟩ | ⟨x, hx, h1⟩
    · exact fun e => h9 ⟨h1, by omega⟩
    · obtain ⟨y, hy, rfl⟩ := List.mem_map.1 hx
      exact ih y hy h1
theorem val_put {is : Bool} (h1 : 1 ≤ n) (h2 : n < a.length) : ∀ t, valT a (putT n (if is = true then 1 else 0) t) = valT (a.set n.toNat is) t := tree_ind fun kind v k l ih => by
  have hv : (l.map (putT n (if is = true then 1 else 0))).map (valT a) = l.map (valT (a.set n.toNat is)) := by
    rw [List.map_map]
    exact List.map_congr_left fun x hx => ih x hx
  rw [put_eq]
  split
  · rename_i h
    obtain ⟨e1, e2⟩ := h
    subst e1
    rw [val_cst, val_node, e2]
    unfold valB
    rw [if_neg (show ¬ ((2 : Int) = 1) by decide), if_pos rfl, List.length_set, decide_eq_true h1, decide_eq_true h2, List.getD_eq_getElem?_getD, List.getElem?_set_self (by omega)]
    cases is <;> rfl
  · rename_i h
    rw [val_node, val_node, hv]
    unfold valB
    by_cases e : kind = 2
    · rw [if_neg (by omega), if_pos e, if_neg (by omega), if_pos e, List.length_set]
      by_cases hvv : 1 ≤ v
      · have hne : n.toNat ≠ v.toNat := by
          intro e9; exact h ⟨e, by omega⟩
        rw [List.getD_eq_getElem?_getD, List.getD_eq_getElem?_getD, List.getElem?_set_ne hne]
      · rw [decide_eq_false hvv]; rfl
    · rw [if_neg e, if_neg e]
/-! ### duality -/
def notN (x : Tree) : Tree := .node 3 0 0 [x]
theorem val_notN : valT a (notN x) = !(valT a x) := val_not
theorem dual_and : valT a (.node 4 0 0 (l.map notN)) = !(valT a (.node 5 0 0 l)) := by
  rw [val_and, val_or, List.all_map]
  rw [Bool.eq_iff_iff, List.all_eq_true, Bool.not_eq_true', List.any_eq_false]
  simp [val_notN]
theorem dual_or : valT a (.node 5 0 0 (l.map notN)) = !(valT a (.node 4 0 0 l)) := by
  rw [val_and, val_or, List.any_map]
  rw [Bool.eq_iff_iff, List.any_eq_true, Bool.not_eq_true', List.all_eq_false]
  simp [val_notN]
theorem cnt_nots : ∀ l : List Tree, (l.map notN).countP (valT a) + l.countP (valT a) = l.length
  | [] => rfl
  | x :: l => by
    have ih := cnt_nots l
    rw [List.map_cons, List.countP_cons, List.countP_cons, val_notN, List.length_cons]
    have e : (if (!valT a x) = true then 1 else 0) + (if valT a x = true then 1 else 0) = 1 := by cases valT a x <;> rfl
    omega
theorem dual_least : valT a (.node 6 0 ((l.length : Int) - k + 1) (l.map notN)) = !(valT a (.node 6 0 k l)) := by
  have h := cnt_nots (a := a) l
  rw [val_least, val_least, ← decide_not, decide_eq_decide]
  omega
end Go.Proofs.YtlhjliigfecihaaDoor.Fl
