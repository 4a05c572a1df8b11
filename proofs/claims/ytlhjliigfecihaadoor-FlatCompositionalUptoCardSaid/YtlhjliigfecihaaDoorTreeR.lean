/- Formulas as trees: simplification does not grow, and gives the normal form. Plain definitions and lemmas; no program in sight. -/
import Derived.Test.YtlhjliigfecihaaDoorTreeQ
set_option linter.unusedSimpArgs false
set_option linter.unusedVariables false
set_option linter.unnecessarySimpa false
namespace Go.Proofs.YtlhjliigfecihaaDoor.Fl
open Go En
variable {n v k : Int} {l m : List Tree} {x : Tree}
theorem size_app : ∀ l m : List Tree, sizeL (l ++ m) = sizeL l + sizeL m
  | [], m => by simp [sizeL]
  | x :: l, m => by rw [List.cons_append, sizeL, sizeL, size_app l m]; omega
theorem size_node (kind v k : Int) (l : List Tree) : sizeT (.node kind v k l) = 1 + sizeL l := by rw [sizeT]
theorem size_l (x : Tree) : sizeT x = 1 + sizeL x.l := by cases x with | node p q r s => rw [sizeT]; rfl
theorem size_cst (b : Int) : sizeT (cst b) = 1 := by unfold cst; rw [size_node]; rfl
theorem size_get (l : List Tree) (i : Nat) : sizeT (l.getD i tree0) ≤ 1 + sizeL l := by
  by_cases h : i < l.length
  · have h1 : l.getD i tree0 ∈ l := by rw [List.getD_eq_getElem?_getD, List.getElem?_eq_getElem h]; exact List.getElem_mem _
    have := size_mem h1; omega
  · rw [List.getD_eq_getElem?_getD, List.getElem?_eq_none (by omega)]
    show sizeT tree0 ≤ _
    unfold tree0; rw [size_node]; simp [sizeL]
theorem size_out (kind : Int) : ∀ l : List Tree, sizeL (outJ kind l) ≤ sizeL l
  | [] => Nat.le_refl _
  | x :: l => by
    have ih := size_out kind l
    unfold outJ at ih ⊢
    rw [List.flatMap_cons, size_app, sizeL]
    have hx := size_l x
    have h9 : sizeL (if x.kind = kind then x.l else if x.kind = 1 then [] else [x]) ≤ sizeT x := by
      split
      · omega
      · split
        · simp [sizeL]
        · simp [sizeL]
    omega
theorem size_join (kind whole : Int) (l : List Tree) : sizeT (joinT kind whole l) ≤ 1 + sizeL l := by
  have h := size_out kind l
  unfold joinT
  split
  · rw [size_cst]; omega
  · split
    · rw [size_cst]; omega
    · rename_i y e; rw [e] at h; simp [sizeL] at h; omega
    · rename_i y z s e; rw [e] at h; rw [size_node]; omega
theorem size_rest : ∀ l : List Tree, sizeL (restL l) ≤ sizeL l
  | [] => Nat.le_refl _
  | x :: l => by
    have ih := size_rest l
    unfold restL at ih ⊢
    rw [List.filter_cons]
    split
    · rw [sizeL, sizeL]; omega
    · rw [sizeL]; omega
theorem size_least (k : Int) (l : List Tree) : sizeT (leastT k l) ≤ 1 + sizeL l := by
  have h := size_rest l
  unfold leastT
  split
  · rw [size_cst]; omega
  · split
    · rw [size_cst]; omega
    · split
      · exact Nat.le_trans (size_join 4 1 _) (by omega)
      · split
        · exact Nat.le_trans (size_join 5 0 _) (by omega)
        · rw [size_node]; omega
theorem size_map : ∀ l : List Tree, (∀ x ∈ l, sizeT (simpT x) ≤ sizeT x) → sizeL (l.map simpT) ≤ sizeL l
  | [], _ => Nat.le_refl _
  | x :: l, h => by
    rw [List.map_cons, sizeL, sizeL]
    have := h x (by simp)
    have := size_map l fun y hy => h y (by simp [hy])
    omega
theorem size_simp : ∀ t, sizeT (simpT t) ≤ sizeT t := tree_ind fun kind v k l ih => by
  have hm := size_map l ih
  rw [simp_eq, size_node]
  unfold simpN
  have hg := size_get (l.map simpT) 0
  split
  · split
    · rw [size_cst]; omega
    · split
      · have h2 := size_get ((l.map simpT).getD 0 tree0).l 0
        have h3 := size_l ((l.map simpT).getD 0 tree0)
        omega
      · rw [size_node]; omega
  · split
    · exact Nat.le_trans (size_join _ _ _) (by omega)
    · split
      · exact Nat.le_trans (size_join _ _ _) (by omega)
      · split
        · exact Nat.le_trans (size_least _ _) (by omega)
        · rw [size_node]; omega
/-! ### the normal form -/
def nfH (kind k : Int) (l : List Tree) : Bool :=
  if kind = 2 then true else if kind = 3 then l.length == 1 && (l.getD 0 tree0).kind != 3 else
  if kind = 6 then decide (1 < k) && decide (k < l.length) else if kind = 4 ∨ kind = 5 then decide (2 ≤ l.length) && l.all (fun x => x.kind != kind) else false
mutual
def nfT : Tree → Bool
  | .node kind v k l => nfH kind k l && (kind == 2 || nfsL l)
def nfsL : List Tree → Bool
  | [] => true
  | t :: l => nfT t && nfsL l
end
theorem nfs_all : ∀ l : List Tree, nfsL l = l.all nfT
  | [] => rfl
  | t :: l => by rw [nfsL, nfs_all l]; rfl
theorem nf_iff (kind : Int) : nfT (.node kind v k l) = true ↔ nfH kind k l = true ∧ (kind = 2 ∨ ∀ x ∈ l, nfT x = true) := by
  rw [nfT, nfs_all, Bool.and_eq_true, Bool.or_eq_true, beq_iff_eq, List.all_eq_true]
def NF (x : Tree) : Prop := (x.kind = 1 ∧ x.l = []) ∨ nfT x = true
theorem nf_ne1 (h : nfT x = true) : x.kind ≠ 1 := fun e => by
  cases x with
  | node p q r s =>
    cases e
    have := ((nf_iff 1).1 h).1
    simp [nfH] at this
theorem nf_cst (b : Int) : NF (cst b) := .inl ⟨rfl, rfl⟩
theorem nf_out {kind : Int} (hk : kind = 4 ∨ kind = 5) (h : ∀ x ∈ l, NF x) : ∀ y ∈ outJ kind l, nfT y = true ∧ y.kind ≠ kind := fun y hy => by
  obtain ⟨x, hx, h2⟩ := List.mem_flatMap.1 hy
  have hn := h x hx
  split at h2
  · rename_i e
    rcases hn with ⟨h1, _⟩ | hn
    · omega
    · cases x with
      | node p q r s =>
        have e : p = kind := e
        subst e
        obtain ⟨h3, h4⟩ := (nf_iff p).1 hn
        refine ⟨(h4.resolve_left (by omega)) y h2, ?_⟩
        unfold nfH at h3
        rw [if_neg (by omega), if_neg (by omega), if_neg (by omega), if_pos hk, Bool.and_eq_true, List.all_eq_true] at h3
        simpa using h3.2 y h2
  · rename_i e
    split at h2
    · cases h2
    · rename_i e1
      rw [List.mem_singleton] at h2
      subst h2
      exact ⟨hn.resolve_left fun h9 => e1 h9.1, e⟩
theorem nf_join {kind whole : Int} (hk : kind = 4 ∨ kind = 5) (h : ∀ x ∈ l, NF x) : NF (joinT kind whole l) := by
  have ho := nf_out hk h
  unfold joinT
  split
  · exact nf_cst _
  · split
    · exact nf_cst _
    · rename_i y e; exact .inr (ho y (by rw [e]; simp)).1
    · rename_i y z s e
      refine .inr ((nf_iff kind).2 ⟨?_, .inr fun x hx => (ho x (by rw [e]; exact hx)).1⟩)
      unfold nfH
      rw [if_neg (by omega), if_neg (by omega), if_neg (by omega), if_pos hk, Bool.and_eq_true, List.all_eq_true]
      exact ⟨by simp, fun x hx => by rw [bne_iff_ne]; exact (ho x (by rw [e]; exact hx)).2⟩
theorem nf_least (h : ∀ x ∈ l, NF x) : NF (leastT k l) := by
  have hr : ∀ x ∈ restL l, nfT x = true := fun x hx => by
    have h1 := List.mem_filter.1 hx
    exact (h x h1.1).resolve_left fun h9 => by have := h1.2; rw [h9.1] at this; simp at this
  unfold leastT
  split
  · exact nf_cst _
  · split
    · exact nf_cst _
    · split
      · exact nf_join (.inl rfl) fun x hx => .inr (hr x hx)
      · split
        · exact nf_join (.inr rfl) fun x hx => .inr (hr x hx)
        · refine .inr ((nf_iff 6).2 ⟨?_, .inr hr⟩)
          unfold nfH
          rw [if_neg (by decide), if_neg (by decide), if_pos rfl, decide_eq_true (by omega), decide_eq_true (by omega)]
          rfl
theorem nf_simp : ∀ t, mayT n t = true → NF (simpT t) := tree_ind fun kind v k l ih h => by
  have h0 := (may_iff kind).1 h
  have hl : ∀ x ∈ l.map simpT, NF x := fun x hx => by
    obtain ⟨y, hy, rfl⟩ := List.mem_map.1 hx
    exact ih y hy (h0.2 y hy)
  rw [simp_eq]
  unfold simpN
  split
  · rename_i e
    subst e
    have h1 := h0.1
    unfold mayH at h1
    simp at h1
    obtain ⟨y, rfl⟩ := List.length_eq_one_iff.1 h1.2
    have hy := hl (simpT y) (by simp)
    simp only [List.map_cons, List.map_nil, List.getD_cons_zero]
    split
    · exact nf_cst _
    · rename_i e1
      have hn := hy.resolve_left fun h9 => e1 h9.1
      split
      · rename_i e3
        cases hs : simpT y with
        | node p q r s =>
          rw [hs] at hn e3
          have e3 : p = 3 := e3
          subst e3
          obtain ⟨h3, h4⟩ := (nf_iff 3).1 hn
          unfold nfH at h3
          rw [if_neg (by decide), if_pos rfl, Bool.and_eq_true, beq_iff_eq] at h3
          obtain ⟨z, rfl⟩ := List.length_eq_one_iff.1 h3.1
          exact .inr ((h4.resolve_left (by decide)) z (by simp))
      · rename_i e3
        refine .inr ((nf_iff 3).2 ⟨?_, .inr fun x hx => by rw [List.mem_singleton] at hx; rw [hx]; exact hn⟩)
        unfold nfH
        rw [if_neg (by decide), if_pos rfl]
        simp [e3]
  · split
    · exact nf_join (.inl rfl) hl
    · split
      · exact nf_join (.inr rfl) hl
      · split
        · exact nf_least hl
        · rename_i e3 e4 e5 e6
          have h1 := h0.1
          unfold mayH at h1
          by_cases e1 : kind = 1
          · subst e1
            simp at h1
            exact .inl ⟨rfl, h1.2⟩
          · by_cases e2 : kind = 2
            · subst e2
              exact .inr ((nf_iff 2).2 ⟨by simp [nfH], .inl rfl⟩)
            · rw [if_neg e1, if_neg e2, if_neg e3, if_neg (by omega), if_neg e6] at h1
              cases h1
end Go.Proofs.YtlhjliigfecihaaDoor.Fl
