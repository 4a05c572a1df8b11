/- Formulas as trees: form, simplification; what simplification keeps. Plain definitions and lemmas; no program in sight. -/
import Derived.Test.YtlhjliigfecihaaDoorTreeP
set_option linter.unusedSimpArgs false
set_option linter.unusedVariables false
set_option linter.unnecessarySimpa false
namespace Go.Proofs.YtlhjliigfecihaaDoor.Fl
open Go En
def mayH (n kind v k : Int) (len : Nat) : Bool :=
  if kind = 1 then (v == 0 || v == 1) && k == 0 && len == 0 else if kind = 2 then decide (1 ≤ v) && decide (v ≤ n) && k == 0 && len == 0 else
  if kind = 3 then v == 0 && k == 0 && len == 1 else if kind = 4 ∨ kind = 5 then v == 0 && k == 0 else if kind = 6 then v == 0 && decide (0 ≤ k) && decide (k ≤ 1099511627776) else false
mutual
def mayT (n : Int) : Tree → Bool
  | .node kind v k l => mayH n kind v k l.length && maysL n l
def maysL (n : Int) : List Tree → Bool
  | [] => true
  | t :: l => mayT n t && maysL n l
end
theorem mays_all (n : Int) : ∀ l : List Tree, maysL n l = l.all (mayT n)
  | [] => rfl
  | t :: l => by rw [maysL, mays_all n l]; rfl
theorem may_eq (n kind v k : Int) (l : List Tree) : mayT n (.node kind v k l) = (mayH n kind v k l.length && l.all (mayT n)) := by rw [mayT, mays_all]
theorem tree_ind {P : Tree → Prop} (h : ∀ kind v k l, (∀ x ∈ l, P x) → P (.node kind v k l)) : ∀ t, P t := by
  have key : ∀ m t, sizeT t ≤ m → P t := fun m => by
    induction m with
    | zero => intro t ht; have := size_pos t; omega
    | succ m ih =>
      intro t ht
      cases t with
      | node kind v k l =>
        refine h kind v k l fun x hx => ih x ?_
        have := size_mem hx
        simp only [sizeT] at ht
        omega
  exact fun t => key _ t (Nat.le_refl _)
def cst (b : Int) : Tree := .node 1 b 0 []
def outJ (kind : Int) (l : List Tree) : List Tree := l.flatMap fun x => if x.kind = kind then x.l else if x.kind = 1 then [] else [x]
def joinT (kind whole : Int) (l : List Tree) : Tree :=
  if (l.any fun x => x.kind == 1 && x.v != whole) = true then cst (1 - whole) else
  match outJ kind l with
  | [] => cst whole
  | [x] => x
  | x :: y :: m => .node kind 0 0 (x :: y :: m)
def restL (l : List Tree) : List Tree := l.filter fun x => x.kind != 1
def onesL (l : List Tree) : Nat := l.countP fun x => x.kind == 1 && x.v == 1
def leastT (k : Int) (l : List Tree) : Tree :=
  if k - (onesL l : Int) ≤ 0 then cst 1 else if k - (onesL l : Int) > (restL l).length then cst 0 else
  if k - (onesL l : Int) = (restL l).length then joinT 4 1 (restL l) else if k - (onesL l : Int) = 1 then joinT 5 0 (restL l) else .node 6 0 (k - (onesL l : Int)) (restL l)
def simpN (kind v k : Int) (l m : List Tree) : Tree :=
  if kind = 3 then (if (m.getD 0 tree0).kind = 1 then cst (1 - (m.getD 0 tree0).v) else if (m.getD 0 tree0).kind = 3 then (m.getD 0 tree0).l.getD 0 tree0 else .node 3 0 0 m) else
  if kind = 4 then joinT 4 1 m else if kind = 5 then joinT 5 0 m else if kind = 6 then leastT k m else .node kind v k l
mutual
def simpT : Tree → Tree
  | .node kind v k l => simpN kind v k l (simpsL l)
def simpsL : List Tree → List Tree
  | [] => []
  | t :: l => simpT t :: simpsL l
end
theorem simps_map : ∀ l : List Tree, simpsL l = l.map simpT
  | [] => rfl
  | t :: l => by rw [simpsL, simps_map l]; rfl
theorem simp_eq (kind v k : Int) (l : List Tree) : simpT (.node kind v k l) = simpN kind v k l (l.map simpT) := by rw [simpT, simps_map]
/-! ### values by kind -/
variable {a : List Bool} {n v k : Int} {l m : List Tree} {x : Tree}
theorem val_cst (b : Int) : valT a (cst b) = (b == 1) := by unfold cst; rw [val_eq]; simp [valB, Tree.kind, Tree.v]
theorem val_k1 (h : x.kind = 1) : valT a x = (x.v == 1) := by rw [val_eq]; unfold valB; rw [if_pos h]
theorem val_node (kind : Int) : valT a (.node kind v k l) = valB a kind v k (l.map (valT a)) := by rw [val_eq]; rfl
theorem val_and : valT a (.node 4 v k l) = l.all (valT a) := by
  rw [val_node]
  unfold valB
  rw [if_neg (by decide), if_neg (by decide), if_neg (by decide), if_pos rfl, Bool.eq_iff_iff, beq_iff_eq, Int.natCast_inj, List.countP_eq_length, List.all_eq_true]
  simp
theorem val_or : valT a (.node 5 v k l) = l.any (valT a) := by
  rw [val_node]
  unfold valB
  rw [if_neg (by decide), if_neg (by decide), if_neg (by decide), if_neg (by decide), if_pos rfl, Bool.eq_iff_iff, decide_eq_true_iff, List.any_eq_true]
  rw [show ((((l.map (valT a)).countP id : Nat) : Int) > 0) ↔ 0 < (l.map (valT a)).countP id by omega, List.countP_pos_iff]
  simp
theorem val_least : valT a (.node 6 v k l) = decide (((l.countP (valT a) : Nat) : Int) ≥ k) := by
  rw [val_node]
  unfold valB
  rw [if_neg (by decide), if_neg (by decide), if_neg (by decide), if_neg (by decide), if_neg (by decide), if_pos rfl, List.countP_map]
  rfl
theorem val_not : valT a (.node 3 v k [x]) = !(valT a x) := by
  rw [val_node]
  unfold valB
  rw [if_neg (by decide), if_neg (by decide), if_pos rfl]
  cases h : valT a x <;> simp [h]
theorem val_k4 (h : x.kind = 4) : valT a x = x.l.all (valT a) := by cases x with | node p q r s => cases h; exact val_and
theorem val_k5 (h : x.kind = 5) : valT a x = x.l.any (valT a) := by cases x with | node p q r s => cases h; exact val_or
/-! ### joining -/
theorem all_out (h : (l.any fun x => x.kind == 1 && x.v != 1) = false) : (outJ 4 l).all (valT a) = l.all (valT a) := by
  unfold outJ
  rw [Bool.eq_iff_iff, List.all_eq_true, List.all_eq_true]
  have hc : ∀ x ∈ l, x.kind = 1 → x.v = 1 := fun x hx h1 => by
    have := List.any_eq_false.1 h x hx
    simp [h1] at this; exact this
  constructor
  · intro H x hx
    by_cases h4 : x.kind = 4
    · rw [val_k4 h4, List.all_eq_true]
      exact fun y hy => H y (List.mem_flatMap.2 ⟨x, hx, by rw [if_pos h4]; exact hy⟩)
    · by_cases h1 : x.kind = 1
      · rw [val_k1 h1, hc x hx h1]; rfl
      · exact H x (List.mem_flatMap.2 ⟨x, hx, by rw [if_neg h4, if_neg h1]; exact List.mem_singleton.2 rfl⟩)
  · intro H y hy
    obtain ⟨x, hx, h2⟩ := List.mem_flatMap.1 hy
    have hv := H x hx
    split at h2
    · rename_i h4
      rw [val_k4 h4, List.all_eq_true] at hv
      exact hv y h2
    · split at h2
      · cases h2
      · rw [List.mem_singleton] at h2; rw [h2]; exact hv
theorem any_out (h : (l.any fun x => x.kind == 1 && x.v != 0) = false) : (outJ 5 l).any (valT a) = l.any (valT a) := by
  unfold outJ
  rw [Bool.eq_iff_iff, List.any_eq_true, List.any_eq_true]
  have hc : ∀ x ∈ l, x.kind = 1 → x.v = 0 := fun x hx h1 => by
    have := List.any_eq_false.1 h x hx
    simp [h1] at this; exact this
  constructor
  · rintro ⟨y, hy, hv⟩
    obtain ⟨x, hx, h2⟩ := List.mem_flatMap.1 hy
    refine ⟨x, hx, ?_⟩
    split at h2
    · rename_i h4
      rw [val_k5 h4]
      exact List.any_eq_true.2 ⟨y, h2, hv⟩
    · split at h2
      · cases h2
      · rw [List.mem_singleton] at h2; rw [← h2]; exact hv
  · rintro ⟨x, hx, hv⟩
    by_cases h4 : x.kind = 5
    · rw [val_k5 h4] at hv
      obtain ⟨y, hy, hw⟩ := List.any_eq_true.1 hv
      exact ⟨y, List.mem_flatMap.2 ⟨x, hx, by rw [if_pos h4]; exact hy⟩, hw⟩
    · by_cases h1 : x.kind = 1
      · rw [val_k1 h1, hc x hx h1] at hv; cases hv
      · exact ⟨x, List.mem_flatMap.2 ⟨x, hx, by rw [if_neg h4, if_neg h1]; exact List.mem_singleton.2 rfl⟩, hv⟩
theorem join_and : valT a (joinT 4 1 l) = l.all (valT a) := by
  unfold joinT
  cases h : (l.any fun x => x.kind == 1 && x.v != 1) with
  | true =>
    rw [if_pos rfl, val_cst]
    obtain ⟨x, hx, h2⟩ := List.any_eq_true.1 h
    simp at h2
    symm
    show l.all (valT a) = false
    refine List.all_eq_false.2 ⟨x, hx, ?_⟩
    rw [val_k1 h2.1]
    simpa using h2.2
  | false =>
    rw [if_neg (by simp), ← all_out h]
    split
    · rename_i e; rw [e, val_cst]; rfl
    · rename_i y e; rw [e]; simp
    · rename_i y z s e; rw [e, val_and]
theorem join_or (hm : ∀ x ∈ l, x.kind = 1 → x.v = 0 ∨ x.v = 1) : valT a (joinT 5 0 l) = l.any (valT a) := by
  unfold joinT
  cases h : (l.any fun x => x.kind == 1 && x.v != 0) with
  | true =>
    rw [if_pos rfl, val_cst]
    obtain ⟨x, hx, h2⟩ := List.any_eq_true.1 h
    simp at h2
    symm
    show l.any (valT a) = true
    refine List.any_eq_true.2 ⟨x, hx, ?_⟩
    rw [val_k1 h2.1]
    rcases hm x hx h2.1 with e | e
    · exact absurd e h2.2
    · rw [e]; rfl
  | false =>
    rw [if_neg (by simp), ← any_out h]
    split
    · rename_i e; rw [e, val_cst]; rfl
    · rename_i y e; rw [e]; simp
    · rename_i y z s e; rw [e, val_or]
theorem cnt_split (hm : ∀ x ∈ l, x.kind = 1 → x.v = 0 ∨ x.v = 1) : l.countP (valT a) = (restL l).countP (valT a) + onesL l := by
  unfold restL onesL
  induction l with
  | nil => rfl
  | cons x l ih =>
    have ih := ih fun y hy => hm y (List.mem_cons_of_mem _ hy)
    rw [List.countP_cons, List.filter_cons, List.countP_cons, ih]
    by_cases h1 : x.kind = 1
    · rw [val_k1 h1, h1]
      simp
      omega
    · have e : (x.kind != 1) = true := by rw [bne_iff_ne]; exact h1
      have e2 : (x.kind == 1) = false := by rw [beq_eq_false_iff_ne]; exact h1
      rw [e, if_pos rfl, List.countP_cons, e2]
      simp
      omega
theorem rest_v (hm : ∀ x ∈ l, x.kind = 1 → x.v = 0 ∨ x.v = 1) : ∀ x ∈ restL l, x.kind = 1 → x.v = 0 ∨ x.v = 1 := fun x hx => hm x ((List.mem_filter.1 hx).1)
theorem least_val (hm : ∀ x ∈ l, x.kind = 1 → x.v = 0 ∨ x.v = 1) : valT a (leastT k l) = decide (((l.countP (valT a) : Nat) : Int) ≥ k) := by
  have hc := cnt_split (a := a) hm
  have hl : (restL l).countP (valT a) ≤ (restL l).length := List.countP_le_length
  unfold leastT
  split
  · rw [val_cst]
    symm
    show decide _ = true
    rw [decide_eq_true_iff]; omega
  · split
    · rw [val_cst]
      symm
      show decide _ = false
      rw [decide_eq_false_iff_not]; omega
    · split
      · rw [join_and, Bool.eq_iff_iff, decide_eq_true_iff, List.all_eq_true, ← List.countP_eq_length]
        omega
      · split
        · rw [join_or (rest_v hm), Bool.eq_iff_iff, decide_eq_true_iff, List.any_eq_true, ← List.countP_pos_iff]
          omega
        · rw [val_least, Bool.eq_iff_iff, decide_eq_true_iff, decide_eq_true_iff]
          omega
/-! ### form -/
theorem may_iff (kind : Int) : mayT n (.node kind v k l) = true ↔ mayH n kind v k l.length = true ∧ ∀ x ∈ l, mayT n x = true := by
  rw [may_eq, Bool.and_eq_true, List.all_eq_true]
theorem may_k1 (h : mayT n x = true) (h1 : x.kind = 1) : x.v = 0 ∨ x.v = 1 := by
  cases x with
  | node p q r s =>
    cases h1
    rw [may_iff] at h
    have := h.1
    unfold mayH at this
    simp at this
    exact this.1.1
theorem may_sub (h : mayT n x = true) {y : Tree} (hy : y ∈ x.l) : mayT n y = true := by
  cases x with
  | node p q r s => exact ((may_iff p).1 h).2 y hy
theorem may_cst {b : Int} (h : b = 0 ∨ b = 1) : mayT n (cst b) = true := by
  unfold cst
  rw [may_iff]
  exact ⟨by rcases h with rfl | rfl <;> simp [mayH], fun x hx => by cases hx⟩
theorem may_out {kind : Int} (h : ∀ x ∈ l, mayT n x = true) : ∀ x ∈ outJ kind l, mayT n x = true := fun y hy => by
  obtain ⟨x, hx, h2⟩ := List.mem_flatMap.1 hy
  split at h2
  · exact may_sub (h x hx) h2
  · split at h2
    · cases h2
    · rw [List.mem_singleton] at h2; rw [h2]; exact h x hx
theorem may_join {kind whole : Int} (hk : kind = 4 ∨ kind = 5) (hw : whole = 0 ∨ whole = 1) (h : ∀ x ∈ l, mayT n x = true) : mayT n (joinT kind whole l) = true := by
  have ho := may_out (kind := kind) h
  unfold joinT
  split
  · exact may_cst (by omega)
  · split
    · exact may_cst hw
    · rename_i y e; exact ho y (by rw [e]; simp)
    · rename_i y z s e
      rw [may_iff]
      refine ⟨?_, fun x hx => ho x (by rw [e]; exact hx)⟩
      rcases hk with rfl | rfl <;> simp [mayH]
theorem may_least (hk : k ≤ 1099511627776) (h : ∀ x ∈ l, mayT n x = true) : mayT n (leastT k l) = true := by
  have hr : ∀ x ∈ restL l, mayT n x = true := fun x hx => h x ((List.mem_filter.1 hx).1)
  unfold leastT
  split
  · exact may_cst (.inr rfl)
  · split
    · exact may_cst (.inl rfl)
    · split
      · exact may_join (.inl rfl) (.inr rfl) hr
      · split
        · exact may_join (.inr rfl) (.inl rfl) hr
        · rw [may_iff]
          refine ⟨?_, hr⟩
          unfold mayH
          rw [if_neg (by decide), if_neg (by decide), if_neg (by decide), if_neg (by decide), if_pos rfl, decide_eq_true (by omega), decide_eq_true (by omega)]
          rfl
theorem may_simp : ∀ t, mayT n t = true → mayT n (simpT t) = true := tree_ind fun kind v k l ih h => by
  have h0 := (may_iff kind).1 h
  have hl : ∀ x ∈ l.map simpT, mayT n x = true := fun x hx => by
    obtain ⟨y, hy, rfl⟩ := List.mem_map.1 hx
    exact ih y hy (h0.2 y hy)
  rw [simp_eq]
  unfold simpN
  split
  · rename_i e
    subst e
    have h1 := h0.1
    unfold mayH at h1
    simp at h1
    obtain ⟨y, rfl⟩ := List.length_eq_one_iff.1 h1.2
    have hy := hl (simpT y) (by simp)
    simp only [List.map_cons, List.map_nil, List.getD_cons_zero]
    split
    · rename_i e1
      exact may_cst (by have := may_k1 hy e1; omega)
    · split
      · rename_i e3
        cases hs : simpT y with
        | node p q r s =>
          rw [hs] at hy e3
          cases e3
          have h2 := (may_iff 3).1 hy
          have h3 := h2.1
          unfold mayH at h3
          simp at h3
          obtain ⟨z, rfl⟩ := List.length_eq_one_iff.1 h3.2
          exact h2.2 z (by simp)
      · rw [may_iff]
        exact ⟨by simp [mayH], hl⟩
  · split
    · exact may_join (.inl rfl) (.inr rfl) hl
    · split
      · exact may_join (.inr rfl) (.inl rfl) hl
      · split
        · rename_i e
          subst e
          have h1 := h0.1
          unfold mayH at h1
          simp at h1
          exact may_least h1.2 hl
        · exact h
theorem all_id (l : List Tree) : l.all (valT a) = (l.map (valT a)).all id := (List.all_map (l := l) (f := valT a) (p := id)).symm
theorem any_id (l : List Tree) : l.any (valT a) = (l.map (valT a)).any id := (List.any_map (l := l) (f := valT a) (p := id)).symm
theorem cnt_id (l : List Tree) : l.countP (valT a) = (l.map (valT a)).countP id := (List.countP_map (p := id) (f := valT a) (l := l)).symm
/-- simplifying keeps the truth -/
theorem val_simp : ∀ t, mayT n t = true → valT a (simpT t) = valT a t := tree_ind fun kind v k l ih h => by
  have h0 := (may_iff kind).1 h
  have hl : ∀ x ∈ l.map simpT, mayT n x = true := fun x hx => by
    obtain ⟨y, hy, rfl⟩ := List.mem_map.1 hx
    exact may_simp y (h0.2 y hy)
  have hv : (l.map simpT).map (valT a) = l.map (valT a) := by
    rw [List.map_map]
    exact List.map_congr_left fun x hx => ih x hx (h0.2 x hx)
  have hc : ∀ x ∈ l.map simpT, x.kind = 1 → x.v = 0 ∨ x.v = 1 := fun x hx h1 => may_k1 (hl x hx) h1
  rw [simp_eq]
  unfold simpN
  split
  · rename_i e
    subst e
    have h1 := h0.1
    unfold mayH at h1
    simp at h1
    obtain ⟨y, rfl⟩ := List.length_eq_one_iff.1 h1.2
    have hy := hl (simpT y) (by simp)
    have hyv : valT a (simpT y) = valT a y := ih y (by simp) (h0.2 y (by simp))
    simp only [List.map_cons, List.map_nil, List.getD_cons_zero]
    rw [val_not, ← hyv]
    split
    · rename_i e1
      rw [val_cst, val_k1 e1]
      rcases may_k1 hy e1 with e | e <;> rw [e] <;> rfl
    · split
      · rename_i e3
        cases hs : simpT y with
        | node p q r s =>
          rw [hs] at hy e3
          cases e3
          have h2 := (may_iff 3).1 hy
          have h3 := h2.1
          unfold mayH at h3
          simp at h3
          obtain ⟨z, rfl⟩ := List.length_eq_one_iff.1 h3.2
          show valT a z = !(valT a (.node 3 q r [z]))
          rw [val_not, Bool.not_not]
      · exact val_not
  · split
    · rename_i e
      subst e
      rw [join_and, val_and, all_id, hv, ← all_id]
    · split
      · rename_i e
        subst e
        rw [join_or hc, val_or, any_id, hv, ← any_id]
      · split
        · rename_i e
          subst e
          have e2 : (l.map simpT).countP (valT a) = l.countP (valT a) := by rw [cnt_id, hv, ← cnt_id]
          rw [least_val hc, val_least, e2]
        · rfl
end Go.Proofs.YtlhjliigfecihaaDoor.Fl
