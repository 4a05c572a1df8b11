/- Plain facts of Force: the map of the literals given, what it tells of a literal, and the two folds. -/
import Derived.Test.YtibfgeoiemmjoaaLinP3
import Derived.Test.YtibfgeoiemmjoaaMapI
namespace Go.Proofs.Ytibfgeoiemmjoaa

/-- the map of the literals: each at its variable -/
def isM (ls : List Int) : Int → Option Value := fun v => (ls.find? (fun x => (x.natAbs : Int) == v)).map I64
def okLit (ls : List Int) (x : Int) : Bool := !(wrongL 65536 x) && !(ls.any (· == x)) && !(ls.any (· == -x))
/-- the first n literals are of pairwise distinct variables -/
def Good (ls : List Int) (n : Nat) : Prop := ∀ i, i < n → okLit (ls.take i) (ls.getD i 0) = true
theorem unlike_good (ls : List Int) : unlikeP 65536 ls = true ↔ Good ls ls.length := by
  unfold unlikeP Good okLit
  rw [List.all_eq_true]
  exact ⟨fun h i hi => h i (List.mem_range.2 hi), fun h i hi => h i (List.mem_range.1 hi)⟩
theorem good_succ {ls : List Int} {n : Nat} (h : Good ls n) (h1 : okLit (ls.take n) (ls.getD n 0) = true) : Good ls (n + 1) := fun i hi => by
  by_cases e : i = n
  · subst e; exact h1
  · exact h i (by omega)
theorem isM_none {ls : List Int} {v : Int} : isM ls v = none ↔ ∀ x ∈ ls, (x.natAbs : Int) ≠ v := by
  unfold isM
  rw [Option.map_eq_none_iff, List.find?_eq_none]
  simp
theorem isM_snoc (ls : List Int) (x : Int) (h : isM ls (x.natAbs : Int) = none) : isM (ls ++ [x]) = upd (isM ls) (x.natAbs : Int) (I64 x) := by
  funext v
  have h1 := isM_none.1 h
  unfold upd
  by_cases hv : v = (x.natAbs : Int)
  · subst hv
    rw [if_pos rfl]
    unfold isM
    rw [List.find?_append, List.find?_eq_none.2 (fun y hy => by simpa using h1 y hy)]
    simp
  · rw [if_neg hv]
    unfold isM
    rw [List.find?_append]
    have : List.find? (fun x => (x.natAbs : Int) == v) [x] = none := List.find?_eq_none.2 (fun y hy => by simp at hy; subst hy; simp; exact fun e => hv e.symm)
    rw [this]
    simp
theorem okLit_iff {ls : List Int} {x : Int} : okLit ls x = true ↔ (x ≠ 0 ∧ -65536 ≤ x ∧ x ≤ 65536) ∧ isM ls (x.natAbs : Int) = none := by
  rw [isM_none]
  unfold okLit wrongL
  simp only [Bool.and_eq_true, Bool.not_eq_true', Bool.or_eq_false_iff, decide_eq_false_iff_not, List.any_eq_false, beq_iff_eq]
  constructor
  · rintro ⟨⟨⟨h1, h2, h3⟩, h4⟩, h5⟩
    refine ⟨⟨h1, by omega, by omega⟩, fun y hy e => ?_⟩
    rcases Int.natAbs_eq_natAbs_iff.1 (show y.natAbs = x.natAbs by omega) with e | e
    · exact h4 y hy e
    · exact h5 y hy e
  · rintro ⟨⟨h1, h2, h3⟩, h4⟩
    exact ⟨⟨⟨h1, by omega, by omega⟩, fun y hy e => h4 y hy (by rw [e])⟩, fun y hy e => h4 y hy (by rw [e]; simp)⟩
/-- under distinct variables the map finds exactly the literal that is there -/
theorem good_uniq {ls : List Int} (h : Good ls ls.length) {x y : Int} (hx : x ∈ ls) (hy : y ∈ ls) (e : x.natAbs = y.natAbs) : x = y := by
  obtain ⟨i, hi, rfl⟩ := List.getElem_of_mem hx
  obtain ⟨j, hj, rfl⟩ := List.getElem_of_mem hy
  rcases Nat.lt_trichotomy i j with hij | rfl | hij
  · have := (okLit_iff.1 (h j hj)).2
    rw [List.getD_eq_getElem?_getD, List.getElem?_eq_getElem hj, Option.getD_some, isM_none] at this
    exact absurd (show ((ls[i].natAbs : Nat) : Int) = (ls[j].natAbs : Int) by omega) (this ls[i] (List.mem_take_iff_getElem.2 ⟨i, by omega, rfl⟩))
  · rfl
  · have := (okLit_iff.1 (h i hi)).2
    rw [List.getD_eq_getElem?_getD, List.getElem?_eq_getElem hi, Option.getD_some, isM_none] at this
    exact absurd (show ((ls[j].natAbs : Nat) : Int) = (ls[i].natAbs : Int) by omega) (this ls[j] (List.mem_take_iff_getElem.2 ⟨j, by omega, rfl⟩))
theorem good_nz {ls : List Int} (h : Good ls ls.length) {x : Int} (hx : x ∈ ls) : x ≠ 0 ∧ -65536 ≤ x ∧ x ≤ 65536 := by
  obtain ⟨i, hi, rfl⟩ := List.getElem_of_mem hx
  have := (okLit_iff.1 (h i hi)).1
  rwa [List.getD_eq_getElem?_getD, List.getElem?_eq_getElem hi, Option.getD_some] at this
/-- what the map says of a variable: the literal, or 0 -/
def litOf (ls : List Int) (x : Int) : Int := if ls.contains x then x else if ls.contains (-x) then -x else 0
theorem isM_at {ls : List Int} (h : Good ls ls.length) (x : Int) : (isM ls (x.natAbs : Int)).getD (I64 0) = I64 (litOf ls x) := by
  unfold isM litOf
  cases hf : ls.find? (fun y => (y.natAbs : Int) == (x.natAbs : Int)) with
  | none =>
    have h1 := List.find?_eq_none.1 hf
    have n1 : ls.contains x = false := by
      cases hc : ls.contains x with
      | false => rfl
      | true => exact absurd (by simp) (h1 x (by simpa using hc))
    have n2 : ls.contains (-x) = false := by
      cases hc : ls.contains (-x) with
      | false => rfl
      | true => exact absurd (by simp) (h1 (-x) (by simpa using hc))
    rw [n1, n2]
    rfl
  | some y =>
    have hy := List.mem_of_find?_eq_some hf
    have he : y.natAbs = x.natAbs := by have := List.find?_some hf; simp at this; omega
    simp only [Option.map_some, Option.getD_some]
    congr 1
    rcases Int.natAbs_eq_natAbs_iff.1 he with e | e
    · subst e; simp [hy]
    · subst e
      by_cases hx : x ∈ ls
      · have := good_uniq h hx hy (by simp)
        simp [hx]; omega
      · simp [hx, hy]
theorem litOf_neg {ls : List Int} (h : Good ls ls.length) {x : Int} (hx : x ≠ 0) : litOf ls x = -x ↔ ls.contains (-x) = true := by
  unfold litOf
  by_cases h1 : x ∈ ls
  · by_cases h2 : -x ∈ ls
    · have := good_uniq h h1 h2 (by simp); omega
    · simp [h1, h2]; omega
  · by_cases h2 : -x ∈ ls <;> simp [h1, h2]
    omega
theorem litOf_zero {ls : List Int} {x : Int} (hx : x ≠ 0) : litOf ls x = 0 ↔ (!ls.contains x && !ls.contains (-x)) = true := by
  unfold litOf
  by_cases h1 : x ∈ ls
  · simp [h1, hx]
  · by_cases h2 : -x ∈ ls <;> simp [h1, h2]
    omega
end Go.Proofs.Ytibfgeoiemmjoaa
