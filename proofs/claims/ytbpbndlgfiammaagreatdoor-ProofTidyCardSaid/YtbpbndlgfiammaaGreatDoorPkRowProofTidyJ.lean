/- Lemmas and contracts for the row. -/
import Derived.Test.YtbpbndlgfiammaaGreatDoorPkRowProofTidyB
import Derived.Lib.RowBridge
set_option linter.unusedVariables false
set_option linter.unusedSimpArgs false
set_option linter.unnecessarySimpa false
namespace Go.Proofs.YtbpbndlgfiammaaGreatDoor.Cn
open Go
def ahd (x y : Int) : Bool := decide (x.natAbs < y.natAbs ∨ x.natAbs = y.natAbs ∧ y < x)
def sortL (xs : List Int) : List Int := xs.mergeSort fun x y => !ahd y x
def normL (l : List Int) : List Int := Lib.compact (sortL (l.filter fun x => mayP x 65536))
def tautL (l : List Int) : Bool := (normL l).any fun x => (normL l).contains (-x)
theorem ahd_iff {x y : Int} : ahd x y = true ↔ (x.natAbs < y.natAbs ∨ x.natAbs = y.natAbs ∧ y < x) := by simp [ahd]
theorem ahd_no {x y : Int} : (!ahd y x) = true ↔ x = y ∨ ahd x y = true := by
  rw [ahd_iff]; simp [ahd]; omega
theorem ahd_tr {x y z : Int} (h : ahd x y = true) (h' : ahd y z = true) : ahd x z = true := by
  rw [ahd_iff] at *; omega
theorem ahd_tot {x y : Int} : ahd x y = true ∨ x = y ∨ ahd y x = true := by
  rw [ahd_iff, ahd_iff]; omega
abbrev Str (xs : List Int) : Prop := xs.Pairwise fun x y => ahd x y = true
theorem compact_str (xs : List Int) (hs : xs.Pairwise fun x y => (!ahd y x) = true) : (∀ x, x ∈ Lib.compact xs ↔ x ∈ xs) ∧ Str (Lib.compact xs) := by
  have key : ∀ m, m ≤ xs.length → (∀ x, x ∈ Lib.compactUpTo xs.toArray m ↔ x ∈ xs.take m) ∧ Str (Lib.compactUpTo xs.toArray m) := by
    intro m
    induction m with
    | zero => intro _; simp [Lib.compactUpTo]
    | succ m ih =>
      intro hm
      obtain ⟨h1, h2⟩ := ih (by omega)
      have hlt : m < xs.length := by omega
      have eg : xs.toArray[m]! = xs[m] := by rw [getElem!_pos xs.toArray m (by simpa using hlt)]; simp
      rw [Lib.compactUpTo_succ, eg, List.take_succ_eq_append_getElem hlt]
      have hle : ∀ y ∈ xs.take m, (!ahd xs[m] y) = true := by
        intro y hy
        obtain ⟨j, hj, rfl⟩ := List.mem_iff_getElem.1 hy
        rw [List.length_take] at hj
        rw [List.getElem_take]
        exact List.pairwise_iff_getElem.1 hs j m (by omega) hlt (by omega)
      cases hk : Lib.keeps xs.toArray m with
      | true =>
        rw [if_pos rfl]
        refine ⟨fun x => by simp only [List.mem_append, h1 x], List.pairwise_append.2 ⟨h2, List.pairwise_singleton _ _, fun y hy z hz => ?_⟩⟩
        rw [List.mem_singleton] at hz
        subst hz
        have hy' := (h1 y).1 hy
        rcases ahd_no.1 (hle y hy') with e | h
        · subst e
          exfalso
          simp only [Lib.keeps, decide_eq_true_eq] at hk
          rcases hk with h0 | hne
          · subst h0; simp at hy'
          · by_cases hm0 : m = 0
            · subst hm0; simp at hy'
            apply hne
            have e1 : xs.toArray[m - 1]! = xs[m - 1] := by rw [getElem!_pos xs.toArray (m - 1) (by simp; omega)]; simp
            rw [eg, e1]
            have hp : (!ahd xs[m] xs[m - 1]) = true := List.pairwise_iff_getElem.1 hs (m - 1) m (by omega) hlt (by omega)
            obtain ⟨j, hj, hj2⟩ := List.mem_iff_getElem.1 hy'
            rw [List.length_take] at hj
            rw [List.getElem_take] at hj2
            rcases ahd_no.1 hp with e | h3
            · exact e.symm
            · by_cases hjm : j = m - 1
              · subst hjm; exact hj2.symm
              · have h4 : (!ahd xs[m - 1] xs[j]) = true := List.pairwise_iff_getElem.1 hs j (m - 1) (by omega) (by omega) (by omega)
                rw [hj2] at h4
                rw [h3] at h4
                exact absurd h4 (by decide)
        · exact h
      | false =>
        rw [if_neg (by simp)]
        refine ⟨fun x => ?_, by simpa using h2⟩
        simp only [List.append_nil, List.mem_append, List.mem_singleton, h1 x]
        constructor
        · exact .inl
        · rintro (h | rfl)
          · exact h
          · simp only [Lib.keeps, decide_eq_false_iff_not, not_or, Decidable.not_not] at hk
            obtain ⟨hm0, he⟩ := hk
            have e1 : xs.toArray[m - 1]! = xs[m - 1] := by rw [getElem!_pos xs.toArray (m - 1) (by simp; omega)]; simp
            rw [eg, e1] at he
            rw [he]
            exact List.mem_iff_getElem.2 ⟨m - 1, by rw [List.length_take]; omega, by rw [List.getElem_take]⟩
  have := key xs.length (Nat.le_refl _)
  rw [List.take_length] at this
  exact this
theorem sort_str (xs : List Int) : (sortL xs).Pairwise fun x y => (!ahd y x) = true :=
  List.pairwise_mergeSort (fun a b c h1 h2 => by
    rw [ahd_no] at *
    rcases h1 with rfl | h1 <;> rcases h2 with rfl | h2
    · exact .inl rfl
    · exact .inr h2
    · exact .inr h1
    · exact .inr (ahd_tr h1 h2)) (fun a b => by
    rw [Bool.or_eq_true, ahd_no, ahd_no]
    rcases ahd_tot (x := a) (y := b) with h | h | h
    · exact .inl (.inr h)
    · exact .inl (.inl h)
    · exact .inr (.inr h)) xs
theorem norm_mem {l : List Int} {x : Int} : x ∈ normL l ↔ x ∈ l ∧ mayP x 65536 = true := by
  unfold normL
  rw [(compact_str _ (sort_str _)).1 x, sortL, List.mem_mergeSort, List.mem_filter]
theorem norm_str (l : List Int) : Str (normL l) := (compact_str _ (sort_str _)).2
theorem norm_nz {l : List Int} {x : Int} (h : x ∈ normL l) : x ≠ 0 := (mayP_iff.1 (norm_mem.1 h).2).1
theorem norm_bd {l : List Int} {j : Nat} (h : j < (normL l).length) : -65536 ≤ (normL l).getD j 0 ∧ (normL l).getD j 0 ≤ 65536 := (mayP_iff.1 (norm_mem.1 (getD_memL (d := 0) h)).2).2
theorem norm_len (l : List Int) : (normL l).length ≤ l.length := by
  unfold normL
  refine Nat.le_trans (Lib.compact_length_le _) ?_
  rw [sortL, List.length_mergeSort]
  exact List.length_filter_le _ _
theorem str_at {xs : List Int} (h : Str xs) {i j : Nat} (hij : i < j) (hj : j < xs.length) : ahd (xs.getD i 0) (xs.getD j 0) = true := by
  have hi : i < xs.length := by omega
  rw [List.getD_eq_getElem?_getD, List.getD_eq_getElem?_getD, List.getElem?_eq_getElem hj, List.getElem?_eq_getElem hi]
  exact List.pairwise_iff_getElem.1 h i j hi hj hij
theorem taut_adj_yes {xs : List Int} {i : Nat} (h0 : 0 < i) (hi : i < xs.length) (h : xs.getD (i - 1) 0 = -(xs.getD i 0)) : (xs.any fun x => xs.contains (-x)) = true :=
  any_yes (d := 0) hi (by rw [← h]; exact List.contains_iff_mem.2 (getD_memL (by omega)))
theorem taut_adj_no {xs : List Int} (hs : Str xs) (hn : ∀ x ∈ xs, x ≠ 0) (h : ∀ i, 0 < i → i < xs.length → xs.getD (i - 1) 0 ≠ -(xs.getD i 0)) : (xs.any fun x => xs.contains (-x)) = false := by
  rw [List.any_eq_false]
  intro x hx hc
  have hc := List.contains_iff_mem.1 hc
  have key : ∀ z ∈ xs, -z ∈ xs → 0 < z → False := by
    intro z hz hz' hp
    obtain ⟨i, hi, rfl⟩ := List.mem_iff_getElem.1 hz
    obtain ⟨j, hj, hjv⟩ := List.mem_iff_getElem.1 hz'
    have ei : xs.getD i 0 = xs[i] := by rw [List.getD_eq_getElem?_getD, List.getElem?_eq_getElem hi]; rfl
    have ej : xs.getD j 0 = xs[j] := by rw [List.getD_eq_getElem?_getD, List.getElem?_eq_getElem hj]; rfl
    have hlt : i < j := by
      rcases Nat.lt_trichotomy i j with h1 | h1 | h1
      · exact h1
      · subst h1; omega
      · have := str_at hs h1 hi
        rw [ei, ej, ahd_iff] at this
        omega
    by_cases hji : j = i + 1
    · subst hji
      refine h (i + 1) (by omega) hj ?_
      rw [Nat.add_sub_cancel, ei, ej]
      omega
    · have h1 := str_at hs (show i < i + 1 by omega) (by omega)
      have h2 := str_at hs (show i + 1 < j by omega) hj
      rw [ei, ahd_iff] at h1
      rw [ej, ahd_iff] at h2
      omega
  have hx0 := hn x hx
  by_cases hp : 0 < x
  · exact key x hx hc hp
  · exact key (-x) hc (by rwa [Int.neg_neg]) (by omega)
def resOn (a b : List Int) (x : Int) : List Int := normL ((a.filter fun y => !(y == x)) ++ (b.filter fun y => !(y == -x)))
def onB (a b : List Int) (x : Int) : Bool := a.contains x && b.contains (-x)
def resL (a b : List Int) (v : Int) : List Int := if 1 ≤ v ∧ v ≤ 65536 then if onB a b v then resOn a b v else if onB a b (-v) then resOn a b (-v) else [] else []
end Go.Proofs.YtbpbndlgfiammaaGreatDoor.Cn
namespace Go.Proofs.YtbpbndlgfiammaaGreatDoor.Cn
open Go
end Go.Proofs.YtbpbndlgfiammaaGreatDoor.Cn
namespace Go.Proofs.YtbpbndlgfiammaaGreatDoor.Cn
open Go
def resT (a : List Int) (v : Int) (b : List Int) : List (List Int) := if tautL (resL a b v) then [] else [resL a b v]
def resA (as_ bs : List (List Int)) (v : Int) (i : Nat) : List (List Int) := (as_.take i).flatMap fun a => bs.flatMap (resT a v)
end Go.Proofs.YtbpbndlgfiammaaGreatDoor.Cn
namespace Go.Proofs.YtbpbndlgfiammaaGreatDoor.Cn
open Go
section
variable {c : List (List Int)} {v many : Int} {p q : Nat}
end
end Go.Proofs.YtbpbndlgfiammaaGreatDoor.Cn
