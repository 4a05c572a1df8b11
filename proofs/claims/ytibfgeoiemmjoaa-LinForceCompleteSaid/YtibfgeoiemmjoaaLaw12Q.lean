/- Plain facts for the laws of layer 12. -/
import Derived.Test.YtibfgeoiemmjoaaRef12R
namespace Go.Proofs.Ytibfgeoiemmjoaa.En

theorem forall_nil {p : Int → Prop} : ∀ x ∈ ([] : List Int), p x := fun x hx => by simp at hx
theorem few_of {C L : List Int} {B : Int} (h : fewP ⟨C, L, B⟩ = true) : L.length ≤ 60 ∧ C.length ≤ 60 := by
  unfold fewP at h
  simpa using h
theorem few2_of {C L : List Int} {B : Int} {b : Bool} (h : (!fewP ⟨C, L, B⟩ || b) = false) : L.length ≤ 60 ∧ C.length ≤ 60 := by
  cases hf : fewP ⟨C, L, B⟩ with
  | true => exact few_of hf
  | false => rw [hf] at h; cases h
theorem few2b_of {a b : LinV} (h : (!fewP a || !fewP b) = false) : (a.L.length ≤ 60 ∧ a.C.length ≤ 60) ∧ b.L.length ≤ 60 ∧ b.C.length ≤ 60 := by
  obtain ⟨h1, h2⟩ := Bool.or_eq_false_iff.1 h
  refine ⟨few_of (B := a.B) (by simpa using h1), few_of (B := b.B) (by simpa using h2)⟩
theorem force_max {l : LinV} {lits : List Int} : (forceF l lits).length ≤ maxLen := by
  unfold forceF
  cases hf : forceP l lits with
  | none => exact Nat.zero_le _
  | some fs =>
    unfold forceP at hf
    split at hf
    · cases hf
    · split at hf
      · cases hf
      · rename_i h1 _
        cases hf
        have hc : lcheck l 65536 = 0 := by
          by_cases hc : lcheck l 65536 = 0
          · exact hc
          · exact absurd (.inl hc) h1
        have hnb := norm_bound hc
        simp only [Option.getD_some, List.length_map]
        refine Nat.le_trans (List.length_filter_le _ _) ?_
        rw [List.length_zip]
        unfold maxLen
        omega
theorem add_max {a b : LinV} (ha : a.C.length ≤ 60 ∧ a.L.length ≤ 60) (hb : b.C.length ≤ 60 ∧ b.L.length ≤ 60) : (addP a b).1.C.length ≤ maxLen ∧ (addP a b).1.L.length ≤ maxLen := by
  unfold addP maxLen
  split
  · simp [lin0]
  · split
    · simp [lin0]
    · split
      · simp [lin0]
      · simp only [List.length_append]; omega
theorem cut_max {l : LinV} {d : Int} (h : l.C.length ≤ 60 ∧ l.L.length ≤ 60) : (cutP l d).1.C.length ≤ maxLen ∧ (cutP l d).1.L.length ≤ maxLen := by
  have := normP_len l h
  unfold cutP maxLen
  split
  · simp [lin0]
  · split
    · simp [lin0]
    · simp only [List.length_map]; omega
theorem negLaw {l : LinV} (hc : lcheck l 65536 = 0) (hb : l.B ≠ -1099511627776) (a : List Bool) : lcheck (negP l) 65536 = 0 ∧ lvalue (negP l) a = !lvalue l a ∧ (forceB l [] || forceB (negP l) []) = true ∧ (forceB l [] = false → forceF l [] = [] ∧ sameP (normP l) ⟨[], [], 1⟩ = true) ∧ (forceB (negP l) [] = false → sameP (normP l) ⟨[], [], 0⟩ = true) := by
  have h4 : forceB l [] = false → forceP l [] = none := fun h => by unfold forceB at h; simpa using h
  have h5 : forceB (negP l) [] = false → forceP (negP l) [] = none := fun h => by unfold forceB at h; simpa using h
  refine ⟨neg_check hc hb, neg_value hc hb a, ?_, fun h => ⟨?_, sameP_iff.2 ((force_none hc).1 (h4 h))⟩, fun h => sameP_iff.2 (neg_none hc hb (h5 h))⟩
  · cases h1 : forceB l [] with
    | true => rfl
    | false =>
      cases h2 : forceB (negP l) [] with
      | true => rfl
      | false =>
        have e1 := (force_none hc).1 (h4 h1)
        have e2 := neg_none hc hb (h5 h2)
        rw [e1] at e2
        simp [lin0] at e2
  · unfold forceF; rw [h4 h]; rfl
theorem negOut {l : LinV} (hc : lcheck l 65536 = 0) (hb : l.B ≠ -1099511627776) (a : List Bool) :
    (((((lcheck (negP l) 65536 == 0 && !(lvalue (negP l) a == lvalue l a)) && (forceB l [] || forceB (negP l) [])) && (forceB l [] || ((forceF l []).length : Int) == 0)) && (forceB (negP l) [] || sameP (normP l) ⟨[], [], 0⟩)) && (forceB l [] || sameP (normP l) ⟨[], [], 1⟩)) = true := by
  obtain ⟨q1, q2, q3, q4, q5⟩ := negLaw hc hb a
  rw [q1, q2, q3]
  have hd : (!((!lvalue l a) == lvalue l a)) = true := by cases lvalue l a <;> rfl
  rw [hd]
  cases h1 : forceB l [] with
  | true =>
    cases h2 : forceB (negP l) [] with
    | true => rfl
    | false => rw [q5 h2]; rfl
  | false =>
    obtain ⟨e1, e2⟩ := q4 h1
    rw [e1, e2]
    cases h2 : forceB (negP l) [] with
    | true => rfl
    | false => rw [q5 h2]; rfl
end Go.Proofs.Ytibfgeoiemmjoaa.En
