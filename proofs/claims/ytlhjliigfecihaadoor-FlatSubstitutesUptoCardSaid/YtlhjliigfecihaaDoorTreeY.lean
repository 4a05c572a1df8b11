/- Joining, as flat does it: first the constants go, then the rest is laid out. Plain lemmas. -/
import Derived.Test.YtlhjliigfecihaaDoorTreeM
import Derived.Test.YtlhjliigfecihaaDoorTreeK
set_option linter.unusedSimpArgs false
set_option linter.unusedVariables false
set_option linter.unnecessarySimpa false
namespace Go.Proofs.YtlhjliigfecihaaDoor.Fl
open Go En
variable {kind whole : Int} {l : List Tree} {i : Nat}
theorem out_restL (hk : kind ≠ 1) : ∀ l : List Tree, outJ kind (restL l) = outJ kind l
  | [] => rfl
  | x :: l => by
    have ih := out_restL hk l
    unfold outJ restL at ih ⊢
    rw [List.filter_cons]
    by_cases e : x.kind = 1
    · have h1 : (x.kind != 1) = false := by simp [e]
      rw [h1, if_neg (by simp), ih, List.flatMap_cons, if_neg (by omega), if_pos e, List.nil_append]
    · have h1 : (x.kind != 1) = true := by simp [e]
      rw [h1, if_pos rfl, List.flatMap_cons, List.flatMap_cons, ih]
theorem rest_ne (hi : i < (restL l).length) : ¬ ((restL l).getD i tree0).kind = 1 := by
  have h : (restL l).getD i tree0 ∈ restL l := by rw [List.getD_eq_getElem?_getD, List.getElem?_eq_getElem hi]; exact List.getElem_mem _
  have := (List.mem_filter.1 h).2
  simpa using this
theorem outR_open (hi : i < (restL l).length) (h : ¬ ((restL l).getD i tree0).kind = kind) : outJ kind ((restL l).take i) ++ [(restL l).getD i tree0] = outJ kind ((restL l).take (i + 1)) := out_open hi h (rest_ne hi)
theorem jn_bad (hk : kind ≠ 1) (h : (l.any fun x => (x.kind == 1) && (x.v != whole)) = true) : joinT kind whole l = cst (1 - whole) := by unfold joinT; rw [if_pos h]
theorem jn_all (hk : kind ≠ 1) (e : i = (restL l).length) : outJ kind ((restL l).take i) = outJ kind l := by rw [e, List.take_length, out_restL hk]
theorem jn_0 (hk : kind ≠ 1) (h : (l.any fun x => (x.kind == 1) && (x.v != whole)) = false) (e : i = (restL l).length) (h0 : (outJ kind ((restL l).take i)).length = 0) : joinT kind whole l = cst whole := by
  rw [jn_all hk e] at h0
  unfold joinT
  rw [if_neg (by rw [h]; simp), List.eq_nil_of_length_eq_zero h0]
theorem jn_1 (hk : kind ≠ 1) (h : (l.any fun x => (x.kind == 1) && (x.v != whole)) = false) (e : i = (restL l).length) (h1 : (outJ kind ((restL l).take i)).length = 1) : joinT kind whole l = (outJ kind ((restL l).take i)).getD 0 tree0 := by
  rw [jn_all hk e] at h1 ⊢
  unfold joinT
  rw [if_neg (by rw [h]; simp)]
  match hh : outJ kind l, h1 with
  | [x], _ => rfl
theorem jn_2 (hk : kind ≠ 1) (h : (l.any fun x => (x.kind == 1) && (x.v != whole)) = false) (e : i = (restL l).length) (h0 : ¬ (outJ kind ((restL l).take i)).length = 0) (h1 : ¬ (outJ kind ((restL l).take i)).length = 1) : joinT kind whole l = .node kind 0 0 (outJ kind ((restL l).take i)) := by
  rw [jn_all hk e] at h0 h1 ⊢
  unfold joinT
  rw [if_neg (by rw [h]; simp)]
  match hh : outJ kind l, h0, h1 with
  | [], h0, _ => exact absurd rfl h0
  | [x], _, h1 => exact absurd rfl h1
  | x :: y :: r, _, _ => rfl
/-! ### thresholds, as flat counts -/
theorem onesF (m : List Tree) : (m.filter fun x : Tree => (x.kind == 1) && (x.v == 1)).length = onesL m := List.countP_eq_length_filter.symm
variable {k : Int} {m : List Tree}
theorem le_1 (h : k - (((m.filter fun x : Tree => (x.kind == 1) && (x.v == 1)).length : Nat) : Int) ≤ 0) : leastT k m = cst 1 := by
  rw [onesF] at h
  exact least_1 (i := m.length) rfl (by rw [List.take_length]; exact h)
theorem le_2 (h : ¬ k - (((m.filter fun x : Tree => (x.kind == 1) && (x.v == 1)).length : Nat) : Int) ≤ 0) (h2 : k - (((m.filter fun x : Tree => (x.kind == 1) && (x.v == 1)).length : Nat) : Int) > (restL m).length) : leastT k m = cst 0 := by
  rw [onesF] at h h2
  exact least_2 (i := m.length) rfl (by rw [List.take_length]; exact h) (by rw [List.take_length]; exact h2)
theorem le_3 (h : ¬ k - (((m.filter fun x : Tree => (x.kind == 1) && (x.v == 1)).length : Nat) : Int) ≤ 0) (h2 : ¬ k - (((m.filter fun x : Tree => (x.kind == 1) && (x.v == 1)).length : Nat) : Int) > (restL m).length) (h3 : k - (((m.filter fun x : Tree => (x.kind == 1) && (x.v == 1)).length : Nat) : Int) = (restL m).length) : leastT k m = joinT 4 1 (restL m) := by
  rw [onesF] at h h2 h3
  have := least_3 (k := k) (l := m) (i := m.length) rfl (by rw [List.take_length]; exact h) (by rw [List.take_length]; exact h2) (by rw [List.take_length]; exact h3)
  rwa [List.take_length] at this
theorem le_4 (h : ¬ k - (((m.filter fun x : Tree => (x.kind == 1) && (x.v == 1)).length : Nat) : Int) ≤ 0) (h2 : ¬ k - (((m.filter fun x : Tree => (x.kind == 1) && (x.v == 1)).length : Nat) : Int) > (restL m).length) (h3 : ¬ k - (((m.filter fun x : Tree => (x.kind == 1) && (x.v == 1)).length : Nat) : Int) = (restL m).length)
    (h4 : k - (((m.filter fun x : Tree => (x.kind == 1) && (x.v == 1)).length : Nat) : Int) = 1) : leastT k m = joinT 5 0 (restL m) := by
  rw [onesF] at h h2 h3 h4
  have := least_4 (k := k) (l := m) (i := m.length) rfl (by rw [List.take_length]; exact h) (by rw [List.take_length]; exact h2) (by rw [List.take_length]; exact h3) (by rw [List.take_length]; exact h4)
  rwa [List.take_length] at this
theorem le_5 (h : ¬ k - (((m.filter fun x : Tree => (x.kind == 1) && (x.v == 1)).length : Nat) : Int) ≤ 0) (h2 : ¬ k - (((m.filter fun x : Tree => (x.kind == 1) && (x.v == 1)).length : Nat) : Int) > (restL m).length) (h3 : ¬ k - (((m.filter fun x : Tree => (x.kind == 1) && (x.v == 1)).length : Nat) : Int) = (restL m).length)
    (h4 : ¬ k - (((m.filter fun x : Tree => (x.kind == 1) && (x.v == 1)).length : Nat) : Int) = 1) : leastT k m = .node 6 0 (k - (((m.filter fun x : Tree => (x.kind == 1) && (x.v == 1)).length : Nat) : Int)) (restL m) := by
  rw [onesF] at h h2 h3 h4 ⊢
  have := least_5 (k := k) (l := m) (i := m.length) rfl (by rw [List.take_length]; exact h) (by rw [List.take_length]; exact h2) (by rw [List.take_length]; exact h3) (by rw [List.take_length]; exact h4)
  rwa [List.take_length] at this
/-- the neutral constant of a kind -/
def whole0 (kind : Int) : Int := if kind = 4 then 1 else 0
theorem wh4 : (1 : Int) = whole0 4 := rfl
theorem wh5 : (0 : Int) = whole0 5 := rfl
theorem or45 {q : Int} (h : (bif (q == 4) then (q == 4) else (q == 5)) = true) : q = 4 ∨ q = 5 := by
  cases h4 : (q == 4) with
  | true => exact .inl (by simpa using h4)
  | false => rw [h4] at h; exact .inr (by simpa using h)
theorem not45 {q : Int} (h : (bif (q == 4) then (q == 4) else (q == 5)) = false) : ¬ q = 4 ∧ ¬ q = 5 := by
  cases h4 : (q == 4) with
  | true => rw [h4] at h; cases h
  | false => rw [h4] at h; exact ⟨by simpa using h4, by simpa using h⟩
variable {q v : Int}
theorem simp_45 (e : i = l.length) (hq : q = 4 ∨ q = 5) : simpT (.node q v k l) = joinT q (whole0 q) ((l.take i).map simpT) := by
  rcases hq with rfl | rfl
  · exact simp_4 e rfl
  · exact simp_5 e rfl
end Go.Proofs.YtlhjliigfecihaaDoor.Fl
