/- A node's form, kind by kind, as the code tests it. Plain. -/
import Derived.Test.YtlhjliigfecihaaDoorTreeF
set_option linter.unusedSimpArgs false
set_option linter.unusedVariables false
set_option linter.unnecessarySimpa false
namespace Go.Proofs.YtlhjliigfecihaaDoor.Fl
open Go En
variable {n q v k : Int} {len : Nat} {l : List Tree}
theorem len_b (m : Nat) : ((len : Int) == (m : Int)) = (len == m) := by rw [Bool.eq_iff_iff, beq_iff_eq, beq_iff_eq]; omega
theorem len_b0 : ((len : Int) == 0) = (len == 0) := len_b 0
theorem len_b1 : ((len : Int) == 1) = (len == 1) := len_b 1
theorem fm0 (h : ((q != 6) && (k != 0)) = true) : false = mayH n q v k len := by
  simp only [Bool.and_eq_true, bne_iff_ne] at h
  have hk : (k == 0) = false := by rw [beq_eq_false_iff_ne]; exact h.2
  unfold mayH
  simp [hk, h.1]
theorem k0 (h : ((q != 6) && (k != 0)) = false) (h6 : q ≠ 6) : k = 0 := by
  rw [bne_iff_ne.2 h6] at h
  simpa using h
theorem fm1 (hk : ((q != 6) && (k != 0)) = false) (h : q = 1) : (((v == 0) || (v == 1)) && ((len : Int) == 0)) = mayH n q v k len := by
  rw [k0 hk (by omega), h, len_b0]; unfold mayH; simp
theorem fm2 (hk : ((q != 6) && (k != 0)) = false) (h1 : ¬ q = 1) (h : q = 2) : ((decide (1 ≤ v) && decide (v ≤ n)) && ((len : Int) == 0)) = mayH n q v k len := by
  rw [k0 hk (by omega), h, len_b0]; unfold mayH; simp
theorem fm3 (hk : ((q != 6) && (k != 0)) = false) (h : q = 3) : ((v == 0) && ((len : Int) == 1)) = mayH n q v k len := by
  rw [k0 hk (by omega), h, len_b1]; unfold mayH; simp
theorem fm4 (hk : ((q != 6) && (k != 0)) = false) (h : q = 4 ∨ q = 5) : (v == 0) = mayH n q v k len := by
  rw [k0 hk (by omega)]; unfold mayH; rw [if_neg (by omega), if_neg (by omega), if_neg (by omega), if_pos h]; simp
theorem fm6 (h : q = 6) : (((v == 0) && decide (0 ≤ k)) && decide (k ≤ 1099511627776)) = mayH n q v k len := by
  rw [h]; unfold mayH; simp
theorem fm9 (h1 : ¬ q = 1) (h2 : ¬ q = 2) (h3 : ¬ q = 3) (h4 : ¬ q = 4) (h5 : ¬ q = 5) (h6 : ¬ q = 6) : false = mayH n q v k len := by
  unfold mayH; rw [if_neg h1, if_neg h2, if_neg h3, if_neg (by omega), if_neg h6]
/-! the reference's tests -/
theorem rm1 (h : q = 1) : (((((v != 0) && (v != 1)) || (k != 0)) || ((len : Int) != 0))) = !(mayH n q v k len) := by
  have e := len_b0 (len := len)
  rw [h]; unfold mayH; rw [if_pos rfl]; simp only [bne, e]
  cases (v == 0) <;> cases (v == 1) <;> cases (k == 0) <;> cases (len == 0) <;> rfl
theorem rm2 (h : q = 2) : ((((decide (v < 1)) || (decide (v > n))) || (k != 0)) || ((len : Int) != 0)) = !(mayH n q v k len) := by
  have e := len_b0 (len := len)
  have e1 : decide (v < 1) = !(decide (1 ≤ v)) := by rw [← decide_not, decide_eq_decide]; omega
  have e2 : decide (v > n) = !(decide (v ≤ n)) := by rw [← decide_not, decide_eq_decide]; omega
  rw [h]; unfold mayH; rw [if_neg (by decide), if_pos rfl]; simp only [bne, e, e1, e2]
  cases decide (1 ≤ v) <;> cases decide (v ≤ n) <;> cases (k == 0) <;> cases (len == 0) <;> rfl
theorem rm3 (h : q = 3) : (((v != 0) || (k != 0)) || ((len : Int) != 1)) = !(mayH n q v k len) := by
  have e := len_b1 (len := len)
  rw [h]; unfold mayH; rw [if_neg (by decide), if_neg (by decide), if_pos rfl]; simp only [bne, e]
  cases (v == 0) <;> cases (k == 0) <;> cases (len == 1) <;> rfl
theorem rm4 (h : q = 4 ∨ q = 5) : ((v != 0) || (k != 0)) = !(mayH n q v k len) := by
  unfold mayH; rw [if_neg (by omega), if_neg (by omega), if_neg (by omega), if_pos h]; simp only [bne]
  cases (v == 0) <;> cases (k == 0) <;> rfl
theorem rm6 (h : q = 6) : (((v != 0) || decide (k < 0)) || decide (k > 1099511627776)) = !(mayH n q v k len) := by
  have e1 : decide (k < 0) = !(decide (0 ≤ k)) := by rw [← decide_not, decide_eq_decide]; omega
  have e2 : decide (k > 1099511627776) = !(decide (k ≤ 1099511627776)) := by rw [← decide_not, decide_eq_decide]; omega
  rw [h]; unfold mayH; rw [if_neg (by decide), if_neg (by decide), if_neg (by decide), if_neg (by decide), if_pos rfl]; simp only [bne, e1, e2]
  cases (v == 0) <;> cases decide (0 ≤ k) <;> cases decide (k ≤ 1099511627776) <;> rfl
/-- form by the parts -/
def mayN (n q v k : Int) (l : List Tree) : Bool := mayH n q v k l.length && l.all (mayT n)
theorem may_at (n : Int) (x : Tree) : mayN n x.kind x.v x.k x.l = mayT n x := by cases x with | node a b c l => rw [may_eq]; rfl
theorem mn_no (h : mayH n q v k l.length = false) : false = mayN n q v k l := by unfold mayN; rw [h]; rfl
theorem mn_at {i : Nat} (hi : i < l.length) (h : mayT n (l.getD i tree0) = false) : false = mayN n q v k l := by
  unfold mayN
  have h9 : l.all (mayT n) = false := List.all_eq_false.2 ⟨l[i], List.getElem_mem hi, by
    have e : l[i] = l.getD i tree0 := by rw [List.getD_eq_getElem?_getD, List.getElem?_eq_getElem hi]; rfl
    rw [e, h]; simp⟩
  rw [h9, Bool.and_false]
theorem mn_yes (h : mayH n q v k l.length = true) (hl : ∀ j, j < l.length → mayT n (l.getD j tree0) = true) : true = mayN n q v k l := by
  unfold mayN
  have h9 : l.all (mayT n) = true := List.all_eq_true.2 fun x hx => by
    obtain ⟨j, hj, rfl⟩ := List.getElem_of_mem hx
    have := hl j hj
    rwa [List.getD_eq_getElem?_getD, List.getElem?_eq_getElem hj] at this
  rw [h, h9]; rfl
theorem nb_t {x y : Bool} (e : x = !y) (h : x = true) : y = false := by rw [e] at h; simpa using h
theorem nb_f {x y : Bool} (e : x = !y) (h : x = false) : y = true := by rw [e] at h; simpa using h
end Go.Proofs.YtlhjliigfecihaaDoor.Fl
