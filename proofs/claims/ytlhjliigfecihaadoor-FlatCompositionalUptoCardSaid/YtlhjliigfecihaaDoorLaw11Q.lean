/- Plain law of FlatCompositional. -/
import Derived.Test.YtlhjliigfecihaaDoorLaw11P
set_option linter.unusedSimpArgs false
set_option linter.unusedVariables false
set_option linter.unnecessarySimpa false
namespace Go.Proofs.YtlhjliigfecihaaDoor.Fl
open Go En
variable {n v k q : Int} {l : List Tree} {x : Tree}
theorem vars_in {u : Int} : ∀ t, mayT n t = true → u ∈ varsT t → 1 ≤ u ∧ u ≤ n := tree_ind fun kind v k l ih h hu => by
  rw [may_iff] at h
  rw [vars_mem] at hu
  rcases hu with ⟨rfl, rfl⟩ | ⟨x, hx, hu⟩
  · have := h.1
    unfold mayH at this
    simp at this
    omega
  · exact ih x hx (h.2 x hx) hu
/-- all of a list are in order -/
def okL (n : Int) (l : List Tree) : Bool := l.all fun x => chkN n x.kind x.v x.k x.l == 0
theorem okL_step {i : Nat} (hi : i < l.length) : (okL n (l.take i) && (chkN n (l.getD i tree0).kind (l.getD i tree0).v (l.getD i tree0).k (l.getD i tree0).l == 0)) = okL n (l.take (i + 1)) := by
  unfold okL
  rw [List.take_succ_eq_append_getElem hi, List.all_append, List.getD_eq_getElem?_getD, List.getElem?_eq_getElem hi]
  simp
theorem okL_no {i : Nat} (hi : i < l.length) (h : okL n (l.take i) = false) : false = okL n (l.take (i + 1)) := by rw [← okL_step hi, h]; rfl
theorem cp_step {i : Nat} (hi : i < l.length) : ((1 + sizeL (l.take i) : Nat) : Int) + ((sizeT (l.getD i tree0) : Nat) : Int) = ((1 + sizeL (l.take (i + 1)) : Nat) : Int) := by
  rw [size_take_succ hi]; omega
theorem chk_iff (h0 : 0 ≤ n) (h1 : n ≤ 65536) (hs : sizeL l ≤ 65535) : chkN n q v k l = 0 ↔ mayH n q v k l.length = true ∧ l.all (mayT n) = true := by
  constructor
  · intro h
    have := (chk_0 h).1
    unfold mayN at this
    exact Bool.and_eq_true_iff.1 this
  · intro h
    unfold chkN mayN
    rw [h.1, h.2]
    have e1 : decide (n < 0) = false := decide_eq_false (by omega)
    have e2 : decide (n > 65536) = false := decide_eq_false (by omega)
    have e3 : decide (((1 + sizeL l : Nat) : Int) > 65536) = false := decide_eq_false (by omega)
    rw [e1, e2, e3]; rfl
theorem few_sum : ∀ l : List Tree, (∀ x ∈ l, sizeL x.l ≤ 400) → sizeL l ≤ 401 * l.length
  | [], _ => by simp [sizeL]
  | x :: l, h => by
    have h1 := h x (by simp)
    have h2 := few_sum l fun y hy => h y (by simp [hy])
    rw [sizeL, size_t, List.length_cons]
    omega
theorem okL_iff (h0 : 0 ≤ n) (h1 : n ≤ 65536) (hs : ∀ x ∈ l, sizeL x.l ≤ 400) : okL n l = l.all (mayT n) := by
  rw [Bool.eq_iff_iff]
  unfold okL
  rw [List.all_eq_true, List.all_eq_true]
  constructor
  · intro h x hx
    have := h x hx
    have h3 := (chk_iff (n := n) (q := x.kind) (v := x.v) (k := x.k) h0 h1 (by have := hs x hx; omega)).1 (eq_of_beq this)
    rw [← may_at]; unfold mayN; rw [h3.1, h3.2]; rfl
  · intro h x hx
    have h2 := h x hx
    rw [← may_at] at h2
    unfold mayN at h2
    exact beq_iff_eq.2 ((chk_iff (n := n) (q := x.kind) (v := x.v) (k := x.k) h0 h1 (by have := hs x hx; omega)).2 (Bool.and_eq_true_iff.1 h2))
theorem cp_sz {i : Nat} (hi : i < l.length) : sizeT (.node (l.getD i tree0).kind (l.getD i tree0).v (l.getD i tree0).k (l.getD i tree0).l) + sizeL (l.take i) ≤ sizeL l := by
  have h1 := size_take_succ hi
  have h2 := size_take_le (l := l) (i + 1)
  rw [node_eta]; omega
theorem cp_eq {i : Nat} (hi : i < l.length) : ((1 + sizeL (l.take i) : Nat) : Int) + ((sizeT (.node (l.getD i tree0).kind (l.getD i tree0).v (l.getD i tree0).k (l.getD i tree0).l) : Nat) : Int) = ((1 + sizeL (l.take (i + 1)) : Nat) : Int) := by
  rw [node_eta]; exact cp_step hi
/-- the variables of a conjunction -/
abbrev cpV (l : List Tree) : List Int := setI (varsT (.node (4 : Int) (0 : Int) (0 : Int) l))
theorem cpV_len (h : sizeL l ≤ 1000000) : (cpV l).length ≤ 1000001 := by
  have h1 : (cpV l).length ≤ _ := setI_len _
  have h2 := vars_len (.node (4 : Int) (0 : Int) (0 : Int) l)
  rw [size_node] at h2
  omega
theorem cp_inc {j : Nat} (h1 : 1 ≤ j) (h2 : (j : Int) < ((cpV l).length : Int)) (h : (cpV l).getD (((j : Int) - 1).toNat) 0 ≥ (cpV l).getD j 0) : False := by
  have hp := setI_inc (varsT (.node (4 : Int) (0 : Int) (0 : Int) l))
  rw [List.pairwise_iff_getElem] at hp
  have h2' : j < (setI (varsT (.node (4 : Int) (0 : Int) (0 : Int) l))).length := by show j < (cpV l).length; omega
  have h3 := hp (j - 1) j (by omega) h2' (by omega)
  have e : (((j : Int) - 1).toNat) = j - 1 := by omega
  rw [e, List.getD_eq_getElem?_getD, List.getD_eq_getElem?_getD, List.getElem?_eq_getElem (by omega), List.getElem?_eq_getElem (by omega)] at h
  simp only [Option.getD_some] at h
  exact absurd h (by have : (cpV l)[j - 1] < (cpV l)[j] := h3; omega)
theorem getD_in {xs : List Int} {j : Nat} (h : j < xs.length) : xs.getD j 0 ∈ xs := by rw [List.getD_eq_getElem?_getD, List.getElem?_eq_getElem h]; exact List.getElem_mem _
theorem cp_end {i : Nat} (hi : i = l.length) (hl : l.length ≤ 10) (h0 : 0 ≤ n) (h1 : n ≤ 65536) (hsz : sizeL l ≤ 1000000) (hok : ∀ j, j < i → fewT (l.getD j tree0).l = true) :
    (((((((sizeT (.node (4 : Int) (0 : Int) (0 : Int) l) : Nat) : Int) == ((1 + sizeL (l.take i) : Nat) : Int)) && (((chkN n (4 : Int) (0 : Int) (0 : Int) l) == 0) == (okL n (l.take i)))) && (((chkN n (6 : Int) (0 : Int) (2 : Int) l) == 0) == (okL n (l.take i)))) && (((chkN n (3 : Int) (0 : Int) (0 : Int) l) == 0) == ((okL n (l.take i)) && ((l.length : Int) == 1)))) && (((!(okL n (l.take i))) || (((cpV l).length : Int) == 0)) || ((decide (((cpV l).getD 0 0) ≥ 1)) && (decide (((cpV l).getD ((((cpV l).length : Int) - 1).toNat) 0) ≤ n))))) = true := by
  subst hi
  rw [List.take_length]
  have hf : ∀ x ∈ l, sizeL x.l ≤ 400 := fun x hx => by
    obtain ⟨j, hj, rfl⟩ := List.mem_iff_getElem.1 hx
    have h := hok j hj
    rw [List.getD_eq_getElem?_getD, List.getElem?_eq_getElem hj] at h
    have hs := size_sub hj
    rw [List.getD_eq_getElem?_getD, List.getElem?_eq_getElem hj] at hs
    simp only [Option.getD_some] at h hs
    exact few_size (q := 0) (v := 0) (k := 0) (by omega) h
  have hs := few_sum l hf
  have ho := okL_iff (l := l) h0 h1 hf
  have c4 : ((chkN n (4 : Int) (0 : Int) (0 : Int) l) == 0) = okL n l := by
    rw [Bool.eq_iff_iff, beq_iff_eq, chk_iff h0 h1 (by omega), ho]
    exact ⟨fun h => h.2, fun h => ⟨by unfold mayH; simp, h⟩⟩
  have c6 : ((chkN n (6 : Int) (0 : Int) (2 : Int) l) == 0) = okL n l := by
    rw [Bool.eq_iff_iff, beq_iff_eq, chk_iff h0 h1 (by omega), ho]
    exact ⟨fun h => h.2, fun h => ⟨by unfold mayH; simp, h⟩⟩
  have c3 : ((chkN n (3 : Int) (0 : Int) (0 : Int) l) == 0) = ((okL n l) && ((l.length : Int) == 1)) := by
    rw [Bool.eq_iff_iff, beq_iff_eq, chk_iff h0 h1 (by omega), ho, Bool.and_eq_true, beq_iff_eq]
    have : mayH n (3 : Int) (0 : Int) (0 : Int) l.length = true ↔ (l.length : Int) = 1 := by unfold mayH; simp; omega
    rw [this]
    exact And.comm
  rw [c4, c6, c3, size_node]
  simp only [beq_self_eq_true, Bool.true_and, Bool.and_true]
  cases hk : okL n l with
  | false => rfl
  | true =>
    rw [ho] at hk
    have hm : mayT n (.node (4 : Int) (0 : Int) (0 : Int) l) = true := by rw [may_eq, hk]; unfold mayH; simp
    by_cases hz : (cpV l).length = 0
    · rw [hz]; rfl
    · have a0 := vars_in _ hm (setI_mem.1 (getD_in (xs := cpV l) (j := 0) (by omega)))
      have a1 := vars_in _ hm (setI_mem.1 (getD_in (xs := cpV l) (j := (((cpV l).length : Int) - 1).toNat) (by omega)))
      rw [decide_eq_true (show (cpV l).getD 0 0 ≥ 1 from a0.1), decide_eq_true (show (cpV l).getD ((((cpV l).length : Int) - 1).toNat) 0 ≤ n from a1.2)]
      simp
theorem cp_i0 {b c : Bool} {m : Nat} (h : (b && !(c || ((m : Int) == 0))) = true) : (0 : Int) ≤ 0 ∧ (0 : Int) < (m : Int) := by
  simp only [Bool.and_eq_true, Bool.not_eq_true', Bool.or_eq_false_iff, beq_eq_false_iff_ne] at h
  have := h.2.2
  omega
theorem cp_i1 {b c d : Bool} {m : Nat} (h : ((b && !(c || ((m : Int) == 0))) && d) = true) : (0 : Int) ≤ (m : Int) - 1 ∧ (m : Int) - 1 < (m : Int) := by
  have := cp_i0 (Bool.and_eq_true_iff.1 h).1
  omega
end Go.Proofs.YtlhjliigfecihaaDoor.Fl
