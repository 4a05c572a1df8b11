/- Plain laws of the statements of layer 11. -/
import Derived.Test.YtlhjliigfecihaaDoorTreeZ
import Derived.Test.YtlhjliigfecihaaDoorTreeS
import Derived.Test.YtlhjliigfecihaaDoorTreeG
import Derived.Test.YtlhjliigfecihaaDoorWeighP
set_option linter.unusedSimpArgs false
set_option linter.unusedVariables false
set_option linter.unnecessarySimpa false
namespace Go.Proofs.YtlhjliigfecihaaDoor.Fl
open Go En
variable {a : List Bool} {n v k q : Int} {l : List Tree} {x : Tree}
theorem valN_t : valN a q v k l = valT a (.node q v k l) := (val_node q).symm
/-! ### duality -/
theorem dual_in : (((valN a 3 0 0 [Tree.node x.kind x.v x.k x.l]) == (valN a x.kind x.v x.k x.l)) || (!((valN a 3 0 0 [Tree.node 3 0 0 [Tree.node x.kind x.v x.k x.l]]) == (valN a x.kind x.v x.k x.l)))) = false := by
  simp only [valN_t, node_eta, val_not]
  cases valT a x <;> rfl
theorem map_not_step {i : Nat} (hi : i < l.length) : ((l.take i).map notN) ++ [Tree.node 3 0 0 [Tree.node (l.getD i tree0).kind (l.getD i tree0).v (l.getD i tree0).k (l.getD i tree0).l]] = (l.take (i + 1)).map notN := by
  rw [node_eta, List.take_succ_eq_append_getElem hi, List.map_append, List.getD_eq_getElem?_getD, List.getElem?_eq_getElem hi]; rfl
theorem lens_not (h : lensL l) : ∀ i, lensL ((l.take i).map notN) := fun i => by
  have h2 : ∀ m : List Tree, lensL m → lensL (m.map notN) := fun m => by
    induction m with
    | nil => intro _; exact h_nil
    | cons y m ih =>
      intro hm
      simp only [lensL] at hm
      simp only [List.map_cons, lensL]
      refine ⟨?_, ih hm.2⟩
      unfold notN
      simp only [lensT, lensL, List.length_cons, List.length_nil]
      exact ⟨by decide, hm.1, trivial⟩
  exact h2 _ (lens_sub h fun x hx => List.mem_of_mem_take hx)
where h_nil : lensL [] := by simp only [lensL]
theorem dual_end {i : Nat} (hi : i = l.length) : (((!((valN a 4 0 0 ((l.take i).map notN)) == (valN a 5 0 0 l))) && (!((valN a 5 0 0 ((l.take i).map notN)) == (valN a 4 0 0 l)))) && (!((valN a 6 0 k l) == (valN a 6 0 (((l.length : Int) - k) + 1) ((l.take i).map notN))))) = true := by
  subst hi
  rw [List.take_length, valN_t, valN_t, valN_t, valN_t, valN_t, valN_t, dual_and, dual_or, dual_least]
  cases valT a (.node 5 0 0 l) <;> cases valT a (.node 4 0 0 l) <;> cases valT a (.node 6 0 k l) <;> rfl
/-! ### simplification -/
theorem simN_size : sizeT (simN q v k l) ≤ 1 + sizeL l := by
  unfold simN
  cases h : (chkN 65536 q v k l != 0) with
  | true => simp [tree0, size_node, sizeL]
  | false =>
    have := size_simp (.node q v k l)
    rw [size_node] at this
    exact this
theorem simN_l : (simN q v k l).l.length ≤ sizeL l ∧ sizeL (simN q v k l).l ≤ sizeL l := by
  have h := simN_size (q := q) (v := v) (k := k) (l := l)
  rw [size_t] at h
  have := len_size (simN q v k l).l
  omega
theorem simN_lens (h : sizeL l ≤ 1000000) : (simN q v k l).l.length ≤ 2932031007317 ∧ lensL (simN q v k l).l := by
  have := simN_l (q := q) (v := v) (k := k) (l := l)
  exact ⟨by omega, lensL_size (by omega)⟩
theorem simN_ok (h : chkN 65536 q v k l = 0) : simN q v k l = simpT (.node q v k l) := by unfold simN; rw [h]; rfl
theorem may_of (h : chkN 65536 q v k l = 0) : mayT 65536 (.node q v k l) = true := by rw [may_eq]; exact (chk_0 h).1
theorem chk_is {t : Tree} (h : mayT 65536 t = true) (hs : sizeT t ≤ 65536) : chkN 65536 t.kind t.v t.k t.l = 0 := by
  unfold chkN
  rw [may_at, h, ← size_t]
  have : decide ((sizeT t : Int) > 65536) = false := decide_eq_false (by omega)
  rw [this]; rfl
theorem pres_ok (h : chkN 65536 q v k l = 0) : chkN 65536 (simN q v k l).kind (simN q v k l).v (simN q v k l).k (simN q v k l).l = 0 ∧ valN a (simN q v k l).kind (simN q v k l).v (simN q v k l).k (simN q v k l).l = valN a q v k l := by
  rw [simN_ok h]
  have hm := may_of h
  have hs := size_simp (.node q v k l)
  rw [size_node] at hs
  exact ⟨chk_is (may_simp _ hm) (by have := (chk_0 h).2; omega), by rw [val_at, val_simp _ hm, valN_t]⟩
/-! ### the normal form, as the law asks it -/
def nfN (q k : Int) (l : List Tree) : Bool := nfH q k l && ((q == 2) || l.all nfT)
theorem nfN_t (x : Tree) : nfN x.kind x.k x.l = nfT x := by cases x with | node a b c m => rw [nfT, nfs_all]; rfl
theorem nf_2 (h : q = 2) : true = nfN q k l := by subst h; rfl
theorem nf_3 (h : q = 3) : ((((l.length : Int) == 1) && ((l.getD 0 tree0).kind != 3)) && (nfN (l.getD 0 tree0).kind (l.getD 0 tree0).k (l.getD 0 tree0).l)) = nfN q k l := by
  subst h
  rw [nfN_t]
  unfold nfN nfH
  rw [len_b1]
  match l with
  | [] => rfl
  | [x] => simp
  | x :: y :: r => simp
theorem nf_6no (h : q = 6) (h1 : ((decide (k ≤ 1)) || (decide (k ≥ (l.length : Int)))) = true) : false = nfN q k l := by
  subst h
  unfold nfN nfH
  simp only [Bool.or_eq_true, decide_eq_true_eq] at h1
  have : (decide (1 < k) && decide (k < (l.length : Int))) = false := by
    rw [Bool.and_eq_false_iff, decide_eq_false_iff_not, decide_eq_false_iff_not]; omega
  simp only [show ¬ ((6 : Int) = 2) by decide, show ¬ ((6 : Int) = 3) by decide, if_false, if_true, this, Bool.false_and]
theorem nf_45no (h : q = 4 ∨ q = 5) (h1 : (l.length : Int) < 2) : false = nfN q k l := by
  have h2 : decide (2 ≤ l.length) = false := decide_eq_false (by omega)
  unfold nfN nfH
  rw [if_neg (by omega), if_neg (by omega), if_neg (by omega), if_pos h, h2]; rfl
theorem nf_def (h2 : ¬ q = 2) (h3 : ¬ q = 3) (h6 : ¬ q = 6) (h4 : ¬ q = 4) (h5 : ¬ q = 5) : false = nfN q k l := by
  unfold nfN nfH
  rw [if_neg h2, if_neg h3, if_neg h6, if_neg (by omega)]; rfl
theorem nf_step (h : ((!(nfN x.kind x.k x.l)) || ((q != 6) && (x.kind == q))) = false) : nfT x = true ∧ (q = 6 ∨ x.kind ≠ q) := by
  rw [nfN_t] at h
  rw [Bool.or_eq_false_iff] at h
  refine ⟨by simpa using h.1, ?_⟩
  have h2 := h.2
  rw [Bool.and_eq_false_iff] at h2
  rcases h2 with h2 | h2
  · exact .inl (by simpa using h2)
  · exact .inr (by simpa using h2)
theorem at_mem {i : Nat} (hi : i < l.length) : l.getD i tree0 ∈ l := by rw [List.getD_eq_getElem?_getD, List.getElem?_eq_getElem hi]; exact List.getElem_mem _
theorem nf_bad {i : Nat} (hi : i < l.length) (hD : (q = 6 ∧ 1 < k ∧ k < (l.length : Int)) ∨ ((q = 4 ∨ q = 5) ∧ 2 ≤ l.length)) (h : ((!(nfN (l.getD i tree0).kind (l.getD i tree0).k (l.getD i tree0).l)) || ((q != 6) && ((l.getD i tree0).kind == q))) = true) : false = nfN q k l := by
  rw [nfN_t] at h
  have hm := at_mem hi
  refine (Bool.eq_false_iff.2 fun hn => ?_).symm
  unfold nfN at hn
  rw [Bool.and_eq_true] at hn
  obtain ⟨hn1, hn2⟩ := hn
  have hall : ∀ y ∈ l, nfT y = true := by
    rcases Bool.or_eq_true_iff.1 hn2 with h | h
    · have := eq_of_beq h; omega
    · exact List.all_eq_true.1 h
  rw [hall _ hm] at h
  simp only [Bool.not_true, Bool.false_or, Bool.and_eq_true, bne_iff_ne, beq_iff_eq] at h
  rcases hD with ⟨e, _⟩ | ⟨e, _⟩
  · exact h.1 e
  · unfold nfH at hn1
    rw [if_neg (by omega), if_neg (by omega), if_neg (by omega), if_pos e, Bool.and_eq_true, List.all_eq_true] at hn1
    have := hn1.2 _ hm
    simp at this
    exact this h.2
theorem nf_ok {i : Nat} (hi : i = l.length) (hD : (q = 6 ∧ 1 < k ∧ k < (l.length : Int)) ∨ ((q = 4 ∨ q = 5) ∧ 2 ≤ l.length)) (h : ∀ j, j < i → nfT (l.getD j tree0) = true ∧ (q = 6 ∨ (l.getD j tree0).kind ≠ q)) : true = nfN q k l := by
  subst hi
  have hall : l.all nfT = true := List.all_eq_true.2 fun x hx => by
    obtain ⟨j, hj, rfl⟩ := List.mem_iff_getElem.1 hx
    have := (h j hj).1
    rwa [List.getD_eq_getElem?_getD, List.getElem?_eq_getElem hj] at this
  unfold nfN
  rw [hall, Bool.or_true, Bool.and_true]
  unfold nfH
  rcases hD with ⟨e, h1, h2⟩ | ⟨e, h2⟩
  · rw [if_neg (by omega), if_neg (by omega), if_pos e]; simp [h1, h2]
  · rw [if_neg (by omega), if_neg (by omega), if_neg (by omega), if_pos e, decide_eq_true h2]
    refine (List.all_eq_true.2 fun x hx => ?_).symm
    obtain ⟨j, hj, rfl⟩ := List.mem_iff_getElem.1 hx
    have := (h j hj).2
    rw [List.getD_eq_getElem?_getD, List.getElem?_eq_getElem hj] at this
    simp only [Option.getD_some] at this
    rcases this with h6 | h6
    · omega
    · simpa using h6
theorem norm_ok (h : chkN 65536 q v k l = 0) : ((((simN q v k l).kind == 1) && (((simN q v k l).l.length : Int) == 0)) || (nfN (simN q v k l).kind (simN q v k l).k (simN q v k l).l)) = true := by
  rw [simN_ok h, nfN_t]
  rcases nf_simp _ (may_of h) with ⟨h1, h2⟩ | h1
  · rw [h1, h2]; rfl
  · rw [h1, Bool.or_true]
/-! ### a constant for a variable -/
theorem put_yes {n c : Int} (h : ((q == 2) && (v == n)) = true) : putT n c (.node q v k l) = cst c := by
  rw [Bool.and_eq_true, beq_iff_eq, beq_iff_eq] at h
  rw [put_eq, if_pos h]
theorem put_no {n c : Int} {i : Nat} (h : ((q == 2) && (v == n)) = false) (hi : i = l.length) : putT n c (.node q v k l) = .node q v k ((l.take i).map (putT n c)) := by
  have : ¬ (q = 2 ∧ v = n) := fun e => by rw [Bool.and_eq_false_iff] at h; rcases h with h | h <;> simp at h <;> omega
  rw [put_eq, if_neg this, hi, List.take_length]
theorem put_step {n c : Int} {i : Nat} (hi : i < l.length) : ((l.take i).map (putT n c)) ++ [putT n c (l.getD i tree0)] = (l.take (i + 1)).map (putT n c) := by
  rw [List.take_succ_eq_append_getElem hi, List.map_append, List.getD_eq_getElem?_getD, List.getElem?_eq_getElem hi]; rfl
theorem put_size {n c : Int} : sizeT (putT n c (.node q v k l)) ≤ 1 + sizeL l := by have := size_put (n := n) (c := c) (.node q v k l); rwa [size_node] at this
theorem put_l {n c : Int} : (putT n c (.node q v k l)).l.length ≤ sizeL l ∧ sizeL (putT n c (.node q v k l)).l ≤ sizeL l := by
  have h := put_size (q := q) (v := v) (k := k) (l := l) (n := n) (c := c)
  rw [size_t] at h
  have := len_size (putT n c (.node q v k l)).l
  omega
theorem same_self (t : Tree) : sameB t t = true := sameB_iff.2 rfl
theorem sub_pre {n : Int} {b : Bool} (h : ((((!(b && decide ((a.length : Int) ≤ 1000))) || ((chkN 65536 q v k l) != 0)) || (decide (n < 1))) || (decide (n ≥ (a.length : Int)))) = false) : chkN 65536 q v k l = 0 ∧ 1 ≤ n ∧ n < a.length ∧ a.length ≤ 1000 := by
  simp only [Bool.or_eq_false_iff, decide_eq_false_iff_not, bne_eq_false_iff_eq, Bool.not_eq_false', Bool.and_eq_true, decide_eq_true_eq] at h
  omega
/-- the tree with the constant put in, simplified, and its variables -/
abbrev sbP (q v k n : Int) (is : Bool) (l : List Tree) : Tree := putT n (bif is then 1 else 0) (.node q v k l)
abbrev sbY (q v k n : Int) (is : Bool) (l : List Tree) : Tree := simN (sbP q v k n is l).kind (sbP q v k n is l).v (sbP q v k n is l).k (sbP q v k n is l).l
abbrev sbV (q v k n : Int) (is : Bool) (l : List Tree) : List Int := setI (varsT (.node (sbY q v k n is l).kind (sbY q v k n is l).v (sbY q v k n is l).k (sbY q v k n is l).l))
variable {m : Int} {is : Bool}
theorem sub_chk (h : chkN 65536 q v k l = 0) : sbY q v k m is l = simpT (sbP q v k m is l) ∧ mayT 65536 (sbP q v k m is l) = true := by
  have hc : (bif is then (1 : Int) else 0) = 0 ∨ (bif is then (1 : Int) else 0) = 1 := by cases is <;> simp
  have hm := may_put (n := m) hc _ (may_of h)
  have hs := put_size (q := q) (v := v) (k := k) (l := l) (n := m) (c := bif is then 1 else 0)
  have hc2 := chk_is hm (by have := (chk_0 h).2; omega)
  exact ⟨by show simN _ _ _ _ = _; rw [simN_ok hc2, node_eta], hm⟩
theorem sub_no {i : Nat} (h : chkN 65536 q v k l = 0) (hi : (i : Int) < ((sbV q v k m is l).length : Int)) (e : (sbV q v k m is l).getD i 0 = m) : False := by
  obtain ⟨h1, hm⟩ := sub_chk (m := m) (is := is) h
  have h2 : (sbV q v k m is l).getD i 0 ∈ sbV q v k m is l := by rw [List.getD_eq_getElem?_getD, List.getElem?_eq_getElem (by omega)]; exact List.getElem_mem _
  rw [e, setI_mem, node_eta, h1] at h2
  exact vars_put _ (vars_simp _ hm h2) rfl
theorem sub_end (h : chkN 65536 q v k l = 0) (h1 : 1 ≤ m) (h2 : m < a.length) : ((valN a (sbY q v k m is l).kind (sbY q v k m is l).v (sbY q v k m is l).k (sbY q v k m is l).l) == (valN (([] ++ a).set m.toNat is) q v k l)) = true := by
  obtain ⟨h3, hm⟩ := sub_chk (m := m) (is := is) h
  rw [beq_iff_eq, val_at, h3, val_simp _ hm, List.nil_append, valN_t]
  have := val_put (is := is) h1 h2 (.node q v k l)
  rw [show sbP q v k m is l = putT m (if is = true then 1 else 0) (.node q v k l) by cases is <;> rfl]
  exact this
theorem vars_len (t : Tree) : (varsT t).length ≤ sizeT t := by rw [← vOf_all]; exact vOf_len _
theorem sub_ok (h : sizeL l ≤ 1000000) : (sbV q v k m is l).length ≤ 1000001 ∧ ((sbP q v k m is l).l.length ≤ 2932031007317 ∧ lensL (sbP q v k m is l).l ∧ sizeL (sbP q v k m is l).l ≤ 1000000) ∧ sizeT (.node (sbY q v k m is l).kind (sbY q v k m is l).v (sbY q v k m is l).k (sbY q v k m is l).l) ≤ 1000000000000 ∧ (sbY q v k m is l).l.length ≤ 2932031007317 ∧ lensL (sbY q v k m is l).l := by
  have h1 : (sbP q v k m is l).l.length ≤ sizeL l ∧ sizeL (sbP q v k m is l).l ≤ sizeL l := put_l
  have hs : sizeT (sbY q v k m is l) ≤ 1 + sizeL (sbP q v k m is l).l := simN_size (q := (sbP q v k m is l).kind) (v := (sbP q v k m is l).v) (k := (sbP q v k m is l).k) (l := (sbP q v k m is l).l)
  have hp : (sbP q v k m is l).l.length ≤ 2932031007317 ∧ lensL (sbP q v k m is l).l ∧ sizeL (sbP q v k m is l).l ≤ 1000000 := ⟨by omega, lensL_size (by omega), by omega⟩
  have hv := setI_len (varsT (.node (sbY q v k m is l).kind (sbY q v k m is l).v (sbY q v k m is l).k (sbY q v k m is l).l))
  have hv2 := vars_len (.node (sbY q v k m is l).kind (sbY q v k m is l).v (sbY q v k m is l).k (sbY q v k m is l).l)
  have hv3 : (sbV q v k m is l).length ≤ sizeT (.node (sbY q v k m is l).kind (sbY q v k m is l).v (sbY q v k m is l).k (sbY q v k m is l).l) := Nat.le_trans hv hv2
  rw [node_eta] at hv3
  exact ⟨by omega, hp, by rw [node_eta]; omega, simN_lens hp.2.2⟩
end Go.Proofs.YtlhjliigfecihaaDoor.Fl
