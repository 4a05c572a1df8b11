/- Plain laws of the statements of layer 11. -/
import Derived.Test.YtlhjliigfecihaaDoorTreeZ
import Derived.Test.YtlhjliigfecihaaDoorTreeS
import Derived.Test.YtlhjliigfecihaaDoorTreeG
import Derived.Test.YtlhjliigfecihaaDoorWeighP
set_option linter.unusedSimpArgs false
set_option linter.unusedVariables false
set_option linter.unnecessarySimpa false
namespace Go.Proofs.YtlhjliigfecihaaDoor.Fl
open Go En
variable {a : List Bool} {n v k q : Int} {l : List Tree} {x : Tree}
theorem valN_t : valN a q v k l = valT a (.node q v k l) := (val_node q).symm
/-! ### duality -/
theorem dual_in : (((valN a 3 0 0 [Tree.node x.kind x.v x.k x.l]) == (valN a x.kind x.v x.k x.l)) || (!((valN a 3 0 0 [Tree.node 3 0 0 [Tree.node x.kind x.v x.k x.l]]) == (valN a x.kind x.v x.k x.l)))) = false := by
  simp only [valN_t, node_eta, val_not]
  cases valT a x <;> rfl
theorem map_not_step {i : Nat} (hi : i < l.length) : ((l.take i).map notN) ++ [Tree.node 3 0 0 [Tree.node (l.getD i tree0).kind (l.getD i tree0).v (l.getD i tree0).k (l.getD i tree0).l]] = (l.take (i + 1)).map notN := by
  rw [node_eta, List.take_succ_eq_append_getElem hi, List.map_append, List.getD_eq_getElem?_getD, List.getElem?_eq_getElem hi]; rfl
theorem lens_not (h : lensL l) : ∀ i, lensL ((l.take i).map notN) := fun i => by
  have h2 : ∀ m : List Tree, lensL m → lensL (m.map notN) := fun m => by
    induction m with
    | nil => intro _; exact h_nil
    | cons y m ih =>
      intro hm
      simp only [lensL] at hm
      simp only [List.map_cons, lensL]
      refine ⟨?_, ih hm.2⟩
      unfold notN
      simp only [lensT, lensL, List.length_cons, List.length_nil]
      exact ⟨by decide, hm.1, trivial⟩
  exact h2 _ (lens_sub h fun x hx => List.mem_of_mem_take hx)
where h_nil : lensL [] := by simp only [lensL]
theorem dual_end {i : Nat} (hi : i = l.length) : (((!((valN a 4 0 0 ((l.take i).map notN)) == (valN a 5 0 0 l))) && (!((valN a 5 0 0 ((l.take i).map notN)) == (valN a 4 0 0 l)))) && (!((valN a 6 0 k l) == (valN a 6 0 (((l.length : Int) - k) + 1) ((l.take i).map notN))))) = true := by
  subst hi
  rw [List.take_length, valN_t, valN_t, valN_t, valN_t, valN_t, valN_t, dual_and, dual_or, dual_least]
  cases valT a (.node 5 0 0 l) <;> cases valT a (.node 4 0 0 l) <;> cases valT a (.node 6 0 k l) <;> rfl
/-! ### simplification -/
theorem simN_size : sizeT (simN q v k l) ≤ 1 + sizeL l := by
  unfold simN
  cases h : (chkN 65536 q v k l != 0) with
  | true => simp [tree0, size_node, sizeL]
  | false =>
    have := size_simp (.node q v k l)
    rw [size_node] at this
    exact this
theorem simN_l : (simN q v k l).l.length ≤ sizeL l ∧ sizeL (simN q v k l).l ≤ sizeL l := by
  have h := simN_size (q := q) (v := v) (k := k) (l := l)
  rw [size_t] at h
  have := len_size (simN q v k l).l
  omega
theorem simN_lens (h : sizeL l ≤ 1000000) : (simN q v k l).l.length ≤ 2932031007317 ∧ lensL (simN q v k l).l := by
  have := simN_l (q := q) (v := v) (k := k) (l := l)
  exact ⟨by omega, lensL_size (by omega)⟩
theorem simN_ok (h : chkN 65536 q v k l = 0) : simN q v k l = simpT (.node q v k l) := by unfold simN; rw [h]; rfl
theorem may_of (h : chkN 65536 q v k l = 0) : mayT 65536 (.node q v k l) = true := by rw [may_eq]; exact (chk_0 h).1
theorem chk_is {t : Tree} (h : mayT 65536 t = true) (hs : sizeT t ≤ 65536) : chkN 65536 t.kind t.v t.k t.l = 0 := by
  unfold chkN
  rw [may_at, h, ← size_t]
  have : decide ((sizeT t : Int) > 65536) = false := decide_eq_false (by omega)
  rw [this]; rfl
theorem pres_ok (h : chkN 65536 q v k l = 0) : chkN 65536 (simN q v k l).kind (simN q v k l).v (simN q v k l).k (simN q v k l).l = 0 ∧ valN a (simN q v k l).kind (simN q v k l).v (simN q v k l).k (simN q v k l).l = valN a q v k l := by
  rw [simN_ok h]
  have hm := may_of h
  have hs := size_simp (.node q v k l)
  rw [size_node] at hs
  exact ⟨chk_is (may_simp _ hm) (by have := (chk_0 h).2; omega), by rw [val_at, val_simp _ hm, valN_t]⟩
theorem same_self (t : Tree) : sameB t t = true := sameB_iff.2 rfl
end Go.Proofs.YtlhjliigfecihaaDoor.Fl
