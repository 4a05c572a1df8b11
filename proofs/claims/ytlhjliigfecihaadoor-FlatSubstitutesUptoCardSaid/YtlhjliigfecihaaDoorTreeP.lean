/- Formulas as trees: size, value, form. Plain definitions and lemmas; no program in sight. -/
import Derived.Test.YtlhjliigfecihaaDoorEngA
set_option linter.unusedSimpArgs false
set_option linter.unusedVariables false
set_option linter.unnecessarySimpa false
namespace Go.Proofs.YtlhjliigfecihaaDoor.Fl
open Go En
mutual
def sizeT : Tree → Nat
  | .node _ _ _ l => 1 + sizeL l
def sizeL : List Tree → Nat
  | [] => 0
  | t :: l => sizeT t + sizeL l
end
theorem size_pos (t : Tree) : 1 ≤ sizeT t := by cases t; simp only [sizeT]; omega
theorem size_mem : ∀ {l : List Tree} {t : Tree}, t ∈ l → sizeT t ≤ sizeL l
  | [], _, h => by cases h
  | x :: l, t, h => by
    simp only [sizeL]
    rcases List.mem_cons.1 h with h | h
    · subst h; omega
    · have := size_mem h; omega
theorem size_at {t : Tree} {i : Nat} (h : i < t.l.length) : sizeT (t.l.getD i tree0) < sizeT t := by
  cases t with
  | node a b c l =>
    have h1 : l.getD i tree0 ∈ l := by rw [List.getD_eq_getElem?_getD, List.getElem?_eq_getElem (show i < l.length from h)]; exact List.getElem_mem _
    have := size_mem h1
    simp only [sizeT, Tree.l] at *
    omega
/-- the truth of a tree -/
def valB (a : List Bool) (kind v k : Int) (bs : List Bool) : Bool :=
  if kind = 1 then v == 1 else if kind = 2 then (decide (1 ≤ v) && decide (v < a.length)) && a.getD v.toNat false else
  if kind = 3 then (bs.countP id : Int) == 0 else if kind = 4 then (bs.countP id : Int) == bs.length else if kind = 5 then decide ((bs.countP id : Int) > 0) else if kind = 6 then decide ((bs.countP id : Int) ≥ k) else false
mutual
def valT (a : List Bool) : Tree → Bool
  | .node kind v k l => valB a kind v k (valsL a l)
def valsL (a : List Bool) : List Tree → List Bool
  | [] => []
  | t :: l => valT a t :: valsL a l
end
theorem vals_map (a : List Bool) : ∀ l : List Tree, valsL a l = l.map (valT a)
  | [] => rfl
  | t :: l => by rw [valsL, vals_map a l]; rfl
theorem val_eq (a : List Bool) (t : Tree) : valT a t = valB a t.kind t.v t.k (t.l.map (valT a)) := by
  cases t with
  | node kind v k l => rw [valT, vals_map]; rfl
/-- the truth by the parts -/
def valN (a : List Bool) (kind v k : Int) (l : List Tree) : Bool := valB a kind v k (l.map (valT a))
theorem val_at (a : List Bool) (t : Tree) : valN a t.kind t.v t.k t.l = valT a t := (val_eq a t).symm
theorem size_sub {l : List Tree} {i : Nat} (h : i < l.length) : sizeL (l.getD i tree0).l < sizeL l := by
  have h1 : l.getD i tree0 ∈ l := by rw [List.getD_eq_getElem?_getD, List.getElem?_eq_getElem h]; exact List.getElem_mem _
  have h2 := size_mem h1
  revert h2
  cases l.getD i tree0 with
  | node a b c m => simp only [sizeT, Tree.l]; omega
/-- how many of the first k subtrees are true -/
def cntV (a : List Bool) (l : List Tree) (k : Nat) : Nat := (l.take k).countP (valT a)
theorem cnt_step {a : List Bool} {l : List Tree} {k : Nat} (h : k < l.length) : cntV a l (k + 1) = cntV a l k + (if valT a (l.getD k tree0) = true then 1 else 0) := by
  unfold cntV
  rw [List.take_succ_eq_append_getElem h, List.countP_append, List.getD_eq_getElem?_getD, List.getElem?_eq_getElem h]
  simp [List.countP_cons]
theorem cnt_le (a : List Bool) (l : List Tree) (k : Nat) : cntV a l k ≤ k := by
  unfold cntV
  exact Nat.le_trans List.countP_le_length (by rw [List.length_take]; omega)
theorem cnt_all (a : List Bool) (l : List Tree) : cntV a l l.length = (l.map (valT a)).countP id := by
  unfold cntV
  rw [List.take_length, List.countP_map]; rfl
end Go.Proofs.YtlhjliigfecihaaDoor.Fl
