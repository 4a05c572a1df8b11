/- What cnf.Put writes. Plain lemmas; no condition beyond their own hypotheses. -/
import Derived.Test.YtbpbndlgfiammaaGreatDoorCnfP
import Derived.Test.YtbpbndlgfiammaaGreatDoorWordsP
import Derived.Lib.ItoaLen
import Derived.Lib.UnsafeStr
set_option linter.unusedSimpArgs false
set_option linter.unusedVariables false
namespace Go.Proofs.YtbpbndlgfiammaaGreatDoor.Cn

def itoaI (n : Int) : List Int := (Go.Lib.itoa n).map fun b => (b.toNat : Int)
def litsB (l : List Int) : List Int := l.flatMap fun x => itoaI x ++ [32]
def clsB (L : List (List Int)) : List Int := L.flatMap fun l => litsB l ++ [48, 10]
def putB (N : Int) (L : List (List Int)) : List Int := [112, 32, 99, 110, 102, 32] ++ litsB [N] ++ itoaI L.length ++ [10] ++ clsB L
/-- how many literals -/
def sizeL (L : List (List Int)) : Nat := (L.map List.length).sum
def bytesC (xs : List Int) : List Value := xs.map (Value.int .u8)
theorem bytesC_app (xs ys : List Int) : bytesC (xs ++ ys) = bytesC xs ++ bytesC ys := List.map_append
theorem bytesC_len (xs : List Int) : (bytesC xs).length = xs.length := List.length_map ..
theorem bytesC_itoa (n : Int) : Go.Lib.byteCells (Go.Lib.itoa n) = bytesC (itoaI n) := by simp [Go.Lib.byteCells, bytesC, itoaI, Function.comp_def]
theorem itoa_len {n : Int} (h0 : -9223372036854775808 ≤ n) (h1 : n ≤ 9223372036854775807) : (itoaI n).length ≤ 21 := by
  rw [itoaI, List.length_map]; exact Go.Lib.itoa_length_le n h0 h1
theorem lits_snoc (l : List Int) (x : Int) : litsB (l ++ [x]) = litsB l ++ itoaI x ++ [32] := by simp [litsB, List.append_assoc]
theorem lits_take {l : List Int} {k : Nat} (hk : k < l.length) : litsB (l.take (k + 1)) = litsB (l.take k) ++ itoaI (l.getD k 0) ++ [32] := by
  rw [List.take_succ_eq_append_getElem hk, lits_snoc]
  simp [List.getD, List.getElem?_eq_getElem hk]
theorem lits_len {l : List Int} (h : ∀ x ∈ l, -65536 ≤ x ∧ x ≤ 65536) : (litsB l).length ≤ 22 * l.length := by
  induction l with
  | nil => simp [litsB]
  | cons x l ih =>
    have h1 := h x (by simp)
    have h2 := itoa_len (n := x) (by omega) (by omega)
    have h3 := ih fun y hy => h y (by simp [hy])
    have : litsB (x :: l) = itoaI x ++ [32] ++ litsB l := by simp [litsB]
    rw [this]
    simp only [List.length_append, List.length_cons, List.length_nil]
    omega
theorem cls_take {L : List (List Int)} {k : Nat} (hk : k < L.length) : clsB (L.take (k + 1)) = clsB (L.take k) ++ litsB (L.getD k []) ++ [48, 10] := by
  rw [List.take_succ_eq_append_getElem hk, show L.getD k [] = L[k] by simp [List.getD, List.getElem?_eq_getElem hk]]
  unfold clsB
  rw [List.flatMap_append, List.append_assoc]
  simp only [List.flatMap_cons, List.flatMap_nil, List.append_nil]
theorem size_take {L : List (List Int)} {k : Nat} (hk : k < L.length) : sizeL (L.take (k + 1)) = sizeL (L.take k) + (L.getD k []).length := by
  rw [List.take_succ_eq_append_getElem hk, show L.getD k [] = L[k] by simp [List.getD, List.getElem?_eq_getElem hk]]
  unfold sizeL
  rw [List.map_append, List.sum_append]
  simp only [List.map_cons, List.map_nil, List.sum_cons, List.sum_nil, Nat.add_zero]
theorem size_le {L : List (List Int)} {k : Nat} : sizeL (L.take k) ≤ sizeL L := by
  have h : sizeL L = sizeL (L.take k) + sizeL (L.drop k) := by
    conv => lhs; rw [← List.take_append_drop k L]
    unfold sizeL
    rw [List.map_append, List.sum_append]
  omega
theorem cls_len {L : List (List Int)} (h : ∀ l ∈ L, ∀ x ∈ l, -65536 ≤ x ∧ x ≤ 65536) : (clsB L).length ≤ 22 * sizeL L + 2 * L.length := by
  induction L with
  | nil => simp [clsB]
  | cons l L ih =>
    have h1 := lits_len (h l (by simp))
    have h2 := ih fun m hm => h m (by simp [hm])
    have e1 : clsB (l :: L) = litsB l ++ [48, 10] ++ clsB L := by simp [clsB]
    have e2 : sizeL (l :: L) = l.length + sizeL L := by simp [sizeL]
    rw [e1, e2]
    simp only [List.length_append, List.length_cons, List.length_nil]
    omega
theorem chk_lit {N : Int} {L : List (List Int)} (h : chkV N L = 0) : 0 ≤ N ∧ N ≤ 65536 ∧ L.length ≤ 65536 ∧ ∀ l ∈ L, ∀ x ∈ l, x ≠ 0 ∧ -N ≤ x ∧ x ≤ N := by
  obtain ⟨⟨h1, h2⟩, h3, h4⟩ := chkV_0.1 h
  exact ⟨h1, h2, h4, fun l hl x hx => mayP_iff.1 (h3 l hl x hx)⟩
end Go.Proofs.YtbpbndlgfiammaaGreatDoor.Cn
