/- The reference's Text, Put, words, number, numbers and Get answer as the program's do. Plain lemmas; no condition beyond their own hypotheses. -/
import Derived.Test.YtbpbndlgfiammaaGreatDoorLaw14P
import Derived.Test.YtbpbndlgfiammaaGreatDoorEngS
set_option linter.unusedSimpArgs false
set_option linter.unusedVariables false
set_option linter.unnecessarySimpa false
namespace Go.Proofs.YtbpbndlgfiammaaGreatDoor.Cn
open Go Go.RowKit En
/-! ### strings as lists of bytes -/
theorem str_size (a : List Int) : (strOfNums a).size = a.length := by
  show (strOfNums a).data.size = _
  simp [strOfNums]
theorem str_app (a b : List Int) : strOfNums a ++ strOfNums b = strOfNums (a ++ b) := by
  apply ByteArray.ext
  rw [ByteArray.data_append]
  simp [strOfNums]
theorem bytesI_str {a : List Int} (h : isBytes a) : bytesI (strOfNums a) = a := by
  unfold bytesI
  rw [strOfNums_data, List.map_map]
  conv => rhs; rw [← List.map_id a]
  refine List.map_congr_left fun x hx => ?_
  have := h x hx
  show (((UInt8.ofNat x.toNat).toNat : Nat) : Int) = x
  rw [UInt8.toNat_ofNat']
  omega
theorem bytesI_drop (z : ByteArray) : bytesI (z.extract 1 z.size) = (bytesI z).drop 1 := by
  unfold bytesI
  have : z.size = z.data.toList.length := by rw [Array.length_toList]; rfl
  rw [ByteArray.data_extract, Array.toList_extract, this]
  rw [List.extract_eq_take_drop, List.take_of_length_le (by rw [List.length_drop]; omega), List.map_drop]
/-! ### decimal text -/
def txM (n : Int) : Nat := if n < 0 then n.natAbs + 1 else n.natAbs
theorem txM_neg {n : Int} (h : n < 0) : txM (0 - n) < txM n := by unfold txM; rw [if_pos h, if_neg (by omega)]; omega
theorem tdiv10 {n : Int} (h0 : 0 ≤ n) : n.tdiv 10 = n / 10 ∧ n.tmod 10 = n % 10 := ⟨Int.tdiv_eq_ediv_of_nonneg h0, Int.tmod_eq_emod_of_nonneg h0⟩
theorem txM_div {n : Int} (h0 : ¬ n < 0) (h : ¬ n < 10) : txM (n.tdiv 10) < txM n := by
  rw [(tdiv10 (by omega)).1]
  unfold txM
  rw [if_neg (by omega), if_neg h0]
  omega
theorem txt_neg {n : Int} (h : n < 0) : (⟨#[45]⟩ : ByteArray) ++ strOfNums (itoaI (0 - n)) = strOfNums (itoaI n) := by
  rw [itoa_neg h, itoa_pos (by omega), show (⟨#[45]⟩ : ByteArray) = strOfNums [45] from rfl, str_app, show (0 - n).toNat = n.natAbs by omega]; rfl
theorem txt_one {n : Int} (h0 : ¬ n < 0) (h : n < 10) : strOfNums [48 + n.tmod 10] = strOfNums (itoaI n) := by
  rw [itoa_pos (by omega), dgs_lo (by omega), (tdiv10 (by omega)).2, show n % 10 = (n.toNat : Int) by omega]
theorem txt_more {n : Int} (h0 : ¬ n < 0) (h : ¬ n < 10) : strOfNums (itoaI (n.tdiv 10)) ++ strOfNums [48 + n.tmod 10] = strOfNums (itoaI n) := by
  rw [str_app, itoa_pos (n := n) (by omega), dgs_hi (by omega), (tdiv10 (by omega)).1, (tdiv10 (by omega)).2, itoa_pos (by omega), show (n / 10).toNat = n.toNat / 10 by omega, show n % 10 = ((n.toNat % 10 : Nat) : Int) by omega]
theorem itoa_bytes (n : Int) : isBytes (itoaI n) := fun x hx => by rcases itoa_mem x hx with h | h <;> omega
theorem txt_len {n : Int} (h0 : -1000000000 ≤ n) (h1 : n ≤ 1000000000) : (strOfNums (itoaI n)).size ≤ 21 := by rw [str_size]; exact itoa_len (by omega) (by omega)
/-! ### Put -/
/-! ### words -/
/-! rounds of the loop -/
section
variable {b : List Int} {i : Nat}
end
end Go.Proofs.YtbpbndlgfiammaaGreatDoor.Cn
namespace Go.Proofs.YtbpbndlgfiammaaGreatDoor.Cn
open Go Go.RowKit En
/-! ### number -/
/-- the same number as the program's -/
theorem dval_ge : ∀ (l : List Int) (n : Int), 0 ≤ n → (∀ x ∈ l, 48 ≤ x) → n ≤ l.foldl (fun n c => 10 * n + (c - 48)) n
  | [], n, _, _ => Int.le_refl _
  | x :: l, n, h0, h => by
    have hx := h x (by simp)
    have := dval_ge l (10 * n + (x - 48)) (by omega) (fun y hy => h y (by simp [hy]))
    rw [List.foldl_cons]
    omega
theorem dval_pos {t : List Int} (hl : 1 ≤ t.length) (h : ∀ x ∈ t, isDg x = true) (h0 : t.getD 0 0 ≠ 48) : 0 < dval t := by
  match t, hl with
  | x :: l, _ =>
    have hx := dig_f (h x (by simp))
    have h1 : x ≠ 48 := h0
    have := dval_ge l (10 * 0 + (x - 48)) (by omega) (fun y hy => (dig_f (h y (by simp [hy]))).1)
    unfold dval
    rw [List.foldl_cons]
    omega
theorem numM_cons (x : Int) (t : List Int) : numM (x :: t) = (x == 45) := by
  unfold numM
  have h1 : decide (((x :: t).length : Int) > 0) = true := decide_eq_true (by simp)
  rw [h1]; rfl
/-! ### numbers -/
theorem getD_memS {l : List ByteArray} {i : Nat} {d : ByteArray} (h : i < l.length) : l.getD i d ∈ l := by rw [List.getD_eq_getElem?_getD, List.getElem?_eq_getElem h]; exact List.getElem_mem _
/-! ### what the walks ask -/
theorem pos_of {n : Nat} {b : Bool} (h : (decide ((n : Int) > 0) && b) = true) : 0 < n := by
  have := of_decide_eq_true (Bool.and_eq_true_iff.1 h).1
  omega
theorem ext_size {s : ByteArray} (h : 0 < s.size) : (s.extract 1 s.size).size = s.size - 1 := by simp [ByteArray.size_extract]
end Go.Proofs.YtbpbndlgfiammaaGreatDoor.Cn
namespace Go.Proofs.YtbpbndlgfiammaaGreatDoor.Cn
open Go Go.RowKit En
variable {W : List (List Int)}
/-! ### the numbers -/
/-! ### the clauses -/
section
variable {Z : List Int} {i : Nat}
end
end Go.Proofs.YtbpbndlgfiammaaGreatDoor.Cn
