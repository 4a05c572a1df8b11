/- What cnf.number and cnf.Get return. Plain lemmas; no condition beyond their own hypotheses. -/
import Derived.Test.YtbpbndlgfiammaaGreatDoorPutP
import Derived.Laws.BytesArg
import Derived.Lib.Bytes
set_option linter.unusedSimpArgs false
set_option linter.unusedVariables false
namespace Go.Proofs.YtbpbndlgfiammaaGreatDoor.Cn

def dval (l : List Int) : Int := l.foldl (fun n c => 10 * n + (c - 48)) 0
def isDg (c : Int) : Bool := !(decide (c < 48) || decide (c > 57))
def numM (w : List Int) : Bool := decide ((w.length : Int) > 0) && ((w.getD 0 0) == 45)
def numD (w : List Int) : List Int := bif numM w then (w.take w.length).drop 1 else w
def numBad (w : List Int) : Bool := ((((numD w).length : Int) == 0) || (decide (((numD w).length : Int) > 10))) || ((((numD w).getD 0 0) == 48) && ((numM w) || (decide (((numD w).length : Int) > 1))))
theorem bad_of {w v : List Int} (h : numD w = v) : numBad w = (((((v.length : Int) == 0) || (decide ((v.length : Int) > 10))) || (((v.getD 0 0) == 48) && ((numM w) || (decide ((v.length : Int) > 1)))))) := by unfold numBad; rw [h]
theorem numD_t {w : List Int} (h : numM w = true) : numD w = (w.take w.length).drop 1 := by unfold numD; rw [h]; rfl
theorem numD_f {w : List Int} (h : numM w = false) : numD w = w := by unfold numD; rw [h]; rfl
theorem dig_f {c : Int} (h : isDg c = true) : 48 ≤ c ∧ c ≤ 57 := by
  simp only [isDg, Bool.not_eq_true', Bool.or_eq_false_iff, decide_eq_false_iff_not] at h
  omega
def numOk (w : List Int) : Bool := !numBad w && (numD w).all isDg
def numN (w : List Int) : Int := bif numOk w then (bif numM w then -(dval (numD w)) else dval (numD w)) else 0
theorem dval_snoc (l : List Int) (c : Int) : dval (l ++ [c]) = 10 * dval l + (c - 48) := by simp [dval]
theorem dval_take {l : List Int} {k : Nat} (hk : k < l.length) : dval (l.take (k + 1)) = 10 * dval (l.take k) + (l.getD k 0 - 48) := by
  rw [List.take_succ_eq_append_getElem hk, dval_snoc]
  simp [List.getD, List.getElem?_eq_getElem hk]
theorem dval_bd {l : List Int} (h : ∀ j, j < l.length → isDg (l.getD j 0) = true) : ∀ k, k ≤ l.length → 0 ≤ dval (l.take k) ∧ dval (l.take k) < 10 ^ k
  | 0, _ => by simp [dval]
  | k + 1, hk => by
    obtain ⟨h1, h2⟩ := dval_bd h k (by omega)
    have h3 := h k (by omega)
    rw [dval_take (by omega)]
    simp only [isDg, Bool.not_eq_true', Bool.or_eq_false_iff, decide_eq_false_iff_not] at h3
    have : (10 : Int) ^ (k + 1) = 10 ^ k * 10 := Int.pow_succ ..
    omega
theorem dval_lt {l : List Int} {k : Nat} (h : ∀ j, j < k → isDg (l.getD j 0) = true) (hk : k ≤ l.length) (h10 : l.length ≤ 10) : 0 ≤ dval (l.take k) ∧ dval (l.take k) < 10000000000 := by
  obtain ⟨h1, h2⟩ := dval_bd (l := l.take k) (fun j hj => by
    rw [List.length_take] at hj
    have := h j (by omega)
    simpa [List.getD, List.getElem?_take, show j < k by omega] using this) k (by rw [List.length_take]; omega)
  rw [List.take_take, Nat.min_self] at h1 h2
  refine ⟨h1, Int.lt_of_lt_of_le h2 ?_⟩
  have h4 : ((10 ^ k : Nat) : Int) ≤ ((10 ^ 10 : Nat) : Int) := Int.ofNat_le.2 (Nat.pow_le_pow_right (by omega) (by omega))
  have h5 : ((10 ^ k : Nat) : Int) = (10 : Int) ^ k := by simp
  rw [h5] at h4
  have h3 : ((10 ^ 10 : Nat) : Int) = 10000000000 := by decide
  omega
theorem all_dg {l : List Int} (h : ∀ j, j < l.length → isDg (l.getD j 0) = true) : l.all isDg = true := by
  rw [List.all_eq_true]
  intro x hx
  obtain ⟨j, hj, rfl⟩ := List.getElem_of_mem hx
  have := h j hj
  simpa [List.getD, List.getElem?_eq_getElem hj] using this
theorem not_dg {l : List Int} {k : Nat} (hk : k < l.length) (h : isDg (l.getD k 0) = false) : l.all isDg = false := by
  rw [List.all_eq_false]
  exact ⟨l[k], List.getElem_mem hk, by simpa [List.getD, List.getElem?_eq_getElem hk] using h⟩
theorem dig_of {c : Int} (h : (decide (c < 48) || decide (c > 57)) = false) : isDg c = true := by unfold isDg; rw [h]; rfl
theorem dig_no {c : Int} (h : (decide (c < 48) || decide (c > 57)) = true) : isDg c = false := by unfold isDg; rw [h]; rfl
theorem str_inj {w v : List Int} (hw : isBytes w) (hv : isBytes v) : ((strOfNums w).toList == (strOfNums v).toList) = (w == v) := by
  have hmap : ∀ {w v : List Int}, isBytes w → isBytes v → (w.map fun n => UInt8.ofNat n.toNat) = (v.map fun n => UInt8.ofNat n.toNat) → w = v := by
    intro w
    induction w with
    | nil => intro v _ _ h; cases v <;> simp_all
    | cons x w ih =>
      intro v hw hv h
      cases v with
      | nil => simp at h
      | cons y v =>
        simp only [List.map_cons, List.cons.injEq] at h
        have h1 := hw x (by simp)
        have h2 := hv y (by simp)
        have h3 := congrArg UInt8.toNat h.1
        rw [UInt8.toNat_ofNat', UInt8.toNat_ofNat'] at h3
        rw [show x = y by omega, ih (fun z hz => hw z (by simp [hz])) (fun z hz => hv z (by simp [hz])) h.2]
  have hl : ∀ u : List Int, (strOfNums u).toList = u.map fun n => UInt8.ofNat n.toNat := fun u => by rw [Go.Lib.strOfNums_toList]; rfl
  rw [hl, hl, Bool.eq_iff_iff, beq_iff_eq, beq_iff_eq]
  exact ⟨hmap hw hv, fun h => by rw [h]⟩
end Go.Proofs.YtbpbndlgfiammaaGreatDoor.Cn
