/- Lemmas and contracts for the row. -/
import Derived.Test.YtbpbndlgfiammaaGreatDoorPkRowProofTidyL
import Derived.Laws.BytesArg
import Derived.Lib.Bytes
set_option linter.unusedVariables false
set_option linter.unusedSimpArgs false
set_option linter.unnecessarySimpa false
namespace Go.Proofs.YtbpbndlgfiammaaGreatDoor.Cn
def dval (l : List Int) : Int := l.foldl (fun n c => 10 * n + (c - 48)) 0
def isDg (c : Int) : Bool := !(decide (c < 48) || decide (c > 57))
def numM (w : List Int) : Bool := decide ((w.length : Int) > 0) && ((w.getD 0 0) == 45)
def numD (w : List Int) : List Int := bif numM w then (w.take w.length).drop 1 else w
def numBad (w : List Int) : Bool := ((((numD w).length : Int) == 0) || (decide (((numD w).length : Int) > 10))) || ((((numD w).getD 0 0) == 48) && ((numM w) || (decide (((numD w).length : Int) > 1))))
theorem bad_of {w v : List Int} (h : numD w = v) : numBad w = (((((v.length : Int) == 0) || (decide ((v.length : Int) > 10))) || (((v.getD 0 0) == 48) && ((numM w) || (decide ((v.length : Int) > 1)))))) := by unfold numBad; rw [h]
theorem numD_t {w : List Int} (h : numM w = true) : numD w = (w.take w.length).drop 1 := by unfold numD; rw [h]; rfl
theorem numD_f {w : List Int} (h : numM w = false) : numD w = w := by unfold numD; rw [h]; rfl
def numOk (w : List Int) : Bool := !numBad w && (numD w).all isDg
def numN (w : List Int) : Int := bif numOk w then (bif numM w then -(dval (numD w)) else dval (numD w)) else 0
theorem dval_snoc (l : List Int) (c : Int) : dval (l ++ [c]) = 10 * dval l + (c - 48) := by simp [dval]
theorem str_inj {w v : List Int} (hw : isBytes w) (hv : isBytes v) : ((strOfNums w).toList == (strOfNums v).toList) = (w == v) := by
  have hmap : ∀ {w v : List Int}, isBytes w → isBytes v → (w.map fun n => UInt8.ofNat n.toNat) = (v.map fun n => UInt8.ofNat n.toNat) → w = v := by
    intro w
    induction w with
    | nil => intro v _ _ h; cases v <;> simp_all
    | cons x w ih =>
      intro v hw hv h
      cases v with
      | nil => simp at h
      | cons y v =>
        simp only [List.map_cons, List.cons.injEq] at h
        have h1 := hw x (by simp)
        have h2 := hv y (by simp)
        have h3 := congrArg UInt8.toNat h.1
        rw [UInt8.toNat_ofNat', UInt8.toNat_ofNat'] at h3
        rw [show x = y by omega, ih (fun z hz => hw z (by simp [hz])) (fun z hz => hv z (by simp [hz])) h.2]
  have hl : ∀ u : List Int, (strOfNums u).toList = u.map fun n => UInt8.ofNat n.toNat := fun u => by rw [Go.Lib.strOfNums_toList]; rfl
  rw [hl, hl, Bool.eq_iff_iff, beq_iff_eq, beq_iff_eq]
  exact ⟨hmap hw hv, fun h => by rw [h]⟩
end Go.Proofs.YtbpbndlgfiammaaGreatDoor.Cn
