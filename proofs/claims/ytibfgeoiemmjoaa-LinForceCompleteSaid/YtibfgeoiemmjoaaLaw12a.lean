/- Contracts of law 12's helpers few, holds, agrees and of the reference's Has and Truths, at the sizes at which the laws call them. -/
import Derived.Test.YtibfgeoiemmjoaaLive12
import Derived.Test.YtibfgeoiemmjoaaLinP8
namespace Go.Proofs.Ytibfgeoiemmjoaa
open Go.RowKit Go.Shelf

def fewP (l : LinV) : Bool := decide (l.L.length ≤ 60) && decide (l.C.length ≤ 60)
set_option maxHeartbeats 800000 in
theorem few_any (A L : Option Addr) (cA cL : Nat) (l : LinV) (w : World) : Calls Try.prog 13 #[linV A L cA cL l] w fun e w' => e = .returned (.bool (fewP l)) ∧ Below w.heap.size w w' := by
  have HB := Lib.hid (below1 w (.cells #[.slice A l.C.length cA, .slice L l.L.length cL, I64 l.B] 24))
  by_cases h1 : l.L.length ≤ 60
  · by_cases h2 : l.C.length ≤ 60
    · have HR := Lib.hid (show fewP l = true by simp [fewP, h1, h2])
      have h3 : (l.C.length : Int) ≤ 60 := by omega
      go_enter Try.func13, Try.ntmps13
      go_wp2_with fail
      go_ret
      rw [HR.out]
      exact ⟨rfl, HB.out⟩
    · have HR := Lib.hid (show fewP l = false by simp [fewP, h2])
      have h3 : decide ((l.C.length : Int) ≤ 60) = false := by simp; omega
      go_enter Try.func13, Try.ntmps13
      go_wp2_with fail
      go_ret
      rw [HR.out]
      exact ⟨rfl, HB.out⟩
  · have HR := Lib.hid (show fewP l = false by simp [fewP, h1])
    go_enter Try.func13, Try.ntmps13
    go_wp2_with fail
    go_ret
    rw [HR.out]
    exact ⟨rfl, HB.out⟩
/-- bit j of a number, as the program takes it -/
def tbit (p : Int) (j : Nat) : Bool := bits BinOp.and IntKind.i64 (p / 2 ^ j) 1 == 1
/-- a literal under the assignment that a number's bits give -/
def bitV (p : Int) (y : Int) : Bool := tbit p (y.natAbs - 1) == decide (0 < y)
theorem bitV_reg (p : Int) : Reg (bitV p) := fun x hx => by
  unfold bitV
  rw [Int.natAbs_neg]
  rcases Int.lt_or_le 0 x with h | h
  · rw [decide_eq_false (show ¬ 0 < -x by omega), decide_eq_true h]; cases tbit p (x.natAbs - 1) <;> rfl
  · rw [decide_eq_true (show 0 < -x by omega), decide_eq_false (show ¬ 0 < x by omega)]; cases tbit p (x.natAbs - 1) <;> rfl
def hasP (xs : List Int) (y : Int) : Bool := xs.contains y
theorem any_snoc (xs : List Int) (y : Int) (k : Nat) (h : k < xs.length) : (xs.take (k + 1)).contains y = ((xs.take k).contains y || xs[k] == y) := by
  rw [List.take_succ_eq_append_getElem h, List.contains_append]
  simp only [List.contains_cons, List.contains_nil, Bool.or_false]
  rw [BEq.comm]
set_option maxHeartbeats 800000 in
theorem has12_any {D : Nat → Prop} (A : Option Addr) (c : Nat) (xs : List Int) (y : Int) (w : World) (h : Rd I64 D w A xs) (hl : xs.length ≤ maxLen) :
    Calls Try.prog 33 #[.slice A xs.length c, I64 y] w fun e w' => e = .returned (.bool (hasP xs y)) ∧ w' = w := by
  unfold maxLen at hl
  have H := Lib.hid h
  clear h
  go_enter Try.func33, Try.ntmps33
  go_wp2_with fail
  go_loop [4, 5] (fun _ iv => ∃ i : Nat, iv = .int .i64 i ∧ i ≤ xs.length ∧ (xs.take i).contains y = false) (fun _ iv => xs.length - (intOf iv).toNat)
  case atStart => exact ⟨0, rfl, Nat.zero_le _, by simp⟩
  case round =>
    obtain ⟨i, rfl, hi, hn⟩ := hrel
    have HN := Lib.hid hn
    clear hn
    by_cases hlt : i < xs.length
    · obtain ⟨b, off, rfl, _, hc⟩ := H.out.at_ hlt
      have hs := any_snoc xs y i hlt
      rw [HN.out, Bool.false_or] at hs
      have HX := Lib.hid hs
      clear hs
      have HF := Lib.hid (show (xs[i] == y) = true → hasP xs y = true from fun e => by rw [beq_iff_eq] at e; subst e; simp [hasP])
      generalize xs[i] = x at hc HX HF
      by_cases hxy : x = y
      · subst hxy
        go_wp2_with fail
        go_ret
        exact ⟨by rw [HF.out (by simp)]; rfl, rfl⟩
      · have hb : (x == y) = false := by simpa using hxy
        rw [hb] at HX
        go_wp2_with fail
        go_round
        case rel => exact ⟨i + 1, by go_num, by omega, HX.out⟩
        case measure => simp [intOf]; omega
    · have HE := Lib.hid (show hasP xs y = false by rw [hasP, ← HN.out, List.take_of_length_le (by omega)])
      go_wp2_with fail
      go_ret
      exact ⟨by rw [HE.out]; rfl, rfl⟩
/-! agrees, holds -/
theorem max_abs (x : Int) : max x (-x) = (x.natAbs : Int) := by omega
def agrP (p : Int) (xs : List Int) : Bool := xs.all (bitV p)
theorem all_snoc (p : Int → Bool) (xs : List Int) (k : Nat) (h : k < xs.length) : (xs.take (k + 1)).all p = ((xs.take k).all p && p xs[k]) := by
  rw [List.take_succ_eq_append_getElem h, List.all_append]
  simp
set_option maxHeartbeats 1600000 in
theorem agrees_any {D : Nat → Prop} (A : Option Addr) (c : Nat) (xs : List Int) (p : Nat) (w : World) (h : Rd I64 D w A xs) (hl : xs.length ≤ maxLen) (hx : ∀ y ∈ xs, y ≠ 0 ∧ -8 ≤ y ∧ y ≤ 8) :
    Calls Try.prog 32 #[.slice A xs.length c, .int .i64 p] w fun e w' => e = .returned (.bool (agrP p xs)) ∧ ∃ q, w' = w.drewN q := by
  unfold maxLen at hl
  have H := Lib.hid h
  have HX := Lib.hid hx
  clear h hx
  go_enter Try.func32, Try.ntmps32
  go_wp2_with fail
  go_loopw [5, 6] (fun iv _ wr => ∃ i : Nat, iv = .int .i64 i ∧ i ≤ xs.length ∧ (xs.take i).all (bitV p) = true ∧ ∃ q, wr = w.drewN q) (fun iv _ _ => xs.length - (intOf iv).toNat)
  case atStart => exact ⟨0, rfl, Nat.zero_le _, by simp, 0, rfl⟩
  case round =>
    obtain ⟨i, rfl, hi, hn, hq⟩ := hrel
    have HN := Lib.hid hn
    have HQ := Lib.hid hq
    clear hn hq
    by_cases hlt : i < xs.length
    · obtain ⟨b, off, rfl, _, hc0⟩ := H.out.at_ hlt
      have hc := cell_q HQ.out hc0
      clear hc0
      have hs := all_snoc (bitV p) xs i hlt
      rw [HN.out, Bool.true_and] at hs
      have HS := Lib.hid hs
      clear hs
      have hb := HX.out xs[i] (List.getElem_mem hlt)
      have HF := Lib.hid (show bitV p xs[i] = false → agrP p xs = false from fun e => by
        unfold agrP
        rw [List.all_eq_false]
        exact ⟨xs[i], List.getElem_mem hlt, by simp [e]⟩)
      generalize xs[i] = x at hc HS HF hb
      obtain ⟨h0, h1, h2⟩ := hb
      go_wp2_with fail
      go_quiet (fail)
      rw [max_abs]
      obtain ⟨k, hk⟩ : ∃ k, x.natAbs = k + 1 := ⟨x.natAbs - 1, by omega⟩
      have HV := Lib.hid (show bitV p x = (tbit p k == decide (0 < x)) by rw [bitV, hk]; rfl)
      have hk8 : k < 8 := by omega
      rw [hk]
      clear hk
      have hc2 : (wr.drewN nq).cell? ⟨b, off + i, none⟩ = some (I64 x) := hc
      clear hc
      have HQ2 := Lib.hid (drew_one HQ.out nq)
      clear HQ
      generalize wr.drewN nq = w2 at hc2 HQ2 ⊢
      have hsub : ((k + 1 : Nat) : Int) - 1 = (k : Int) := by omega
      by_cases hpos : 0 < x
      · have hp1 : decide (0 < x) = true := by simpa using hpos
        cases ht : tbit p k
        · rw [hp1, ht] at HV
          have ht2 : (bits BinOp.and IntKind.i64 ((p : Int) / 2 ^ k) 1 == 1) = false := ht
          clear ht
          go_wp2_with fail
          go_ret
          exact ⟨by rw [HF.out HV.out]; rfl, HQ2.out⟩
        · rw [hp1, ht] at HV
          have ht2 : (bits BinOp.and IntKind.i64 ((p : Int) / 2 ^ k) 1 == 1) = true := ht
          clear ht
          go_wp2_with fail
          go_roundw
          case rel => exact ⟨i + 1, by go_num, by omega, by rw [HS.out, HV.out]; rfl, HQ2.out⟩
          case measure => simp [intOf]; omega
      · have hp1 : decide (0 < x) = false := by simpa using hpos
        cases ht : tbit p k
        · rw [hp1, ht] at HV
          have ht2 : (bits BinOp.and IntKind.i64 ((p : Int) / 2 ^ k) 1 == 1) = false := ht
          clear ht
          go_wp2_with fail
          go_roundw
          case rel => exact ⟨i + 1, by go_num, by omega, by rw [HS.out, HV.out]; rfl, HQ2.out⟩
          case measure => simp [intOf]; omega
        · rw [hp1, ht] at HV
          have ht2 : (bits BinOp.and IntKind.i64 ((p : Int) / 2 ^ k) 1 == 1) = true := ht
          clear ht
          go_wp2_with fail
          go_ret
          exact ⟨by rw [HF.out HV.out]; rfl, HQ2.out⟩
    · have HE := Lib.hid (show agrP p xs = true by rw [agrP, ← HN.out, List.take_of_length_le (by omega)])
      go_wp2_with fail
      go_ret
      exact ⟨by rw [HE.out]; rfl, HQ.out⟩
/-! Truths at eight variables -/
def trL (p : Int) (k : Nat) : List Bool := (List.range 9).map fun v => decide (1 ≤ v ∧ v ≤ k) && tbit p (v - 1)
theorem trL_len (p : Int) (k : Nat) : (trL p k).length = 9 := by simp [trL]
theorem trL_zero (p : Int) : (trL p 0).map Value.bool = List.replicate 9 (.bool false) := by
  refine List.ext_getElem (by simp [trL]) fun i h1 h2 => ?_
  rw [List.getElem_replicate]
  simp only [trL, List.getElem_map, List.getElem_range]
  rw [decide_eq_false (by omega), Bool.false_and]
theorem mk9 (w : World) : (Instr.makeSlice 32 (.int .i64 9) (.int .i64 9)).run Try.prog w = .ok (.slice (some ⟨w.heap.size, 0, none⟩) 9 9) (w.alloc (.cells (List.replicate 9 (.bool false)).toArray 4)) := by kernel_rfl
theorem trL_set (p : Int) (k : Nat) : ((trL p k).map Value.bool).toArray.setIfInBounds (k + 1) (.bool (tbit p k)) = ((trL p (k + 1)).map Value.bool).toArray := by
  rw [List.setIfInBounds_toArray]
  congr 1
  refine List.ext_getElem (by simp [trL]) fun i h1 h2 => ?_
  rw [List.getElem_set]
  simp only [trL, List.getElem_map, List.getElem_range]
  by_cases e : k + 1 = i
  · subst e
    simp
  · rw [if_neg e]
    congr 2
    rw [decide_eq_decide]
    omega
theorem rd_arr {α : Type} {enc : α → Value} {D : Nat → Prop} {w : World} {g : Nat} {t : TypeId} {ys : Array Value} {xs : List α} (h : Blk w g t ys) (hy : ys = (xs.map enc).toArray) (hg : D g) : Rd enc D w (some ⟨g, 0, none⟩) xs := fun _ =>
  ⟨g, 0, rfl, hg, fun j hj => by rw [Nat.zero_add, h.cell, hy]; simp [hj]⟩
set_option maxHeartbeats 1600000 in
theorem truths12_any (p : Nat) (w : World) :
    Calls Try.prog 29 #[.int .i64 8, .int .i64 p] w fun e w' => ∃ A c, e = .returned (.slice A 9 c) ∧ Rd Value.bool (· < w'.heap.size) w' A (trL p 8) ∧ Below w.heap.size w w' := by
  have hmk := mk9 w
  rw [← trL_zero p] at hmk
  have HB0 := Lib.hid (Blk.new w 4 ((trL p 0).map Value.bool).toArray)
  have HW0 := Lib.hid (below1 w (.cells ((trL p 0).map Value.bool).toArray 4))
  go_enter Try.func29, Try.ntmps29
  go_wp2_with fail
  clear hmk
  generalize w.alloc (.cells ((trL p 0).map Value.bool).toArray 4) = w1 at HB0 HW0 ⊢
  go_loopw [6] (fun vv wr => ∃ k : Nat, vv = .int .i64 (k + 1 : Nat) ∧ k ≤ 8 ∧ Blk wr w.heap.size 4 ((trL p k).map Value.bool).toArray ∧ Below w.heap.size w wr) (fun vv _ => 9 - (intOf vv).toNat)
  case atStart => exact ⟨0, rfl, Nat.zero_le _, HB0.out, HW0.out⟩
  case round =>
    obtain ⟨k, rfl, hk, hb, hw⟩ := hrel
    have HB := Lib.hid hb
    have HW := Lib.hid hw
    clear hb hw
    by_cases hlt : k < 8
    · have hsub : ((k + 1 : Nat) : Int) - 1 = (k : Int) := by omega
      have hle : ((k + 1 : Nat) : Int) ≤ 8 := by omega
      have hc : ∃ v, wr.cell? ⟨w.heap.size, k + 1, none⟩ = some v := ⟨_, (HB.out.cell (k + 1)).trans (by rw [Array.getElem?_eq_getElem (by simp [trL]; omega)])⟩
      obtain ⟨cv, hc⟩ := hc
      have hf := HB.out.frozen (k + 1)
      go_wp2_with fail
      have HB2 := Lib.hid (HB.out.set_ (k + 1) (.bool (tbit p k)))
      have HW2 := Lib.hid (HW.out.setCell (p := ⟨w.heap.size, k + 1, none⟩) (by simp) (.bool (tbit p k)))
      rw [trL_set] at HB2
      go_roundw
      case rel => exact ⟨k + 1, by go_num, by omega, HB2.out, HW2.out⟩
      case measure => simp [intOf]; omega
    · obtain rfl : k = 8 := by omega
      go_wp2_with fail
      go_ret
      exact ⟨_, _, rfl, rd_arr HB.out rfl HB.out.lt, HW.out⟩
end Go.Proofs.Ytibfgeoiemmjoaa
