/- Force is complete: plainly, over all assignments of eight variables. No program in sight. -/
import Derived.Test.YtibfgeoiemmjoaaLinP8
set_option linter.unusedSimpArgs false
set_option linter.unusedVariables false
set_option linter.unnecessarySimpa false
namespace Go.Proofs.Ytibfgeoiemmjoaa

/-- the assignment that the bits of p say -/
def fV (p : Nat) (y : Int) : Bool := p.testBit (y.natAbs - 1) == decide (0 < y)
theorem fV_reg (p : Nat) : Reg (fV p) := fun x hx => by
  unfold fV
  rw [Int.natAbs_neg]
  rcases Int.lt_or_le 0 x with h | h
  · rw [decide_eq_false (show ¬ 0 < -x by omega), decide_eq_true h]; cases p.testBit (x.natAbs - 1) <;> rfl
  · rw [decide_eq_true (show 0 < -x by omega), decide_eq_false (show ¬ 0 < x by omega)]; cases p.testBit (x.natAbs - 1) <;> rfl
/-- a number with given bits -/
def mkB : Nat → (Nat → Bool) → Nat
  | 0, _ => 0
  | n + 1, f => (if f 0 then 1 else 0) + 2 * mkB n fun i => f (i + 1)
theorem mkB_lt : ∀ (n : Nat) (f : Nat → Bool), mkB n f < 2 ^ n
  | 0, _ => by simp [mkB]
  | n + 1, f => by
    have := mkB_lt n fun i => f (i + 1)
    rw [mkB, Nat.pow_succ]
    split <;> omega
theorem mkB_at : ∀ (n : Nat) (f : Nat → Bool) (j : Nat), j < n → (mkB n f).testBit j = f j
  | 0, _, j, h => by omega
  | n + 1, f, 0, _ => by
    rw [mkB, Nat.testBit_zero]
    cases f 0 <;> simp <;> omega
  | n + 1, f, j + 1, h => by
    rw [mkB, Nat.testBit_succ, ← mkB_at n (fun i => f (i + 1)) j (by omega)]
    congr 1
    split <;> omega
/-- every assignment is one of bits, on eight variables -/
def bitsOf (q : Int → Bool) : Nat := mkB 8 fun i => q ((i : Int) + 1)
theorem bitsOf_lt (q : Int → Bool) : bitsOf q < 256 := mkB_lt 8 _
theorem bitsOf_at {q : Int → Bool} (hr : Reg q) {y : Int} (h0 : y ≠ 0) (h1 : -8 ≤ y) (h2 : y ≤ 8) : fV (bitsOf q) y = q y := by
  unfold fV bitsOf
  rw [mkB_at _ _ _ (show y.natAbs - 1 < 8 by omega)]
  show (q (((y.natAbs - 1 : Nat) : Int) + 1) == _) = _
  rcases Int.lt_or_le 0 y with h | h
  · rw [decide_eq_true h, show ((y.natAbs - 1 : Nat) : Int) + 1 = y by omega]; cases q y <;> rfl
  · have e : ((y.natAbs - 1 : Nat) : Int) + 1 = -y := by omega
    rw [decide_eq_false (show ¬ 0 < y by omega), e, hr y h0]; cases q y <;> rfl
/-- what an assignment of bits asks -/
def goodB (l : LinV) (lits : List Int) (p : Nat) : Bool := lits.all (fV p) && lholds (fV p) l
section
variable {l : LinV} {lits : List Int} (hc : lcheck l 8 = 0) (hu : unlikeP 8 lits = true)
include hc hu
omit hu in
theorem up_c : lcheck l 65536 = 0 := by
  obtain ⟨_, _, h3, h4, h5, h6, h7⟩ := lcheck_ok hc
  exact lcheck_mk (by decide) (by decide) h3 h4 h5 (fun y hy => by have := h6 y hy; omega) h7
omit hc in
theorem lits_bd : ∀ x ∈ lits, x ≠ 0 ∧ -8 ≤ x ∧ x ≤ 8 := fun x hx => by
  unfold unlikeP at hu
  rw [List.all_eq_true] at hu
  obtain ⟨i, hi, rfl⟩ := List.getElem_of_mem hx
  have := hu i (List.mem_range.2 hi)
  simp only [Bool.and_eq_true] at this
  have h1 := this.1.1
  simp [wrongL, List.getD, List.getElem?_eq_getElem hi] at h1
  omega
theorem good_iff {q : Int → Bool} (hr : Reg q) : goodB l lits (bitsOf q) = true ↔ Agr q lits ∧ lholds q l = true := by
  obtain ⟨_, _, h3, h4, h5, h6, h7⟩ := lcheck_ok hc
  unfold goodB
  rw [Bool.and_eq_true, List.all_eq_true]
  have e : lholds (fV (bitsOf q)) l = lholds q l := by
    unfold lholds
    rw [lsum_congr _ fun u hu => bitsOf_at hr (h6 u.2 (List.of_mem_zip hu).2).1 (h6 u.2 (List.of_mem_zip hu).2).2.1 (h6 u.2 (List.of_mem_zip hu).2).2.2]
  rw [e]
  refine and_congr_left fun _ => ?_
  constructor
  · intro h x hx
    have hb := lits_bd hu x hx
    rw [← bitsOf_at hr hb.1 hb.2.1 hb.2.2]; exact h x hx
  · intro h x hx
    have hb := lits_bd hu x hx
    rw [bitsOf_at hr hb.1 hb.2.1 hb.2.2]; exact h x hx
omit hc hu in
theorem good_of (p : Nat) (h : goodB l lits p = true) : Agr (fV p) lits ∧ lholds (fV p) l = true := by
  unfold goodB at h
  rw [Bool.and_eq_true, List.all_eq_true] at h
  exact h
theorem can_iff : (forceP l lits).isSome = (List.range 256).any (goodB l lits) := by
  have hc2 := up_c hc
  have hu2 := unlike_up (m := 65536) (by decide) hu
  cases h : forceP l lits with
  | none =>
    symm
    rw [Option.isSome_none, List.any_eq_false]
    intro p _ hg
    obtain ⟨h1, h2⟩ := good_of p hg
    rw [force_no hc2 hu2 h (fV_reg p) h1] at h2
    cases h2
  | some fs =>
    symm
    rw [Option.isSome_some, List.any_eq_true]
    refine ⟨bitsOf (maxA lits (normP l).L), List.mem_range.2 (bitsOf_lt _), (good_iff hc hu (maxA_reg _ _)).2 ⟨?_, (force_yes hc2 hu2 h).1⟩⟩
    exact maxA_agr ((unlike_good lits).1 hu2) _
theorem mem_iff {fs : List Int} (h : forceP l lits = some fs) {y : Int} (h0 : y ≠ 0) (h1 : -8 ≤ y) (h2 : y ≤ 8) : y ∈ fs ↔ y ∉ lits ∧ -y ∉ lits ∧ ∀ p, p < 256 → goodB l lits p = true → fV p y = true := by
  have hc2 := up_c hc
  have hu2 := unlike_up (m := 65536) (by decide) hu
  rw [force_mem hc2 hu2 h h0]
  refine and_congr_right fun _ => and_congr_right fun _ => ?_
  constructor
  · intro hp p _ hg
    obtain ⟨g1, g2⟩ := good_of p hg
    exact hp _ (fV_reg p) g1 g2
  · intro hp q hr ha hh
    rw [← bitsOf_at hr h0 h1 h2]
    exact hp _ (bitsOf_lt q) ((good_iff hc hu hr).2 ⟨ha, hh⟩)
end
/-- cell k of the array: whether all good assignments make its literal true -/
def cellT (p k : Nat) : Bool := if k < 8 then !(p.testBit (7 - k)) else if k = 8 then true else p.testBit (k - 9)
def arrL (G : Nat → Bool) (m : Nat) : List Bool := (List.range 17).map fun k => (List.range m).all fun b => !(G b) || cellT b k
def arr2 (G : Nat → Bool) (m v : Nat) : List Bool := (List.range 17).map fun k => ((List.range m).all fun b => !(G b) || cellT b k) && (!(decide (8 < k + v ∧ k < 8 + v)) || cellT m k)
theorem arrL_len {G : Nat → Bool} {m : Nat} : (arrL G m).length = 17 := by simp [arrL]
theorem arr2_len {G : Nat → Bool} {m v : Nat} : (arr2 G m v).length = 17 := by simp [arr2]
theorem get17 {f : Nat → Bool} {k : Nat} (h : k < 17) : ((List.range 17).map f).getD k false = f k := by
  rw [List.getD_eq_getElem?_getD, List.getElem?_map, List.getElem?_range h]; rfl
theorem arrL_skip {G : Nat → Bool} {m : Nat} (h : G m = false) : arrL G m = arrL G (m + 1) := by
  unfold arrL
  refine List.map_congr_left fun k _ => ?_
  rw [List.range_succ, List.all_append]
  simp [h]
theorem arr2_one {G : Nat → Bool} {m : Nat} : arrL G m = arr2 G m 1 := by
  unfold arrL arr2
  refine List.map_congr_left fun k hk => ?_
  by_cases h8 : k = 8
  · subst h8
    simp [cellT]
  · rw [decide_eq_false (by omega)]; simp
theorem arr2_all {G : Nat → Bool} {m : Nat} (h : G m = true) : arr2 G m 9 = arrL G (m + 1) := by
  unfold arrL arr2
  refine List.map_congr_left fun k hk => ?_
  have := List.mem_range.1 hk
  rw [List.range_succ, List.all_append, decide_eq_true (show 8 < k + 9 ∧ k < 8 + 9 from by omega)]
  simp [h]
theorem arr2_set {G : Nat → Bool} {m v : Nat} (hv1 : 1 ≤ v) (hv2 : v ≤ 8) {k : Nat} (hk : k = if m.testBit (v - 1) then 8 - v else 8 + v) : (arr2 G m v).set k false = arr2 G m (v + 1) := by
  refine List.ext_getElem (by simp [arr2]) fun i h1 h2 => ?_
  have hi : i < 17 := by simpa [arr2] using h2
  rw [List.getElem_set]
  by_cases e : k = i
  · subst e
    rw [if_pos rfl]
    simp only [arr2, List.getElem_map, List.getElem_range]
    rw [decide_eq_true (show 8 < k + (v + 1) ∧ k < 8 + (v + 1) by rw [hk]; split <;> omega)]
    have : cellT m k = false := by
      unfold cellT
      cases hb : m.testBit (v - 1) with
      | true => rw [hb, if_pos rfl] at hk; rw [if_pos (by omega), show 7 - k = v - 1 by omega, hb]; rfl
      | false => rw [hb, if_neg (by simp)] at hk; rw [if_neg (by omega), if_neg (by omega), show k - 9 = v - 1 by omega, hb]
    rw [this]
    simp
  · rw [if_neg e]
    simp only [arr2, List.getElem_map, List.getElem_range]
    by_cases hin : 8 < i + v ∧ i < 8 + v
    · rw [decide_eq_true hin, decide_eq_true (show 8 < i + (v + 1) ∧ i < 8 + (v + 1) by omega)]
    · by_cases hin2 : 8 < i + (v + 1) ∧ i < 8 + (v + 1)
      · rw [decide_eq_false hin, decide_eq_true hin2]
        have : cellT m i = true := by
          unfold cellT
          cases hb : m.testBit (v - 1) with
          | true =>
            rw [hb, if_pos rfl] at hk
            have hi8 : i = 8 + v := by omega
            rw [if_neg (by omega), if_neg (by omega), show i - 9 = v - 1 by omega, hb]
          | false =>
            rw [hb, if_neg (by simp)] at hk
            have hi8 : i = 8 - v := by omega
            rw [if_pos (by omega), show 7 - i = v - 1 by omega, hb]; rfl
        rw [this]
        simp
      · rw [decide_eq_false hin, decide_eq_false hin2]
theorem arr_pos {G : Nat → Bool} {v : Nat} (hv1 : 1 ≤ v) (hv2 : v ≤ 8) : (arrL G 256).getD (8 + v) false = true ↔ ∀ p, p < 256 → G p = true → fV p (v : Int) = true := by
  unfold arrL
  rw [get17 (by omega), List.all_eq_true]
  constructor
  · intro h p hp hg
    have := h p (List.mem_range.2 hp)
    rw [hg] at this
    unfold cellT at this
    rw [if_neg (by omega), if_neg (by omega), show 8 + v - 9 = v - 1 by omega] at this
    unfold fV
    rw [decide_eq_true (by omega), Int.natAbs_natCast]
    simpa using this
  · intro h p hp
    cases hg : G p with
    | false => rfl
    | true =>
      have := h p (List.mem_range.1 hp) hg
      unfold fV at this
      rw [decide_eq_true (by omega), Int.natAbs_natCast] at this
      unfold cellT
      rw [if_neg (by omega), if_neg (by omega), show 8 + v - 9 = v - 1 by omega]
      simpa using this
theorem arr_neg {G : Nat → Bool} {v : Nat} (hv1 : 1 ≤ v) (hv2 : v ≤ 8) : (arrL G 256).getD (8 - v) false = true ↔ ∀ p, p < 256 → G p = true → fV p (-(v : Int)) = true := by
  unfold arrL
  rw [get17 (by omega), List.all_eq_true]
  constructor
  · intro h p hp hg
    have := h p (List.mem_range.2 hp)
    rw [hg] at this
    unfold cellT at this
    rw [if_pos (by omega), show 7 - (8 - v) = v - 1 by omega] at this
    unfold fV
    rw [decide_eq_false (by omega), Int.natAbs_neg, Int.natAbs_natCast]
    simpa using this
  · intro h p hp
    cases hg : G p with
    | false => rfl
    | true =>
      have := h p (List.mem_range.1 hp) hg
      unfold fV at this
      rw [decide_eq_false (by omega), Int.natAbs_neg, Int.natAbs_natCast] at this
      unfold cellT
      rw [if_pos (by omega), show 7 - (8 - v) = v - 1 by omega]
      simpa using this
/-- the law's last word on a variable -/
theorem last_pos {l : LinV} {lits fs : List Int} (hc : lcheck l 8 = 0) (hu : unlikeP 8 lits = true) (h : forceP l lits = some fs) {v : Nat} (hv1 : 1 ≤ v) (hv2 : v ≤ 8) :
    fs.contains (v : Int) = ((!(lits.contains (v : Int)) && !(lits.contains (-(v : Int)))) && (arrL (goodB l lits) 256).getD (8 + v) false) := by
  rw [Bool.eq_iff_iff, Bool.and_eq_true, arr_pos hv1 hv2]
  simp only [List.contains_eq_mem, decide_eq_true_eq, Bool.and_eq_true, Bool.not_eq_true', decide_eq_false_iff_not]
  rw [mem_iff hc hu h (by omega) (by omega) (by omega), and_assoc]
theorem last_neg {l : LinV} {lits fs : List Int} (hc : lcheck l 8 = 0) (hu : unlikeP 8 lits = true) (h : forceP l lits = some fs) {v : Nat} (hv1 : 1 ≤ v) (hv2 : v ≤ 8) :
    fs.contains (-(v : Int)) = ((!(lits.contains (v : Int)) && !(lits.contains (-(v : Int)))) && (arrL (goodB l lits) 256).getD (8 - v) false) := by
  rw [Bool.eq_iff_iff, Bool.and_eq_true, arr_neg hv1 hv2]
  simp only [List.contains_eq_mem, decide_eq_true_eq, Bool.and_eq_true, Bool.not_eq_true', decide_eq_false_iff_not]
  rw [mem_iff hc hu h (by omega) (by omega) (by omega), Int.neg_neg]
  constructor
  · rintro ⟨h1, h2, h3⟩; exact ⟨⟨h2, h1⟩, h3⟩
  · rintro ⟨⟨h1, h2⟩, h3⟩; exact ⟨h2, h1, h3⟩
theorem lit17 {X : List Bool} (h : X.length = 17) : [X.getD 0 false, X.getD 1 false, X.getD 2 false, X.getD 3 false, X.getD 4 false, X.getD 5 false, X.getD 6 false, X.getD 7 false, X.getD 8 false, X.getD 9 false, X.getD 10 false, X.getD 11 false, X.getD 12 false, X.getD 13 false, X.getD 14 false, X.getD 15 false, X.getD 16 false] = X := by
  match X, h with
  | [a, b, c, d, e, f, g, i, j, k, l, m, n, o, p, q, r], _ => rfl
end Go.Proofs.Ytibfgeoiemmjoaa
