/- Plain facts: adding and negating constraints. -/
import Derived.Test.YtibfgeoiemmjoaaLinP6
namespace Go.Proofs.Ytibfgeoiemmjoaa

theorem zip_app {a b c d : List Int} (h : a.length = b.length) : (a ++ c).zip (b ++ d) = a.zip b ++ c.zip d := List.zip_append h
/-- THE SUM OF TWO CONSTRAINTS -/
theorem add_ok {a b : LinV} (ha : lcheck a 65536 = 0) (hb : lcheck b 65536 = 0) : (addP a b = (lin0, 2)) ∨ ((addP a b).2 = 0 ∧ lcheck (addP a b).1 65536 = 0 ∧
    ∀ p, lsumZ p ((addP a b).1.C.zip (addP a b).1.L) = lsumZ p (a.C.zip a.L) + lsumZ p (b.C.zip b.L) ∧ (addP a b).1.B = a.B + b.B) := by
  unfold addP
  rw [if_neg (by omega), if_neg (by omega)]
  obtain ⟨h1, h2, h3, h4, h5, h6, h7⟩ := lcheck_ok ha
  obtain ⟨k1, k2, k3, k4, k5, k6, k7⟩ := lcheck_ok hb
  split
  · exact .inl rfl
  · rename_i h
    have hB : offN (a.B + b.B) = false := by
      cases hx : offN (a.B + b.B) with
      | false => rfl
      | true => exact absurd (.inr hx) h
    simp [offN] at hB
    refine .inr ⟨rfl, lcheck_mk (by omega) (by omega) (by simp [h3, k3]) (by simp only; omega) (fun c hc => ?_) (fun x hx => ?_) (by simp; omega), fun p => ⟨?_, rfl⟩⟩
    · rcases List.mem_append.1 hc with hc | hc
      · exact h5 c hc
      · exact k5 c hc
    · rcases List.mem_append.1 hx with hx | hx
      · exact h6 x hx
      · exact k6 x hx
    · simp only
      rw [zip_app h3, lsumZ_app]
theorem add_sound {a b : LinV} (ha : lcheck a 65536 = 0) (hb : lcheck b 65536 = 0) (t : List Bool) (h : (addP a b).2 = 0) :
    ((lvalue a t && (lvalue b t && !lvalue (addP a b).1 t)) || (lvalue (addP a b).1 t && (!lvalue a t && !lvalue b t))) = false := by
  rcases add_ok ha hb with h1 | ⟨_, h1, h2⟩
  · rw [h1] at h; simp at h
  · obtain ⟨e1, e2⟩ := h2 (lval t)
    unfold lvalue lholds
    rw [ha, hb, h1, e1, e2]
    simp only [decide_true, Bool.true_and]
    by_cases c1 : a.B ≤ lsumZ (lval t) (a.C.zip a.L) <;> by_cases c2 : b.B ≤ lsumZ (lval t) (b.C.zip b.L) <;> by_cases c3 : a.B + b.B ≤ lsumZ (lval t) (a.C.zip a.L) + lsumZ (lval t) (b.C.zip b.L) <;> simp [c1, c2, c3] <;> omega
/-- the negation -/
def negP (l : LinV) : LinV := ⟨l.C.map fun c => 0 - c, l.L, 1 - l.B⟩
theorem neg_zip (l : LinV) : (negP l).C.zip (negP l).L = (l.C.zip l.L).map fun q => (-q.1, q.2) := by
  unfold negP
  simp only [List.zip_map_left]
  refine List.map_congr_left fun q _ => ?_
  simp [Prod.map]
theorem neg_cf (l : LinV) (x : Int) : cf (negP l) x = - cf l x := by
  unfold cf
  rw [neg_zip]
  generalize l.C.zip l.L = z
  induction z with
  | nil => rfl
  | cons q t ih => simp only [List.map_cons, cfZ, ih]; split <;> omega
theorem neg_sum (p : Int → Bool) (l : LinV) : lsumZ p ((negP l).C.zip (negP l).L) = - lsumZ p (l.C.zip l.L) := by
  rw [neg_zip]
  generalize l.C.zip l.L = z
  induction z with
  | nil => rfl
  | cons q t ih => simp only [List.map_cons, lsumZ, ih]; split <;> omega
theorem neg_check {l : LinV} (h : lcheck l 65536 = 0) (hb : l.B ≠ -1099511627776) : lcheck (negP l) 65536 = 0 := by
  obtain ⟨h1, h2, h3, h4, h5, h6, h7⟩ := lcheck_ok h
  refine lcheck_mk h1 h2 (by simp [negP, h3]) (by simp only [negP]; omega) (fun c hc => ?_) h6 h7
  simp only [negP, List.mem_map] at hc
  obtain ⟨x, hx, rfl⟩ := hc
  have := h5 x hx
  omega
theorem neg_dec (b s : Int) : decide (1 - b ≤ -s) = !decide (b ≤ s) := by
  by_cases c : b ≤ s
  · simp [c]; omega
  · simp [c]; omega
theorem neg_value {l : LinV} (h : lcheck l 65536 = 0) (hb : l.B ≠ -1099511627776) (t : List Bool) : lvalue (negP l) t = !lvalue l t := by
  have e : lholds (lval t) (negP l) = !lholds (lval t) l := by
    unfold lholds
    rw [neg_sum]
    exact neg_dec _ _
  unfold lvalue
  rw [h, neg_check h hb, e]
  simp
theorem neg_terms (l : LinV) : ∀ vs : List Int, sumF1 (termsP (negP l) vs) + minsP (negP l) vs = - minsP l vs
  | [] => rfl
  | v :: t => by
    have ih := neg_terms l t
    have e : termsP (negP l) (v :: t) = termV (cf (negP l) v) (cf (negP l) (-v)) v ++ termsP (negP l) t := by simp [termsP]
    rw [e, sumF1_app]
    simp only [minsP, neg_cf]
    unfold termV
    split
    · simp only [sumF1]; omega
    · split
      · simp only [sumF1]; omega
      · simp only [sumF1]; omega
theorem contains_nil (y : Int) : (([] : List Int).contains y) = false := rfl
theorem can_nil (x : LinV) : canP x [] = sumF1 (x.C.zip x.L) := by
  unfold canP
  generalize x.C.zip x.L = z
  induction z with
  | nil => rfl
  | cons q t ih => simp only [lsumZ, sumF1, ih]; simp
theorem unlike_nil (n : Int) : unlikeP n [] = true := by simp [unlikeP]
theorem force_none {l : LinV} (h : lcheck l 65536 = 0) : forceP l [] = none ↔ normP l = ⟨[], [], 1⟩ := by
  unfold forceP
  rw [if_neg (by rw [unlike_nil]; simp [h]), can_nil]
  constructor
  · intro hf
    split at hf
    · rename_i h1
      have hc := norm_canon l
      by_cases hn : (normP l).C = []
      · have hl : (normP l).L = [] := List.eq_nil_of_length_eq_zero (by rw [← hc.len, hn]; rfl)
        rcases hc.nil hn with hb | hb
        · rw [hn, hb] at h1; simp [sumF1] at h1
        · generalize hx : normP l = x at *
          obtain ⟨C, L, B⟩ := x
          simp only at hn hl hb
          subst hn hl hb
          rfl
      · have := hc.full hn
        omega
    · cases hf
  · intro e
    rw [e, if_pos (by simp [sumF1])]
theorem neg_none {l : LinV} (h : lcheck l 65536 = 0) (hb : l.B ≠ -1099511627776) (hf : forceP (negP l) [] = none) : normP l = lin0 := by
  have hc := neg_check h hb
  rw [force_none hc] at hf
  have h1 := neg_terms l (varsZ l.L)
  have e2 : (negP l).L = l.L := rfl
  have e3 : (negP l).B = 1 - l.B := rfl
  have hle : l.B - minsP l (varsZ l.L) ≤ 0 := by
    unfold normP at hf
    rw [if_pos hc] at hf
    unfold normW at hf
    rw [e2, e3] at hf
    split at hf
    · simp [lin0] at hf
    · split at hf
      · omega
      · rename_i n1 n2
        injection hf with f1 f2 f3
        simp only [List.map_eq_nil_iff] at f1
        rw [f1] at n2
        simp only [sumF1] at n2
        omega
  unfold normP
  rw [if_pos h]
  unfold normW
  rw [if_pos hle]
end Go.Proofs.Ytibfgeoiemmjoaa
