/- Plain facts on the reference of layer 12, second part. -/
import Derived.Test.YtibfgeoiemmjoaaRef12P
import Derived.Test.YtibfgeoiemmjoaaLaw12b
namespace Go.Proofs.Ytibfgeoiemmjoaa.En

theorem getD_snd {C L : List Int} {k : Nat} (h : k < L.length) (hl : C.length = L.length) : (C.zip L)[k]? = some (C.getD k 0, L.getD k 0) := by
  have h1 : k < C.length := by omega
  simp [List.getElem?_zip_eq_some, List.getD, List.getElem?_eq_getElem h, List.getElem?_eq_getElem h1]
theorem take_succ' {α : Type} {z : List α} {k : Nat} {x : α} (h : z[k]? = some x) : z.take (k + 1) = z.take k ++ [x] := by
  rw [List.take_add_one, h]; rfl
theorem take_succD {z : List Int} {k : Nat} (h : k < z.length) : z.take (k + 1) = z.take k ++ [z.getD k 0] := take_succ' (by simp [List.getD, List.getElem?_eq_getElem h])
/-- coefficients of a literal among the first k terms -/
def cfK (C L : List Int) (x : Int) (k : Nat) : Int := cfZ ((C.zip L).take k) x
theorem cfK_zero (C L : List Int) (x : Int) : cfK C L x 0 = 0 := rfl
theorem cfK_yes {C L : List Int} {x : Int} {k : Nat} (hl : C.length = L.length) (h : k < L.length) (e : L.getD k 0 = x) : cfK C L x (k + 1) = cfK C L x k + C.getD k 0 := by
  unfold cfK
  rw [take_succ' (getD_snd h hl), cfZ_snoc]
  simp only [e, if_true]
theorem cfK_no {C L : List Int} {x : Int} {k : Nat} (hl : C.length = L.length) (h : k < L.length) (e : L.getD k 0 ≠ x) : cfK C L x (k + 1) = cfK C L x k := by
  unfold cfK
  rw [take_succ' (getD_snd h hl), cfZ_snoc]
  simp only [e, if_false, Int.add_zero]
theorem cfK_all {C L : List Int} {x B : Int} {k : Nat} (hl : C.length = L.length) (h : L.length ≤ k) : cfK C L x k = cf ⟨C, L, B⟩ x := by
  unfold cfK cf
  rw [List.take_of_length_le (by rw [List.length_zip]; omega)]
theorem cfK_bd {C L : List Int} {B n : Int} (hc : lcheck ⟨C, L, B⟩ n = 0) (x : Int) : ∀ k, k ≤ L.length → -(1099511627776 * (k : Int)) ≤ cfK C L x k ∧ cfK C L x k ≤ 1099511627776 * (k : Int)
  | 0, _ => by rw [cfK_zero]; omega
  | k + 1, h => by
    obtain ⟨_, _, hl, _, hC, _⟩ := lcheck_ok hc
    replace hl : C.length = L.length := hl
    have ih := cfK_bd hc x k (by omega)
    have hb := hC _ (getD_mem (l := C) (k := k) (by omega))
    by_cases e : L.getD k 0 = x
    · rw [cfK_yes hl (by omega) e]; exact ⟨by omega, by omega⟩
    · rw [cfK_no hl (by omega) e]; exact ⟨by omega, by omega⟩
theorem cf_bd {C L : List Int} {B n : Int} (hc : lcheck ⟨C, L, B⟩ n = 0) (x : Int) : -4503599627370496 ≤ cf ⟨C, L, B⟩ x ∧ cf ⟨C, L, B⟩ x ≤ 4503599627370496 := by
  obtain ⟨_, _, hl, _, _, _, h4⟩ := lcheck_ok hc
  replace h4 : L.length ≤ 4096 := h4
  replace hl : C.length = L.length := hl
  have := cfK_bd hc x L.length (Nat.le_refl _)
  rw [cfK_all (B := B) hl (Nat.le_refl _)] at this
  omega
theorem insV_at (v : Int) : ∀ (out : List Int) (i : Nat), i ≤ out.length → (∀ j, j < i → out.getD j 0 < v) → (i < out.length → ¬ out.getD i 0 < v) →
    insV v out = if i < out.length ∧ out.getD i 0 = v then out else out.take i ++ [v] ++ out.drop i
  | [], i, hi, _, _ => by
    have : i = 0 := by simpa using hi
    subst this
    simp [insV]
  | y :: t, 0, _, _, h => by
    have h0 := h (by simp)
    simp only [List.getD_cons_zero] at h0 ⊢
    simp only [insV, if_neg h0, List.length_cons, Nat.zero_lt_succ, true_and, List.take_zero, List.drop_zero, List.nil_append, List.singleton_append]
  | y :: t, i + 1, hi, hlt, h => by
    have hy := hlt 0 (by omega)
    simp only [List.getD_cons_zero] at hy
    simp only [insV, if_pos hy]
    rw [insV_at v t i (by simpa using hi) (fun j hj => by have := hlt (j + 1) (by omega); simpa using this) (fun hj => by have := h (by simpa using hj); simpa using this)]
    simp only [List.length_cons, Nat.add_lt_add_iff_right, List.getD_cons_succ, List.take_succ_cons, List.drop_succ_cons, List.cons_append]
    split <;> rfl
theorem insV_here {v : Int} {out : List Int} {i : Nat} (hi : i < out.length) (hlt : ∀ j, j < i → out.getD j 0 < v) (h : out.getD i 0 = v) : insV v out = out := by
  rw [insV_at v out i (by omega) hlt (fun _ => by omega), if_pos ⟨hi, h⟩]
theorem insV_new {v : Int} {out : List Int} {i : Nat} (hi : i ≤ out.length) (hlt : ∀ j, j < i → out.getD j 0 < v) (h : i < out.length → ¬ out.getD i 0 < v) (h2 : ¬ (i < out.length ∧ out.getD i 0 = v)) : insV v out = out.take i ++ [v] ++ out.drop i := by
  rw [insV_at v out i hi hlt h, if_neg h2]
theorem varsZ_take {L : List Int} {k : Nat} (h : k < L.length) : varsZ (L.take (k + 1)) = insV ((L.getD k 0).natAbs : Int) (varsZ (L.take k)) := by
  rw [take_succD h, varsZ_snoc]
theorem varsZ_take_len (L : List Int) (k : Nat) : (varsZ (L.take k)).length ≤ L.length := by
  have := varsZ_len (L.take k)
  rw [List.length_take] at this
  omega
/-- the first k variables' part of the canonical form -/
def nB (l : LinV) (vs : List Int) (k : Nat) : Int := l.B - minsP l (vs.take k)
def nC (l : LinV) (vs : List Int) (k : Nat) : List Int := (termsP l (vs.take k)).map (·.1)
def nL (l : LinV) (vs : List Int) (k : Nat) : List Int := (termsP l (vs.take k)).map (·.2)
def nA (l : LinV) (vs : List Int) (k : Nat) : Int := sumF1 (termsP l (vs.take k))
section
variable {l : LinV} {vs : List Int} {k : Nat}
theorem nB_succ (h : k < vs.length) : nB l vs (k + 1) = nB l vs k - min (cf l (vs.getD k 0)) (cf l (-(vs.getD k 0))) := by
  unfold nB; rw [take_succD h, minsP_snoc]; omega
theorem nT_succ (h : k < vs.length) : termsP l (vs.take (k + 1)) = termsP l (vs.take k) ++ termV (cf l (vs.getD k 0)) (cf l (-(vs.getD k 0))) (vs.getD k 0) := by
  rw [take_succD h, termsP_snoc]
theorem nC_gt (h : k < vs.length) (hc : cf l (-(vs.getD k 0)) < cf l (vs.getD k 0)) : nC l vs (k + 1) = nC l vs k ++ [cf l (vs.getD k 0) - cf l (-(vs.getD k 0))] ∧ nL l vs (k + 1) = nL l vs k ++ [vs.getD k 0] := by
  unfold nC nL; rw [nT_succ h]; unfold termV; rw [if_pos hc]; simp
theorem nC_lt (h : k < vs.length) (hc : cf l (vs.getD k 0) < cf l (-(vs.getD k 0))) : nC l vs (k + 1) = nC l vs k ++ [cf l (-(vs.getD k 0)) - cf l (vs.getD k 0)] ∧ nL l vs (k + 1) = nL l vs k ++ [-(vs.getD k 0)] := by
  unfold nC nL; rw [nT_succ h]; unfold termV; rw [if_neg (by omega), if_pos hc]; simp
theorem nC_eq (h : k < vs.length) (hc : ¬ cf l (-(vs.getD k 0)) < cf l (vs.getD k 0)) (hc2 : ¬ cf l (vs.getD k 0) < cf l (-(vs.getD k 0))) : nC l vs (k + 1) = nC l vs k ∧ nL l vs (k + 1) = nL l vs k := by
  unfold nC nL; rw [nT_succ h]; unfold termV; rw [if_neg hc, if_neg hc2]; simp
theorem nA_succ (h : k < vs.length) : nA l vs (k + 1) = nA l vs k + max (cf l (vs.getD k 0)) (cf l (-(vs.getD k 0))) - min (cf l (vs.getD k 0)) (cf l (-(vs.getD k 0))) := by
  unfold nA; rw [nT_succ h, sumF1_app]
  unfold termV
  split
  · simp only [sumF1]; omega
  · split <;> simp only [sumF1] <;> omega
theorem nC_len (l : LinV) (vs : List Int) (k : Nat) : (nC l vs k).length ≤ vs.length ∧ (nL l vs k).length ≤ vs.length ∧ (nC l vs k).length = (nL l vs k).length := by
  unfold nC nL
  have := terms_len l (vs.take k)
  rw [List.length_take] at this
  simp
  omega
end
theorem nA_bd {l : LinV} (h : lcheck l 65536 = 0) (k : Nat) : 0 ≤ nA l (varsZ l.L) k ∧ nA l (varsZ l.L) k ≤ 4503599627370496 := terms_bd h k
theorem nB_bd {l : LinV} (h : lcheck l 65536 = 0) (k : Nat) : -4504699138998272 ≤ nB l (varsZ l.L) k ∧ nB l (varsZ l.L) k ≤ 4504699138998272 := by
  have := mins_bd h k
  obtain ⟨_, _, _, hB, _⟩ := lcheck_ok h
  unfold nB
  omega
theorem allSucc {a b : List Int} {k : Nat} (h : ∀ j, j < k → a.getD j 0 = b.getD j 0) (hk : a.getD k 0 = b.getD k 0) : ∀ j, j < k + 1 → a.getD j 0 = b.getD j 0 := fun j hj => by
  by_cases e : j = k
  · rw [e]; exact hk
  · exact h j (by omega)
theorem allSuccL {a : List Int} {k : Nat} {v : Int} (h : ∀ j, j < k → a.getD j 0 < v) (hk : a.getD k 0 < v) : ∀ j, j < k + 1 → a.getD j 0 < v := fun j hj => by
  by_cases e : j = k
  · rw [e]; exact hk
  · exact h j (by omega)
theorem ext_getD {a b : List Int} (hl : a.length = b.length) (h : ∀ j, j < a.length → a.getD j 0 = b.getD j 0) : a = b := by
  refine List.ext_getElem hl fun j h1 h2 => ?_
  have := h j h1
  simpa [List.getD, List.getElem?_eq_getElem h1, List.getElem?_eq_getElem h2] using this
theorem lit12 {x : Int} {a : List Bool} (hx : x ≠ 0) : ((decide ((x.natAbs : Int) > 0) && decide ((x.natAbs : Int) < (a.length : Int)) && a.getD ((x.natAbs : Int)).toNat false) == decide (x > 0)) = lval a x := by
  unfold lval
  have h1 : decide ((x.natAbs : Int) > 0) = true := by simp; omega
  have h2 : decide ((x.natAbs : Int) < (a.length : Int)) = decide (x.natAbs < a.length) := by simp
  have h3 : decide (x > 0) = decide (0 < x) := rfl
  rw [h1, h2, h3, Bool.true_and, Int.toNat_natCast]
section
variable {C L C' L' : List Int} {B B' : Int} {k : Nat}
theorem same_no1 (h : C.length ≠ C'.length ∨ L.length ≠ L'.length ∨ B ≠ B') : sameP ⟨C, L, B⟩ ⟨C', L', B'⟩ = false := by
  cases hs : sameP ⟨C, L, B⟩ ⟨C', L', B'⟩ with
  | false => rfl
  | true =>
    have := sameP_iff.1 hs
    cases this
    simp at h
theorem same_noC (h : C.getD k 0 ≠ C'.getD k 0) : sameP ⟨C, L, B⟩ ⟨C', L', B'⟩ = false := by
  cases hs : sameP ⟨C, L, B⟩ ⟨C', L', B'⟩ with
  | false => rfl
  | true => have := sameP_iff.1 hs; cases this; exact absurd rfl h
theorem same_noL (h : L.getD k 0 ≠ L'.getD k 0) : sameP ⟨C, L, B⟩ ⟨C', L', B'⟩ = false := by
  cases hs : sameP ⟨C, L, B⟩ ⟨C', L', B'⟩ with
  | false => rfl
  | true => have := sameP_iff.1 hs; cases this; exact absurd rfl h
theorem same_yes (h1 : C.length = C'.length) (h2 : L.length = L'.length) (h3 : B = B') (h4 : ∀ j, j < C.length → C.getD j 0 = C'.getD j 0) (h5 : ∀ j, j < L.length → L.getD j 0 = L'.getD j 0) : sameP ⟨C, L, B⟩ ⟨C', L', B'⟩ = true := by
  refine sameP_iff.2 ?_
  rw [ext_getD h1 h4, ext_getD h2 h5, h3]
end
theorem vars_new {v : Int} {out : List Int} {i : Nat} (hi : i ≤ out.length) (hlt : ∀ j, j < i → out.getD j 0 < v) (h : ¬ ((i : Int) < (out.length : Int)) ∨ ¬ out.getD i 0 < v) (h2 : ¬ ((i : Int) < (out.length : Int)) ∨ out.getD i 0 ≠ v) : insV v out = out.take i ++ [v] ++ (out.take out.length).drop i := by
  rw [List.take_length]
  refine insV_new hi hlt (fun hl => ?_) (fun ⟨hl, he⟩ => ?_)
  · rcases h with h | h
    · omega
    · exact h
  · rcases h2 with h2 | h2
    · omega
    · exact h2 he
/-- the first i elements held down to B -/
def minTo (xs : List Int) (B : Int) (i : Nat) : List Int := (xs.take i).map (fun c => min c B) ++ xs.drop i
theorem minTo_zero (xs : List Int) (B : Int) : minTo xs B 0 = xs := by simp [minTo]
theorem minTo_len (xs : List Int) (B : Int) (i : Nat) : (minTo xs B i).length = xs.length := by simp [minTo]; omega
theorem minTo_succ {xs : List Int} {B : Int} {i : Nat} (h : i < xs.length) : (minTo xs B i).set i (min ((minTo xs B i).getD i 0) B) = minTo xs B (i + 1) := by
  have hl : ((xs.take i).map (fun c => min c B)).length = i := by simp; omega
  unfold minTo
  have hd : xs.drop i = xs.getD i 0 :: xs.drop (i + 1) := by
    rw [List.drop_eq_getElem_cons h]; simp [List.getD, List.getElem?_eq_getElem h]
  rw [take_succD h, hd]
  have hg : ((xs.take i).map (fun c => min c B) ++ xs.getD i 0 :: xs.drop (i + 1)).getD i 0 = xs.getD i 0 := by
    rw [List.getD_eq_getElem?_getD, List.getElem?_append_right (by omega), hl, Nat.sub_self]; rfl
  rw [hg, List.set_append_right _ _ (by omega), hl, Nat.sub_self]
  simp
theorem minTo_all {xs : List Int} {B : Int} {i : Nat} (h : xs.length ≤ i) : minTo xs B i = xs.map (fun c => min c B) := by
  unfold minTo; rw [List.take_of_length_le h, List.drop_eq_nil_of_le h, List.append_nil]
theorem norm_at {l : LinV} (h : lcheck l 65536 = 0) : normP l = normW l := by unfold normP; rw [if_pos h]
theorem norm_no {l : LinV} (h : ¬ lcheck l 65536 = 0) : normP l = lin0 := by unfold normP; rw [if_neg h]
theorem nAll {l : LinV} {k : Nat} (h : (varsZ l.L).length ≤ k) : nB l (varsZ l.L) k = l.B - minsP l (varsZ l.L) ∧ nA l (varsZ l.L) k = sumF1 (termsP l (varsZ l.L)) ∧ nC l (varsZ l.L) k = (termsP l (varsZ l.L)).map (·.1) ∧ nL l (varsZ l.L) k = (termsP l (varsZ l.L)).map (·.2) := by
  unfold nB nA nC nL; rw [List.take_of_length_le h]; exact ⟨rfl, rfl, rfl, rfl⟩
theorem normC {l : LinV} (h : lcheck l 65536 = 0) : (l.B - minsP l (varsZ l.L) ≤ 0 → normP l = lin0) ∧ (¬ l.B - minsP l (varsZ l.L) ≤ 0 → sumF1 (termsP l (varsZ l.L)) < l.B - minsP l (varsZ l.L) → normP l = ⟨[], [], 1⟩) ∧
    (¬ l.B - minsP l (varsZ l.L) ≤ 0 → ¬ sumF1 (termsP l (varsZ l.L)) < l.B - minsP l (varsZ l.L) → normP l = ⟨((termsP l (varsZ l.L)).map (·.1)).map (fun c => min c (l.B - minsP l (varsZ l.L))), (termsP l (varsZ l.L)).map (·.2), l.B - minsP l (varsZ l.L)⟩) := by
  rw [norm_at h]
  unfold normW
  refine ⟨fun h1 => by rw [if_pos h1], fun h1 h2 => by rw [if_neg h1, if_pos h2], fun h1 h2 => by rw [if_neg h1, if_neg h2, List.map_map]; rfl⟩
end Go.Proofs.Ytibfgeoiemmjoaa.En
