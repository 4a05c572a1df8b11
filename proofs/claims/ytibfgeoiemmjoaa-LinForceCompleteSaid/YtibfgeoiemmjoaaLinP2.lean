/- Plain laws of the canonical form: it holds exactly where the constraint does. -/
import Derived.Test.YtibfgeoiemmjoaaLinP
namespace Go.Proofs.Ytibfgeoiemmjoaa

def grpS (p : Int → Bool) (z : List (Int × Int)) : List Int → Int
  | [] => 0
  | v :: t => (if p v then cfZ z v else cfZ z (-v)) + grpS p z t
theorem cfZ_snoc (z : List (Int × Int)) (c x y : Int) : cfZ (z ++ [(c, x)]) y = cfZ z y + if x = y then c else 0 := by
  rw [cfZ_app]; simp only [cfZ]; omega
theorem grpS_far (p : Int → Bool) (z : List (Int × Int)) (c x : Int) : ∀ (vs : List Int), (∀ v ∈ vs, 0 < v ∧ v ≠ (x.natAbs : Int)) → grpS p (z ++ [(c, x)]) vs = grpS p z vs
  | [], _ => rfl
  | v :: t, h => by
    obtain ⟨h1, h2⟩ := h v (by simp)
    simp only [grpS]
    rw [grpS_far p z c x t (fun u hu => h u (by simp [hu])), cfZ_snoc, cfZ_snoc, if_neg (show ¬ x = v by omega), if_neg (show ¬ x = -v by omega)]
    simp
theorem grpS_at (p : Int → Bool) (z : List (Int × Int)) (c x : Int) (hx : x ≠ 0) (hp : p (-x) = !p x) :
    (if p (x.natAbs : Int) then cfZ (z ++ [(c, x)]) (x.natAbs : Int) else cfZ (z ++ [(c, x)]) (-(x.natAbs : Int))) = (if p (x.natAbs : Int) then cfZ z (x.natAbs : Int) else cfZ z (-(x.natAbs : Int))) + if p x then c else 0 := by
  rw [cfZ_snoc, cfZ_snoc]
  rcases Int.lt_or_le 0 x with h | h
  · have e : (x.natAbs : Int) = x := by omega
    rw [e, if_pos rfl, if_neg (show ¬ x = -x by omega)]
    split <;> simp
  · have e : (x.natAbs : Int) = -x := by omega
    rw [e, if_neg (show ¬ x = -x by omega), Int.neg_neg, if_pos rfl, hp]
    cases p x <;> simp
theorem grpS_ins (p : Int → Bool) (z : List (Int × Int)) (c x : Int) (hx : x ≠ 0) (hp : p (-x) = !p x) : ∀ (vs : List Int), Inc vs → (∀ v ∈ vs, 0 < v) → ((x.natAbs : Int) ∉ vs → cfZ z (x.natAbs : Int) = 0 ∧ cfZ z (-(x.natAbs : Int)) = 0) →
    grpS p (z ++ [(c, x)]) (insV (x.natAbs : Int) vs) = grpS p z vs + if p x then c else 0
  | [], _, _, h0 => by
    obtain ⟨h1, h2⟩ := h0 (by simp)
    simp only [insV, grpS]
    rw [grpS_at p z c x hx hp, h1, h2]
    split <;> simp
  | v :: t, hi, hpos, h0 => by
    have hv := hpos v (by simp)
    simp only [insV]
    split
    · rename_i hlt
      simp only [grpS]
      rw [grpS_ins p z c x hx hp t hi.2 (fun u hu => hpos u (by simp [hu])) (fun hn => h0 (fun hm => by
        rcases List.mem_cons.1 hm with e | e
        · omega
        · exact hn e)), cfZ_snoc, cfZ_snoc, if_neg (show ¬ x = v by omega), if_neg (show ¬ x = -v by omega)]
      simp only [Int.add_zero]
      omega
    · split
      · rename_i _ he
        simp only [grpS]
        rw [grpS_far p z c x t (fun u hu => ⟨hpos u (by simp [hu]), by have := hi.1 u hu; omega⟩)]
        have := grpS_at p z c x hx hp
        rw [← he] at this
        rw [this]
        omega
      · rename_i h1 h2
        obtain ⟨z1, z2⟩ := h0 (fun hm => by
          rcases List.mem_cons.1 hm with e | e
          · omega
          · have := hi.1 _ e; omega)
        have hfar := grpS_far p z c x (v :: t) (fun u hu => ⟨hpos u hu, by
          rcases List.mem_cons.1 hu with e | e
          · omega
          · have := hi.1 u e; omega⟩)
        have := grpS_at p z c x hx hp
        rw [z1, z2] at this
        simp only [grpS] at hfar ⊢
        rw [this]
        simp only [ite_self, Int.zero_add]
        omega
theorem cfZ_none {z : List (Int × Int)} {y : Int} (h : ∀ q ∈ z, q.2 ≠ y) : cfZ z y = 0 := by
  induction z with
  | nil => rfl
  | cons q t ih => simp only [cfZ]; rw [if_neg (h q (by simp)), ih (fun p hp => h p (by simp [hp]))]; rfl
theorem group (p : Int → Bool) (z : List (Int × Int)) (hz : ∀ q ∈ z, q.2 ≠ 0) (hp : ∀ x, x ≠ 0 → p (-x) = !p x) : lsumZ p z = grpS p z (varsZ (z.map (·.2))) := by
  have : ∀ (r : List (Int × Int)), (∀ q ∈ r.reverse, q.2 ≠ 0) → lsumZ p r.reverse = grpS p r.reverse (varsZ (r.reverse.map (·.2))) := fun r => by
    induction r with
    | nil => intro _; rfl
    | cons q r ih =>
      intro h
      rw [List.reverse_cons] at h ⊢
      have hq := h q (by simp)
      have hr : ∀ q ∈ r.reverse, q.2 ≠ 0 := fun u hu => h u (List.mem_append_left _ hu)
      rw [lsumZ_app, List.map_append, ih hr]
      obtain ⟨c, x⟩ := q
      show _ + lsumZ p [(c, x)] = grpS p _ (varsZ (_ ++ [x]))
      rw [varsZ_snoc, grpS_ins p r.reverse c x hq (hp x hq) _ (inc_varsZ _) (fun v hv => by
        obtain ⟨y, hy, rfl⟩ := mem_varsZ.1 hv
        obtain ⟨u, hu, rfl⟩ := List.mem_map.1 hy
        have := hr u hu
        omega) (fun hn => by
        have hno : ∀ u ∈ r.reverse, (u.2.natAbs : Int) ≠ (x.natAbs : Int) := fun u hu e => hn (mem_varsZ.2 ⟨u.2, List.mem_map.2 ⟨u, hu, rfl⟩, e.symm⟩)
        exact ⟨cfZ_none (fun u hu e => hno u hu (by rw [e]; omega)), cfZ_none (fun u hu e => hno u hu (by rw [e]; omega))⟩)]
      simp [lsumZ]
  have h := this z.reverse (by rw [List.reverse_reverse]; exact hz)
  rwa [List.reverse_reverse] at h
theorem zip_snd {C L : List Int} (h : C.length = L.length) : (C.zip L).map (·.2) = L := List.map_snd_zip (by omega)
theorem zip_fst {C L : List Int} (h : C.length = L.length) : (C.zip L).map (·.1) = C := List.map_fst_zip (by omega)
theorem grp_terms (p : Int → Bool) (l : LinV) (hp : ∀ x, x ≠ 0 → p (-x) = !p x) : ∀ vs : List Int, (∀ v ∈ vs, 0 < v) → grpS p (l.C.zip l.L) vs = minsP l vs + lsumZ p (termsP l vs)
  | [], _ => rfl
  | v :: t, h => by
    have ih := grp_terms p l hp t (fun u hu => h u (by simp [hu]))
    have hv := h v (by simp)
    have hpv := hp v (by omega)
    have e : termsP l (v :: t) = termV (cf l v) (cf l (-v)) v ++ termsP l t := by simp [termsP]
    rw [e, lsumZ_app]
    simp only [grpS, minsP]
    rw [ih]
    have : (if p v then cfZ (l.C.zip l.L) v else cfZ (l.C.zip l.L) (-v)) = min (cf l v) (cf l (-v)) + lsumZ p (termV (cf l v) (cf l (-v)) v) := by
      show (if p v then cf l v else cf l (-v)) = _
      unfold termV
      generalize cf l v = a
      generalize cf l (-v) = b
      by_cases c1 : b < a
      · rw [if_pos c1]; simp only [lsumZ]; cases p v <;> simp <;> omega
      · rw [if_neg c1]
        by_cases c2 : a < b
        · rw [if_pos c2]; simp only [lsumZ]; rw [hpv]; cases p v <;> simp <;> omega
        · rw [if_neg c2]; simp only [lsumZ]; cases p v <;> simp <;> omega
    omega
theorem lsum_split (p : Int → Bool) (l : LinV) (hl : l.C.length = l.L.length) (hz : ∀ x ∈ l.L, x ≠ 0) (hp : ∀ x, x ≠ 0 → p (-x) = !p x) : lsumZ p (l.C.zip l.L) = minsP l (varsZ l.L) + lsumZ p (termsP l (varsZ l.L)) := by
  rw [group p _ (fun q hq => hz q.2 (List.of_mem_zip hq).2) hp, zip_snd hl, grp_terms p l hp _ (fun v hv => by
    obtain ⟨x, hx, rfl⟩ := mem_varsZ.1 hv
    have := hz x hx
    omega)]
theorem terms_pos (l : LinV) (vs : List Int) : ∀ q ∈ termsP l vs, 0 < q.1 := fun q hq => by
  unfold termsP at hq
  obtain ⟨v, _, hq⟩ := List.mem_flatMap.1 hq
  unfold termV at hq
  split at hq
  · simp at hq; subst hq; simp only; omega
  · split at hq
    · simp at hq; subst hq; simp only; omega
    · simp at hq
theorem terms_var {l : LinV} {vs : List Int} {q : Int × Int} (hq : q ∈ termsP l vs) : ∃ v ∈ vs, q.2 = v ∨ q.2 = -v := by
  unfold termsP at hq
  obtain ⟨v, hv, hq⟩ := List.mem_flatMap.1 hq
  unfold termV at hq
  split at hq
  · simp at hq; subst hq; exact ⟨v, hv, .inl rfl⟩
  · split at hq
    · simp at hq; subst hq; exact ⟨v, hv, .inr rfl⟩
    · simp at hq
theorem lsum_nn (p : Int → Bool) : ∀ ts : List (Int × Int), (∀ q ∈ ts, 0 < q.1) → 0 ≤ lsumZ p ts ∧ lsumZ p ts ≤ sumF1 ts
  | [], _ => by simp [lsumZ, sumF1]
  | q :: t, h => by
    have := lsum_nn p t (fun u hu => h u (by simp [hu]))
    have := h q (by simp)
    simp only [lsumZ, sumF1]
    split <;> omega
/-- cutting the coefficients to the bound changes nothing -/
theorem lsum_min (p : Int → Bool) (B : Int) (hB : 0 < B) : ∀ ts : List (Int × Int), (∀ q ∈ ts, 0 < q.1) → lsumZ p (ts.map fun q => (min q.1 B, q.2)) ≤ lsumZ p ts ∧ 0 ≤ lsumZ p (ts.map fun q => (min q.1 B, q.2)) ∧ (lsumZ p (ts.map fun q => (min q.1 B, q.2)) < B → lsumZ p (ts.map fun q => (min q.1 B, q.2)) = lsumZ p ts)
  | [], _ => by simp [lsumZ]
  | q :: t, h => by
    obtain ⟨h1, h2, h3⟩ := lsum_min p B hB t (fun u hu => h u (by simp [hu]))
    have h4 := h q (by simp)
    simp only [List.map_cons, lsumZ]
    cases p q.2
    · simp only [Bool.false_eq_true, if_false, Int.zero_add]
      exact ⟨h1, h2, h3⟩
    · simp only [if_true]
      refine ⟨by omega, by omega, fun h5 => ?_⟩
      have := h3 (by omega)
      omega
theorem zip_map2 (ts : List (Int × Int)) (f : Int × Int → Int) : (ts.map f).zip (ts.map (·.2)) = ts.map fun q => (f q, q.2) := by
  induction ts with
  | nil => rfl
  | cons q t ih => simp [ih]
/-- THE CANONICAL FORM IS EQUIVALENT -/
theorem norm_equiv (p : Int → Bool) (l : LinV) (hl : l.C.length = l.L.length) (hz : ∀ x ∈ l.L, x ≠ 0) (hp : ∀ x, x ≠ 0 → p (-x) = !p x) : lholds p (normW l) = lholds p l := by
  unfold lholds
  have hs := lsum_split p l hl hz hp
  have hpos := terms_pos l (varsZ l.L)
  have hnn := lsum_nn p _ hpos
  unfold normW
  generalize termsP l (varsZ l.L) = ts at *
  generalize minsP l (varsZ l.L) = m at *
  by_cases h1 : l.B - m ≤ 0
  · rw [if_pos h1, decide_eq_decide]
    simp only [lin0, List.zip_nil_left, lsumZ]
    omega
  · rw [if_neg h1]
    by_cases h2 : sumF1 ts < l.B - m
    · rw [if_pos h2, decide_eq_decide]
      simp only [List.zip_nil_left, lsumZ]
      omega
    · rw [if_neg h2, decide_eq_decide]
      simp only
      rw [zip_map2]
      obtain ⟨a, b, c⟩ := lsum_min p (l.B - m) (by omega) ts hpos
      constructor
      · intro h; omega
      · intro h
        rcases Int.lt_or_le (lsumZ p (ts.map fun q => (min q.1 (l.B - m), q.2))) (l.B - m) with h3 | h3
        · have := c h3; omega
        · exact h3
end Go.Proofs.Ytibfgeoiemmjoaa
