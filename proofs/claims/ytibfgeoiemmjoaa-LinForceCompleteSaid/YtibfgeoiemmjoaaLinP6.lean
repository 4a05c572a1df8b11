/- Plain facts about the canonical form: its shape, idempotence, rounding division, negation; no program in sight. -/
import Derived.Test.YtibfgeoiemmjoaaLinP5
namespace Go.Proofs.Ytibfgeoiemmjoaa

def IncA (l : List Int) : Prop := Inc (l.map fun x => (x.natAbs : Int))
structure Canon (x : LinV) : Prop where
  len : x.C.length = x.L.length
  co : ∀ c ∈ x.C, 1 ≤ c ∧ c ≤ x.B
  inc : IncA x.L
  nil : x.C = [] → x.B = 0 ∨ x.B = 1
  full : x.C ≠ [] → 1 ≤ x.B ∧ x.B ≤ sumF1 (x.C.zip x.L)
theorem incA_terms (l : LinV) : ∀ vs : List Int, Inc vs → (∀ v ∈ vs, 0 < v) → IncA ((termsP l vs).map (·.2))
  | [], _, _ => by simp [termsP, IncA, Inc]
  | v :: t, hi, hp => by
    have ih := incA_terms l t hi.2 (fun u hu => hp u (by simp [hu]))
    have hv := hp v (by simp)
    have e : termsP l (v :: t) = termV (cf l v) (cf l (-v)) v ++ termsP l t := by simp [termsP]
    have hgt : ∀ y ∈ ((termsP l t).map (·.2)).map (fun x => (x.natAbs : Int)), v < y := fun y hy => by
      simp only [List.map_map, List.mem_map] at hy
      obtain ⟨q, hq, rfl⟩ := hy
      obtain ⟨u, hu, h⟩ := terms_var hq
      have h1 := hi.1 u hu
      simp only [Function.comp_apply]
      rcases h with h | h <;> rw [h] <;> omega
    rw [e]
    unfold termV IncA at *
    split
    · simp only [List.cons_append, List.nil_append, List.map_cons, Inc]
      refine ⟨fun y hy => ?_, ih⟩
      have := hgt y hy
      omega
    · split
      · simp only [List.cons_append, List.nil_append, List.map_cons, Inc]
        refine ⟨fun y hy => ?_, ih⟩
        have := hgt y hy
        omega
      · simpa using ih
theorem sumF1_min (B : Int) (hB : 0 ≤ B) : ∀ ts : List (Int × Int), (∀ q ∈ ts, 0 < q.1) → B ≤ sumF1 ts → B ≤ sumF1 (ts.map fun q => (min q.1 B, q.2))
  | [], _, h => by simpa [sumF1] using h
  | q :: t, hp, h => by
    have hq := hp q (by simp)
    simp only [sumF1, List.map_cons] at h ⊢
    have hnn : 0 ≤ sumF1 (t.map fun q => (min q.1 B, q.2)) := by
      have : ∀ s : List (Int × Int), (∀ q ∈ s, 0 < q.1) → 0 ≤ sumF1 (s.map fun q => (min q.1 B, q.2)) := fun s => by
        induction s with
        | nil => intro _; simp [sumF1]
        | cons u s ih => intro hs; have := ih (fun q hq => hs q (by simp [hq])); have := hs u (by simp); simp only [List.map_cons, sumF1]; omega
      exact this t (fun u hu => hp u (by simp [hu]))
    rcases Int.le_total B q.1 with h1 | h1
    · omega
    · have hle : sumF1 t - B ≤ sumF1 (t.map fun q => (min q.1 B, q.2)) - B ∨ B ≤ sumF1 (t.map fun q => (min q.1 B, q.2)) ∨ sumF1 (t.map fun q => (min q.1 B, q.2)) = sumF1 t := by
        have : ∀ s : List (Int × Int), (∀ q ∈ s, 0 < q.1) → B ≤ sumF1 (s.map fun q => (min q.1 B, q.2)) ∨ sumF1 (s.map fun q => (min q.1 B, q.2)) = sumF1 s := fun s => by
          induction s with
          | nil => intro _; right; rfl
          | cons u s ih =>
            intro hs
            have h0 := hs u (by simp)
            have hs' : ∀ q ∈ s, 0 < q.1 := fun q hq => hs q (by simp [hq])
            have hn : 0 ≤ sumF1 (s.map fun q => (min q.1 B, q.2)) := by
              clear ih
              induction s with
              | nil => simp [sumF1]
              | cons u s ih => have := ih (fun q hq => hs q (by simp at hq ⊢; rcases hq with h | h; exact .inl h; exact .inr (.inr h))) (fun q hq => hs' q (by simp [hq])); have := hs' u (by simp); simp only [List.map_cons, sumF1]; omega
            simp only [List.map_cons, sumF1]
            rcases ih hs' with h | h
            · left; omega
            · rcases Int.le_total B u.1 with h2 | h2
              · left; omega
              · right; omega
        rcases this t (fun u hu => hp u (by simp [hu])) with h | h
        · exact .inr (.inl h)
        · exact .inr (.inr h)
      omega
theorem sumF1_zip2 (ts : List (Int × Int)) (f : Int × Int → Int) : sumF1 ((ts.map f).zip (ts.map (·.2))) = sumF1 (ts.map fun q => (f q, q.2)) := by rw [zip_map2]
theorem canon0 : Canon lin0 := ⟨rfl, by simp [lin0], by simp [lin0, IncA, Inc], fun _ => .inl rfl, fun h => absurd rfl h⟩
theorem canon1 : Canon ⟨[], [], 1⟩ := ⟨rfl, by simp, by simp [IncA, Inc], fun _ => .inr rfl, fun h => absurd rfl h⟩
theorem normW_canon {l : LinV} (hz : ∀ x ∈ l.L, x ≠ 0) : Canon (normW l) := by
  have hi := incA_terms l _ (inc_varsZ l.L) (vars_pos hz)
  have hp := terms_pos l (varsZ l.L)
  unfold normW
  generalize minsP l (varsZ l.L) = m at *
  generalize termsP l (varsZ l.L) = ts at *
  split
  · exact canon0
  · split
    · exact canon1
    · refine ⟨by simp, fun c hc => ?_, hi, fun h => ?_, fun _ => ?_⟩
      · simp only [List.mem_map] at hc
        obtain ⟨q, hq, rfl⟩ := hc
        have := hp q hq
        simp only
        omega
      · simp only [List.map_eq_nil_iff] at h
        subst h
        simp only [sumF1] at *
        omega
      · simp only
        rw [zip_map2]
        exact ⟨by omega, sumF1_min _ (by omega) ts hp (by omega)⟩
theorem norm_canon (l : LinV) : Canon (normP l) := by
  unfold normP
  split
  · rename_i h
    exact normW_canon fun x hx => ((lcheck_ok h).2.2.2.2.2.1 x hx).1
  · exact canon0
/-! idempotence -/
theorem cfZ_inc : ∀ z : List (Int × Int), IncA (z.map (·.2)) → (∀ q ∈ z, q.2 ≠ 0) → ∀ q ∈ z, cfZ z q.2 = q.1 ∧ cfZ z (-q.2) = 0
  | [], _, _, q, hq => by simp at hq
  | h :: t, hi, hz, q, hq => by
    have hgt : ∀ u ∈ t, h.2.natAbs < u.2.natAbs := fun u hu => by
      have : (h.2.natAbs : Int) < (u.2.natAbs : Int) := hi.1 (u.2.natAbs : Int) (by simp only [List.mem_map]; exact ⟨u.2, ⟨u, hu, rfl⟩, rfl⟩)
      omega
    have h0 := hz h (by simp)
    rcases List.mem_cons.1 hq with rfl | hq
    · constructor
      · simp only [cfZ, if_true]
        rw [cfZ_none fun u hu => by have := hgt u hu; omega]
        omega
      · simp only [cfZ]
        rw [if_neg (by omega), cfZ_none fun u hu => by have := hgt u hu; omega]
        rfl
    · have ih := cfZ_inc t hi.2 (fun u hu => hz u (by simp [hu])) q hq
      have := hgt q hq
      simp only [cfZ]
      rw [if_neg (by omega), if_neg (by omega), ih.1, ih.2]
      simp
theorem vars_inc {L : List Int} (h : IncA L) : varsZ L = L.map fun x => (x.natAbs : Int) :=
  inc_ext (inc_varsZ L) h fun y => by
    rw [mem_varsZ, List.mem_map]
    constructor
    · rintro ⟨x, hx, rfl⟩; exact ⟨x, hx, rfl⟩
    · rintro ⟨x, hx, rfl⟩; exact ⟨x, hx, rfl⟩
theorem canon_terms {x : LinV} (h : Canon x) (hz : ∀ y ∈ x.L, y ≠ 0) : termsP x (varsZ x.L) = x.C.zip x.L ∧ minsP x (varsZ x.L) = 0 := by
  have hi : IncA ((x.C.zip x.L).map (·.2)) := by rw [zip_snd h.len]; exact h.inc
  have hq := cfZ_inc _ hi (fun q hq => hz q.2 (List.of_mem_zip hq).2)
  have hc : ∀ q ∈ x.C.zip x.L, 1 ≤ q.1 ∧ q.2 ≠ 0 := fun q hq => ⟨(h.co q.1 (List.of_mem_zip hq).1).1, hz q.2 (List.of_mem_zip hq).2⟩
  have hv : varsZ x.L = (x.C.zip x.L).map fun q => (q.2.natAbs : Int) := by
    rw [vars_inc h.inc]
    conv => lhs; rw [← zip_snd h.len]
    rw [List.map_map]
    rfl
  have key : ∀ z : List (Int × Int), (∀ q ∈ z, q ∈ x.C.zip x.L) → termsP x (z.map fun q => (q.2.natAbs : Int)) = z ∧ minsP x (z.map fun q => (q.2.natAbs : Int)) = 0 := fun z => by
    induction z with
    | nil => intro _; exact ⟨rfl, rfl⟩
    | cons q t ih =>
      intro hm
      obtain ⟨i1, i2⟩ := ih fun u hu => hm u (by simp [hu])
      have hq1 := hq q (hm q (by simp))
      have hc1 := hc q (hm q (by simp))
      have e : termsP x ((q :: t).map fun q => (q.2.natAbs : Int)) = termV (cf x (q.2.natAbs : Int)) (cf x (-(q.2.natAbs : Int))) (q.2.natAbs : Int) ++ termsP x (t.map fun q => (q.2.natAbs : Int)) := by simp [termsP]
      rw [e, i1]
      simp only [List.map_cons, minsP, i2]
      unfold cf termV
      rcases Int.lt_or_le 0 q.2 with hp | hp
      · have e1 : (q.2.natAbs : Int) = q.2 := by omega
        rw [e1, hq1.1, hq1.2, if_pos (by omega)]
        exact ⟨by simp, by omega⟩
      · have e1 : (q.2.natAbs : Int) = -q.2 := by omega
        have e2 : -(-q.2) = q.2 := by omega
        rw [e1, e2, hq1.1, hq1.2, if_neg (by omega), if_pos (by omega)]
        exact ⟨by simp, by omega⟩
  rw [hv]
  exact key _ fun q hq => hq
theorem canon_idem {x : LinV} (h : Canon x) (hz : ∀ y ∈ x.L, y ≠ 0) : normW x = x := by
  obtain ⟨h1, h2⟩ := canon_terms h hz
  unfold normW
  rw [h1, h2]
  by_cases hn : x.C = []
  · have hl : x.L = [] := List.eq_nil_of_length_eq_zero (by rw [← h.len, hn]; rfl)
    obtain ⟨C, L, B⟩ := x
    simp only at hn hl
    subst hn hl
    rcases h.nil rfl with hB | hB
    · simp only at hB
      subst hB
      rfl
    · simp only at hB
      subst hB
      rfl
  · obtain ⟨hb1, hb2⟩ := h.full hn
    rw [if_neg (by omega), if_neg (by omega)]
    have e1 : (x.C.zip x.L).map (fun q => min q.1 (x.B - 0)) = x.C := by
      conv => rhs; rw [← zip_fst h.len]
      refine List.map_congr_left fun q hq => ?_
      have := h.co q.1 (List.of_mem_zip hq).1
      omega
    have e2 : (x.C.zip x.L).map (·.2) = x.L := zip_snd h.len
    rw [e1, e2, Int.sub_zero]
theorem norm_nz (l : LinV) : ∀ y ∈ (normP l).L, y ≠ 0 := by
  unfold normP
  split
  · rename_i h
    have := (norm_facts h).2.1
    unfold normP at this
    rw [if_pos h] at this
    exact fun y hy => (this y hy).1
  · simp [lin0]
theorem norm_idem (l : LinV) (h : lcheck (normP l) 65536 = 0) : normP (normP l) = normP l := by
  show (if lcheck (normP l) 65536 = 0 then normW (normP l) else lin0) = normP l
  rw [if_pos h]
  exact canon_idem (norm_canon l) (norm_nz l)
theorem lcheck_up {l : LinV} {n m : Int} (h : lcheck l n = 0) (hm : n ≤ m) (hm2 : m ≤ 65536) : lcheck l m = 0 := by
  obtain ⟨h1, h2, h3, h4, h5, h6, h7⟩ := lcheck_ok h
  exact lcheck_mk (by omega) hm2 h3 h4 h5 (fun x hx => by have := h6 x hx; omega) h7
theorem norm_lits {l : LinV} {n : Int} (h : lcheck l n = 0) : ∀ y ∈ (normP l).L, y ≠ 0 ∧ -n ≤ y ∧ y ≤ n := by
  obtain ⟨h1, h2, h3, h4, h5, h6, h7⟩ := lcheck_ok h
  have hv := vars_le h6
  unfold normP
  rw [if_pos (lcheck_up h h2 (Int.le_refl _))]
  unfold normW
  intro y hy
  split at hy
  · simp [lin0] at hy
  · split at hy
    · simp at hy
    · simp only [List.mem_map] at hy
      obtain ⟨q, hq, rfl⟩ := hy
      obtain ⟨v, hv1, hv2⟩ := terms_var hq
      have := hv v hv1
      omega
theorem normP_len (l : LinV) (hl : l.C.length ≤ 60 ∧ l.L.length ≤ 60) : (normP l).C.length ≤ 60 ∧ (normP l).L.length ≤ 60 := by
  have h1 := terms_len l (varsZ l.L)
  have h2 := varsZ_len l.L
  unfold normP
  split
  · unfold normW
    split
    · simp [lin0]
    · split
      · simp
      · simp only [List.length_map]; omega
  · simp [lin0]
/-! rounding division -/
theorem ceil_ge (c d : Int) (hd : 1 ≤ d) : c ≤ (c + d - 1) / d * d := by
  have h1 := Int.emod_add_mul_ediv (c + d - 1) d
  have h2 := Int.emod_lt_of_pos (c + d - 1) (show 0 < d by omega)
  rw [Int.mul_comm]
  omega
theorem ceil_le_of {b d s : Int} (hd : 1 ≤ d) (h : b ≤ s * d) : (b + d - 1) / d ≤ s := by
  have : (b + d - 1) / d < s + 1 := by
    rw [Int.ediv_lt_iff_lt_mul (by omega), Int.add_mul]
    omega
  omega
theorem ceil_mono {a b d : Int} (hd : 1 ≤ d) (h : a ≤ b) : (a + d - 1) / d ≤ (b + d - 1) / d := Int.ediv_le_ediv (by omega) (by omega)
theorem ceil_pos {a d : Int} (hd : 1 ≤ d) (h : 1 ≤ a) : 1 ≤ (a + d - 1) / d := by
  have := ceil_mono hd h
  have e : (1 + d - 1) / d = 1 := by rw [show (1 : Int) + d - 1 = d by omega]; exact Int.ediv_self (by omega)
  omega
def cutW (x : LinV) (d : Int) : LinV := ⟨x.C.map fun c => (c + d - 1) / d, x.L, (x.B + d - 1) / d⟩
theorem cut_one (x : LinV) : cutW x 1 = x := by
  unfold cutW
  have : (fun c : Int => (c + 1 - 1) / 1) = id := by funext c; simp
  rw [this]
  obtain ⟨C, L, B⟩ := x
  simp
theorem cut_sum (p : Int → Bool) (d : Int) (hd : 1 ≤ d) : ∀ (C L : List Int), lsumZ p (C.zip L) ≤ lsumZ p ((C.map fun c => (c + d - 1) / d).zip L) * d
  | [], L => by simp [lsumZ]
  | c :: C, [] => by simp [lsumZ]
  | c :: C, y :: L => by
    have ih := cut_sum p d hd C L
    have h1 := ceil_ge c d hd
    simp only [List.map_cons, List.zip_cons_cons, lsumZ, Int.add_mul]
    split <;> omega
theorem cut_sound (p : Int → Bool) (x : LinV) (d : Int) (hd : 1 ≤ d) (h : lholds p x = true) : lholds p (cutW x d) = true := by
  unfold lholds cutW at *
  simp only [decide_eq_true_eq] at *
  exact ceil_le_of hd (Int.le_trans h (cut_sum p d hd x.C x.L))
end Go.Proofs.Ytibfgeoiemmjoaa
