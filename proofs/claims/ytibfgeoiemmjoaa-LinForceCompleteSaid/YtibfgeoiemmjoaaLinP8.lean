/- Plain law: what Force returns is what every extending assignment says. -/
import Derived.Test.YtibfgeoiemmjoaaLinP7
namespace Go.Proofs.Ytibfgeoiemmjoaa

def Reg (p : Int → Bool) : Prop := ∀ x, x ≠ 0 → p (-x) = !p x
def Agr (p : Int → Bool) (lits : List Int) : Prop := ∀ x ∈ lits, p x = true
theorem lsum_mono {p p' : Int → Bool} : ∀ z : List (Int × Int), (∀ q ∈ z, 0 < q.1) → (∀ q ∈ z, p q.2 = true → p' q.2 = true) → lsumZ p z ≤ lsumZ p' z
  | [], _, _ => Int.le_refl _
  | q :: t, h, hp => by
    have ih := lsum_mono t (fun u hu => h u (by simp [hu])) (fun u hu => hp u (by simp [hu]))
    have h1 := h q (by simp)
    have h2 := hp q (by simp)
    simp only [lsumZ]
    cases e1 : p q.2
    · simp only [Bool.false_eq_true, if_false]; split <;> omega
    · rw [h2 e1]; simp only [if_true]; omega
theorem lsum_strict {p p' : Int → Bool} {c y : Int} : ∀ z : List (Int × Int), (∀ q ∈ z, 0 < q.1) → (∀ q ∈ z, p q.2 = true → p' q.2 = true) → (c, y) ∈ z → p y = false → p' y = true → lsumZ p z + c ≤ lsumZ p' z
  | [], _, _, hm, _, _ => by simp at hm
  | q :: t, h, hp, hm, h1, h2 => by
    rcases List.mem_cons.1 hm with rfl | hm
    · have := lsum_mono t (fun u hu => h u (by simp [hu])) (fun u hu => hp u (by simp [hu]))
      simp only [lsumZ, h1, h2]
      simp
      omega
    · have ih := lsum_strict t (fun u hu => h u (by simp [hu])) (fun u hu => hp u (by simp [hu])) hm h1 h2
      have h3 := h q (by simp)
      have h4 := hp q (by simp)
      simp only [lsumZ]
      cases e1 : p q.2
      · simp only [Bool.false_eq_true, if_false]; split <;> omega
      · rw [h4 e1]; simp only [if_true]; omega
theorem lsum_flip {p p' : Int → Bool} {c y : Int} : ∀ z : List (Int × Int), IncA (z.map (·.2)) → (∀ q ∈ z, 0 < q.1) → (∀ q ∈ z, q.2 ≠ y → p q.2 = true → p' q.2 = true) → (c, y) ∈ z → lsumZ p z ≤ lsumZ p' z + c
  | [], _, _, _, hm => by simp at hm
  | q :: t, hi, h, hp, hm => by
    have hgt : ∀ u ∈ t, q.2.natAbs < u.2.natAbs := fun u hu => by
      have : (q.2.natAbs : Int) < (u.2.natAbs : Int) := hi.1 (u.2.natAbs : Int) (by simp only [List.mem_map]; exact ⟨u.2, ⟨u, hu, rfl⟩, rfl⟩)
      omega
    have h3 := h q (by simp)
    rcases List.mem_cons.1 hm with rfl | hm
    · have := lsum_mono (p := p) (p' := p') t (fun u hu => h u (by simp [hu])) (fun u hu => hp u (by simp [hu]) (by have := hgt u hu; simp only at this; omega))
      simp only [lsumZ]
      simp only at h3
      split <;> split <;> omega
    · have ih := lsum_flip t hi.2 (fun u hu => h u (by simp [hu])) (fun u hu => hp u (by simp [hu])) hm
      have h4 := hp q (by simp) (by have := hgt _ hm; simp only at this; omega)
      simp only [lsumZ]
      cases e1 : p q.2
      · simp only [Bool.false_eq_true, if_false]; split <;> omega
      · rw [h4 e1]; simp only [if_true]; omega
theorem unlike_up {n m : Int} {lits : List Int} (hm : n ≤ m) (h : unlikeP n lits = true) : unlikeP m lits = true := by
  unfold unlikeP at *
  rw [List.all_eq_true] at *
  intro i hi
  have := h i hi
  simp only [Bool.and_eq_true] at *
  refine ⟨⟨?_, this.1.2⟩, this.2⟩
  have h1 := this.1.1
  simp [wrongL] at h1 ⊢
  omega
/-- the assignment that makes as much true as lits allow -/
def valM (lits L : List Int) (v : Int) : Bool := if lits.contains v then true else if lits.contains (-v) then false else L.contains v
def maxA (lits L : List Int) (y : Int) : Bool := if 0 < y then valM lits L y else !valM lits L (-y)
theorem maxA_reg (lits L : List Int) : Reg (maxA lits L) := fun x hx => by
  unfold maxA
  rcases Int.lt_or_le 0 x with h | h
  · rw [if_neg (by omega), if_pos h, Int.neg_neg]
  · rw [if_pos (by omega), if_neg (by omega)]; simp
section
variable {lits : List Int} (hg : Good lits lits.length)
include hg
theorem good_neg {x : Int} (hx : x ∈ lits) : -x ∉ lits := fun h => by
  have h0 := good_nz hg hx
  have := good_uniq hg hx h (by omega)
  omega
theorem maxA_agr (L : List Int) : Agr (maxA lits L) lits := fun x hx => by
  have h0 := good_nz hg hx
  have hn := good_neg hg hx
  unfold maxA valM
  split
  · simp [hx]
  · simp [hx, hn]
theorem maxA_at {L : List Int} (hi : IncA L) (hz : ∀ y ∈ L, y ≠ 0) {y : Int} (hy : y ∈ L) : maxA lits L y = !lits.contains (-y) := by
  have hny : -y ∉ L := fun h => by
    have h0 := hz y hy
    have : ∀ (l : List Int), IncA l → y ∈ l → -y ∈ l → False := fun l => by
      induction l with
      | nil => intro _ h; simp at h
      | cons a t ih =>
        intro hi h1 h2
        have hgt : ∀ u ∈ t, a.natAbs < u.natAbs := fun u hu => by
          have : (a.natAbs : Int) < (u.natAbs : Int) := hi.1 (u.natAbs : Int) (by simp only [List.mem_map]; exact ⟨u, hu, rfl⟩)
          omega
        rcases List.mem_cons.1 h1 with h1 | h1 <;> rcases List.mem_cons.1 h2 with h2 | h2
        · omega
        · have := hgt _ h2; omega
        · have := hgt _ h1; omega
        · exact ih hi.2 h1 h2
    exact this L hi hy h
  have h0 := hz y hy
  unfold maxA valM
  by_cases h1 : y ∈ lits
  · have := good_neg hg h1
    split <;> simp [h1, this]
  · by_cases h2 : -y ∈ lits
    · split <;> simp [h1, h2]
    · split <;> simp [h1, h2, hy, hny]
end
theorem lsum_congr {p p' : Int → Bool} : ∀ z : List (Int × Int), (∀ q ∈ z, p q.2 = p' q.2) → lsumZ p z = lsumZ p' z
  | [], _ => rfl
  | q :: t, h => by simp only [lsumZ]; rw [h q (by simp), lsum_congr t (fun u hu => h u (by simp [hu]))]
theorem lsum_max {l : LinV} {lits : List Int} (hu : unlikeP 65536 lits = true) : lsumZ (maxA lits (normP l).L) ((normP l).C.zip (normP l).L) = canP (normP l) lits := by
  have hg := (unlike_good lits).1 hu
  refine lsum_congr _ fun q hq => ?_
  exact maxA_at hg (norm_canon l).inc (norm_nz l) (List.of_mem_zip hq).2
theorem lsum_le_can {l : LinV} {lits : List Int} (hc : lcheck l 65536 = 0) {p : Int → Bool} (hr : Reg p) (ha : Agr p lits) : lsumZ p ((normP l).C.zip (normP l).L) ≤ canP (normP l) lits := by
  refine lsum_mono _ (fun q hq => (norm_facts hc).2.2.1 q.1 (List.of_mem_zip hq).1) fun q hq h => ?_
  have h0 := norm_nz l q.2 (List.of_mem_zip hq).2
  simp only [Bool.not_eq_true', List.contains_eq_mem, decide_eq_false_iff_not]
  intro hm
  have := ha _ hm
  rw [hr _ h0, h] at this
  cases this
theorem holds_norm {l : LinV} (hc : lcheck l 65536 = 0) {p : Int → Bool} (hr : Reg p) : lholds p l = decide ((normP l).B ≤ lsumZ p ((normP l).C.zip (normP l).L)) := by
  obtain ⟨h1, h2, h3, h4, h5, h6, h7⟩ := lcheck_ok hc
  rw [← norm_equiv p l h3 (fun x hx => (h6 x hx).1) hr]
  unfold lholds normP
  rw [if_pos hc]
section
variable {l : LinV} {lits : List Int} (hc : lcheck l 65536 = 0) (hu : unlikeP 65536 lits = true)
include hc hu
theorem force_no (h : forceP l lits = none) {p : Int → Bool} (hr : Reg p) (ha : Agr p lits) : lholds p l = false := by
  unfold forceP at h
  rw [if_neg (by rw [hu]; simp [hc])] at h
  split at h
  · rw [holds_norm hc hr]
    have := lsum_le_can hc hr ha
    simp only [decide_eq_false_iff_not]
    omega
  · cases h
theorem force_yes {fs : List Int} (h : forceP l lits = some fs) : lholds (maxA lits (normP l).L) l = true ∧ (∀ y, y ∈ fs ↔ ∃ c, (c, y) ∈ (normP l).C.zip (normP l).L ∧ y ∉ lits ∧ -y ∉ lits ∧ canP (normP l) lits - (normP l).B < c) ∧ (normP l).B ≤ canP (normP l) lits := by
  unfold forceP at h
  rw [if_neg (by rw [hu]; simp [hc])] at h
  split at h
  · cases h
  · injection h with h
    refine ⟨?_, fun y => ?_, by omega⟩
    · rw [holds_norm hc (maxA_reg _ _), lsum_max hu]
      simp only [decide_eq_true_eq]
      omega
    · rw [← h]
      simp only [List.mem_map, List.mem_filter, Bool.and_eq_true, Bool.not_eq_true', List.contains_eq_mem, decide_eq_false_iff_not, decide_eq_true_eq]
      constructor
      · rintro ⟨q, ⟨hq, ⟨h1, h2⟩, h3⟩, rfl⟩; exact ⟨q.1, hq, h1, h2, h3⟩
      · rintro ⟨c, hq, h1, h2, h3⟩; exact ⟨(c, y), ⟨hq, ⟨h1, h2⟩, h3⟩, rfl⟩
theorem force_mem {fs : List Int} (h : forceP l lits = some fs) {y : Int} (hy : y ≠ 0) : y ∈ fs ↔ y ∉ lits ∧ -y ∉ lits ∧ ∀ p, Reg p → Agr p lits → lholds p l = true → p y = true := by
  obtain ⟨_, h2, h3⟩ := force_yes hc hu h
  have hpos : ∀ q ∈ (normP l).C.zip (normP l).L, 0 < q.1 := fun q hq => (norm_facts hc).2.2.1 q.1 (List.of_mem_zip hq).1
  have hmx := lsum_max (l := l) hu
  have hg := (unlike_good lits).1 hu
  rw [h2]
  constructor
  · rintro ⟨c, hq, h4, h5, h6⟩
    refine ⟨h4, h5, fun p hr ha hh => ?_⟩
    cases e : p y with
    | true => rfl
    | false =>
      rw [holds_norm hc hr] at hh
      simp only [decide_eq_true_eq] at hh
      have := lsum_strict (p := p) (p' := fun y => !lits.contains (-y)) _ hpos (fun q hq h => by
        have h0 := norm_nz l q.2 (List.of_mem_zip hq).2
        simp only [Bool.not_eq_true', List.contains_eq_mem, decide_eq_false_iff_not]
        intro hm
        have := ha _ hm
        rw [hr _ h0, h] at this
        cases this) hq e (by simp [h5])
      unfold canP at h6
      omega
  · rintro ⟨h4, h5, h6⟩
    let fl : Int → Bool := fun u => if u = y then false else if u = -y then true else maxA lits (normP l).L u
    have hfl : Reg fl := fun x hx => by
      simp only [fl]
      by_cases e1 : x = y
      · subst e1; rw [if_neg (by omega), if_pos rfl, if_pos rfl]; rfl
      · by_cases e2 : x = -y
        · subst e2; rw [if_pos (by omega), if_neg e1, if_pos rfl]; rfl
        · rw [if_neg (by omega), if_neg (by omega), if_neg e1, if_neg e2]
          exact maxA_reg _ _ x hx
    have hag : Agr fl lits := fun x hx => by
      simp only [fl]
      rw [if_neg (fun e : x = y => h4 (e ▸ hx)), if_neg (fun e : x = -y => h5 (e ▸ hx))]
      exact maxA_agr hg _ x hx
    have hno : lholds fl l = false := by
      cases e : lholds fl l with
      | false => rfl
      | true =>
        have := h6 fl hfl hag e
        simp [fl] at this
    rw [holds_norm hc hfl] at hno
    simp only [decide_eq_false_iff_not] at hno
    by_cases hm : y ∈ (normP l).L
    · have hq : ∃ c, (c, y) ∈ (normP l).C.zip (normP l).L := by
        have h1 := zip_snd (norm_canon l).len
        rw [← h1] at hm
        obtain ⟨q, hq, rfl⟩ := List.mem_map.1 hm
        exact ⟨q.1, hq⟩
      obtain ⟨c, hq⟩ := hq
      refine ⟨c, hq, h4, h5, ?_⟩
      have := lsum_flip (p := maxA lits (normP l).L) (p' := fl) _ (by rw [zip_snd (norm_canon l).len]; exact (norm_canon l).inc) hpos (fun q _ hne h => by
        simp only [fl]
        rw [if_neg hne]
        split
        · rfl
        · exact h) hq
      omega
    · exfalso
      have := lsum_mono (p := maxA lits (normP l).L) (p' := fl) _ hpos (fun q hq h => by
        simp only [fl]
        rw [if_neg (fun e : q.2 = y => hm (e ▸ (List.of_mem_zip hq).2))]
        split
        · rfl
        · exact h)
      omega
end
theorem inc_len : ∀ (l : List Int) (a b : Int), Inc l → (∀ x ∈ l, a < x ∧ x ≤ b) → (l.length : Int) ≤ max 0 (b - a)
  | [], a, b, _, _ => by simp; omega
  | x :: t, a, b, hi, h => by
    have := inc_len t x b hi.2 (fun y hy => ⟨hi.1 y hy, (h y (by simp [hy])).2⟩)
    have := h x (by simp)
    simp only [List.length_cons]
    omega
theorem force_len {l : LinV} {lits fs : List Int} {n : Int} (hn : 0 ≤ n) (hc : lcheck l n = 0) (h : forceP l lits = some fs) : (fs.length : Int) ≤ n := by
  have h1 := norm_lits hc
  have h2 := inc_len _ 0 n (norm_canon l).inc (fun x hx => by
    obtain ⟨y, hy, rfl⟩ := List.mem_map.1 hx
    have := h1 y hy
    omega)
  simp only [List.length_map] at h2
  unfold forceP at h
  split at h
  · cases h
  · split at h
    · cases h
    · injection h with h
      rw [← h, List.length_map]
      have h3 := List.length_filter_le (fun q : Int × Int => !lits.contains q.2 && !lits.contains (-q.2) && decide (canP (normP l) lits - (normP l).B < q.1)) ((normP l).C.zip (normP l).L)
      have h4 : ((normP l).C.zip (normP l).L).length ≤ (normP l).L.length := by rw [List.length_zip]; omega
      omega
end Go.Proofs.Ytibfgeoiemmjoaa
