/- Plain facts on the reference of layer 12, third part. -/
import Derived.Test.YtibfgeoiemmjoaaRef12Q
namespace Go.Proofs.Ytibfgeoiemmjoaa.En

/-- what the true literals among the first k add up to -/
def lsK (p : Int → Bool) (C L : List Int) (k : Nat) : Int := lsumZ p ((C.zip L).take k)
section
variable {p : Int → Bool} {C L : List Int} {k : Nat}
theorem lsK_yes (hl : C.length = L.length) (h : k < L.length) (e : p (L.getD k 0) = true) : lsK p C L (k + 1) = lsK p C L k + C.getD k 0 := by
  unfold lsK; rw [take_succ' (getD_snd h hl), lsumZ_app]; simp only [lsumZ, e, if_true]; omega
theorem lsK_no (hl : C.length = L.length) (h : k < L.length) (e : p (L.getD k 0) = false) : lsK p C L (k + 1) = lsK p C L k := by
  unfold lsK; rw [take_succ' (getD_snd h hl), lsumZ_app]; simp only [lsumZ, e]; simp
theorem lsK_all {B : Int} (hl : C.length = L.length) (h : L.length ≤ k) : lsumZ p ((⟨C, L, B⟩ : LinV).C.zip (⟨C, L, B⟩ : LinV).L) = lsK p C L k := by
  unfold lsK; rw [List.take_of_length_le (by rw [List.length_zip]; omega)]
theorem lsK_bd {M : Int} (hM : 0 ≤ M) (hl : C.length = L.length) (hC : ∀ c ∈ C, -M ≤ c ∧ c ≤ M) : ∀ k, k ≤ L.length → -(M * (k : Int)) ≤ lsK p C L k ∧ lsK p C L k ≤ M * (k : Int)
  | 0, _ => by simp [lsK, lsumZ]
  | k + 1, h => by
    have ih := lsK_bd hM hl hC k (by omega)
    have hb := hC _ (getD_mem (l := C) (k := k) (by omega))
    have e1 : M * ((k + 1 : Nat) : Int) = M * (k : Int) + M := by rw [Int.natCast_add, Int.mul_add]; simp
    rw [e1]
    cases e : p (L.getD k 0) with
    | true => rw [lsK_yes hl (by omega) e]; omega
    | false => rw [lsK_no hl (by omega) e]; omega
end
theorem lsK_bd12 {p : Int → Bool} {C L : List Int} {B n : Int} (hc : lcheck ⟨C, L, B⟩ n = 0) (k : Nat) (hk : k ≤ L.length) : -4503599627370496 ≤ lsK p C L k ∧ lsK p C L k ≤ 4503599627370496 := by
  obtain ⟨_, _, hl, _, hC, _, h4⟩ := lcheck_ok hc
  replace hl : C.length = L.length := hl
  have := lsK_bd (p := p) (M := 1099511627776) (by omega) hl hC k hk
  replace h4 : L.length ≤ 4096 := h4
  omega
theorem lval12 {C L : List Int} {B : Int} (a : List Bool) : (lcheck ⟨C, L, B⟩ 65536 == 0 && lholds (lval a) ⟨C, L, B⟩) = lvalue ⟨C, L, B⟩ a := rfl
theorem has_no {l : List Int} {x : Int} {k : Nat} (hk : l.length ≤ k) (h : ∀ j, j < k → l.getD j 0 ≠ x) : l.contains x = false := by
  cases hc : l.contains x with
  | false => rfl
  | true =>
    obtain ⟨j, hj, e⟩ := mem_getD (List.contains_iff_mem.1 hc)
    exact absurd e (h j (by omega))
theorem has_yes {l : List Int} {x : Int} {k : Nat} (hk : k < l.length) (h : l.getD k 0 = x) : l.contains x = true := by
  rw [List.contains_iff_mem, ← h]; exact getD_mem hk
theorem neSucc {a : List Int} {k : Nat} {x : Int} (h : ∀ j, j < k → a.getD j 0 ≠ x) (hk : a.getD k 0 ≠ x) : ∀ j, j < k + 1 → a.getD j 0 ≠ x := fun j hj => by
  by_cases e : j = k
  · rw [e]; exact hk
  · exact h j (by omega)
/-- a literal of 1..n, unlike those before it -/
def unlK (n : Int) (l : List Int) (k : Nat) : Bool := !(wrongL n (l.getD k 0)) && !((l.take k).contains (l.getD k 0)) && !((l.take k).contains (-(l.getD k 0)))
theorem any_contains (l : List Int) (x : Int) : l.any (· == x) = l.contains x := by
  rw [Bool.eq_iff_iff, List.any_eq_true, List.contains_iff_mem]
  constructor
  · rintro ⟨y, h1, h2⟩; rw [← eq_of_beq h2]; exact h1
  · intro h; exact ⟨x, h, by simp⟩
theorem unlikeP_eq (n : Int) (l : List Int) : unlikeP n l = (List.range l.length).all (unlK n l) := by
  unfold unlikeP unlK
  simp only [any_contains]
theorem unl_yes {n : Int} {l : List Int} {k : Nat} (hk : l.length ≤ k) (h : ∀ j, j < k → unlK n l j = true) : unlikeP n l = true := by
  rw [unlikeP_eq, List.all_eq_true]
  intro j hj
  exact h j (by have := List.mem_range.1 hj; omega)
theorem unl_no {n : Int} {l : List Int} {k : Nat} (hk : k < l.length) (h : unlK n l k = false) : unlikeP n l = false := by
  rw [unlikeP_eq]
  cases hx : (List.range l.length).all (unlK n l) with
  | false => rfl
  | true => rw [List.all_eq_true] at hx; rw [hx k (List.mem_range.2 hk)] at h; cases h
theorem unlSucc {n : Int} {l : List Int} {k : Nat} (h : ∀ j, j < k → unlK n l j = true) (hk : unlK n l k = true) : ∀ j, j < k + 1 → unlK n l j = true := fun j hj => by
  by_cases e : j = k
  · rw [e]; exact hk
  · exact h j (by omega)
theorem unl_at {n : Int} {l : List Int} {k : Nat} (b : Bool) (h : ((((l.getD k 0 == 0 || decide (l.getD k 0 < 0 - n)) || decide (l.getD k 0 > n)) || ((l.take k).drop 0).contains (l.getD k 0)) || ((l.take k).drop 0).contains (0 - l.getD k 0)) = b) : unlK n l k = !b := by
  rw [← h]
  unfold unlK wrongL
  rw [Int.zero_sub, Int.zero_sub, List.drop_zero]
  have h1 : (l.getD k 0 == 0) = decide (l.getD k 0 = 0) := rfl
  have h2 : decide (l.getD k 0 > n) = decide (n < l.getD k 0) := rfl
  rw [h1, h2]
  cases decide (l.getD k 0 = 0) <;> cases decide (l.getD k 0 < -n) <;> cases decide (n < l.getD k 0) <;> cases (l.take k).contains (l.getD k 0) <;> cases (l.take k).contains (-(l.getD k 0)) <;> rfl
/-- what may be forced among the first k terms -/
def fcK (lits : List Int) (s : Int) (C L : List Int) (k : Nat) : List Int := (((C.zip L).take k).filter fun q => !lits.contains q.2 && !lits.contains (-q.2) && decide (s < q.1)).map (·.2)
section
variable {lits C L : List Int} {s : Int} {k : Nat}
theorem fcK_yes (hl : C.length = L.length) (h : k < L.length) (e : ((!lits.contains (L.getD k 0) && !lits.contains (0 - L.getD k 0)) && decide (C.getD k 0 > s)) = true) : fcK lits s C L (k + 1) = fcK lits s C L k ++ [L.getD k 0] := by
  unfold fcK; rw [take_succ' (getD_snd h hl), List.filter_append, List.map_append]
  rw [Int.zero_sub] at e
  have : [(C.getD k 0, L.getD k 0)].filter (fun q => !lits.contains q.2 && !lits.contains (-q.2) && decide (s < q.1)) = [(C.getD k 0, L.getD k 0)] := List.filter_cons_of_pos e
  rw [this]; rfl
theorem fcK_no (hl : C.length = L.length) (h : k < L.length) (e : ((!lits.contains (L.getD k 0) && !lits.contains (0 - L.getD k 0)) && decide (C.getD k 0 > s)) = false) : fcK lits s C L (k + 1) = fcK lits s C L k := by
  unfold fcK; rw [take_succ' (getD_snd h hl), List.filter_append, List.map_append]
  rw [Int.zero_sub] at e
  have : [(C.getD k 0, L.getD k 0)].filter (fun q => !lits.contains q.2 && !lits.contains (-q.2) && decide (s < q.1)) = [] := by
    rw [List.filter_cons_of_neg]
    · rfl
    · intro h2
      have h3 : ((!lits.contains (L.getD k 0) && !lits.contains (-(L.getD k 0))) && decide (C.getD k 0 > s)) = true := h2
      rw [e] at h3; cases h3
  rw [this]; simp
theorem fcK_len : (fcK lits s C L k).length ≤ k := by
  unfold fcK
  rw [List.length_map]
  exact Nat.le_trans (List.length_filter_le _ _) (by rw [List.length_take]; omega)
end
theorem force_bad {C L : List Int} {B : Int} {lits : List Int} (h : (lcheck ⟨C, L, B⟩ 65536 != 0 || !unlikeP 65536 lits) = true) : forceP ⟨C, L, B⟩ lits = none := by
  unfold forceP
  rw [if_pos]
  rcases Bool.or_eq_true_iff.1 h with h | h
  · exact .inl (bne_iff_ne.1 h)
  · exact .inr (by simpa using h)
theorem force_good {C L : List Int} {B : Int} {lits : List Int} (h : (lcheck ⟨C, L, B⟩ 65536 != 0 || !unlikeP 65536 lits) = false) : lcheck ⟨C, L, B⟩ 65536 = 0 ∧ unlikeP 65536 lits = true := by
  obtain ⟨h1, h2⟩ := Bool.or_eq_false_iff.1 h
  exact ⟨by simpa using h1, by simpa using h2⟩
theorem force_ok {l : LinV} {lits : List Int} (hc : lcheck l 65536 = 0) (hu : unlikeP 65536 lits = true) :
    forceP l lits = if canP (normP l) lits < (normP l).B then none else some (fcK lits (canP (normP l) lits - (normP l).B) (normP l).C (normP l).L (normP l).L.length) := by
  unfold forceP
  rw [if_neg (by rw [hc, hu]; simp)]
  split
  · rfl
  · unfold fcK
    rw [List.take_of_length_le (by rw [List.length_zip]; omega)]
/-- what the caller sees of a forced list -/
def forceF (l : LinV) (lits : List Int) : List Int := (forceP l lits).getD []
def forceB (l : LinV) (lits : List Int) : Bool := (forceP l lits).isSome
theorem can_lsK (x : LinV) (lits : List Int) (hl : x.C.length = x.L.length) {k : Nat} (hk : x.L.length ≤ k) : lsK (fun y => !lits.contains (-y)) x.C x.L k = canP x lits := by
  unfold lsK canP; rw [List.take_of_length_le (by rw [List.length_zip]; omega)]
/-- the first i elements rounded up -/
def cutTo (xs : List Int) (d : Int) (i : Nat) : List Int := (xs.take i).map (fun c => (c + d - 1) / d) ++ xs.drop i
theorem cutTo_zero (xs : List Int) (d : Int) : cutTo xs d 0 = xs := by simp [cutTo]
theorem cutTo_len (xs : List Int) (d : Int) (i : Nat) : (cutTo xs d i).length = xs.length := by simp [cutTo]; omega
theorem cutTo_at {xs : List Int} {d : Int} {i : Nat} (h : i < xs.length) : (cutTo xs d i).getD i 0 = xs.getD i 0 := by
  have hl : ((xs.take i).map (fun c => (c + d - 1) / d)).length = i := by simp; omega
  unfold cutTo
  rw [List.drop_eq_getElem_cons h, List.getD_eq_getElem?_getD, List.getElem?_append_right (by omega), hl, Nat.sub_self]
  simp [List.getD, List.getElem?_eq_getElem h]
theorem cutTo_succ {xs : List Int} {d : Int} {i : Nat} (h : i < xs.length) (h0 : 0 ≤ xs.getD i 0 + d - 1) : (cutTo xs d i).set i (((cutTo xs d i).getD i 0 + d - 1).tdiv d) = cutTo xs d (i + 1) := by
  rw [cutTo_at h, Int.tdiv_eq_ediv_of_nonneg h0]
  have hl : ((xs.take i).map (fun c => (c + d - 1) / d)).length = i := by simp; omega
  unfold cutTo
  have hd : xs.drop i = xs.getD i 0 :: xs.drop (i + 1) := by
    rw [List.drop_eq_getElem_cons h]; simp [List.getD, List.getElem?_eq_getElem h]
  rw [take_succD h, hd, List.set_append_right _ _ (by omega), hl, Nat.sub_self]
  simp
theorem cutTo_all {xs : List Int} {d : Int} {i : Nat} (h : xs.length ≤ i) : cutTo xs d i = xs.map (fun c => (c + d - 1) / d) := by
  unfold cutTo; rw [List.take_of_length_le h, List.drop_eq_nil_of_le h, List.append_nil]
theorem norm_bound {l : LinV} (h : lcheck l 65536 = 0) : 0 ≤ (normP l).B ∧ (normP l).B ≤ 4504699138998272 ∧ (∀ c ∈ (normP l).C, 0 < c ∧ c ≤ 4504699138998272) ∧ (normP l).C.length = (normP l).L.length ∧ (normP l).L.length ≤ 4096 := by
  have hf := norm_facts h
  have hcn := norm_canon l
  have hb := nB_bd h (varsZ l.L).length
  have hL := (lcheck_ok h).2.2.2.2.2.2
  have h1 := (nAll (l := l) (Nat.le_refl _)).1
  rw [h1] at hb
  have hBd : 0 ≤ (normP l).B ∧ (normP l).B ≤ 4504699138998272 := by
    rw [norm_at h]
    unfold normW
    split
    · simp [lin0]
    · split
      · simp
      · exact ⟨by simp only; omega, hb.2⟩
  refine ⟨hBd.1, hBd.2, fun c hc => ?_, hf.1, ?_⟩
  · have h2 := hf.2.2.1 c hc
    refine ⟨h2, ?_⟩
    rw [norm_at h] at hc
    unfold normW at hc
    split at hc
    · simp [lin0] at hc
    · split at hc
      · simp at hc
      · simp only [List.mem_map] at hc
        obtain ⟨q, _, rfl⟩ := hc
        omega
  · have h3 := varsZ_len l.L
    have h4 := terms_len l (varsZ l.L)
    rw [norm_at h]
    unfold normW
    split
    · simp [lin0]
    · split
      · simp
      · simp only [List.length_map]; omega
theorem lsK_norm {l : LinV} (h : lcheck l 65536 = 0) (p : Int → Bool) (k : Nat) : 0 ≤ lsK p (normP l).C (normP l).L k ∧ lsK p (normP l).C (normP l).L k ≤ 4503599627370496 := by
  have hf := norm_facts h
  have hpos : ∀ q ∈ (normP l).C.zip (normP l).L, 0 < q.1 := fun q hq => hf.2.2.1 _ (List.of_mem_zip hq).1
  have h1 := lsum_nn p (((normP l).C.zip (normP l).L).take k) (fun q hq => hpos q (List.mem_of_mem_take hq))
  have h2 := sumF1_take ((normP l).C.zip (normP l).L) k hpos
  unfold lsK
  omega
theorem cut_val {C L : List Int} {B d : Int} (hc : lcheck ⟨C, L, B⟩ 65536 = 0) (hd : ¬ (d < 1 ∨ 1099511627776 < d)) : cutP ⟨C, L, B⟩ d = (⟨(normP ⟨C, L, B⟩).C.map fun c => (c + d - 1) / d, (normP ⟨C, L, B⟩).L, ((normP ⟨C, L, B⟩).B + d - 1) / d⟩, 0) := by
  unfold cutP; rw [if_neg (by rw [hc]; simp), if_neg hd]
theorem cut_no {C L : List Int} {B d : Int} (hc : ¬ lcheck ⟨C, L, B⟩ 65536 = 0) : cutP ⟨C, L, B⟩ d = (lin0, lcheck ⟨C, L, B⟩ 65536) := by
  unfold cutP; rw [if_pos hc]
theorem cut_arg {C L : List Int} {B d : Int} (hc : lcheck ⟨C, L, B⟩ 65536 = 0) (hd : d < 1 ∨ 1099511627776 < d) : cutP ⟨C, L, B⟩ d = (lin0, 1) := by
  unfold cutP; rw [if_neg (by rw [hc]; simp), if_pos hd]
theorem add_no1 {a b : LinV} (hc : ¬ lcheck a 65536 = 0) : addP a b = (lin0, lcheck a 65536) := by unfold addP; rw [if_pos hc]
theorem add_no2 {a b : LinV} (ha : lcheck a 65536 = 0) (hc : ¬ lcheck b 65536 = 0) : addP a b = (lin0, lcheck b 65536) := by unfold addP; rw [if_neg (by rw [ha]; simp), if_pos hc]
theorem add_no3 {a b : LinV} (ha : lcheck a 65536 = 0) (hb : lcheck b 65536 = 0) (h : 4096 < a.L.length + b.L.length ∨ offN (a.B + b.B) = true) : addP a b = (lin0, 2) := by
  unfold addP; rw [if_neg (by rw [ha]; simp), if_neg (by rw [hb]; simp), if_pos h]
theorem add_yes {a b : LinV} (ha : lcheck a 65536 = 0) (hb : lcheck b 65536 = 0) (h : ¬ (4096 < a.L.length + b.L.length ∨ offN (a.B + b.B) = true)) : addP a b = (⟨a.C ++ b.C, a.L ++ b.L, a.B + b.B⟩, 0) := by
  unfold addP; rw [if_neg (by rw [ha]; simp), if_neg (by rw [hb]; simp), if_neg h]
theorem add_noE {a b : LinV} (h : (bif lcheck a 65536 == 0 then lcheck b 65536 else lcheck a 65536) ≠ 0) : addP a b = (lin0, bif lcheck a 65536 == 0 then lcheck b 65536 else lcheck a 65536) := by
  by_cases ha : lcheck a 65536 = 0
  · rw [ha] at h ⊢
    exact add_no2 ha h
  · have : (lcheck a 65536 == 0) = false := by simpa using ha
    rw [this] at h ⊢
    exact add_no1 ha
theorem add_okE {a b : LinV} (h : (bif lcheck a 65536 == 0 then lcheck b 65536 else lcheck a 65536) = 0) : lcheck a 65536 = 0 ∧ lcheck b 65536 = 0 := by
  by_cases ha : lcheck a 65536 = 0
  · rw [ha] at h
    exact ⟨ha, h⟩
  · have : (lcheck a 65536 == 0) = false := by simpa using ha
    rw [this] at h
    exact absurd h ha
end Go.Proofs.Ytibfgeoiemmjoaa.En
