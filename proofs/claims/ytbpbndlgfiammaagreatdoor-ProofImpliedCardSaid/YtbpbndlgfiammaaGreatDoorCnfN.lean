/- Clauses in Norm's order: the sorted literals of a clause, tautologies and resolvents, as plain functions. No program in sight. -/
import Derived.Test.YtbpbndlgfiammaaGreatDoorCnfP
import Derived.Lib.RowBridge
set_option linter.unusedSimpArgs false
set_option linter.unusedVariables false
set_option linter.unnecessarySimpa false
namespace Go.Proofs.YtbpbndlgfiammaaGreatDoor.Cn
open Go

/-- x comes before y -/
def ahd (x y : Int) : Bool := decide (x.natAbs < y.natAbs ∨ x.natAbs = y.natAbs ∧ y < x)
def sortL (xs : List Int) : List Int := xs.mergeSort fun x y => !ahd y x
def normL (l : List Int) : List Int := Lib.compact (sortL (l.filter fun x => mayP x 65536))
def tautL (l : List Int) : Bool := (normL l).any fun x => (normL l).contains (-x)
theorem ahd_iff {x y : Int} : ahd x y = true ↔ (x.natAbs < y.natAbs ∨ x.natAbs = y.natAbs ∧ y < x) := by simp [ahd]
theorem ahd_no {x y : Int} : (!ahd y x) = true ↔ x = y ∨ ahd x y = true := by
  rw [ahd_iff]; simp [ahd]; omega
theorem ahd_irr {x : Int} : ¬ ahd x x = true := by rw [ahd_iff]; omega
theorem ahd_tr {x y z : Int} (h : ahd x y = true) (h' : ahd y z = true) : ahd x z = true := by
  rw [ahd_iff] at *; omega
theorem ahd_tot {x y : Int} : ahd x y = true ∨ x = y ∨ ahd y x = true := by
  rw [ahd_iff, ahd_iff]; omega
abbrev Str (xs : List Int) : Prop := xs.Pairwise fun x y => ahd x y = true
/-- two lists in strict order with the same members are one -/
theorem str_ext : ∀ {a b : List Int}, Str a → Str b → (∀ x, x ∈ a ↔ x ∈ b) → a = b
  | [], [], _, _, _ => rfl
  | [], y :: b, _, _, h => by have := (h y).2 List.mem_cons_self; cases this
  | x :: a, [], _, _, h => by have := (h x).1 List.mem_cons_self; cases this
  | x :: a, y :: b, ha, hb, h => by
    obtain ⟨ha1, ha2⟩ := List.pairwise_cons.1 ha
    obtain ⟨hb1, hb2⟩ := List.pairwise_cons.1 hb
    have hxy : x = y := by
      rcases List.mem_cons.1 ((h x).1 List.mem_cons_self) with e | hx
      · exact e
      rcases List.mem_cons.1 ((h y).2 List.mem_cons_self) with e | hy
      · exact e.symm
      exact absurd (ahd_tr (ha1 y hy) (hb1 x hx)) ahd_irr
    subst hxy
    refine congrArg (x :: ·) (str_ext ha2 hb2 fun z => ?_)
    have := h z
    simp only [List.mem_cons] at this
    constructor
    · intro hz
      rcases this.1 (.inr hz) with e | h1
      · subst e; exact absurd (ha1 _ hz) ahd_irr
      · exact h1
    · intro hz
      rcases this.2 (.inr hz) with e | h1
      · subst e; exact absurd (hb1 _ hz) ahd_irr
      · exact h1
/-- compact on a sorted list: the same members, in strict order -/
theorem compact_str (xs : List Int) (hs : xs.Pairwise fun x y => (!ahd y x) = true) : (∀ x, x ∈ Lib.compact xs ↔ x ∈ xs) ∧ Str (Lib.compact xs) := by
  have key : ∀ m, m ≤ xs.length → (∀ x, x ∈ Lib.compactUpTo xs.toArray m ↔ x ∈ xs.take m) ∧ Str (Lib.compactUpTo xs.toArray m) := by
    intro m
    induction m with
    | zero => intro _; simp [Lib.compactUpTo]
    | succ m ih =>
      intro hm
      obtain ⟨h1, h2⟩ := ih (by omega)
      have hlt : m < xs.length := by omega
      have eg : xs.toArray[m]! = xs[m] := by rw [getElem!_pos xs.toArray m (by simpa using hlt)]; simp
      rw [Lib.compactUpTo_succ, eg, List.take_succ_eq_append_getElem hlt]
      have hle : ∀ y ∈ xs.take m, (!ahd xs[m] y) = true := by
        intro y hy
        obtain ⟨j, hj, rfl⟩ := List.mem_iff_getElem.1 hy
        rw [List.length_take] at hj
        rw [List.getElem_take]
        exact List.pairwise_iff_getElem.1 hs j m (by omega) hlt (by omega)
      cases hk : Lib.keeps xs.toArray m with
      | true =>
        rw [if_pos rfl]
        refine ⟨fun x => by simp only [List.mem_append, h1 x], List.pairwise_append.2 ⟨h2, List.pairwise_singleton _ _, fun y hy z hz => ?_⟩⟩
        rw [List.mem_singleton] at hz
        subst hz
        have hy' := (h1 y).1 hy
        rcases ahd_no.1 (hle y hy') with e | h
        · subst e
          exfalso
          simp only [Lib.keeps, decide_eq_true_eq] at hk
          rcases hk with h0 | hne
          · subst h0; simp at hy'
          · by_cases hm0 : m = 0
            · subst hm0; simp at hy'
            apply hne
            have e1 : xs.toArray[m - 1]! = xs[m - 1] := by rw [getElem!_pos xs.toArray (m - 1) (by simp; omega)]; simp
            rw [eg, e1]
            have hp : (!ahd xs[m] xs[m - 1]) = true := List.pairwise_iff_getElem.1 hs (m - 1) m (by omega) hlt (by omega)
            obtain ⟨j, hj, hj2⟩ := List.mem_iff_getElem.1 hy'
            rw [List.length_take] at hj
            rw [List.getElem_take] at hj2
            rcases ahd_no.1 hp with e | h3
            · exact e.symm
            · by_cases hjm : j = m - 1
              · subst hjm; exact hj2.symm
              · have h4 : (!ahd xs[m - 1] xs[j]) = true := List.pairwise_iff_getElem.1 hs j (m - 1) (by omega) (by omega) (by omega)
                rw [hj2] at h4
                rw [h3] at h4
                exact absurd h4 (by decide)
        · exact h
      | false =>
        rw [if_neg (by simp)]
        refine ⟨fun x => ?_, by simpa using h2⟩
        simp only [List.append_nil, List.mem_append, List.mem_singleton, h1 x]
        constructor
        · exact .inl
        · rintro (h | rfl)
          · exact h
          · simp only [Lib.keeps, decide_eq_false_iff_not, not_or, Decidable.not_not] at hk
            obtain ⟨hm0, he⟩ := hk
            have e1 : xs.toArray[m - 1]! = xs[m - 1] := by rw [getElem!_pos xs.toArray (m - 1) (by simp; omega)]; simp
            rw [eg, e1] at he
            rw [he]
            exact List.mem_iff_getElem.2 ⟨m - 1, by rw [List.length_take]; omega, by rw [List.getElem_take]⟩
  have := key xs.length (Nat.le_refl _)
  rw [List.take_length] at this
  exact this
theorem sort_str (xs : List Int) : (sortL xs).Pairwise fun x y => (!ahd y x) = true :=
  List.pairwise_mergeSort (fun a b c h1 h2 => by
    rw [ahd_no] at *
    rcases h1 with rfl | h1 <;> rcases h2 with rfl | h2
    · exact .inl rfl
    · exact .inr h2
    · exact .inr h1
    · exact .inr (ahd_tr h1 h2)) (fun a b => by
    rw [Bool.or_eq_true, ahd_no, ahd_no]
    rcases ahd_tot (x := a) (y := b) with h | h | h
    · exact .inl (.inr h)
    · exact .inl (.inl h)
    · exact .inr (.inr h)) xs
theorem norm_mem {l : List Int} {x : Int} : x ∈ normL l ↔ x ∈ l ∧ mayP x 65536 = true := by
  unfold normL
  rw [(compact_str _ (sort_str _)).1 x, sortL, List.mem_mergeSort, List.mem_filter]
theorem norm_str (l : List Int) : Str (normL l) := (compact_str _ (sort_str _)).2
theorem norm_of {l out : List Int} (h : Str out) (hm : ∀ x, x ∈ out ↔ x ∈ l ∧ mayP x 65536 = true) : normL l = out :=
  str_ext (norm_str l) h fun x => by rw [norm_mem, hm x]
theorem norm_nz {l : List Int} {x : Int} (h : x ∈ normL l) : x ≠ 0 := (mayP_iff.1 (norm_mem.1 h).2).1
theorem norm_bd {l : List Int} {j : Nat} (h : j < (normL l).length) : -65536 ≤ (normL l).getD j 0 ∧ (normL l).getD j 0 ≤ 65536 := (mayP_iff.1 (norm_mem.1 (getD_memL (d := 0) h)).2).2
theorem norm_len (l : List Int) : (normL l).length ≤ l.length := by
  unfold normL
  refine Nat.le_trans (Lib.compact_length_le _) ?_
  rw [sortL, List.length_mergeSort]
  exact List.length_filter_le _ _
/-- the order reads off the places -/
theorem str_at {xs : List Int} (h : Str xs) {i j : Nat} (hij : i < j) (hj : j < xs.length) : ahd (xs.getD i 0) (xs.getD j 0) = true := by
  have hi : i < xs.length := by omega
  rw [List.getD_eq_getElem?_getD, List.getD_eq_getElem?_getD, List.getElem?_eq_getElem hj, List.getElem?_eq_getElem hi]
  exact List.pairwise_iff_getElem.1 h i j hi hj hij
theorem taut_adj_yes {xs : List Int} {i : Nat} (h0 : 0 < i) (hi : i < xs.length) (h : xs.getD (i - 1) 0 = -(xs.getD i 0)) : (xs.any fun x => xs.contains (-x)) = true :=
  any_yes (d := 0) hi (by rw [← h]; exact List.contains_iff_mem.2 (getD_memL (by omega)))
theorem taut_adj_no {xs : List Int} (hs : Str xs) (hn : ∀ x ∈ xs, x ≠ 0) (h : ∀ i, 0 < i → i < xs.length → xs.getD (i - 1) 0 ≠ -(xs.getD i 0)) : (xs.any fun x => xs.contains (-x)) = false := by
  rw [List.any_eq_false]
  intro x hx hc
  have hc := List.contains_iff_mem.1 hc
  have key : ∀ z ∈ xs, -z ∈ xs → 0 < z → False := by
    intro z hz hz' hp
    obtain ⟨i, hi, rfl⟩ := List.mem_iff_getElem.1 hz
    obtain ⟨j, hj, hjv⟩ := List.mem_iff_getElem.1 hz'
    have ei : xs.getD i 0 = xs[i] := by rw [List.getD_eq_getElem?_getD, List.getElem?_eq_getElem hi]; rfl
    have ej : xs.getD j 0 = xs[j] := by rw [List.getD_eq_getElem?_getD, List.getElem?_eq_getElem hj]; rfl
    have hlt : i < j := by
      rcases Nat.lt_trichotomy i j with h1 | h1 | h1
      · exact h1
      · subst h1; omega
      · have := str_at hs h1 hi
        rw [ei, ej, ahd_iff] at this
        omega
    by_cases hji : j = i + 1
    · subst hji
      refine h (i + 1) (by omega) hj ?_
      rw [Nat.add_sub_cancel, ei, ej]
      omega
    · have h1 := str_at hs (show i < i + 1 by omega) (by omega)
      have h2 := str_at hs (show i + 1 < j by omega) hj
      rw [ei, ahd_iff] at h1
      rw [ej, ahd_iff] at h2
      omega
  have hx0 := hn x hx
  by_cases hp : 0 < x
  · exact key x hx hc hp
  · exact key (-x) hc (by rwa [Int.neg_neg]) (by omega)
/-- a literal put in its place -/
theorem norm_ins {l out : List Int} {x : Int} {at_ : Nat} (h : normL l = out) (hx : mayP x 65536 = true) (hni : x ∉ out) (ha : at_ ≤ out.length) (h1 : ∀ j, j < at_ → ahd (out.getD j 0) x = true) (h2 : at_ < out.length → ahd (out.getD at_ 0) x = false) :
    normL (l ++ [x]) = out.take at_ ++ [x] ++ out.drop at_ := by
  have hs : Str out := h ▸ norm_str l
  have hlow : ∀ y ∈ out.take at_, ahd y x = true := fun y hy => by
    obtain ⟨j, hj, rfl⟩ := List.mem_iff_getElem.1 hy
    rw [List.length_take] at hj
    have := h1 j (by omega)
    rw [List.getD_eq_getElem?_getD, List.getElem?_eq_getElem (by omega)] at this
    rw [List.getElem_take]; exact this
  have hhigh : ∀ y ∈ out.drop at_, ahd x y = true := fun y hy => by
    obtain ⟨j, hj, rfl⟩ := List.mem_iff_getElem.1 hy
    rw [List.length_drop] at hj
    rw [List.getElem_drop]
    have h3 := h2 (by omega)
    have hm : out.getD at_ 0 ∈ out := getD_memL (by omega)
    have h4 : ahd x (out.getD at_ 0) = true := by
      rcases ahd_tot (x := x) (y := out.getD at_ 0) with h | h | h
      · exact h
      · rw [← h] at hm; exact absurd hm hni
      · rw [h3] at h; cases h
    have eg : ∀ k (hk : k < out.length), out.getD k 0 = out[k] := fun k hk => by rw [List.getD_eq_getElem?_getD, List.getElem?_eq_getElem hk]; rfl
    by_cases hj0 : j = 0
    · subst hj0
      rw [eg at_ (by omega)] at h4
      exact h4
    · have h5 := str_at hs (show at_ < at_ + j by omega) (by omega)
      rw [eg (at_ + j) (by omega)] at h5
      exact ahd_tr h4 h5
  refine norm_of ?_ fun y => ?_
  · refine List.pairwise_append.2 ⟨List.pairwise_append.2 ⟨hs.take, List.pairwise_singleton _ _, fun y hy z hz => ?_⟩, hs.drop, fun y hy z hz => ?_⟩
    · rw [List.mem_singleton] at hz; subst hz; exact hlow y hy
    · rcases List.mem_append.1 hy with hy | hy
      · exact ahd_tr (hlow y hy) (hhigh z hz)
      · rw [List.mem_singleton] at hy; subst hy; exact hhigh z hz
  · have hmem : y ∈ out ↔ y ∈ l ∧ mayP y 65536 = true := by rw [← h]; exact norm_mem
    have hcut : y ∈ out ↔ y ∈ out.take at_ ∨ y ∈ out.drop at_ := by rw [← List.mem_append, List.take_append_drop]
    simp only [List.mem_append, List.mem_singleton]
    constructor
    · rintro ((h | rfl) | h)
      · have := hmem.1 (hcut.2 (.inl h)); exact ⟨.inl this.1, this.2⟩
      · exact ⟨.inr rfl, hx⟩
      · have := hmem.1 (hcut.2 (.inr h)); exact ⟨.inl this.1, this.2⟩
    · rintro ⟨h | rfl, hm⟩
      · rcases hcut.1 (hmem.2 ⟨h, hm⟩) with h | h
        · exact .inl (.inl h)
        · exact .inr h
      · exact .inl (.inr rfl)
theorem norm_skip {l : List Int} {x : Int} (h : mayP x 65536 = false ∨ x ∈ normL l) : normL (l ++ [x]) = normL l :=
  norm_of (norm_str l) fun y => by
    rw [norm_mem, List.mem_append, List.mem_singleton]
    constructor
    · rintro ⟨h1, h2⟩; exact ⟨.inl h1, h2⟩
    · rintro ⟨h1 | rfl, h2⟩
      · exact ⟨h1, h2⟩
      · rcases h with h | h
        · rw [h] at h2; cases h2
        · exact norm_mem.1 h
theorem taut_iff {l : List Int} : tautL l = true ↔ ∃ x, x ∈ normL l ∧ -x ∈ normL l := by
  unfold tautL
  rw [List.any_eq_true]
  constructor
  · rintro ⟨x, h1, h2⟩; exact ⟨x, h1, List.contains_iff_mem.1 h2⟩
  · rintro ⟨x, h1, h2⟩; exact ⟨x, h1, List.contains_iff_mem.2 h2⟩
theorem taut_skip {l : List Int} {x : Int} (h : mayP x 65536 = false ∨ x ∈ normL l) : tautL (l ++ [x]) = tautL l := by
  unfold tautL; rw [norm_skip h]
theorem taut_ins {l : List Int} {x : Int} (hx : mayP x 65536 = true) : tautL (l ++ [x]) = (tautL l || (normL l).contains (-x)) := by
  rw [Bool.eq_iff_iff, Bool.or_eq_true, taut_iff, taut_iff, List.contains_iff_mem]
  have hm : ∀ y, y ∈ normL (l ++ [x]) ↔ y ∈ normL l ∨ y = x := fun y => by
    rw [norm_mem, norm_mem, List.mem_append, List.mem_singleton]
    constructor
    · rintro ⟨h | h, h'⟩
      · exact .inl ⟨h, h'⟩
      · exact .inr h
    · rintro (⟨h, h'⟩ | rfl)
      · exact ⟨.inl h, h'⟩
      · exact ⟨.inr rfl, hx⟩
  have hx0 := (mayP_iff.1 hx).1
  constructor
  · rintro ⟨y, h1, h2⟩
    rw [hm] at h1 h2
    rcases h1 with h1 | rfl
    · rcases h2 with h2 | h2
      · exact .inl ⟨y, h1, h2⟩
      · right
        rw [← h2, Int.neg_neg]; exact h1
    · rcases h2 with h2 | h2
      · exact .inr h2
      · omega
  · rintro (⟨y, h1, h2⟩ | h)
    · exact ⟨y, (hm y).2 (.inl h1), (hm _).2 (.inl h2)⟩
    · exact ⟨x, (hm x).2 (.inr rfl), (hm _).2 (.inl h)⟩
/-- total length -/
def lensN (xss : List (List Int)) : Nat := (xss.map List.length).sum
theorem lens_flat (xss : List (List Int)) : xss.flatten.length = lensN xss := by simp [lensN, List.length_flatten]
theorem lens_take (xss : List (List Int)) (i : Nat) : lensN (xss.take i) ≤ lensN xss := by
  induction xss generalizing i with
  | nil => simp [lensN]
  | cons x t ih =>
    cases i with
    | zero => simp [lensN]
    | succ i => have := ih i; simp only [lensN, List.take_succ_cons, List.map_cons, List.sum_cons] at this ⊢; omega
theorem lens_step {xss : List (List Int)} {k : Nat} (h : k < xss.length) : lensN (xss.take (k + 1)) = lensN (xss.take k) + (xss.getD k []).length := by
  rw [take_sD (d := []) h]; simp [lensN]
theorem flat_take {xss : List (List Int)} {k : Nat} (h : k < xss.length) : (xss.take k).flatten ++ xss.getD k [] = (xss.take (k + 1)).flatten := by
  rw [take_sD (d := []) h, List.flatten_append]; simp
/-- the resolvent on v, and what is reported -/
def resOn (a b : List Int) (x : Int) : List Int := normL ((a.filter fun y => !(y == x)) ++ (b.filter fun y => !(y == -x)))
def onB (a b : List Int) (x : Int) : Bool := a.contains x && b.contains (-x)
def resL (a b : List Int) (v : Int) : List Int := if 1 ≤ v ∧ v ≤ 65536 then if onB a b v then resOn a b v else if onB a b (-v) then resOn a b (-v) else [] else []
def resE (a b : List Int) (v : Int) : Int := if 1 ≤ v ∧ v ≤ 65536 then if onB a b v || onB a b (-v) then 0 else 140 else 140
theorem onB_no {a b : List Int} {x : Int} (h : ((!(a.contains x)) || (!(b.contains (-x)))) = true) : onB a b x = false := by
  unfold onB; cases h1 : a.contains x <;> cases h2 : b.contains (-x) <;> simp_all
theorem onB_yes {a b : List Int} {x : Int} (h : ((!(a.contains x)) || (!(b.contains (-x)))) = false) : onB a b x = true := by
  unfold onB; cases h1 : a.contains x <;> cases h2 : b.contains (-x) <;> simp_all
theorem two_bd {v : Int} {k : Nat} (h : k < 2) (h1 : 1 ≤ v) (h2 : v ≤ 65536) : -65536 ≤ [v, -v].getD k 0 ∧ [v, -v].getD k 0 ≤ 65536 := by
  match k, h with
  | 0, _ => exact ⟨by show -65536 ≤ v; omega, h2⟩
  | 1, _ => exact ⟨by show -65536 ≤ -v; omega, by show -v ≤ 65536; omega⟩
theorem res_yes {a b : List Int} {v : Int} {k : Nat} (hk : k < 2) (h1 : 1 ≤ v) (h2 : v ≤ 65536) (hn : ∀ j, j < k → onB a b ([v, -v].getD j 0) = false) (hy : onB a b ([v, -v].getD k 0) = true) :
    resL a b v = resOn a b ([v, -v].getD k 0) ∧ resE a b v = 0 := by
  have hv : 1 ≤ v ∧ v ≤ 65536 := ⟨h1, h2⟩
  match k, hk with
  | 0, _ =>
    have hy : onB a b v = true := hy
    exact ⟨by unfold resL; rw [if_pos hv, if_pos hy]; rfl, by unfold resE; rw [if_pos hv, hy]; rfl⟩
  | 1, _ =>
    have hy : onB a b (-v) = true := hy
    have hn : onB a b v = false := hn 0 (by omega)
    exact ⟨by unfold resL; rw [if_pos hv, hn, if_neg (by simp), if_pos hy]; rfl, by unfold resE; rw [if_pos hv, hn, hy]; rfl⟩
theorem res_no {a b : List Int} {v : Int} (hn : ∀ j, j < 2 → onB a b ([v, -v].getD j 0) = false) : resL a b v = [] ∧ resE a b v = 140 := by
  have h0 : onB a b v = false := hn 0 (by omega)
  have h1 : onB a b (-v) = false := hn 1 (by omega)
  unfold resL resE
  rw [h0, h1]
  constructor <;> split <;> rfl
theorem res_out {a b : List Int} {v : Int} (h : v < 1 ∨ 65536 < v) : resL a b v = [] ∧ resE a b v = 140 := by
  exact ⟨by unfold resL; rw [if_neg (by omega)], by unfold resE; rw [if_neg (by omega)]⟩
theorem flat2 (a b : List Int) : [a, b].flatten = a ++ b := by simp
end Go.Proofs.YtbpbndlgfiammaaGreatDoor.Cn
