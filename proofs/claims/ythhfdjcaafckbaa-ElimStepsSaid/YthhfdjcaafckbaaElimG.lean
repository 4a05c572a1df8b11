/- What the elimination of several variables leaves, plainly. No program in sight. -/
import Derived.Test.YthhfdjcaafckbaaElimF
set_option linter.unusedSimpArgs false
set_option linter.unusedVariables false
set_option linter.unnecessarySimpa false
namespace Go.Proofs.Ythhfdjcaafckbaa.Cn
open Go
variable {N g v w : Int} {X L : List (List Int)} {fz : List Int} {U : List Und} {k : Nat} {a : List Bool}

theorem hasV_no {l : List Int} : hasV v l = false ↔ v ∉ l ∧ -v ∉ l := by
  unfold hasV; rw [Bool.or_eq_false_iff]; simp
theorem out_gone (hv1 : 1 ≤ v) (hv2 : v ≤ 65536) (hs : ((outX X v 65536).length : Int) ≤ 65536) : ∀ l ∈ outX X v 65536, hasV v l = false := fun l hl => by
  rcases (out_all hs l).1 hl with h | ⟨p, q, hp, hq, _, rfl⟩
  · exact hasV_no.2 (rest_iff.1 h).2
  · obtain ⟨_, hp1, hp2⟩ := pos_iff.1 hp
    obtain ⟨_, hq1, hq2⟩ := neg_iff.1 hq
    refine hasV_no.2 ⟨fun hm => ?_, fun hm => ?_⟩
    · rcases ((res_mem hv1 hv2 hp hq).1 hm).1 with ⟨_, h⟩ | ⟨h, _⟩
      · exact h rfl
      · exact hq2 h
    · rcases ((res_mem hv1 hv2 hp hq).1 hm).1 with ⟨h, _⟩ | ⟨_, h⟩
      · exact hp2 h
      · exact h rfl
theorem out_keep (hv1 : 1 ≤ v) (hv2 : v ≤ 65536) (hs : ((outX X v 65536).length : Int) ≤ 65536) (h : ∀ l ∈ X, hasV w l = false) : ∀ l ∈ outX X v 65536, hasV w l = false := fun l hl => by
  rcases (out_all hs l).1 hl with h1 | ⟨p, q, hp, hq, _, rfl⟩
  · exact h l (rest_iff.1 h1).1
  · have h1 := hasV_no.1 (h p (pos_iff.1 hp).1)
    have h2 := hasV_no.1 (h q (neg_iff.1 hq).1)
    refine hasV_no.2 ⟨fun hm => ?_, fun hm => ?_⟩
    · rcases ((res_mem hv1 hv2 hp hq).1 hm).1 with ⟨h, _⟩ | ⟨h, _⟩
      · exact h1.1 h
      · exact h2.1 h
    · rcases ((res_mem hv1 hv2 hp hq).1 hm).1 with ⟨h, _⟩ | ⟨h, _⟩
      · exact h1.2 h
      · exact h2.2 h
/-- the i-th variable that goes, the one ahead of it -/
def lastV (U : List Und) (i : Nat) : Int := if i = 0 then 0 else (U.getD (i - 1) (0, [])).1
/-- the clauses after the first i undos -/
def yAt (L : List (List Int)) (U : List Und) (i : Nat) : List (List Int) := (U.take i).foldl (fun y u => outX y u.1 65536) L
structure StepOk (N g : Int) (fz : List Int) (X : List (List Int)) (u : Und) : Prop where
  v1 : 1 ≤ u.1
  v2 : u.1 ≤ N
  len : ((outX X u.1 65536).length : Int) ≤ 65536
  grow : ((outX X u.1 65536).length : Int) ≤ (X.length : Int) + g
  eq : u = (u.1, uOf X u.1)
  ne : u.2.length ≠ 0
  has : ∀ l ∈ u.2, hasV u.1 l = true
  fr : fz.contains u.1 = false
  chk : chkV N X = 0
  good : Good N X
  sm : X.length ≤ 10000
structure Gone (N g : Int) (fz : List Int) (L X : List (List Int)) (U : List Und) (k : Nat) : Prop where
  inc : ∀ i, i < U.length → lastV U i < (U.getD i (0, [])).1
  top : ∀ u ∈ U, u.1 ≤ k
  out : ∀ u ∈ U, ∀ l ∈ X, hasV u.1 l = false
  len : (X.length : Int) ≤ (L.length : Int) + g * (U.length : Int)
  chk : chkV N X = 0
  good : Good N X
  same : U.length = 0 → X = L
  step : ∀ i, i < U.length → StepOk N g fz (yAt L U i) (U.getD i (0, []))
  last : yAt L U U.length = X
  num : U.length ≤ k
theorem getD_app {α : Type} {l : List α} {x d : α} {i : Nat} (h : i < (l ++ [x]).length) : (l ++ [x]).getD i d = if i < l.length then l.getD i d else x := by
  rw [List.length_append, List.length_cons, List.length_nil] at h
  split
  · rename_i h1
    rw [List.getD_eq_getElem?_getD, List.getD_eq_getElem?_getD, List.getElem?_append_left h1]
  · rename_i h1
    have : i = l.length := by omega
    subst this
    simp
theorem yAt_app {u : Und} {i : Nat} (h : i ≤ U.length) : yAt L (U ++ [u]) i = yAt L U i := by
  unfold yAt; rw [List.take_append_of_le_length h]
theorem yAt_succ {i : Nat} (h : i < U.length) : yAt L U (i + 1) = outX (yAt L U i) (U.getD i (0, [])).1 65536 := by
  unfold yAt; rw [take_sD (d := (0, [])) h, List.foldl_append]; rfl
theorem gone (hN0 : 0 ≤ N) (hN : N ≤ 30) (hL : Good N L) (hl : L.length ≤ 40) (hg0 : 0 ≤ g) (hg : g ≤ 40) : ∀ k : Nat, (k : Int) ≤ N → Gone N g fz L (elTo L fz g k).1 (elTo L fz g k).2 k
  | 0, _ => by
    refine ⟨?_, ?_, ?_, ?_, ?_, hL, fun _ => rfl, ?_, rfl, Nat.zero_le _⟩
    · intro i hi; simp [elTo] at hi
    · intro u hu; simp [elTo] at hu
    · intro u hu; simp [elTo] at hu
    · simp [elTo]
    · exact good_chk hN0 hN hL (by show L.length ≤ _; omega)
    · intro i hi; simp [elTo] at hi
  | k + 1, hk => by
    have ih := gone hN0 hN hL hl hg0 hg k (by omega)
    have hb := (to_inv (fz := fz) (g := g) hN hL hl hg0 hg k (by omega)).2.1
    rw [to_succ]
    rcases step_cases fz g (elTo L fz g k) ((k : Int) + 1) with e | ⟨hfz, hany, ha, hb2, e⟩
    · rw [e]
      exact ⟨ih.inc, fun u hu => by have := ih.top u hu; omega, ih.out, ih.len, ih.chk, ih.good, ih.same, ih.step, ih.last, by have := ih.num; omega⟩
    · rw [e]
      generalize hX : (elTo L fz g k).1 = X at *
      generalize hU : (elTo L fz g k).2 = U at *
      have hlast : lastV (U ++ [((k : Int) + 1, uOf X ((k : Int) + 1))]) U.length < (k : Int) + 1 := by
        unfold lastV
        split
        · omega
        · rename_i h0
          rw [getD_app (by rw [List.length_append]; omega), if_pos (by omega)]
          have := ih.top _ (getD_memL (d := (0, [])) (show U.length - 1 < U.length by omega))
          omega
      have hst : StepOk N g fz X ((k : Int) + 1, uOf X ((k : Int) + 1)) := by
        refine ⟨by show (1 : Int) ≤ (k : Int) + 1; omega, by show (k : Int) + 1 ≤ N; omega, ha, hb2, rfl, ?_, fun l hl => (List.mem_filter.1 hl).2, hfz, ih.chk, ih.good, by omega⟩
        obtain ⟨l, hl, hh⟩ := List.any_eq_true.1 hany
        have : l ∈ uOf X ((k : Int) + 1) := List.mem_filter.2 ⟨hl, hh⟩
        exact fun h0 => by rw [show uOf X ((k : Int) + 1) = [] from List.eq_nil_of_length_eq_zero h0] at this; cases this
      refine ⟨?_, ?_, ?_, ?_, ?_, good_out hN (by omega) (by omega) ih.good, ?_, ?_, ?_, ?_⟩
      · intro i hi
        rw [getD_app hi]
        split
        · rename_i h1
          have := ih.inc i h1
          unfold lastV at this ⊢
          split
          · rename_i h0; rw [if_pos h0] at this; exact this
          · rename_i h0; rw [if_neg h0] at this; rw [getD_app (by rw [List.length_append]; omega), if_pos (by omega)]; exact this
        · rename_i h1
          have : i = U.length := by rw [List.length_append] at hi; simp at hi; omega
          subst this
          exact hlast
      · intro u hu
        rcases List.mem_append.1 hu with h | h
        · have := ih.top u h; omega
        · rw [List.mem_singleton] at h; subst h; show (k : Int) + 1 ≤ ((k + 1 : Nat) : Int); omega
      · intro u hu
        rcases List.mem_append.1 hu with h | h
        · exact out_keep (by omega) (by omega) ha (ih.out u h)
        · rw [List.mem_singleton] at h; subst h; exact out_gone (by omega) (by omega) ha
      · show ((outX X ((k : Int) + 1) 65536).length : Int) ≤ (L.length : Int) + g * ((U ++ [_]).length : Int)
        rw [List.length_append]
        have h1 := ih.len
        have : g * ((U.length + [((k : Int) + 1, uOf X ((k : Int) + 1))].length : Nat) : Int) = g * (U.length : Int) + g := by
          simp [Int.mul_add]
        rw [this]
        omega
      · exact chk_out ih.chk (by omega) (by omega) ha
      · intro h0; rw [List.length_append] at h0; simp at h0
      · intro i hi
        have hi' := hi
        rw [List.length_append] at hi'
        simp only [List.length_cons, List.length_nil] at hi'
        rw [yAt_app (by omega), getD_app hi]
        split
        · rename_i h1; exact ih.step i h1
        · have : i = U.length := by omega
          subst this
          rw [ih.last]
          exact hst
      · have hl1 : (U ++ [((k : Int) + 1, uOf X ((k : Int) + 1))]).length = U.length + 1 := by simp
        rw [hl1, yAt_succ (by rw [hl1]; omega), yAt_app (Nat.le_refl _), ih.last, getD_app (by rw [hl1]; omega), if_neg (by omega)]
      · have := ih.num
        simp
        omega
/-- values before and after -/
structure Mods (N : Int) (L X : List (List Int)) (U : List Und) (a : List Bool) : Prop where
  fwd : valV N L a = true → valV N X a = true
  bwd : valV N X a = true → valV N L (backF U a) = true
  len : (backF U a).length = a.length
  oth : ∀ j : Nat, (∀ u ∈ U, u.1.toNat ≠ j) → (backF U a).getD j false = a.getD j false
theorem back_app {u : Und} : backF (U ++ [u]) a = backF U (backStep a u) := by
  unfold backF; rw [List.reverse_append]; rfl
theorem step_set (hv1 : 1 ≤ v) (hv2 : v ≤ N) (hN : N ≤ 65536) (ha : (a.length : Int) = N + 1) {ls : List (List Int)} : ∃ b, backStep a (v, ls) = a.set v.toNat b := by
  refine ⟨ls.any fun l => !(holdsV (a.set v.toNat false) l), ?_⟩
  unfold backStep
  rw [if_neg (by show ¬ (v < 1 ∨ 65536 < v); omega)]
  unfold padB setB
  rw [if_neg (by show ¬ (v + 1 - (a.length : Int) > 0); omega)]
  simp
theorem back_one : backF [(v, uOf X v)] a = backStep a (v, uOf X v) := rfl
theorem mods (hN0 : 0 ≤ N) (hN : N ≤ 30) (hL : Good N L) (hl : L.length ≤ 40) (hg0 : 0 ≤ g) (hg : g ≤ 40) : ∀ k : Nat, (k : Int) ≤ N → ∀ a : List Bool, (a.length : Int) = N + 1 → Mods N L (elTo L fz g k).1 (elTo L fz g k).2 a
  | 0, _, a, _ => ⟨id, id, rfl, fun _ _ => rfl⟩
  | k + 1, hk, a, ha => by
    have hG := gone (fz := fz) hN0 hN hL hl hg0 hg k (by omega)
    rw [to_succ]
    rcases step_cases fz g (elTo L fz g k) ((k : Int) + 1) with e | ⟨hfz, hany, hb1, hb2, e⟩
    · rw [e]; exact mods hN0 hN hL hl hg0 hg k (by omega) a ha
    · have ih1 := mods hN0 hN hL hl hg0 hg k (by omega) a ha
      rw [e]
      have hv1 : 1 ≤ (k : Int) + 1 := by omega
      obtain ⟨b, hbs⟩ := step_set (ls := uOf (elTo L fz g k).1 ((k : Int) + 1)) hv1 hk (by omega) ha
      have ha' : ((backStep a ((k : Int) + 1, uOf (elTo L fz g k).1 ((k : Int) + 1))).length : Int) = N + 1 := by rw [hbs, List.length_set]; exact ha
      have ih2 := mods hN0 hN hL hl hg0 hg k (by omega) _ ha'
      refine ⟨fun h => ?_, fun h => ?_, ?_, fun j hj => ?_⟩
      · rw [same_val ha hG.chk hv1 hk hb1, ih1.fwd h]; rfl
      · rw [back_app]
        have := back_val ha hG.chk hv1 hk hb1 h
        rw [back_one] at this
        exact ih2.bwd this
      · rw [back_app, ih2.len, hbs, List.length_set]
      · rw [back_app, ih2.oth j fun u hu => hj u (List.mem_append_left _ hu), hbs]
        have := hj ((k : Int) + 1, uOf (elTo L fz g k).1 ((k : Int) + 1)) (List.mem_append_right _ List.mem_cons_self)
        rw [List.getD_eq_getElem?_getD, List.getElem?_set_ne this, ← List.getD_eq_getElem?_getD]
/-- which variables have gone -/
def goneL (N : Int) (U : List Und) : List Bool := U.foldl (fun l u => l.set u.1.toNat true) (List.replicate (N + 1).toNat false)
theorem goneL_len : (goneL N U).length = (N + 1).toNat := by
  unfold goneL
  have : ∀ (U : List Und) (l : List Bool), (U.foldl (fun l u => l.set u.1.toNat true) l).length = l.length := by
    intro U
    induction U with
    | nil => intro l; rfl
    | cons u U ih => intro l; rw [List.foldl_cons, ih, List.length_set]
  rw [this, List.length_replicate]
theorem goneL_succ {i : Nat} (h : i < U.length) : (goneL N (U.take i)).set (U.getD i (0, [])).1.toNat true = goneL N (U.take (i + 1)) := by
  unfold goneL; rw [take_sD (d := (0, [])) h, List.foldl_append]; rfl
theorem goneL_no {j : Nat} (hj : j < (N + 1).toNat) (h : (goneL N U).getD j false = false) : ∀ u ∈ U, u.1.toNat ≠ j := by
  have key : ∀ (U : List Und) (l : List Bool), j < l.length → (U.foldl (fun l u => l.set u.1.toNat true) l).getD j false = false → l.getD j false = false ∧ ∀ u ∈ U, u.1.toNat ≠ j := by
    intro U
    induction U with
    | nil => intro l _ h; exact ⟨h, fun u hu => by cases hu⟩
    | cons u U ih =>
      intro l hl h
      rw [List.foldl_cons] at h
      obtain ⟨h1, h2⟩ := ih _ (by rw [List.length_set]; exact hl) h
      have hne : u.1.toNat ≠ j := fun e => by
        rw [set_get (by omega), if_pos e.symm] at h1
        cases h1
      refine ⟨?_, fun w hw => ?_⟩
      · rw [List.getD_eq_getElem?_getD, List.getElem?_set_ne hne, ← List.getD_eq_getElem?_getD] at h1
        exact h1
      · rcases List.mem_cons.1 hw with rfl | hw
        · exact hne
        · exact h2 w hw
  exact (key U _ (by rw [List.length_replicate]; exact hj) h).2
end Go.Proofs.Ythhfdjcaafckbaa.Cn
