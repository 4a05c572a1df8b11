/- Elimination of several variables, step by step. Plain lemmas; no program in sight. -/
import Derived.Test.YthhfdjcaafckbaaSameP
set_option linter.unusedSimpArgs false
set_option linter.unusedVariables false
set_option linter.unnecessarySimpa false
namespace Go.Proofs.Ythhfdjcaafckbaa.Cn
open Go

abbrev Und := Int × List (List Int)
def elM (g : Int) (X : List (List Int)) : Int := min 65536 ((X.length : Int) + g)
def elSkip (fz : List Int) (X : List (List Int)) (v : Int) : Bool := fz.contains v || !(X.any (hasV v))
def elStep (fz : List Int) (g : Int) (s : List (List Int) × List Und) (v : Int) : List (List Int) × List Und :=
  if elSkip fz s.1 v = true then s else if ((outX s.1 v (elM g s.1)).length : Int) ≤ elM g s.1 then (outX s.1 v (elM g s.1), s.2 ++ [(v, uOf s.1 v)]) else s
def elTo (L : List (List Int)) (fz : List Int) (g : Int) : Nat → List (List Int) × List Und
  | 0 => (L, [])
  | k + 1 => elStep fz g (elTo L fz g k) ((k : Int) + 1)
section
variable {N g v : Int} {X L : List (List Int)} {fz : List Int} {U : List Und} {k : Nat}
theorem out_same {m1 m2 : Int} (h : ((outX X v m1).length : Int) ≤ m1) (h2 : m1 ≤ m2) : outX X v m2 = outX X v m1 := by
  have e1 := cut_all (many := m1) (acc := xOf X v) (ls := resA (withL (uOf X v) v) (withL (uOf X v) (-v)) v (withL (uOf X v) v).length) h
  have e1' : outX X v m1 = xOf X v ++ resA (withL (uOf X v) v) (withL (uOf X v) (-v)) v (withL (uOf X v) v).length := e1
  have e2 := cut_pre (many := m2) (acc := xOf X v) (r1 := resA (withL (uOf X v) v) (withL (uOf X v) (-v)) v (withL (uOf X v) v).length) (r2 := []) (.inr (by rw [← e1']; omega))
  rw [List.append_nil, cut_nil] at e2
  rw [e1']
  exact e2
theorem out_less {m1 m2 : Int} (h : ((outX X v m2).length : Int) ≤ m1) (h2 : m1 ≤ m2) : outX X v m1 = outX X v m2 := by
  have e1 := cut_all (many := m2) (acc := xOf X v) (ls := resA (withL (uOf X v) v) (withL (uOf X v) (-v)) v (withL (uOf X v) v).length) (show ((outX X v m2).length : Int) ≤ m2 by omega)
  have e1' : outX X v m2 = xOf X v ++ resA (withL (uOf X v) v) (withL (uOf X v) (-v)) v (withL (uOf X v) v).length := e1
  have e2 := cut_pre (many := m1) (acc := xOf X v) (r1 := resA (withL (uOf X v) v) (withL (uOf X v) (-v)) v (withL (uOf X v) v).length) (r2 := []) (.inr (by rw [← e1']; omega))
  rw [List.append_nil, cut_nil] at e2
  rw [e1']
  exact e2
/-- what the elimination of one variable is -/
theorem step_skip {s : List (List Int) × List Und} (h : elSkip fz s.1 v = true) : elStep fz g s v = s := if_pos h
theorem step_yes {s : List (List Int) × List Und} (h : elSkip fz s.1 v = false) (h2 : ((outX s.1 v (elM g s.1)).length : Int) ≤ elM g s.1) : elStep fz g s v = (outX s.1 v (elM g s.1), s.2 ++ [(v, uOf s.1 v)]) := by
  unfold elStep; rw [if_neg (by rw [h]; simp), if_pos h2]
theorem step_no {s : List (List Int) × List Und} (h : elSkip fz s.1 v = false) (h2 : ¬ ((outX s.1 v (elM g s.1)).length : Int) ≤ elM g s.1) : elStep fz g s v = s := by
  unfold elStep; rw [if_neg (by rw [h]; simp), if_neg h2]
/-- the same with the reference's bound -/
theorem step_ref {s : List (List Int) × List Und} (h : elSkip fz s.1 v = false) (h1 : ((outX s.1 v 65536).length : Int) ≤ 65536) (h2 : ((outX s.1 v 65536).length : Int) ≤ (s.1.length : Int) + g) : elStep fz g s v = (outX s.1 v 65536, s.2 ++ [(v, uOf s.1 v)]) := by
  have hm : elM g s.1 ≤ 65536 := by unfold elM; omega
  have he : outX s.1 v (elM g s.1) = outX s.1 v 65536 := out_less (by unfold elM; omega) hm
  rw [step_yes h (by rw [he]; unfold elM; omega), he]
theorem step_refno {s : List (List Int) × List Und} (h : elSkip fz s.1 v = false) (h1 : ¬ (((outX s.1 v 65536).length : Int) ≤ 65536 ∧ ((outX s.1 v 65536).length : Int) ≤ (s.1.length : Int) + g)) : elStep fz g s v = s := by
  refine step_no h fun h2 => h1 ?_
  rw [out_same h2 (by unfold elM; omega)]
  unfold elM at h2 ⊢
  omega
theorem to_succ : elTo L fz g (k + 1) = elStep fz g (elTo L fz g k) ((k : Int) + 1) := rfl
theorem step_cases (fz : List Int) (g : Int) (s : List (List Int) × List Und) (v : Int) : elStep fz g s v = s ∨ (fz.contains v = false ∧ s.1.any (hasV v) = true ∧ ((outX s.1 v 65536).length : Int) ≤ 65536 ∧ ((outX s.1 v 65536).length : Int) ≤ (s.1.length : Int) + g ∧ elStep fz g s v = (outX s.1 v 65536, s.2 ++ [(v, uOf s.1 v)])) := by
  cases hs : elSkip fz s.1 v with
  | true => exact .inl (step_skip hs)
  | false =>
    by_cases h1 : ((outX s.1 v 65536).length : Int) ≤ 65536 ∧ ((outX s.1 v 65536).length : Int) ≤ (s.1.length : Int) + g
    · right
      have hs' := hs
      unfold elSkip at hs'
      rw [Bool.or_eq_false_iff] at hs'
      exact ⟨hs'.1, by simpa using hs'.2, h1.1, h1.2, step_ref hs h1.1 h1.2⟩
    · exact .inl (step_refno hs h1)
/-- a list of distinct literals below N is short -/
def litKey (x : Int) : Nat := 2 * x.natAbs + if x < 0 then 1 else 0
theorem key_lt {x y : Int} (h : ahd x y = true) : litKey x < litKey y := by
  rw [ahd_iff] at h
  unfold litKey
  split <;> split <;> omega
theorem key_len {M : Nat} : ∀ {l : List Int} {m : Nat}, Str l → (∀ x ∈ l, m ≤ litKey x) → (∀ x ∈ l, litKey x ≤ M) → l.length ≤ M + 1 - m
  | [], m, _, _, _ => Nat.zero_le _
  | x :: l, m, hs, h1, h2 => by
    have hs' := List.pairwise_cons.1 hs
    have hx1 := h1 x List.mem_cons_self
    have hx2 := h2 x List.mem_cons_self
    have := key_len (l := l) (m := m + 1) hs'.2 (fun y hy => by have := key_lt (hs'.1 y hy); omega) (fun y hy => h2 y (List.mem_cons_of_mem _ hy))
    rw [List.length_cons]
    omega
theorem str_len {N : Nat} {l : List Int} (hs : Str l) (hb : ∀ x ∈ l, x.natAbs ≤ N) : l.length ≤ 2 * N + 2 := by
  have := key_len (M := 2 * N + 1) (m := 0) hs (fun _ _ => Nat.zero_le _) (fun x hx => by have := hb x hx; unfold litKey; split <;> omega)
  omega
theorem resL_str (a b : List Int) (v : Int) : Str (resL a b v) := by
  have h0 : Str [] := List.Pairwise.nil
  unfold resL
  split
  · split
    · exact norm_str _
    · split
      · exact norm_str _
      · exact h0
  · exact h0
/-- clauses of which all literals are below N, and which are short -/
def Good (N : Int) (X : List (List Int)) : Prop := ∀ l ∈ X, Rng N l ∧ l.length ≤ 62
theorem good_out {m : Int} (hN : N ≤ 30) (hv1 : 1 ≤ v) (hv2 : v ≤ N) (h : Good N X) : Good N (outX X v m) := by
  intro l hl
  rcases out_mem hl with h1 | ⟨a, b, ha, hb, _, rfl⟩
  · exact h l h1
  · have hr : Rng N (resL a b v) := fun y hy => by
      rcases ((res_mem hv1 (by omega) ha hb).1 hy).1 with h1 | h1
      · exact (h a (pos_mem ha)).1 y h1.1
      · exact (h b (neg_mem hb)).1 y h1.1
    refine ⟨hr, ?_⟩
    have := str_len (N := 30) (resL_str a b v) fun x hx => by have := (mayP_iff.1 (hr x hx)).2; omega
    omega
theorem to_inv (hN : N ≤ 30) (hL : Good N L) (hl : L.length ≤ 40) (hg0 : 0 ≤ g) (hg : g ≤ 40) : ∀ k : Nat, (k : Int) ≤ N → Good N (elTo L fz g k).1 ∧ (elTo L fz g k).1.length ≤ 40 + 40 * k ∧ (elTo L fz g k).2.length ≤ k ∧ ∀ u ∈ (elTo L fz g k).2, u.2.length ≤ 40 + 40 * k ∧ ∀ l ∈ u.2, l.length ≤ 62
  | 0, _ => ⟨hL, by simpa [elTo] using hl, by simp [elTo], by simp [elTo]⟩
  | k + 1, hk => by
    obtain ⟨h1, h2, h3, h4⟩ := to_inv hN hL hl hg0 hg k (by omega)
    rw [to_succ]
    rcases step_cases fz g (elTo L fz g k) ((k : Int) + 1) with e | ⟨_, _, ha, hb, e⟩
    · rw [e]; exact ⟨h1, by omega, by omega, fun u hu => ⟨by have := (h4 u hu).1; omega, (h4 u hu).2⟩⟩
    · rw [e]
      refine ⟨good_out hN (by omega) (by omega) h1, ?_, ?_, ?_⟩
      · show (outX _ _ _).length ≤ _; omega
      · show (_ ++ [_]).length ≤ _; rw [List.length_append]; simp; omega
      · intro u hu
        rcases List.mem_append.1 hu with h | h
        · exact ⟨by have := (h4 u h).1; omega, (h4 u h).2⟩
        · rw [List.mem_singleton] at h
          subst h
          refine ⟨?_, fun l hl => (h1 l (List.mem_filter.1 hl).1).2⟩
          have := uOf_len (c := (elTo L fz g k).1) (v := (k : Int) + 1)
          show (uOf _ _).length ≤ _
          omega
theorem good_of (hc : chkV N L = 0) (hs : ∀ l ∈ L, l.length ≤ 20) : Good N L := fun l hl => ⟨(chkV_0.1 hc).2.1 l hl, by have := hs l hl; omega⟩
theorem good_chk (hN0 : 0 ≤ N) (hN : N ≤ 30) (h : Good N X) (hl : X.length ≤ 65536) : chkV N X = 0 := chkV_0.2 ⟨⟨hN0, by omega⟩, fun l hl => (h l hl).1, hl⟩
end
/-- Elim -/
def oddV (N : Int) (v : Int) : Bool := decide (v < 1) || decide (N < v)
def elE (N : Int) (L : List (List Int)) (fz : List Int) (g : Int) : Int := if chkV N L ≠ 0 then chkV N L else if (decide (g < 0) || decide (1099511627776 < g) || fz.any (oddV N)) = true then 1 else 0
def elN (N : Int) (L : List (List Int)) (fz : List Int) (g : Int) : Int := if elE N L fz g = 0 then N else 0
def elX (N : Int) (L : List (List Int)) (fz : List Int) (g : Int) : List (List Int) := if elE N L fz g = 0 then (elTo L fz g N.toNat).1 else []
def elU (N : Int) (L : List (List Int)) (fz : List Int) (g : Int) : List Und := if elE N L fz g = 0 then (elTo L fz g N.toNat).2 else []
section
variable {N g e : Int} {L : List (List Int)} {fz : List Int}
theorem el_no (h : elE N L fz g = e) (h0 : e ≠ 0) : elN N L fz g = 0 ∧ elX N L fz g = [] ∧ elU N L fz g = [] ∧ elE N L fz g = e := by
  unfold elN elX elU
  rw [h, if_neg h0, if_neg h0, if_neg h0]
  exact ⟨rfl, rfl, rfl, rfl⟩
theorem el_chk (h : chkV N L ≠ 0) : elE N L fz g = chkV N L := if_pos h
theorem el_arg (h : chkV N L = 0) (h2 : (decide (g < 0) || decide (1099511627776 < g) || fz.any (oddV N)) = true) : elE N L fz g = 1 := by
  unfold elE; rw [if_neg (fun e => e h), if_pos h2]
theorem el_0 (h : chkV N L = 0) (h2 : (decide (g < 0) || decide (1099511627776 < g) || fz.any (oddV N)) = false) : elE N L fz g = 0 := by
  unfold elE; rw [if_neg (fun e => e h), if_neg (by rw [h2]; simp)]
theorem el_ok (h : elE N L fz g = 0) : elN N L fz g = N ∧ elX N L fz g = (elTo L fz g N.toNat).1 ∧ elU N L fz g = (elTo L fz g N.toNat).2 ∧ elE N L fz g = 0 := by
  unfold elN elX elU
  rw [h]
  exact ⟨rfl, rfl, rfl, rfl⟩
theorem el_yes (h : elE N L fz g = 0) : chkV N L = 0 ∧ 0 ≤ g ∧ g ≤ 1099511627776 ∧ fz.any (oddV N) = false := by
  have hc : chkV N L = 0 := by
    by_cases hc : chkV N L = 0
    · exact hc
    · rw [el_chk hc] at h; exact h
  have h2 : (decide (g < 0) || decide (1099511627776 < g) || fz.any (oddV N)) = false := by
    cases hb : (decide (g < 0) || decide (1099511627776 < g) || fz.any (oddV N)) with
    | false => rfl
    | true => rw [el_arg hc hb] at h; cases h
  simp only [Bool.or_eq_false_iff, decide_eq_false_iff_not] at h2
  exact ⟨hc, by omega, by omega, h2.2⟩
end
end Go.Proofs.Ythhfdjcaafckbaa.Cn
