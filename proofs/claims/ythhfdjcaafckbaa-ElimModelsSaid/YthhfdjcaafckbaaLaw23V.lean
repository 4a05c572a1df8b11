/- What the laws ElimAll, ElimGone, ElimSteps and ElimModels ask, plainly. No program in sight. -/
import Derived.Test.YthhfdjcaafckbaaElimG
set_option linter.unusedSimpArgs false
set_option linter.unusedVariables false
set_option linter.unnecessarySimpa false
namespace Go.Proofs.Ythhfdjcaafckbaa.Cn
open Go
variable {N M g v : Int} {X Y L : List (List Int)} {fz : List Int} {U : List Und} {k i j : Nat} {a : List Bool} {u : Und}
theorem few3 {vars cl fl gr : Int} (h : (((!(fewB N L vars cl)) || decide ((fz.length : Int) > fl)) || decide (g > gr)) = false) : (N ≤ vars ∧ (L.length : Int) ≤ cl ∧ ∀ l ∈ L, l.length ≤ 20) ∧ (fz.length : Int) ≤ fl ∧ g ≤ gr := by
  rw [Bool.or_eq_false_iff, Bool.or_eq_false_iff] at h
  exact ⟨few_iff (by simpa using h.1.1), by have := of_decide_eq_false h.1.2; omega, by have := of_decide_eq_false h.2; omega⟩
theorem few4 {vars cl fl gr mx : Int} (h : (((!(fewB N L vars cl)) || decide ((fz.length : Int) > fl)) || (decide (g > gr) && decide (g ≤ mx))) = false) : (N ≤ vars ∧ (L.length : Int) ≤ cl ∧ ∀ l ∈ L, l.length ≤ 20) ∧ (fz.length : Int) ≤ fl ∧ (g ≤ gr ∨ mx < g) := by
  rw [Bool.or_eq_false_iff, Bool.or_eq_false_iff] at h
  refine ⟨few_iff (by simpa using h.1.1), by have := of_decide_eq_false h.1.2; omega, ?_⟩
  have h9 := h.2
  rw [Bool.and_eq_false_iff] at h9
  rcases h9 with h9 | h9
  · have := of_decide_eq_false h9; omega
  · have := of_decide_eq_false h9; omega
theorem el_bd (hN : N ≤ 30) (hl : L.length ≤ 40) (hs : ∀ l ∈ L, l.length ≤ 20) (hg : g ≤ 40 ∨ 1099511627776 < g) :
    ((elX N L fz g).length ≤ maxLen ∧ ∀ l ∈ elX N L fz g, l.length ≤ maxLen) ∧ ((elU N L fz g).length ≤ maxLen ∧ ∀ w ∈ elU N L fz g, w.2.length ≤ maxLen ∧ ∀ l ∈ w.2, l.length ≤ maxLen) := by
  by_cases he : elE N L fz g = 0
  · obtain ⟨hc0, hg0, hg1, _⟩ := el_yes he
    obtain ⟨_, h2, h3, _⟩ := el_ok he
    have hN0 := (chkV_0.1 hc0).1.1
    obtain ⟨h4, h5, h6, h7⟩ := to_inv (fz := fz) hN (good_of hc0 hs) hl hg0 (by omega) N.toNat (by omega)
    rw [h2, h3]
    unfold maxLen
    exact ⟨⟨by omega, fun l hl => by have := (h4 l hl).2; omega⟩, by omega, fun w hw => ⟨by have := (h7 w hw).1; omega, fun l hl => by have := (h7 w hw).2 l hl; omega⟩⟩
  · obtain ⟨_, h2, h3, _⟩ := el_no rfl he
    rw [h2, h3]
    exact ⟨⟨Nat.zero_le _, fun l hl => by cases hl⟩, Nat.zero_le _, fun l hl => by cases hl⟩
theorem el_gone (hN : N ≤ 30) (hl : L.length ≤ 40) (hs : ∀ l ∈ L, l.length ≤ 20) (hg : g ≤ 40) (he : elE N L fz g = 0) : Gone N g fz L (elX N L fz g) (elU N L fz g) N.toNat := by
  obtain ⟨hc0, hg0, hg1, _⟩ := el_yes he
  obtain ⟨_, h2, h3, _⟩ := el_ok he
  have hN0 := (chkV_0.1 hc0).1.1
  rw [h2, h3]
  exact gone hN0 hN (good_of hc0 hs) hl hg0 hg N.toNat (by omega)
theorem el_mods (hN : N ≤ 30) (hl : L.length ≤ 40) (hs : ∀ l ∈ L, l.length ≤ 20) (hg : g ≤ 40) (he : elE N L fz g = 0) (a : List Bool) (ha : (a.length : Int) = N + 1) : Mods N L (elX N L fz g) (elU N L fz g) a := by
  obtain ⟨hc0, hg0, hg1, _⟩ := el_yes he
  obtain ⟨_, h2, h3, _⟩ := el_ok he
  have hN0 := (chkV_0.1 hc0).1.1
  rw [h2, h3]
  exact mods hN0 hN (good_of hc0 hs) hl hg0 hg N.toNat (by omega) a ha
theorem lastV_succ : (U.getD i (0, [])).1 = lastV U (i + 1) := by unfold lastV; rw [if_neg (by omega)]; rfl
theorem gone_inc (hG : Gone N g fz L X U k) (hi : i < U.length) (h : (decide ((U.getD i (0, [])).1 ≤ lastV U i) || (((U.getD i (0, [])).2.length : Int) == 0)) = true) : False := by
  have h1 := hG.inc i hi
  have h2 := (hG.step i hi).ne
  rw [Bool.or_eq_true] at h
  rcases h with h | h
  · have := of_decide_eq_true h; omega
  · have := eq_of_beq h; omega
theorem gone_lens (hG : Gone N g fz L X U k) (hi : i < U.length) : ∀ l ∈ (U.getD i (0, [])).2, l.length ≤ 62 := fun l hl => by
  have hs := hG.step i hi
  rw [hs.eq] at hl
  exact (hs.good l (List.mem_filter.1 hl).1).2
theorem gone_fin (hG : Gone N g fz L X U k) (hn : M = N) : ((((decide ((X.length : Int) ≤ ((L.length : Int) + (g * (U.length : Int))))) && (M == N)) && ((chkV M X) == 0)) && ((decide ((U.length : Int) > 0)) || ((M == N) && decide (X = L)))) = true := by
  subst hn
  rw [hG.chk, decide_eq_true hG.len]
  by_cases h : U.length = 0
  · rw [hG.same h]; simp
  · rw [decide_eq_true (show (U.length : Int) > 0 by omega)]; simp
theorem step_ou (h : StepOk N g fz Y u) : ouE N Y u.1 = 0 ∧ ouN N Y u.1 = N ∧ ouX N Y u.1 = outX Y u.1 65536 ∧ ouV N Y u.1 = u.1 ∧ ouU N Y u.1 = u.2 := by
  obtain ⟨h1, h2, h3, h4, h5⟩ := ou_ok h.chk (by have := h.v1; have := h.v2; omega) h.len
  refine ⟨h1, h2, h3, h4, h5.trans ?_⟩
  have := congrArg Prod.snd h.eq
  exact this.symm
theorem step_dead (h : StepOk N g fz Y u) (hb : (((ouE N Y u.1 != 0) || decide (((ouX N Y u.1).length : Int) > (Y.length : Int) + g)) || (!(decide ([(u.1, u.2)] = [(ouV N Y u.1, ouU N Y u.1)])))) = true) : False := by
  obtain ⟨h1, h2, h3, h4, h5⟩ := step_ou h
  rw [h1, h3, h4, h5] at hb
  have := h.grow
  simp at hb
  omega
theorem yAt_len (h : ∀ l ∈ Y, l.length ≤ 62) : ∀ l ∈ Y, l.length ≤ 1000 := fun l hl => by have := h l hl; omega
theorem mul_bd {n : Nat} (h0 : 0 ≤ g) (h1 : g ≤ 40) (h2 : n ≤ 30) : (0 : Int) ≤ g * (n : Int) ∧ g * (n : Int) ≤ 1200 := by
  refine ⟨Int.mul_nonneg h0 (by omega), ?_⟩
  have := Int.mul_le_mul h1 (show (n : Int) ≤ 30 by omega) (by omega) (by decide)
  omega
theorem mods_95 (hM : Mods N L X U a) (hn : M = N) (h : ((valV N L a) && (!(valV M X a))) = true) : False := by
  subst hn
  rw [Bool.and_eq_true] at h
  rw [hM.fwd h.1] at h
  cases h.2
theorem mods_111 (hM : Mods N L X U a) (hn : M = N) (hv : valV M X a = true) (h : ((((backF U a).length : Int) != (a.length : Int)) || (!(valV N L (backF U a)))) = true) : False := by
  subst hn
  rw [hM.bwd hv, hM.len] at h
  simp at h
theorem mods_132 (hM : Mods N L X U a) (hj : j < (N + 1).toNat) (h : ((!((a.getD j false) == ((backF U a).getD j false))) && (!((goneL N U).getD j false))) = true) : False := by
  rw [Bool.and_eq_true] at h
  have h1 := goneL_no hj (by simpa using h.2)
  rw [hM.oth j h1] at h
  simp at h
end Go.Proofs.Ythhfdjcaafckbaa.Cn
