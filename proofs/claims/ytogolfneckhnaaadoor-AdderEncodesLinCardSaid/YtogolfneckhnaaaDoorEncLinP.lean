/- A sum and a bound together hold exactly if the constraint does, plainly. No program in sight. -/
import Derived.Test.YtogolfneckhnaaaDoorAdPlainE
import Derived.Test.YtogolfneckhnaaaDoorAdPlainL
import Derived.Test.YtogolfneckhnaaaDoorLinP3
set_option linter.unusedVariables false
namespace Go.Proofs.YtogolfneckhnaaaDoor

theorem lval_neg {g : List Bool} {x : Int} (h : x ≠ 0) : lval g (-x) = !lval g x := by
  unfold lval
  rw [Int.natAbs_neg]
  by_cases h0 : 0 < x
  · rw [decide_eq_true h0, decide_eq_false (show ¬ (0 < -x) by omega)]
    cases (decide (x.natAbs < g.length) && g.getD x.natAbs false) <;> rfl
  · rw [decide_eq_false h0, decide_eq_true (show 0 < -x by omega)]
    cases (decide (x.natAbs < g.length) && g.getD x.natAbs false) <;> rfl
theorem litT_lval {g : List Bool} {x : Int} (h : x ≠ 0 ∧ -65536 ≤ x ∧ x ≤ 65536) : litT g x = lval g x := by
  unfold litT lval
  rw [decide_eq_true h]
  rfl
theorem sumZ_lsum {g : List Bool} : ∀ {z : List (Int × Int)}, (∀ q ∈ z, q.2 ≠ 0 ∧ -65536 ≤ q.2 ∧ q.2 ≤ 65536) → sumZ g z = lsumZ (lval g) z
  | [], _ => rfl
  | q :: t, h => by
    have ih := sumZ_lsum (g := g) (z := t) fun p hp => h p (List.mem_cons_of_mem _ hp)
    have hq := litT_lval (g := g) (h q List.mem_cons_self)
    show (if litT g q.2 then q.1 else 0) + sumZ g t = _
    rw [ih, hq]
    rfl
theorem norm_small {x : LinV} {n : Int} (hn : 0 ≤ n) (hn2 : n ≤ 65536) (hc : lcheck x n = 0) : normP x = normW x ∧ lcheck x 65536 = 0 ∧ (normP x).C.length ≤ x.L.length ∧ 0 ≤ (normP x).B ∧ (normP x).B ≤ 4503599627370496 := by
  obtain ⟨_, _, h3, h4, h5, h6, h7⟩ := lcheck_ok hc
  have hc2 : lcheck x 65536 = 0 := lcheck_mk (by decide) (by decide) h3 h4 h5 (fun y hy => by have := h6 y hy; omega) h7
  have e : normP x = normW x := if_pos hc2
  refine ⟨e, hc2, ?_⟩
  rw [e]
  unfold normW
  have h1 := terms_len x (varsZ x.L)
  have h2 := varsZ_len x.L
  have h8 := terms_bd hc2 (varsZ x.L).length
  rw [List.take_length] at h8
  split
  · exact ⟨Nat.zero_le _, by decide, by decide⟩
  · split
    · exact ⟨Nat.zero_le _, by decide, by decide⟩
    · refine ⟨by simp; omega, ?_, ?_⟩
      · show 0 ≤ x.B - minsP x (varsZ x.L); omega
      · show x.B - minsP x (varsZ x.L) ≤ _; omega
theorem enc_ok {x : LinV} {next : Int} (hn1 : 1 ≤ next) (hn2 : next ≤ 40) (hL : x.L.length ≤ 8) (hc : lcheck x (next - 1) = 0) {bits : List Int} {cs : List (List Int)} {after : Int}
    (h : sumP (normP x).C (normP x).L next = .ok bits cs after) (g : List Bool) (hg : (g.length : Int) = next) :
    ∃ more, leastP bits (normP x).B = .ok more ∧ (∀ c ∈ more, ∀ y ∈ c, LitOk after y) ∧ bits.length ≤ 45 ∧ next ≤ after ∧ after ≤ next + 2000 ∧
      ∃ F, toldP cs g next (after - next).toNat = (F, true) ∧ (F.length : Int) = after ∧ (cs ++ more).all (fun c => c.any (litT F)) = lvalue x g := by
  obtain ⟨e, hc2, hC, hB0, hB1⟩ := norm_small (by omega) (by omega) hc
  obtain ⟨_, _, h3, h4, h5, h6, h7⟩ := lcheck_ok hc
  obtain ⟨s1, s2⟩ := sumP_small h (by omega)
  obtain ⟨hlen, z2, z3, z4, z5, _, _, _, zb, zc, _⟩ := sumP_size h
  obtain ⟨F, f1, f2, f3, f4, f5⟩ := sumP_cor h g hg
  have hob : bits.any oddB = false := by
    rw [List.any_eq_false]
    intro b hb
    rcases zb b hb with h0 | h0
    · subst h0; decide
    · obtain ⟨_, h1, h2⟩ := h0
      simp [oddB]; omega
  have hl : leastP bits (normP x).B = .ok (leastTo bits (normP x).B.toNat 64) := by
    unfold leastP
    rw [if_neg (by rw [hob]; simp; omega), if_neg (by omega)]
  refine ⟨_, hl, ?_, s1, z3, s2, F, f1, f2, ?_⟩
  · intro c hcm y hy
    unfold leastTo at hcm
    obtain ⟨t, _, rfl⟩ := List.mem_map.1 hcm
    unfold clTo at hy
    obtain ⟨j, hj, rfl⟩ := List.mem_map.1 hy
    have hj2 := List.mem_filter.1 hj
    have hj3 := hj2.2
    have hjl : j < bits.length := List.mem_range.1 hj2.1
    unfold lcond at hj3
    rw [Bool.and_eq_true] at hj3
    have hne : bits.getD j 0 ≠ 0 := by simpa using hj3.1
    have hm : bits.getD j 0 ∈ bits := by rw [List.getD_eq_getElem?_getD, List.getElem?_eq_getElem hjl]; exact List.getElem_mem hjl
    rcases zb _ hm with h0 | h0
    · exact absurd h0 hne
    · exact h0
  · have hca : cs.all (fun c => c.any (litT F)) = true := List.all_eq_true.2 f3
    rw [List.all_append, hca, Bool.true_and, least_correct bits F _ (by omega)]
    unfold lvalue
    rw [decide_eq_true hc2, Bool.true_and, ← norm_equiv (lval g) x h3 (fun y hy => (h6 y hy).1) (fun y hy => lval_neg hy), ← e]
    unfold lholds
    have hz : sumZ g ((normP x).C.zip (normP x).L) = lsumZ (lval g) ((normP x).C.zip (normP x).L) := sumZ_lsum fun q hq => by
      obtain ⟨_, _, _, hq2⟩ := (sumP_ok h)
      have := (hq2.1 q hq).2.2
      obtain ⟨a1, a2, a3⟩ := this
      exact ⟨a1, by omega, by omega⟩
    rw [← hz, ← f5, ← f4]
    rw [Bool.eq_iff_iff, decide_eq_true_iff, decide_eq_true_iff]
    omega
end Go.Proofs.YtogolfneckhnaaaDoor
