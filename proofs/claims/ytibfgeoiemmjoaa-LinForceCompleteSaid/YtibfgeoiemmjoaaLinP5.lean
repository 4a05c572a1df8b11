/- Plain facts of the canonical form: its lengths, literals and sums; the folds of Force. -/
import Derived.Test.YtibfgeoiemmjoaaLinP4
namespace Go.Proofs.Ytibfgeoiemmjoaa
theorem norm_facts {l : LinV} (h : lcheck l 65536 = 0) : (normP l).C.length = (normP l).L.length ∧ (∀ y ∈ (normP l).L, y ≠ 0 ∧ -65536 ≤ y ∧ y ≤ 65536) ∧ (∀ c ∈ (normP l).C, 0 < c) ∧ sumF1 ((normP l).C.zip (normP l).L) ≤ 4503599627370496 := by
  have hx := (lcheck_ok h).2.2.2.2.2.1
  have hs := terms_bd h (varsZ l.L).length
  rw [List.take_length] at hs
  rw [normP, if_pos h, normW]
  split
  · exact ⟨rfl, fun y hy => (by cases hy), fun c hc => (by cases hc), by decide⟩
  · split
    · exact ⟨rfl, fun y hy => (by cases hy), fun c hc => (by cases hc), by decide⟩
    · rename_i hb _
      refine ⟨by simp, fun y hy => ?_, fun c hc => ?_, ?_⟩
      · obtain ⟨q, hq, rfl⟩ := List.mem_map.1 hy
        obtain ⟨v, hv, e⟩ := terms_var hq
        have := vars_le hx v hv
        rcases e with e | e <;> rw [e] <;> omega
      · obtain ⟨q, hq, rfl⟩ := List.mem_map.1 hc
        have := terms_pos l _ q hq
        simp only at *
        omega
      · rw [zip_map2]
        refine Int.le_trans ?_ hs.2
        generalize l.B - minsP l (varsZ l.L) = b
        generalize termsP l (varsZ l.L) = ts
        induction ts with
        | nil => simp [sumF1]
        | cons q t ih => simp only [List.map_cons, sumF1]; omega
end Go.Proofs.Ytibfgeoiemmjoaa
