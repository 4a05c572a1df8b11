/- What the law ElimSame asks, plainly. No program in sight. -/
import Derived.Test.YthhfdjcaafckbaaSameP
import Derived.Test.YthhfdjcaafckbaaAllV
set_option linter.unusedSimpArgs false
set_option linter.unusedVariables false
namespace Go.Proofs.Ythhfdjcaafckbaa.Cn
open Go
variable {N v : Int} {L : List (List Int)} {a : List Bool}
theorem ou_yes (h : ouE N L v = 0) : chkV N L = 0 ∧ 1 ≤ v ∧ v ≤ N ∧ ((outX L v 65536).length : Int) ≤ 65536 ∧ ouN N L v = N ∧ ouX N L v = outX L v 65536 ∧ ouV N L v = v ∧ ouU N L v = uOf L v := by
  have hc : chkV N L = 0 := by
    by_cases hc : chkV N L = 0
    · exact hc
    · rw [ou_chk hc] at h; exact h
  have hv : ¬ (v < 1 ∨ N < v) := fun hv => by rw [ou_lit hc hv] at h; cases h
  have hb : ((outX L v 65536).length : Int) ≤ 65536 := by
    by_cases hb : ((outX L v 65536).length : Int) ≤ 65536
    · exact hb
    · rw [ou_big hc hv hb] at h; cases h
  obtain ⟨_, h1, h2, h3, h4⟩ := ou_ok hc hv hb
  exact ⟨hc, by omega, by omega, hb, h1, h2, h3, h4⟩
theorem two_pow8 {n : Nat} (h : n ≤ 8) : (1 : Int) ≤ 2 ^ n ∧ (2 : Int) ^ n ≤ 256 := by
  have : n = 0 ∨ n = 1 ∨ n = 2 ∨ n = 3 ∨ n = 4 ∨ n = 5 ∨ n = 6 ∨ n = 7 ∨ n = 8 := by omega
  rcases this with h | h | h | h | h | h | h | h | h <;> subst h <;> decide
theorem same_dead (ha : (a.length : Int) = N + 1) (hc : chkV N L = 0) (hv1 : 1 ≤ v) (hv2 : v ≤ N) (hs : ((outX L v 65536).length : Int) ≤ 65536)
    (h : (!(valV N (outX L v 65536) a == (valV N L a || valV N L (a.set v.toNat (!(a.getD v.toNat false)))))) = true) : False := by
  rw [same_val ha hc hv1 hv2 hs] at h
  simp at h
theorem back_dead (ha : (a.length : Int) = N + 1) (hc : chkV N L = 0) (hv1 : 1 ≤ v) (hv2 : v ≤ N) (hs : ((outX L v 65536).length : Int) ≤ 65536)
    (h : (valV N (outX L v 65536) a && !(valV N L (backF [(v, uOf L v)] a))) = true) : False := by
  rw [Bool.and_eq_true] at h
  rw [back_val ha hc hv1 hv2 hs h.1] at h
  cases h.2
end Go.Proofs.Ythhfdjcaafckbaa.Cn
