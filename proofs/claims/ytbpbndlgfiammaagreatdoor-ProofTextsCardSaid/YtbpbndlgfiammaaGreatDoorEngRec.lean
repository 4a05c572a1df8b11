/- Contracts of a function that calls itself: by the size of what it is given. -/
import Derived.Test.YtbpbndlgfiammaaGreatDoorEngB
set_option linter.unusedSimpArgs false
set_option linter.unusedVariables false
namespace Go.Proofs.YtbpbndlgfiammaaGreatDoor.En
open Go
/-- a contract that asks what nothing meets -/
theorem sound_none {P : Program} {f : Nat} {fn : Func} {c : Code} {σ : CtF} (hf : P.funcs[f]? = some fn) (hname : (fn.name == "runtime.NumGoroutine") = false) (hb : fn.body = some c)
    (h : ∀ args os p r outs, σ args os = some (p, r, outs) → p → False) : Sound P f σ :=
  ⟨fun args W => run_enters hf hname hb args W, fun g args os vs p r outs hσ hp => (h args os p r outs hσ hp).elim⟩
/-- contracts for every size give one without a size -/
theorem sound_all {P : Program} {f : Nat} {σ : Nat → CtF} {τ : CtF} (h : ∀ n, Sound P f (σ n)) (hτ : ∀ args os p r outs, τ args os = some (p, r, outs) → p → ∃ n q, σ n args os = some (q, r, outs) ∧ q) : Sound P f τ :=
  ⟨(h 0).1, fun g args os vs p r outs hσ hp => by
    obtain ⟨n, q, h1, h2⟩ := hτ args os p r outs hσ hp
    exact (h n).2 g args os vs q r outs h1 h2⟩
/-- the step, taken over all sizes -/
theorem sound_rec {P : Program} {f : Nat} {σ : Nat → CtF} (h0 : Sound P f (σ 0)) (h : ∀ n, Sound P f (σ n) → Sound P f (σ (n + 1))) : ∀ n, Sound P f (σ n)
  | 0 => h0
  | n + 1 => h n (sound_rec h0 h n)
end Go.Proofs.YtbpbndlgfiammaaGreatDoor.En
