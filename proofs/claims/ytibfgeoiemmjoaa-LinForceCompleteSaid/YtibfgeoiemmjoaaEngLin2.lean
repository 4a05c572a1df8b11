/- The contract of Force in the reader's words; laws as calls. -/
import Derived.Test.YtibfgeoiemmjoaaEngLin
import Derived.Test.YtibfgeoiemmjoaaLin11b
import Derived.Test.YtibfgeoiemmjoaaRef12R
namespace Go.Proofs.Ytibfgeoiemmjoaa.En
open Go Go.RowKit

def lforce_σ : CtF1
  | [.agg [.im (.ls (.ints C)), .im (.ls (.ints L)), .im (.val (.int .i64 B))], .im (.ls (.ints lits))] => some ((∀ x ∈ lits, -9223372036854775808 ≤ x ∧ x ≤ 9223372036854775807), .tup [.ints (forceF ⟨C, L, B⟩ lits), .bool (forceB ⟨C, L, B⟩ lits)])
  | _ => none
theorem lforce_sound : Sound1 Try.prog 20 lforce_σ := by
  refine ⟨fun args W => run_enters (fn := Try.f20) Try.func20 (by kernel_rfl) rfl args W, fun W G args vs p r hG hs hp hd => ?_⟩
  unfold lforce_σ at hs
  split at hs
  · simp only [Option.some.injEq, Prod.mk.injEq] at hs
    obtain ⟨rfl, rfl⟩ := hs
    obtain ⟨u, u', rfl, h1, h2⟩ := denL2 hd
    obtain ⟨A, A', c, c', rfl, hA⟩ := lin_of_den hG h1
    simp only [Den] at h2
    obtain ⟨T, k, rfl, r2, m2⟩ := rd_of_rep h2 hG
    refine (forceF_any A A' T c c' k _ _ W hA r2 m2 hp).mono ?_
    intro e w' hq
    unfold forceF forceB
    rename_i C L B lits
    cases hf : forceP ⟨C, L, B⟩ lits with
    | none =>
      rw [hf] at hq
      obtain ⟨rfl, hb⟩ := hq
      refine ⟨_, rfl, hb, ?_⟩
      show Den _ (.tup _) _
      rw [Den]
      refine ⟨[_, _], rfl, ?_⟩
      simp only [DenL]
      refine ⟨_, _, rfl, ?_, _, _, rfl, den_val_mk _, rfl⟩
      simp only [Den]
      exact .nil _ none 0 rfl
    | some fs =>
      rw [hf] at hq
      obtain ⟨A1, c1, rfl, ho, hg, hl, hb⟩ := hq
      refine ⟨_, rfl, hb, ?_⟩
      show Den _ (.tup _) _
      rw [Den]
      refine ⟨[_, _], rfl, ?_⟩
      simp only [DenL]
      refine ⟨_, _, rfl, ?_, _, _, rfl, den_val_mk _, rfl⟩
      simp only [Den]
      exact rep_of_own ho (by simp; unfold maxLen; omega) (fun b hb => .inr ⟨hg b hb, ho.lt hb⟩)
  · cases hs
end Go.Proofs.Ytibfgeoiemmjoaa.En
