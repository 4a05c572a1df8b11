/- The contracts of lin's functions in the reader's words. -/
import Derived.Test.YtibfgeoiemmjoaaEngCalls
import Derived.Test.YtibfgeoiemmjoaaLin9
import Derived.Test.YtibfgeoiemmjoaaLive12
import Derived.Test.YtibfgeoiemmjoaaLaw12a
namespace Go.Proofs.Ytibfgeoiemmjoaa.En
open Go Go.RowKit

/-- a constraint as an abstract value -/
abbrev linA (l : LinV) : AV := .agg [.ints l.C, .ints l.L, .int l.B]
theorem lin_of_den {W : World} {G : Nat → Prop} {C L : List Int} {B : Int} {u : Value} (hG : ∀ b, G b → b < W.heap.size) (h : Den (g0 W G) (.agg [.ints C, .ints L, .int B]) u) :
    ∃ A A' c c', u = linV A A' c c' ⟨C, L, B⟩ ∧ LinAt W A A' ⟨C, L, B⟩ := by
  simp only [Den] at h
  obtain ⟨vs, rfl, hl⟩ := h
  obtain ⟨a, b, c, rfl, h1, h2, h3⟩ := denL3 hl
  simp only [Den] at h1 h2
  obtain ⟨A, k, rfl, r1, m1⟩ := rd_of_rep h1 hG
  obtain ⟨A', k', rfl, r2, m2⟩ := rd_of_rep h2 hG
  rw [den_val h3]
  exact ⟨A, A', k, k', rfl, r1, r2, m1, m2⟩
theorem den_of_own {W W' : World} {G : Nat → Prop} {A L : Option Addr} {cA cL : Nat} {l : LinV} (h : OwnLin W.heap.size W' A L cA cL l) :
    Den (g0 W' (fun b => G b ∨ (W.heap.size ≤ b ∧ b < W'.heap.size))) (linA l) (linV A L cA cL l) := by
  simp only [Den]
  refine ⟨[_, _, _], rfl, ?_⟩
  simp only [DenL]
  refine ⟨_, _, rfl, ?_, _, _, rfl, ?_, _, _, rfl, ?_, rfl⟩
  · simp only [Den]
    exact rep_of_own h.c (by have := h.len.1; unfold maxLen; omega) (fun b hb => .inr ⟨h.cB b hb, h.c.lt hb⟩)
  · simp only [Den]
    exact rep_of_own h.li (by have := h.len.2; unfold maxLen; omega) (fun b hb => .inr ⟨h.lB b hb, h.li.lt hb⟩)
  · exact den_val_mk _
def few_σ : CtF1
  | [.agg [.im (.ls (.ints C)), .im (.ls (.ints L)), .im (.val (.int .i64 B))]] => some (True, .bool (fewP ⟨C, L, B⟩))
  | _ => none
theorem few_sound : Sound1 Try.prog 13 few_σ := by
  refine ⟨fun args W => run_enters (fn := Try.f13) Try.func13 (by kernel_rfl) rfl args W, fun W G args vs p r hG hs _ hd => ?_⟩
  unfold few_σ at hs
  split at hs
  · simp only [Option.some.injEq, Prod.mk.injEq] at hs
    obtain ⟨rfl, rfl⟩ := hs
    obtain ⟨u, rfl, h1⟩ := denL1 hd
    obtain ⟨A, A', c, c', rfl, hA⟩ := lin_of_den hG h1
    refine (few_any A A' c c' _ W).mono ?_
    rintro e w' ⟨rfl, hb⟩
    exact ⟨_, rfl, hb, den_val_mk _⟩
  · cases hs
def live12_σ : CtF1
  | [] => some (True, .bool true)
  | _ => none
theorem live12_sound : Sound1 Try.prog 12 live12_σ := by
  refine ⟨fun args W => run_enters (fn := Try.f12) Try.func12 (by kernel_rfl) rfl args W, fun W G args vs p r hG hs _ hd => ?_⟩
  unfold live12_σ at hs
  split at hs
  · simp only [Option.some.injEq, Prod.mk.injEq] at hs
    obtain ⟨rfl, rfl⟩ := hs
    have : vs = [] := by simpa [DenL] using hd
    subst this
    refine (live12_any W).mono ?_
    rintro e w' ⟨rfl, hb⟩
    exact ⟨_, rfl, hb, den_val_mk _⟩
  · cases hs
def lcheck_σ : CtF1
  | [.agg [.im (.ls (.ints C)), .im (.ls (.ints L)), .im (.val (.int .i64 B))], .im (.val (.int .i64 n))] => some (True, .int (lcheck ⟨C, L, B⟩ n))
  | _ => none
theorem lcheck_sound : Sound1 Try.prog 17 lcheck_σ := by
  refine ⟨fun args W => run_enters (fn := Try.f17) Try.func17 (by kernel_rfl) rfl args W, fun W G args vs p r hG hs _ hd => ?_⟩
  unfold lcheck_σ at hs
  split at hs
  · simp only [Option.some.injEq, Prod.mk.injEq] at hs
    obtain ⟨rfl, rfl⟩ := hs
    obtain ⟨u, u', rfl, h1, h2⟩ := denL2 hd
    obtain ⟨A, A', c, c', rfl, hA⟩ := lin_of_den hG h1
    rw [den_val h2]
    refine (lcheck_any A A' c c' _ _ W hA).mono ?_
    rintro e w' ⟨rfl, hb⟩
    exact ⟨_, rfl, hb, den_val_mk _⟩
  · cases hs
def lnorm_σ : CtF1
  | [.agg [.im (.ls (.ints C)), .im (.ls (.ints L)), .im (.val (.int .i64 B))]] => some (True, linA (normP ⟨C, L, B⟩))
  | _ => none
theorem lnorm_sound : Sound1 Try.prog 15 lnorm_σ := by
  refine ⟨fun args W => run_enters (fn := Try.f15) Try.func15 (by kernel_rfl) rfl args W, fun W G args vs p r hG hs _ hd => ?_⟩
  unfold lnorm_σ at hs
  split at hs
  · simp only [Option.some.injEq, Prod.mk.injEq] at hs
    obtain ⟨rfl, rfl⟩ := hs
    obtain ⟨u, rfl, h1⟩ := denL1 hd
    obtain ⟨A, A', c, c', rfl, hA⟩ := lin_of_den hG h1
    refine (norm_any A A' c c' _ W hA).mono ?_
    rintro e w' ⟨A1, L1, k1, k2, rfl, ho, hb⟩
    exact ⟨_, rfl, hb, den_of_own ho⟩
  · cases hs
def lsame_σ : CtF1
  | [.agg [.im (.ls (.ints C)), .im (.ls (.ints L)), .im (.val (.int .i64 B))], .agg [.im (.ls (.ints C')), .im (.ls (.ints L')), .im (.val (.int .i64 B'))]] => some (True, .bool (sameP ⟨C, L, B⟩ ⟨C', L', B'⟩))
  | _ => none
theorem lsame_sound : Sound1 Try.prog 19 lsame_σ := by
  refine ⟨fun args W => run_enters (fn := Try.f19) Try.func19 (by kernel_rfl) rfl args W, fun W G args vs p r hG hs _ hd => ?_⟩
  unfold lsame_σ at hs
  split at hs
  · simp only [Option.some.injEq, Prod.mk.injEq] at hs
    obtain ⟨rfl, rfl⟩ := hs
    obtain ⟨u, u', rfl, h1, h2⟩ := denL2 hd
    obtain ⟨A, A', c, c', rfl, hA⟩ := lin_of_den hG h1
    obtain ⟨D, D', d, d', rfl, hD⟩ := lin_of_den hG h2
    refine (same_any A A' D D' c c' d d' _ _ W hA hD).mono ?_
    rintro e w' ⟨rfl, hb⟩
    exact ⟨_, rfl, hb, den_val_mk _⟩
  · cases hs
def lvalue_σ : CtF1
  | [.agg [.im (.ls (.ints C)), .im (.ls (.ints L)), .im (.val (.int .i64 B))], .im (.ls (.bools a))] => some (True, .bool (lvalue ⟨C, L, B⟩ a))
  | _ => none
theorem lvalue_sound : Sound1 Try.prog 23 lvalue_σ := by
  refine ⟨fun args W => run_enters (fn := Try.f23) Try.func23 (by kernel_rfl) rfl args W, fun W G args vs p r hG hs _ hd => ?_⟩
  unfold lvalue_σ at hs
  split at hs
  · simp only [Option.some.injEq, Prod.mk.injEq] at hs
    obtain ⟨rfl, rfl⟩ := hs
    obtain ⟨u, u', rfl, h1, h2⟩ := denL2 hd
    obtain ⟨A, A', c, c', rfl, hA⟩ := lin_of_den hG h1
    simp only [Den] at h2
    obtain ⟨T, k, rfl, r2, m2⟩ := rdb_of_rep h2 hG
    refine (lvalue_any A A' T c c' k _ _ W hA r2 m2).mono ?_
    rintro e w' ⟨rfl, hb⟩
    exact ⟨_, rfl, hb, den_val_mk _⟩
  · cases hs
def ladd_σ : CtF1
  | [.agg [.im (.ls (.ints C)), .im (.ls (.ints L)), .im (.val (.int .i64 B))], .agg [.im (.ls (.ints C')), .im (.ls (.ints L')), .im (.val (.int .i64 B'))]] => some (True, .tup [linA (addP ⟨C, L, B⟩ ⟨C', L', B'⟩).1, .int (addP ⟨C, L, B⟩ ⟨C', L', B'⟩).2])
  | _ => none
theorem cutPost_den {r : LinV × Int} {W W' : World} {G : Nat → Prop} {e : Ending} (h : CutPost r W e W') : ∃ u, e = .returned u ∧ Below W.heap.size W W' ∧ Den (g0 W' (fun b => G b ∨ (W.heap.size ≤ b ∧ b < W'.heap.size))) (.tup [linA r.1, .int r.2]) u := by
  obtain ⟨A1, L1, k1, k2, rfl, ho, hb⟩ := h
  refine ⟨_, rfl, hb, ?_⟩
  have h1 := den_of_own (G := G) ho
  show Den _ (.tup _) _
  rw [Den]
  refine ⟨[_, _], rfl, ?_⟩
  simp only [DenL]
  exact ⟨_, _, rfl, h1, _, _, rfl, den_val_mk _, rfl⟩
theorem ladd_sound : Sound1 Try.prog 25 ladd_σ := by
  refine ⟨fun args W => run_enters (fn := Try.f25) Try.func25 (by kernel_rfl) rfl args W, fun W G args vs p r hG hs _ hd => ?_⟩
  unfold ladd_σ at hs
  split at hs
  · simp only [Option.some.injEq, Prod.mk.injEq] at hs
    obtain ⟨rfl, rfl⟩ := hs
    obtain ⟨u, u', rfl, h1, h2⟩ := denL2 hd
    obtain ⟨A, A', c, c', rfl, hA⟩ := lin_of_den hG h1
    obtain ⟨D, D', d, d', rfl, hD⟩ := lin_of_den hG h2
    exact (add_any A A' D D' c c' d d' _ _ W hA hD).mono fun e w' h => cutPost_den h
  · cases hs
def lcut_σ : CtF1
  | [.agg [.im (.ls (.ints C)), .im (.ls (.ints L)), .im (.val (.int .i64 B))], .im (.val (.int .i64 d))] => some (True, .tup [linA (cutP ⟨C, L, B⟩ d).1, .int (cutP ⟨C, L, B⟩ d).2])
  | _ => none
theorem lcut_sound : Sound1 Try.prog 27 lcut_σ := by
  refine ⟨fun args W => run_enters (fn := Try.f27) Try.func27 (by kernel_rfl) rfl args W, fun W G args vs p r hG hs _ hd => ?_⟩
  unfold lcut_σ at hs
  split at hs
  · simp only [Option.some.injEq, Prod.mk.injEq] at hs
    obtain ⟨rfl, rfl⟩ := hs
    obtain ⟨u, u', rfl, h1, h2⟩ := denL2 hd
    obtain ⟨A, A', c, c', rfl, hA⟩ := lin_of_den hG h1
    rw [den_val h2]
    exact (cut_any A A' c c' _ _ W hA).mono fun e w' h => cutPost_den h
  · cases hs
end Go.Proofs.Ytibfgeoiemmjoaa.En
