/- Lemmas and contracts for the row. -/
import Derived.Test.YtkkapbnopmmmjaaGreatDoorPkRowEncodeExtendsY
import Derived.Test.YtkkapbnopmmmjaaGreatDoorPkRowEncodeExtendsV
set_option linter.unusedVariables false
set_option linter.unusedSimpArgs false
set_option linter.unnecessarySimpa false
namespace Go.Proofs.YtkkapbnopmmmjaaGreatDoor.En
open Go Go.RowKit
abbrev linA (l : LinV) : AV := .agg [.ints l.C, .ints l.L, .int l.B]
theorem lin_of_den {W : World} {G : Nat → Prop} {C L : List Int} {B : Int} {u : Value} (hG : ∀ b, G b → b < W.heap.size) (h : Den (g0 W G) (.agg [.ints C, .ints L, .int B]) u) :
    ∃ A A' c c', u = linV A A' c c' ⟨C, L, B⟩ ∧ LinAt W A A' ⟨C, L, B⟩ := by
  simp only [Den] at h
  obtain ⟨vs, rfl, hl⟩ := h
  obtain ⟨a, b, c, rfl, h1, h2, h3⟩ := denL3 hl
  simp only [Den] at h1 h2
  obtain ⟨A, k, rfl, r1, m1⟩ := rd_of_rep h1 hG
  obtain ⟨A', k', rfl, r2, m2⟩ := rd_of_rep h2 hG
  rw [den_val h3]
  exact ⟨A, A', k, k', rfl, r1, r2, m1, m2⟩
theorem den_of_own {W W' : World} {G : Nat → Prop} {A L : Option Addr} {cA cL : Nat} {l : LinV} (h : OwnLin W.heap.size W' A L cA cL l) :
    Den (g0 W' (fun b => G b ∨ (W.heap.size ≤ b ∧ b < W'.heap.size))) (linA l) (linV A L cA cL l) := by
  simp only [Den]
  refine ⟨[_, _, _], rfl, ?_⟩
  simp only [DenL]
  refine ⟨_, _, rfl, ?_, _, _, rfl, ?_, _, _, rfl, ?_, rfl⟩
  · simp only [Den]
    exact rep_of_own h.c (by have := h.len.1; unfold maxLen; omega) (fun b hb => .inr ⟨h.cB b hb, h.c.lt hb⟩)
  · simp only [Den]
    exact rep_of_own h.li (by have := h.len.2; unfold maxLen; omega) (fun b hb => .inr ⟨h.lB b hb, h.li.lt hb⟩)
  · exact den_val_mk _
def lcheck_σ : CtF1
  | [.agg [.im (.ls (.ints C)), .im (.ls (.ints L)), .im (.val (.int .i64 B))], .im (.val (.int .i64 n))] => some (True, .int (lcheck ⟨C, L, B⟩ n))
  | _ => none
theorem lcheck_sound : Sound1 Tryz.prog 22 lcheck_σ := by
  refine ⟨fun args W => run_enters (fn := Tryz.f22) Tryz.func22 (by kernel_rfl) rfl args W, fun W G args vs p r hG hs _ hd => ?_⟩
  unfold lcheck_σ at hs
  split at hs
  · simp only [Option.some.injEq, Prod.mk.injEq] at hs
    obtain ⟨rfl, rfl⟩ := hs
    obtain ⟨u, u', rfl, h1, h2⟩ := denL2 hd
    obtain ⟨A, A', c, c', rfl, hA⟩ := lin_of_den hG h1
    rw [den_val h2]
    refine (lcheck_any A A' c c' _ _ W hA).mono ?_
    rintro e w' ⟨rfl, hb⟩
    exact ⟨_, rfl, hb, den_val_mk _⟩
  · cases hs
def lnorm_σ : CtF1
  | [.agg [.im (.ls (.ints C)), .im (.ls (.ints L)), .im (.val (.int .i64 B))]] => some (True, linA (normP ⟨C, L, B⟩))
  | _ => none
theorem lnorm_sound : Sound1 Tryz.prog 33 lnorm_σ := by
  refine ⟨fun args W => run_enters (fn := Tryz.f33) Tryz.func33 (by kernel_rfl) rfl args W, fun W G args vs p r hG hs _ hd => ?_⟩
  unfold lnorm_σ at hs
  split at hs
  · simp only [Option.some.injEq, Prod.mk.injEq] at hs
    obtain ⟨rfl, rfl⟩ := hs
    obtain ⟨u, rfl, h1⟩ := denL1 hd
    obtain ⟨A, A', c, c', rfl, hA⟩ := lin_of_den hG h1
    refine (norm_any A A' c c' _ W hA).mono ?_
    rintro e w' ⟨A1, L1, k1, k2, rfl, ho, hb⟩
    exact ⟨_, rfl, hb, den_of_own ho⟩
  · cases hs
def lvalue_σ : CtF1
  | [.agg [.im (.ls (.ints C)), .im (.ls (.ints L)), .im (.val (.int .i64 B))], .im (.ls (.bools a))] => some (True, .bool (lvalue ⟨C, L, B⟩ a))
  | _ => none
theorem lvalue_sound : Sound1 Tryz.prog 21 lvalue_σ := by
  refine ⟨fun args W => run_enters (fn := Tryz.f21) Tryz.func21 (by kernel_rfl) rfl args W, fun W G args vs p r hG hs _ hd => ?_⟩
  unfold lvalue_σ at hs
  split at hs
  · simp only [Option.some.injEq, Prod.mk.injEq] at hs
    obtain ⟨rfl, rfl⟩ := hs
    obtain ⟨u, u', rfl, h1, h2⟩ := denL2 hd
    obtain ⟨A, A', c, c', rfl, hA⟩ := lin_of_den hG h1
    simp only [Den] at h2
    obtain ⟨T, k, rfl, r2, m2⟩ := rdb_of_rep h2 hG
    refine (lvalue_any A A' T c c' k _ _ W hA r2 m2).mono ?_
    rintro e w' ⟨rfl, hb⟩
    exact ⟨_, rfl, hb, den_val_mk _⟩
  · cases hs
end Go.Proofs.YtkkapbnopmmmjaaGreatDoor.En
