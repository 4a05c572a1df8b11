/- The contract of Force in the reader's words; laws as calls. -/
import Derived.Test.YtibfgeoiemmjoaaEngLin
import Derived.Test.YtibfgeoiemmjoaaLin11b
import Derived.Test.YtibfgeoiemmjoaaRef12R
namespace Go.Proofs.Ytibfgeoiemmjoaa.En
open Go Go.RowKit

def lforce_σ : CtF1
  | [.agg [.im (.ls (.ints C)), .im (.ls (.ints L)), .im (.val (.int .i64 B))], .im (.ls (.ints lits))] => some ((∀ x ∈ lits, -9223372036854775808 ≤ x ∧ x ≤ 9223372036854775807), .tup [.ints (forceF ⟨C, L, B⟩ lits), .bool (forceB ⟨C, L, B⟩ lits)])
  | _ => none
theorem lforce_sound : Sound1 Try.prog 20 lforce_σ := by
  refine ⟨fun args W => run_enters (fn := Try.f20) Try.func20 (by kernel_rfl) rfl args W, fun W G args vs p r hG hs hp hd => ?_⟩
  unfold lforce_σ at hs
  split at hs
  · simp only [Option.some.injEq, Prod.mk.injEq] at hs
    obtain ⟨rfl, rfl⟩ := hs
    obtain ⟨u, u', rfl, h1, h2⟩ := denL2 hd
    obtain ⟨A, A', c, c', rfl, hA⟩ := lin_of_den hG h1
    simp only [Den] at h2
    obtain ⟨T, k, rfl, r2, m2⟩ := rd_of_rep h2 hG
    refine (forceF_any A A' T c c' k _ _ W hA r2 m2 hp).mono ?_
    intro e w' hq
    unfold forceF forceB
    rename_i C L B lits
    cases hf : forceP ⟨C, L, B⟩ lits with
    | none =>
      rw [hf] at hq
      obtain ⟨rfl, hb⟩ := hq
      refine ⟨_, rfl, hb, ?_⟩
      show Den _ (.tup _) _
      rw [Den]
      refine ⟨[_, _], rfl, ?_⟩
      simp only [DenL]
      refine ⟨_, _, rfl, ?_, _, _, rfl, den_val_mk _, rfl⟩
      simp only [Den]
      exact .nil _ none 0 rfl
    | some fs =>
      rw [hf] at hq
      obtain ⟨A1, c1, rfl, ho, hg, hl, hb⟩ := hq
      refine ⟨_, rfl, hb, ?_⟩
      show Den _ (.tup _) _
      rw [Den]
      refine ⟨[_, _], rfl, ?_⟩
      simp only [DenL]
      refine ⟨_, _, rfl, ?_, _, _, rfl, den_val_mk _, rfl⟩
      simp only [Den]
      exact rep_of_own ho (by simp; unfold maxLen; omega) (fun b hb => .inr ⟨hg b hb, ho.lt hb⟩)
  · cases hs
theorem rep_of_rd {α : Type} {enc : α → Value} {W : World} {G : Nat → Prop} {A : Option Addr} {xs : List α} {l : LD} {c : Nat} (h : Rd enc G W A xs) (hm : xs.length ≤ maxLen) (hl : l.len = xs.length) (hst : l.st = 1) (hcap : xs.length ≤ c)
    (hc : ∀ i (hi : i < xs.length), l.cell i 0 = .val (enc xs[i])) : Rep W G (.ls l) (.slice A xs.length c) := by
  rcases Nat.eq_zero_or_pos xs.length with h0 | h0
  · rw [h0]; exact .nil l A c (by omega)
  · obtain ⟨b, off, rfl, hb, hcell⟩ := h h0
    rw [← hl]
    refine .ls l b off c (fun i _ => if hi : i < xs.length then enc xs[i] else undef) (by omega) (by omega) hb (fun i j hi hj => ?_) (fun i j hi hj => ?_)
    · have hj0 : j = 0 := by omega
      subst hj0
      rw [hst, Nat.mul_one, Nat.add_zero, dif_pos (by omega : i < xs.length)]
      exact hcell i (by omega)
    · have hj0 : j = 0 := by omega
      subst hj0
      rw [dif_pos (by omega : i < xs.length), hc i (by omega)]
      exact .val _
/-- a law as a call from anywhere -/
theorem Sound.calls {P : Program} {f : Nat} {σ : CtF} (h : Sound P f σ) {W : World} {args : List AV} {vs : List Value} {p : Prop} {r : AV} (hσ : σ args [] = some (p, r, [])) (hp : p) (hd : DenL (g0 W (· < W.heap.size)) args vs) :
    Calls P f vs.toArray W (fun e w' => ∃ u, e = .returned u ∧ Below W.heap.size W w' ∧ ∃ g' : Gh, g'.W = w' ∧ Den g' r u) := by
  have hnl : ∀ b, ¬ lentTo (g0 W (· < W.heap.size)) [] b := by rintro b ⟨i, hi, _⟩; simp at hi
  refine Calls.mono (h.2 (g0 W (· < W.heap.size)) args [] vs p r [] hσ hp ⟨fun r o h => by simp [objsH] at h, fun r r' o o' b h => by simp [objsH] at h, fun r o b h => by simp [objsH] at h, fun b hb => ⟨hb, .inl hb⟩, Kp.refl _ _, fun i hi => by simp at hi⟩ (fun r hr => False.elim hr) hd) fun e w' he => ?_
  obtain ⟨u, g', rfl, rfl, _, hm, hdu⟩ := he
  exact ⟨u, rfl, ⟨hm.bel.os, hm.bel.tape, hm.bel.output, hm.bel.size, fun k hk => hm.bel.block k hk (hnl k)⟩, g', rfl, hdu⟩
theorem lawCalls {P : Program} {f : Nat} {σ : CtF} (h : Sound P f σ) {W : World} {args : List AV} {vs : List Value} {p : Prop} (hσ : σ args [] = some (p, .bool true, [])) (hp : p) (hd : DenL (g0 W (· < W.heap.size)) args vs) :
    Calls P f vs.toArray W (fun e w' => e = .returned (.bool true) ∧ Below W.heap.size W w') := by
  refine Calls.mono (h.calls hσ hp hd) fun e w' he => ?_
  obtain ⟨u, rfl, hb, g', _, hd⟩ := he
  rw [den_val hd]
  exact ⟨rfl, hb⟩
theorem den_ints {W : World} {A : Option Addr} {xs : List Int} {c : Nat} (h : Rd I64 (· < W.heap.size) W A xs) (hm : xs.length ≤ maxLen) (hcap : xs.length ≤ c) : Den (g0 W (· < W.heap.size)) (.ints xs) (.slice A xs.length c) := by
  simp only [Den]
  exact rep_of_rd h hm rfl rfl hcap fun i hi => by simp [LD.cell, List.getD, List.getElem?_eq_getElem hi, I64]
theorem den_bools {W : World} {A : Option Addr} {xs : List Bool} {c : Nat} (h : Rd Value.bool (· < W.heap.size) W A xs) (hm : xs.length ≤ maxLen) (hcap : xs.length ≤ c) : Den (g0 W (· < W.heap.size)) (.bools xs) (.slice A xs.length c) := by
  simp only [Den]
  exact rep_of_rd h hm rfl rfl hcap fun i hi => by simp [LD.cell, List.getD, List.getElem?_eq_getElem hi]
end Go.Proofs.Ytibfgeoiemmjoaa.En
