/- A contract in the reader's words, as a call from anywhere; slices in and out. Plain lemmas. -/
import Derived.Test.YtbpbndlgfiammaaGreatDoorEngB
set_option linter.unusedSimpArgs false
set_option linter.unusedVariables false
set_option linter.unnecessarySimpa false
namespace Go.Proofs.YtbpbndlgfiammaaGreatDoor.En
open Go Go.RowKit

def g0 (W : World) (G : Nat → Prop) : Gh := ⟨W, G, fun _ => undef, fun _ => False⟩
theorem rd_of_ints {W : World} {G : Nat → Prop} {xs : List Int} {v : Value} (h : Rep W G (.ls (.ints xs)) v) : ∃ A c, v = .slice A xs.length c ∧ xs.length ≤ c ∧ Rd I64 G W A xs := by
  rcases h.cases_ls with ⟨h0, A, c, rfl⟩ | ⟨b, off, c, u, rfl, hc, _, hb, hcell, hrep⟩
  · have h0' : xs.length = 0 := h0
    exact ⟨A, c, by rw [h0'], by omega, fun hn => by omega⟩
  · refine ⟨_, c, rfl, hc, fun hn => ⟨b, off, rfl, hb, fun j hj => ?_⟩⟩
    have h2 := hrep j 0 hj Nat.one_pos
    have h3 : W.cell? ⟨b, off + j, none⟩ = some (u j 0) := by
      have h1 : W.cell? ⟨b, off + j * 1 + 0, none⟩ = some (u j 0) := hcell j 0 hj Nat.one_pos
      rwa [Nat.mul_one, Nat.add_zero] at h1
    rw [h3]
    generalize u j 0 = z at h2
    cases h2
    simp [List.getD, List.getElem?_eq_getElem hj, I64]
theorem rdL_of_intss {W : World} {G : Nat → Prop} {xs : List (List Int)} {v : Value} (h : Rep W G (.ls (.intss xs)) v) : ∃ A c, v = .slice A xs.length c ∧ xs.length ≤ c ∧ RdL G W A xs := by
  rcases h.cases_ls with ⟨h0, A, c, rfl⟩ | ⟨b, off, c, u, rfl, hc, _, hb, hcell, hrep⟩
  · have h0' : xs.length = 0 := h0
    exact ⟨A, c, by rw [h0'], by omega, fun hn => by omega⟩
  · refine ⟨_, c, rfl, hc, fun hn => ⟨b, off, rfl, hb, fun j hj => ?_⟩⟩
    have h1 : W.cell? ⟨b, off + j, none⟩ = some (u j 0) := by
      have h1 : W.cell? ⟨b, off + j * 1 + 0, none⟩ = some (u j 0) := hcell j 0 hj Nat.one_pos
      rwa [Nat.mul_one, Nat.add_zero] at h1
    have h2 : Rep W G (.ls (.ints (xs.getD j []))) (u j 0) := hrep j 0 hj Nat.one_pos
    have e : xs.getD j [] = xs[j] := by simp [List.getD, List.getElem?_eq_getElem hj]
    rw [e] at h2
    obtain ⟨A', c', e', hc', hr⟩ := rd_of_ints h2
    exact ⟨A', c', by rw [h1, e'], hc', hr⟩
theorem rep_of_rd {α : Type} {enc : α → Value} {W : World} {G : Nat → Prop} {A : Option Addr} {xs : List α} {l : LD} {c : Nat} (h : Rd enc G W A xs) (hm : xs.length ≤ maxLen) (hl : l.len = xs.length) (hst : l.st = 1) (hcap : xs.length ≤ c)
    (hc : ∀ i (hi : i < xs.length), l.cell i 0 = .val (enc xs[i])) : Rep W G (.ls l) (.slice A xs.length c) := by
  rcases Nat.eq_zero_or_pos xs.length with h0 | h0
  · rw [h0]; exact .nil l A c (by omega)
  · obtain ⟨b, off, rfl, hb, hcell⟩ := h h0
    rw [← hl]
    refine .ls l b off c (fun i _ => if hi : i < xs.length then enc xs[i] else undef) (by omega) (by omega) hb (fun i j hi hj => ?_) (fun i j hi hj => ?_)
    · have hj0 : j = 0 := by omega
      subst hj0
      rw [hst, Nat.mul_one, Nat.add_zero, dif_pos (by omega : i < xs.length)]
      exact hcell i (by omega)
    · have hj0 : j = 0 := by omega
      subst hj0
      rw [dif_pos (by omega : i < xs.length), hc i (by omega)]
      exact .val _
/-- a law as a call from anywhere -/
theorem Sound.calls {P : Program} {f : Nat} {σ : CtF} (h : Sound P f σ) {W : World} (hgl : GlOk (g0 W (· < W.heap.size))) {args : List AV} {vs : List Value} {p : Prop} {r : AV} (hσ : σ args [] = some (p, r, [])) (hp : p) (hd : DenL (g0 W (· < W.heap.size)) args vs) :
    Calls P f vs.toArray W (fun e w' => ∃ u, e = .returned u ∧ Below W.heap.size W w' ∧ ∃ g' : Gh, g'.W = w' ∧ (∀ b, g'.G b → b < w'.heap.size) ∧ Den g' r u) := by
  have hnl : ∀ b, ¬ lentTo (g0 W (· < W.heap.size)) [] b := by rintro b ⟨i, hi, _⟩; simp at hi
  refine Calls.mono (h.2 (g0 W (· < W.heap.size)) args [] vs p r [] hσ hp ⟨fun r o h => by simp [objsH] at h, fun r r' o o' b h => by simp [objsH] at h, fun r o b h => by simp [objsH] at h, fun b hb => ⟨hb, .inl hb⟩, Kp.refl _ _, fun i hi => by simp at hi, hgl⟩ (fun r hr => False.elim hr) hd) fun e w' he => ?_
  obtain ⟨u, g', rfl, rfl, _, hm, hdu⟩ := he
  exact ⟨u, rfl, ⟨hm.bel.os, hm.bel.tape, hm.bel.output, hm.bel.size, fun k hk => hm.bel.block k hk (hnl k)⟩, g', rfl, fun b hb => (hm.gb b hb).1, hdu⟩
theorem lawCalls {P : Program} {f : Nat} {σ : CtF} {W : World} (hgl : GlOk (g0 W (· < W.heap.size))) (h : Sound P f σ) {args : List AV} {vs : List Value} {p : Prop} (hσ : σ args [] = some (p, .bool true, [])) (hp : p) (hd : DenL (g0 W (· < W.heap.size)) args vs) :
    Calls P f vs.toArray W (fun e w' => e = .returned (.bool true) ∧ Below W.heap.size W w') := by
  refine Calls.mono (h.calls hgl hσ hp hd) fun e w' he => ?_
  obtain ⟨u, rfl, hb, g', _, _, hd⟩ := he
  rw [den_val hd]
  exact ⟨rfl, hb⟩
theorem den_ints {W : World} {A : Option Addr} {xs : List Int} {c : Nat} (h : Rd I64 (· < W.heap.size) W A xs) (hm : xs.length ≤ maxLen) (hcap : xs.length ≤ c) : Den (g0 W (· < W.heap.size)) (.ints xs) (.slice A xs.length c) := by
  simp only [Den]
  exact rep_of_rd h hm rfl rfl hcap fun i hi => by simp [LD.cell, List.getD, List.getElem?_eq_getElem hi, I64]
theorem den_bools {W : World} {A : Option Addr} {xs : List Bool} {c : Nat} (h : Rd Value.bool (· < W.heap.size) W A xs) (hm : xs.length ≤ maxLen) (hcap : xs.length ≤ c) : Den (g0 W (· < W.heap.size)) (.bools xs) (.slice A xs.length c) := by
  simp only [Den]
  exact rep_of_rd h hm rfl rfl hcap fun i hi => by simp [LD.cell, List.getD, List.getElem?_eq_getElem hi]
end Go.Proofs.YtbpbndlgfiammaaGreatDoor.En
