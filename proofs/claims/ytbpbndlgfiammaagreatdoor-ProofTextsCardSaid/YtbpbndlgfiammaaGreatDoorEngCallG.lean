/- A contract in the reader's words, as a call from a world of which a part is frozen. Plain lemmas. -/
import Derived.Test.YtbpbndlgfiammaaGreatDoorEngCalls
import Derived.Test.YtbpbndlgfiammaaGreatDoorEngR
set_option linter.unusedSimpArgs false
set_option linter.unusedVariables false
set_option linter.unnecessarySimpa false
namespace Go.Proofs.YtbpbndlgfiammaaGreatDoor.En
open Go Go.RowKit
theorem Sound.callsG {P : Program} {f : Nat} {σ : CtF} (h : Sound P f σ) {W : World} {G : Nat → Prop} (hG : ∀ b, G b → b < W.heap.size) (hgl : GlOk (g0 W G)) {args : List AV} {vs : List Value} {p : Prop} {r : AV} (hσ : σ args [] = some (p, r, [])) (hp : p) (hd : DenL (g0 W G) args vs) :
    Calls P f vs.toArray W (fun e w' => ∃ u, e = .returned u ∧ Below W.heap.size W w' ∧ ∃ g' : Gh, g'.W = w' ∧ (∀ b, g'.G b → b < w'.heap.size) ∧ Den g' r u) := by
  have hnl : ∀ b, ¬ lentTo (g0 W G) [] b := by rintro b ⟨i, hi, _⟩; simp at hi
  refine Calls.mono (h.2 (g0 W G) args [] vs p r [] hσ hp ⟨fun r o h => by simp [objsH] at h, fun r r' o o' b h => by simp [objsH] at h, fun r o b h => by simp [objsH] at h, fun b hb => ⟨hG b hb, .inl hb⟩, Kp.refl _ _, fun i hi => by simp at hi, hgl⟩ (fun r hr => False.elim hr) hd) fun e w' he => ?_
  obtain ⟨u, g', rfl, rfl, _, hm, hdu⟩ := he
  exact ⟨u, rfl, ⟨hm.bel.os, hm.bel.tape, hm.bel.output, hm.bel.size, fun k hk => hm.bel.block k hk (hnl k)⟩, g', rfl, fun b hb => (hm.gb b hb).1, hdu⟩
theorem krg_le {G : Nat → Prop} {W W' : World} (h : KRG G W W') : (g0 W G).le (g0 W' G) := ⟨h, fun _ hb => hb, fun _ hr => ⟨hr, rfl⟩⟩
theorem krg_lt {G : Nat → Prop} {W W' : World} (hG : ∀ b, G b → b < W.heap.size) (h : KRG G W W') : ∀ b, G b → b < W'.heap.size := fun b hb => by
  have h1 := h b hb
  rw [Array.getElem?_eq_getElem (hG b hb)] at h1
  exact (Array.getElem?_eq_some_iff.1 h1).1
theorem krg_tr {G : Nat → Prop} {A B C : World} (h : KRG G A B) (h' : KRG G B C) : KRG G A C := fun b hb => (h' b hb).trans (h b hb)
theorem krg_below {G : Nat → Prop} {A B C : World} {n : Nat} (h : KRG G A B) (hG : ∀ b, G b → b < n) (h' : Below n B C) : KRG G A C := fun b hb => (h'.block b (hG b hb)).trans (h b hb)
theorem kp_no {A B : World} (h : Below A.heap.size A B) (Z : Nat → Prop) : Kp Z A B := ⟨h.os, h.tape, h.output, h.size, fun b hb _ => h.block b hb⟩
end Go.Proofs.YtbpbndlgfiammaaGreatDoor.En
