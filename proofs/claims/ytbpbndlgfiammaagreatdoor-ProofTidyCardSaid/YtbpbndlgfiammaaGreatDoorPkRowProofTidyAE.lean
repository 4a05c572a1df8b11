/- Lemmas and contracts for the row. -/
import Derived.Test.YtbpbndlgfiammaaGreatDoorPkRowProofTidyT
import Derived.ScopeJumps
set_option linter.unusedVariables false
set_option linter.unusedSimpArgs false
set_option linter.unnecessarySimpa false
namespace Go.Proofs.YtbpbndlgfiammaaGreatDoor.En
open Go Go.RowKit
theorem wpIn_jump {X : Type} {F : Fence} {n : Nat} {P : Program} {Q : Exit → Act → World → Prop} {a : Act} {w : World} {c rest : Code} (l : Nat) (J : X → Act → World → Prop) (μ : X → Nat) (hf : findLabel c l = some rest)
    (first : c.wpIn F n P (Exit.jump l (fun a w => ∃ x, J x a w) Q) a w)
    (pass : ∀ x a w, J x a w → rest.wpIn F n P (Exit.jump l (fun a' w' => ∃ y, μ y < μ x ∧ J y a' w') Q) a w) : (Code.scope c).wpIn F n P Q a w := by
  intro b kk cs hro hb hr
  have hg : gotoIn l (.inScope c :: kk) = some (.code rest :: .inScope c :: kk) := by simp [gotoIn, hf]
  have hx : ∀ id, exitTo id (.inScope c :: kk) = exitTo id kk := fun id => by simp [exitTo]
  have key : ∀ m x a w, μ x = m → J x a w → ∃ e a' w', Q e a' w' ∧ ArrivesIn (Machine.fenced P F) P (lone (b.atR a (.code rest :: .inScope c :: kk)) cs w) b kk cs e a' w' := by
    intro m
    induction m using Nat.strongRecOn with
    | _ m ih =>
      intro x a w hn hJ
      obtain ⟨e, a₁, w₁, hq, harr⟩ := pass x a w hJ b (.inScope c :: kk) cs hro hb hr
      cases e with
      | normal => exact ⟨.normal, a₁, w₁, hq, StepsIn.trans harr (.one (fenced_calm hb hr rfl) stepR_inScope)⟩
      | exit id => exact ⟨.exit id, a₁, w₁, hq, fun k' hk => harr.1 k' (by rw [hx]; exact hk), fun hr' hk => let ⟨k₁, h1, h2⟩ := harr.2 hr' (by rw [hx]; exact hk); ⟨k₁, h1, h2⟩⟩
      | goto l' =>
        obtain ⟨rfl, y, hlt, hJ'⟩ := hq
        obtain ⟨e₂, a₂, w₂, hq₂, harr₂⟩ := ih _ (by omega) y a₁ w₁ rfl hJ'
        exact ⟨e₂, a₂, w₂, hq₂, .of_steps (harr.1 _ hg) harr₂⟩
      | ret => exact ⟨_, a₁, w₁, hq, harr⟩
      | panic ch => exact ⟨_, a₁, w₁, hq, harr⟩
      | outgrown => exact ⟨_, a₁, w₁, hq, harr⟩
  have h0 : (lone (b.atR a (.code (.scope c) :: kk)) cs w).fenced P F := fenced_calm hb hr rfl
  obtain ⟨e, a₁, w₁, hq, harr⟩ := first b (.inScope c :: kk) cs hro hb hr
  cases e with
  | normal => exact ⟨.normal, a₁, w₁, hq, .head h0 stepR_scope (StepsIn.trans harr (.one (fenced_calm hb hr rfl) stepR_inScope))⟩
  | exit id => exact ⟨.exit id, a₁, w₁, hq, fun k' hk => .head h0 stepR_scope (harr.1 k' (by rw [hx]; exact hk)), fun hr' hk => let ⟨k₁, h1, h2⟩ := harr.2 hr' (by rw [hx]; exact hk); ⟨k₁, h1, .head h0 stepR_scope h2⟩⟩
  | goto l' =>
    obtain ⟨rfl, x, hJ'⟩ := hq
    obtain ⟨e₂, a₂, w₂, hq₂, harr₂⟩ := key _ x a₁ w₁ rfl hJ'
    exact ⟨e₂, a₂, w₂, hq₂, .of_steps (.head h0 stepR_scope (harr.1 _ hg)) harr₂⟩
  | ret => exact ⟨_, a₁, w₁, hq, .of_steps (.one h0 stepR_scope) harr⟩
  | panic ch => exact ⟨_, a₁, w₁, hq, .of_steps (.one h0 stepR_scope) harr⟩
  | outgrown => exact ⟨_, a₁, w₁, hq, .of_steps (.one h0 stepR_scope) harr⟩
section
variable {k : Ct} {E : Env} {H : Hp} {Q : Exit → Act → World → Prop}
def JumpQ {X : Type} (k : Ct) (l : Nat) (I : X → Prop) (EL : X → Env) (HL : X → Hp) (Q : Exit → Act → World → Prop) : Exit → Act → World → Prop := Exit.jump l (fun a W => ∃ x, I x ∧ Sim k (EL x) (HL x) a W) Q
def JumpB {X : Type} (k : Ct) (l : Nat) (I : X → Prop) (EL : X → Env) (HL : X → Hp) (μ : X → Nat) (x : X) (Q : Exit → Act → World → Prop) : Exit → Act → World → Prop := Exit.jump l (fun a W => ∃ y, μ y < μ x ∧ I y ∧ Sim k (EL y) (HL y) a W) Q
theorem tri_goto {l : Nat} (h : Fin k E H Q (.goto l)) : Tri k E H (.goto l) Q := fun a W hs => wpIn_goto (h a W hs)
theorem fin_then_goto {l : Nat} {N : Act → World → Prop} (h : Fin k E H Q (.goto l)) : Fin k E H (Exit.then N Q) (.goto l) := h
theorem fin_block_goto {l id : Nat} (h : Fin k E H Q (.goto l)) : Fin k E H (Exit.inBlock id Q) (.goto l) := h
theorem tri_jump {X : Type} (l : Nat) (I : X → Prop) (EL : X → Env) (HL : X → Hp) (μ : X → Nat) {c x : Code} (hf : findLabel c l = some (.seq .skip x))
    (first : (∀ z, I z → Tri k (EL z) (HL z) x (JumpQ k l I EL HL Q)) → Tri k E H c (JumpQ k l I EL HL Q))
    (pass : ∀ z, I z → Tri k (EL z) (HL z) x (JumpB k l I EL HL μ z Q)) : Tri k E H (.scope c) Q := fun a W hs => by
  refine wpIn_jump (X := X) l (fun z a W => I z ∧ Sim k (EL z) (HL z) a W) μ hf ?_ ?_
  · refine first (fun z hz a W hs => ?_) a W hs
    refine wpIn_mono (pass z hz a W hs) fun e a' W' hq => ?_
    cases e with
    | goto l' => obtain ⟨h1, y, _, h3⟩ := hq; exact ⟨h1, y, h3⟩
    | _ => exact hq
  · rintro z a W ⟨hz, hs⟩
    exact wpIn_seq (wpIn_skip (pass z hz a W hs))
theorem tri_enter {X : Type} {l : Nat} {I : X → Prop} {EL : X → Env} {HL : X → Hp} {x : Code} (z : X) (h : ∀ z, I z → Tri k (EL z) (HL z) x (JumpQ k l I EL HL Q)) (hI : I z) (hE : subE E (EL z)) (hH : H = HL z) : Tri k E H (.seq (.label l) x) (JumpQ k l I EL HL Q) := by
  refine tri_seq (tri_label fun a W hs => ?_)
  exact h z hI a W (by rw [← hH]; exact hs.sub hE)
theorem fin_jump {X : Type} {l : Nat} {I : X → Prop} {EL : X → Env} {HL : X → Hp} {μ : X → Nat} {x : X} (y : X) (hI : I y) (hμ : μ y < μ x) (hE : subE E (EL y)) (hH : H = HL y) : Fin k E H (JumpB k l I EL HL μ x Q) (.goto l) :=
  fun a W hs => ⟨rfl, y, hμ, hI, by rw [← hH]; exact hs.sub hE⟩
theorem fin_jumpQ_ret {X : Type} {l : Nat} {I : X → Prop} {EL : X → Env} {HL : X → Hp} (h : Fin k E H Q .ret) : Fin k E H (JumpQ k l I EL HL Q) .ret := h
theorem fin_jumpB_ret {X : Type} {l : Nat} {I : X → Prop} {EL : X → Env} {HL : X → Hp} {μ : X → Nat} {x : X} (h : Fin k E H Q .ret) : Fin k E H (JumpB k l I EL HL μ x Q) .ret := h
end
end Go.Proofs.YtbpbndlgfiammaaGreatDoor.En
