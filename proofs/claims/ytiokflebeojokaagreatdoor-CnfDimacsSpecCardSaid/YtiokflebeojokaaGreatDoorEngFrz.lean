/- A contract whose results are the call's own rows, taken as one whose results are lists that are read alone. Plain lemmas; no condition beyond their own hypotheses. -/
import Derived.Test.YtiokflebeojokaaGreatDoorEngB
set_option linter.unusedSimpArgs false
set_option linter.unusedVariables false
set_option linter.unnecessarySimpa false
namespace Go.Proofs.YtiokflebeojokaaGreatDoor.En
open Go Go.RowKit

mutual
def frzV (hp : Nat → Option AObj) : AV → AV
  | .any => .any
  | .im x => .im x
  | .opt c x => .opt c (frzV hp x)
  | .agg xs => .agg (frzVL hp xs)
  | .tup xs => .tup (frzVL hp xs)
  | .loc _ _ => .any
  | .pto xs => .pto xs
  | .row r => match hp r with | some (.row _ l) => .im (.ls l) | _ => .any
  | .prow _ _ _ => .any
  | .clo f xs => .clo f (frzVL hp xs)
def frzVL (hp : Nat → Option AObj) : List AV → List AV
  | [] => []
  | x :: l => frzV hp x :: frzVL hp l
end
def frzF (σ : CtF) : CtF := fun args os => match os with
  | [] => match σ args [] with | some (p, r, outs) => some (p, frzV (outsH outs) r, []) | none => none
  | _ => none
/-- memory with all rows read alone -/
def frzG (g : Gh) (H : Nat → Option AObj) : Gh := ⟨g.W, fun b => g.G b ∨ ∃ r o, H r = some o ∧ blkOf (g.β r) = some b, g.β, g.U⟩
theorem frz_den {w0 : Base} {G0 : Nat → Prop} {g : Gh} {H : Nat → Option AObj} (hm : MOk w0 G0 g H) (x : AV) : ∀ v, Den g x v → Den (frzG g H) (frzV H x) v := by
  have hrep : ∀ {x : IV} {v : Value}, Rep g.W g.G x v → Rep (frzG g H).W (frzG g H).G x v := fun h => h.mono (fun _ _ => rfl) (fun _ h => .inl h)
  refine AV.rec (motive_1 := fun x => ∀ v, Den g x v → Den (frzG g H) (frzV H x) v) (motive_2 := fun xs => ∀ vs, DenL g xs vs → DenL (frzG g H) (frzVL H xs) vs) ?_ ?_ ?_ ?_ ?_ ?_ ?_ ?_ ?_ ?_ ?_ ?_ x
  · intro v _; simp only [frzV, Den]
  · intro x v hd; simp only [frzV, Den] at hd ⊢; exact hrep hd
  · intro c x ih v hd; simp only [frzV, Den] at hd ⊢; exact ⟨fun hc => ih v (hd.1 hc), hd.2⟩
  · intro xs ih v hd; simp only [frzV, Den] at hd ⊢; obtain ⟨vs, e, hl⟩ := hd; exact ⟨vs, e, ih vs hl⟩
  · intro xs ih v hd; simp only [frzV, Den] at hd ⊢; obtain ⟨vs, e, hl⟩ := hd; exact ⟨vs, e, ih vs hl⟩
  · intro r off v _; simp only [frzV, Den]
  · intro xs v hd
    simp only [frzV, Den] at hd ⊢
    obtain ⟨b, off, e, hG, hc⟩ := hd
    exact ⟨b, off, e, .inl hG, fun j x hx => (hc j x hx).imp fun u h => ⟨h.1, hrep h.2⟩⟩
  · intro r v hd
    simp only [Den] at hd
    obtain ⟨_, rfl, _⟩ := hd
    simp only [frzV]
    split
    · rename_i e l hl
      obtain ⟨_, xs, ho, h2, h4⟩ := hm.ok r _ hl
      simp only [Den]
      exact rep_row ho h2 (fun i j hi hj => hrep (h4 i j hi hj)) (fun b hb => .inr ⟨r, _, hl, hb⟩)
    · simp only [Den]
  · intro r i j v _; simp only [frzV, Den]
  · intro f xs ih v hd; simp only [frzV, Den] at hd ⊢; obtain ⟨vs, e, hl⟩ := hd; exact ⟨vs, e, ih vs hl⟩
  · intro vs hd; simpa only [frzVL, DenL] using hd
  · intro x l ih1 ih2 vs hd; simp only [frzVL, DenL] at hd ⊢; obtain ⟨v, vs', e, h1, h2⟩ := hd; exact ⟨v, vs', e, ih1 v h1, ih2 vs' h2⟩
theorem frz_mok {w0 : Base} {G0 : Nat → Prop} {g : Gh} {H : Nat → Option AObj} (hm : MOk w0 G0 g H) : MOk w0 G0 (frzG g H) (outsH []) := by
  have hnone : ∀ r o, outsH [] r ≠ some o := fun r o h => by simp [outsH] at h
  refine ⟨fun r o h => absurd h (hnone r o), fun r r' o o' b h => absurd h (hnone r o), fun r o b h => absurd h (hnone r o), ?_, hm.bel, hm.anc.1, fun k xs hk => ⟨.inl (hm.anc.2 k xs hk).1, (hm.anc.2 k xs hk).2⟩⟩
  rintro b (h | ⟨r, o, ho, hb⟩)
  · exact hm.gb b h
  · exact ⟨(hm.ok r o ho).2.lt hb, .inr (hm.own r o b ho hb).2⟩
theorem Sound.frz {P : Program} {f : Nat} {σ : CtF} (h : Sound P f σ) : Sound P f (frzF σ) := by
  refine ⟨h.1, fun g args os vs p r outs hσ hp hm hU hd => ?_⟩
  unfold frzF at hσ
  split at hσ
  · split at hσ
    · rename_i p' r' outs' hs
      simp only [Option.some.injEq, Prod.mk.injEq] at hσ
      obtain ⟨rfl, rfl, rfl⟩ := hσ
      refine Calls.mono (h.2 g args [] vs _ _ _ hs hp hm hU hd) fun e W' he => ?_
      obtain ⟨u, g', rfl, rfl, hle, hm', hdr⟩ := he
      exact ⟨u, frzG g' (outsH outs'), rfl, rfl, ⟨hle.keep, fun b hb => .inl (hle.grow b hb), hle.name⟩, frz_mok hm', frz_den hm' _ _ hdr⟩
    · cases hσ
  · cases hσ
end Go.Proofs.YtiokflebeojokaaGreatDoor.En
