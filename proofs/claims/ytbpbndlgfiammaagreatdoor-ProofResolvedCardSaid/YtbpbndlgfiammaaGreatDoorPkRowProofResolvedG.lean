/- Lemmas and contracts for the row. -/
import Derived.Test.YtbpbndlgfiammaaGreatDoorPkRowProofResolvedF
import Derived.Test.YtbpbndlgfiammaaGreatDoorPkRowProofResolvedC
import Derived.Test.YtbpbndlgfiammaaGreatDoorPkRowProofResolvedD
import Derived.Lib.Hide
import Derived.Test.YtbpbndlgfiammaaGreatDoorProg
import Derived.Lib.RowBridge
import Derived.Test.YtbpbndlgfiammaaGreatDoorPkRowProofResolvedA
import Derived.Test.YtbpbndlgfiammaaGreatDoorPkRowProofResolvedB
import Derived.Shelf.SlSortCmp.NoneTotal
set_option linter.unusedVariables false
set_option linter.unusedSimpArgs false
set_option linter.unnecessarySimpa false
namespace Go.Proofs.YtbpbndlgfiammaaGreatDoor.En
open Go Go.RowKit
def encL : LD → List Value
  | .ints xs => xs.map I64
  | .bools xs => xs.map Value.bool
  | _ => []
def isFlat1 : LD → Bool
  | .ints _ => true
  | .bools _ => true
  | _ => false
theorem encL_len {l : LD} (h : isFlat1 l = true) : (encL l).length = l.len ∧ l.st = 1 := by
  cases l <;> simp [isFlat1] at h <;> simp [encL, LD.len, LD.st]
theorem encL_cell {l : LD} (h : isFlat1 l = true) {W : World} {G : Nat → Prop} {i : Nat} (hi : i < l.len) : Rep W G (l.cell i 0) ((encL l).getD i undef) := by
  cases l <;> simp [isFlat1] at h
  · rename_i xs
    simp only [LD.len] at hi
    have : (encL (.ints xs)).getD i undef = I64 (xs.getD i 0) := by simp [encL, List.getD, List.getElem?_eq_getElem hi]
    rw [this]; exact .val _
  · rename_i xs
    simp only [LD.len] at hi
    have : (encL (.bools xs)).getD i undef = .bool (xs.getD i false) := by simp [encL, List.getD, List.getElem?_eq_getElem hi]
    rw [this]; exact .val _
theorem encL_of {l : LD} (h : isFlat1 l = true) {W : World} {G : Nat → Prop} {xs : List Value} (hl : xs.length = l.len) (hc : ∀ i, i < l.len → Rep W G (l.cell i 0) (xs.getD i undef)) : xs = encL l := by
  have hn := (encL_len h).1
  apply List.ext_getElem (by rw [hl, hn])
  intro i h1 h2
  have hi : i < l.len := by omega
  have hr := hc i hi
  have e1 : xs.getD i undef = xs[i] := by simp [List.getD, List.getElem?_eq_getElem h1]
  rw [e1] at hr
  cases l <;> simp [isFlat1] at h
  · rename_i ys
    have hr' : xs[i] = I64 (ys.getD i 0) := den_val (g := ⟨W, G, fun _ => undef, fun _ => False⟩) (by simp only [Den]; exact hr)
    simp only [LD.len] at hi
    rw [hr']; simp [encL, List.getD, List.getElem?_eq_getElem hi]
  · rename_i ys
    have hr' : xs[i] = .bool (ys.getD i false) := den_val (g := ⟨W, G, fun _ => undef, fun _ => False⟩) (by simp only [Den]; exact hr)
    simp only [LD.len] at hi
    rw [hr']; simp [encL, List.getD, List.getElem?_eq_getElem hi]
theorem sound_row {P : Program} {f e : Nat} {σ : CtF} (hen : ∀ args W, (callFunc f args).run P W = .ok (.enter f args) W)
    (h : ∀ args os p r outs, σ args os = some (p, r, outs) → ∃ avs l l', args = .row 0 :: avs ∧ os = [.row e l] ∧ r = .row 1 ∧ outs = [none, some (.row e l')] ∧ pureL avs = true ∧ isFlat1 l = true ∧ isFlat1 l' = true ∧
      (p → l'.len ≤ maxLen ∧ ∀ (W : World) (G : Nat → Prop) (v : Value) (vs : List Value), (∀ b, G b → b < W.heap.size) → (∀ b, v.ownBlock = some b → ¬ G b) → GlOk (g0 W G) → Own W e v (encL l) → l.len ≤ maxLen → DenL (g0 W G) avs vs →
        Calls P f (v :: vs).toArray W fun e' W' => ∃ v', e' = .returned v' ∧ Own W' e v' (encL l') ∧ W.grownBy W' v.ownBlock ∧ ∀ b, v'.ownBlock = some b → v.ownBlock = some b ∨ b = W.heap.size)) : Sound P f σ := by
  refine ⟨hen, fun g args os vs p r outs hσ hp hm hU hd => ?_⟩
  obtain ⟨avs, l, l', rfl, rfl, rfl, rfl, hpu, hf, hf', hcall⟩ := h args os p r outs hσ
  obtain ⟨hmx', hcall⟩ := hcall hp
  simp only [DenL] at hd
  obtain ⟨v, vs', rfl, hd0, hd1⟩ := hd
  simp only [Den] at hd0
  obtain ⟨hu0, hv, _⟩ := hd0
  obtain ⟨_, xs, ho, hmx, hc⟩ := hm.ok 0 (.row e l) rfl
  obtain ⟨hn, hst⟩ := encL_len hf
  rw [hst] at ho
  obtain ⟨ho1, hxl⟩ := ho.one
  have hxs : xs = encL l := encL_of hf hxl fun i hi => by have := hc i 0 hi (by omega); rwa [hst, Nat.mul_one, Nat.add_zero] at this
  rw [← hv, hxs] at ho1
  have hblk : blkOf v = v.ownBlock := own_blk ho1
  have hnU : ¬ g.U 1 := fun hu => by have := hU 1 hu; simp at this
  refine Calls.mono (hcall g.W g.G v vs' (fun b hb => (hm.gb b hb).1) (fun b hb => (hm.own 0 _ b rfl (by rw [← hv, hblk]; exact hb)).1) (fun kk ys hk => hm.anc.2 kk ys hk) ho1 hmx (DenL.pure (g := g) (g' := g0 g.W g.G) rfl rfl _ _ hpu hd1)) fun e' W' he => ?_
  obtain ⟨v', rfl, ho', hg, hb'⟩ := he
  obtain ⟨hn', hst'⟩ := encL_len hf'
  have hgood := good_row (nm := 1) (e := e) (l := l') (v := v') (xs := encL l') (W' := W') (ob := v.ownBlock) (H' := outsH [none, some (.row e l')]) hm hnU hg (fun b hb => hm.own 0 _ b rfl (by rw [← hv, hblk]; exact hb)) (fun x o hx => ?_)
    (by rw [hst']; exact .of_one ho' hn') hmx' (fun i j hi hj => by
      rw [hst'] at hj ⊢
      have : j = 0 := by omega
      subst this
      rw [Nat.mul_one, Nat.add_zero]
      exact encL_cell hf' hi) (fun b hb => by rw [own_blk ho'] at hb; exact hb' b hb)
  · obtain ⟨g', h1, h2, _, h4, h5⟩ := hgood
    exact ⟨v', g', rfl, h1, h2, h4, h5⟩
  · match x, hx with
    | 1, hx => left; simp [outsH] at hx; exact ⟨rfl, hx.symm⟩
    | 0, hx => simp [outsH] at hx
    | n + 2, hx => simp [outsH] at hx
theorem sound_inrow {P : Program} {f e : Nat} {σ : CtF} (hen : ∀ args W, (callFunc f args).run P W = .ok (.enter f args) W)
    (h : ∀ args os p r outs, σ args os = some (p, r, outs) → ∃ avs l l' R, args = .row 0 :: avs ∧ os = [.row e l] ∧ r = .tup [] ∧ outs = [some (.row e l')] ∧ pureL avs = true ∧ isFlat1 l = true ∧ isFlat1 l' = true ∧ R = Value.tuple #[] ∧
      (p → l'.len ≤ maxLen ∧ l'.len = l.len ∧ ∀ (W : World) (G : Nat → Prop) (v : Value) (vs : List Value), (∀ b, G b → b < W.heap.size) → (∀ b, v.ownBlock = some b → ¬ G b) → GlOk (g0 W G) → Own W e v (encL l) → l.len ≤ maxLen → DenL (g0 W G) avs vs →
        Calls P f (v :: vs).toArray W fun e' W' => e' = .returned R ∧ Own W' e v (encL l') ∧ Kp (fun b => v.ownBlock = some b) W W')) : Sound P f σ := by
  refine ⟨hen, fun g args os vs p r outs hσ hp hm hU hd => ?_⟩
  obtain ⟨avs, l, l', R, rfl, rfl, rfl, rfl, hpu, hf, hf', rfl, hcall⟩ := h args os p r outs hσ
  obtain ⟨hmx', hll, hcall⟩ := hcall hp
  simp only [DenL] at hd
  obtain ⟨v, vs', rfl, hd0, hd1⟩ := hd
  simp only [Den] at hd0
  obtain ⟨hu0, hv, _⟩ := hd0
  obtain ⟨_, xs, ho, hmx, hc⟩ := hm.ok 0 (.row e l) rfl
  obtain ⟨hn, hst⟩ := encL_len hf
  rw [hst] at ho
  obtain ⟨ho1, hxl⟩ := ho.one
  have hxs : xs = encL l := encL_of hf hxl fun i hi => by have := hc i 0 hi (by omega); rwa [hst, Nat.mul_one, Nat.add_zero] at this
  rw [← hv, hxs] at ho1
  have hblk : blkOf v = v.ownBlock := own_blk ho1
  have hnG : ∀ b, v.ownBlock = some b → ¬ g.G b := fun b hb => (hm.own 0 _ b rfl (by rw [← hv, hblk]; exact hb)).1
  refine Calls.mono (hcall g.W g.G v vs' (fun b hb => (hm.gb b hb).1) hnG (fun kk ys hk => hm.anc.2 kk ys hk) ho1 hmx (DenL.pure (g := g) (g' := g0 g.W g.G) rfl rfl _ _ hpu hd1)) fun e' W' he => ?_
  obtain ⟨rfl, ho', hk⟩ := he
  obtain ⟨hn', hst'⟩ := encL_len hf'
  let g' : Gh := ⟨W', g.G, g.β, g.U⟩
  have hle : g.le g' := ⟨fun b hb => hk.block b (hm.gb b hb).1 (fun h => hnG b h hb), fun _ hb => hb, fun _ hr => ⟨hr, rfl⟩⟩
  have hlk : ∀ x o, outsH [some (.row e l')] x = some o → x = 0 ∧ o = .row e l' := by
    intro x o hx
    match x, hx with
    | 0, hx => simp [outsH] at hx; exact ⟨rfl, hx.symm⟩
    | n + 1, hx => simp [outsH] at hx
  refine ⟨_, g', rfl, rfl, hle, ⟨fun x o hx => ?_, fun x x' o o' b hx hx' _ _ => (hlk x o hx).1.trans (hlk x' o' hx').1.symm, fun x o b hx hb => ?_, fun b hb => ⟨Nat.lt_of_lt_of_le (hm.gb b hb).1 hk.size, (hm.gb b hb).2⟩, ⟨hk.os, hk.tape, hk.output, hk.size, fun b hb hno => hk.block b hb fun h => hno ⟨0, by simp, by rw [← hv, hblk]; exact h⟩⟩, hm.anc_up hle⟩, ?_⟩
  · obtain ⟨rfl, rfl⟩ := hlk x o hx
    refine ⟨hu0, ?_⟩
    show ObjOk g' (g.β 0) (.row e l')
    rw [← hv]
    exact ⟨encL l', by rw [hst']; exact .of_one ho' hn', hmx', fun i j hi hj => by
      rw [hst'] at hj ⊢
      have : j = 0 := by omega
      subst this
      rw [Nat.mul_one, Nat.add_zero]
      exact encL_cell hf' hi⟩
  · obtain ⟨rfl, rfl⟩ := hlk x o hx
    exact hm.own 0 _ b rfl hb
  · simp only [Den]; exact ⟨[], rfl, by simp [DenL]⟩
theorem sound_new {P : Program} {f e : Nat} {σ : CtF} (hen : ∀ args W, (callFunc f args).run P W = .ok (.enter f args) W)
    (h : ∀ args os p r outs, σ args os = some (p, r, outs) → ∃ l', os = [] ∧ r = .row 0 ∧ outs = [some (.row e l')] ∧ isFlat1 l' = true ∧
      (p → l'.len ≤ maxLen ∧ ∀ (W : World) (G : Nat → Prop) (vs : List Value), (∀ b, G b → b < W.heap.size) → GlOk (g0 W G) → DenL (g0 W G) args vs →
        Calls P f vs.toArray W fun e' W' => ∃ v', e' = .returned v' ∧ Own W' e v' (encL l') ∧ Below W.heap.size W W' ∧ ∀ b, v'.ownBlock = some b → W.heap.size ≤ b)) : Sound P f σ := by
  refine ⟨hen, fun g args os vs p r outs hσ hp hm hU hd => ?_⟩
  obtain ⟨l', rfl, rfl, rfl, hf', hcall⟩ := h args os p r outs hσ
  obtain ⟨hmx', hcall⟩ := hcall hp
  have hU' : ∀ r, ¬ g.U r := fun r hr => absurd (hU r hr) (by simp)
  have hd' : DenL (g0 g.W g.G) args vs := by
    have := DenL.map (f := id) (g := g) (g' := g0 g.W g.G) rfl rfl args vs (fun r _ hu => absurd hu (hU' r)) hd
    rwa [mapRL_id] at this
  refine Calls.mono (hcall g.W g.G vs (fun b hb => (hm.gb b hb).1) (fun kk ys hk => hm.anc.2 kk ys hk) hd') fun e' W' he => ?_
  obtain ⟨v', rfl, ho', hb, hnew⟩ := he
  obtain ⟨hn', hst'⟩ := encL_len hf'
  let g' : Gh := ⟨W', g.G, fun r => if r = 0 then v' else g.β r, fun r => g.U r ∨ r = 0⟩
  have hle : g.le g' := ⟨fun b hg => hb.block b (hm.gb b hg).1, fun _ hb => hb, fun r hr => absurd hr (hU' r)⟩
  have hlk : ∀ x o, outsH [some (.row e l')] x = some o → x = 0 ∧ o = .row e l' := by
    intro x o hx
    match x, hx with
    | 0, hx => simp [outsH] at hx; exact ⟨rfl, hx.symm⟩
    | n + 1, hx => simp [outsH] at hx
  have hb0 : g'.β 0 = v' := by show (if (0 : Nat) = 0 then v' else g.β 0) = v'; rw [if_pos rfl]
  obtain ⟨A, cap, hform, _⟩ := ho'.form
  refine ⟨v', g', rfl, rfl, hle, ⟨fun x o hx => ?_, fun x x' o o' b hx hx' _ _ => (hlk x o hx).1.trans (hlk x' o' hx').1.symm, fun x o b hx hbk => ?_, fun b hg => ⟨Nat.lt_of_lt_of_le (hm.gb b hg).1 hb.size, (hm.gb b hg).2⟩, ⟨hb.os, hb.tape, hb.output, hb.size, fun b hlt _ => hb.block b hlt⟩, fun r hr => absurd hr (by simp), hm.anc.2.up hle⟩, ?_⟩
  · obtain ⟨rfl, rfl⟩ := hlk x o hx
    refine ⟨.inr rfl, ?_⟩
    rw [hb0]
    exact ⟨encL l', by rw [hst']; exact .of_one ho' hn', hmx', fun i j hi hj => by
      rw [hst'] at hj ⊢
      have : j = 0 := by omega
      subst this
      rw [Nat.mul_one, Nat.add_zero]
      exact encL_cell hf' hi⟩
  · obtain ⟨rfl, rfl⟩ := hlk x o hx
    rw [hb0, own_blk ho'] at hbk
    have := hnew b hbk
    exact ⟨fun hg => by have := (hm.gb b hg).1; omega, .inl this⟩
  · simp only [Den]
    exact ⟨.inr rfl, hb0.symm, .inl ⟨A, _, cap, hform⟩⟩
end Go.Proofs.YtbpbndlgfiammaaGreatDoor.En
namespace Go.Proofs.YtbpbndlgfiammaaGreatDoor.En
open Go Go.RowKit Go.Sort Go.Shelf
theorem sound_rowR {P : Program} {f e : Nat} {σ : CtF} (hen : ∀ args W, (callFunc f args).run P W = .ok (.enter f args) W)
    (h : ∀ args os p r outs, σ args os = some (p, r, outs) → ∃ avs l l', args = .row 0 :: avs ∧ os = [.row e l] ∧ r = .row 1 ∧ outs = [none, some (.row e l')] ∧ pureL avs = true ∧ l.st = 1 ∧ l'.st = 1 ∧
      (p → l'.len ≤ maxLen ∧ ∀ (W : World) (G : Nat → Prop) (v : Value) (vs us : List Value), (∀ b, G b → b < W.heap.size) → (∀ b, v.ownBlock = some b → ¬ G b) → GlOk (g0 W G) → Own W e v us → us.length = l.len → (∀ i, i < l.len → Rep W G (l.cell i 0) (us.getD i undef)) → l.len ≤ maxLen → DenL (g0 W G) avs vs →
        Calls P f (v :: vs).toArray W fun e' W' => ∃ v' us', e' = .returned v' ∧ Own W' e v' us' ∧ us'.length = l'.len ∧ (∀ i, i < l'.len → Rep W G (l'.cell i 0) (us'.getD i undef)) ∧ W.grownBy W' v.ownBlock ∧ ∀ b, v'.ownBlock = some b → v.ownBlock = some b ∨ W.heap.size ≤ b)) : Sound P f σ := by
  refine ⟨hen, fun g args os vs p r outs hσ hp hm hU hd => ?_⟩
  obtain ⟨avs, l, l', rfl, rfl, rfl, rfl, hpu, hst, hst', hcall⟩ := h args os p r outs hσ
  obtain ⟨hmx', hcall⟩ := hcall hp
  simp only [DenL] at hd
  obtain ⟨v, vs', rfl, hd0, hd1⟩ := hd
  simp only [Den] at hd0
  obtain ⟨hu0, hv, _⟩ := hd0
  obtain ⟨_, xs, ho, hmx, hc⟩ := hm.ok 0 (.row e l) rfl
  rw [hst] at ho
  obtain ⟨ho1, hxl⟩ := ho.one
  rw [← hv] at ho1
  have hblk : blkOf v = v.ownBlock := own_blk ho1
  have hnU : ¬ g.U 1 := fun hu => by have := hU 1 hu; simp at this
  refine Calls.mono (hcall g.W g.G v vs' xs (fun b hb => (hm.gb b hb).1) (fun b hb => (hm.own 0 _ b rfl (by rw [← hv, hblk]; exact hb)).1) (fun kk ys hk => hm.anc.2 kk ys hk) ho1 hxl (fun i hi => by have := hc i 0 hi (by omega); rwa [hst, Nat.mul_one, Nat.add_zero] at this) hmx (DenL.pure (g := g) (g' := g0 g.W g.G) rfl rfl _ _ hpu hd1)) fun e' W' he => ?_
  obtain ⟨v', us', rfl, ho', hn', hc', hg, hb'⟩ := he
  have hgood := good_rowL (nm := 1) (e := e) (l := l') (v := v') (xs := us') (W' := W') (ob := v.ownBlock) (H' := outsH [none, some (.row e l')]) hm hnU hg (fun b hb => hm.own 0 _ b rfl (by rw [← hv, hblk]; exact hb)) (fun x o hx => ?_)
    (by rw [hst']; exact .of_one ho' hn') hmx' (fun i j hi hj => by
      rw [hst'] at hj ⊢
      have : j = 0 := by omega
      subst this
      rw [Nat.mul_one, Nat.add_zero]
      exact hc' i hi) (fun b hb => by rw [own_blk ho'] at hb; exact hb' b hb)
  · obtain ⟨g', h1, h2, _, h4, h5⟩ := hgood
    exact ⟨v', g', rfl, h1, h2, h4, h5⟩
  · match x, hx with
    | 1, hx => left; simp [outsH] at hx; exact ⟨rfl, hx.symm⟩
    | 0, hx => simp [outsH] at hx
    | n + 2, hx => simp [outsH] at hx
theorem sound_newR {P : Program} {f e : Nat} {σ : CtF} (hen : ∀ args W, (callFunc f args).run P W = .ok (.enter f args) W)
    (h : ∀ args os p r outs, σ args os = some (p, r, outs) → ∃ l', os = [] ∧ r = .row 0 ∧ outs = [some (.row e l')] ∧ l'.st = 1 ∧
      (p → l'.len ≤ maxLen ∧ ∀ (W : World) (G : Nat → Prop) (vs : List Value), (∀ b, G b → b < W.heap.size) → GlOk (g0 W G) → DenL (g0 W G) args vs →
        Calls P f vs.toArray W fun e' W' => ∃ v' us', e' = .returned v' ∧ Own W' e v' us' ∧ us'.length = l'.len ∧ (∀ i, i < l'.len → Rep W G (l'.cell i 0) (us'.getD i undef)) ∧ Below W.heap.size W W' ∧ ∀ b, v'.ownBlock = some b → W.heap.size ≤ b)) : Sound P f σ := by
  refine ⟨hen, fun g args os vs p r outs hσ hp hm hU hd => ?_⟩
  obtain ⟨l', rfl, rfl, rfl, hst', hcall⟩ := h args os p r outs hσ
  obtain ⟨hmx', hcall⟩ := hcall hp
  have hU' : ∀ r, ¬ g.U r := fun r hr => absurd (hU r hr) (by simp)
  have hd' : DenL (g0 g.W g.G) args vs := by
    have := DenL.map (f := id) (g := g) (g' := g0 g.W g.G) rfl rfl args vs (fun r _ hu => absurd hu (hU' r)) hd
    rwa [mapRL_id] at this
  refine Calls.mono (hcall g.W g.G vs (fun b hb => (hm.gb b hb).1) (fun kk ys hk => hm.anc.2 kk ys hk) hd') fun e' W' he => ?_
  obtain ⟨v', us', rfl, ho', hn', hc', hb, hnew⟩ := he
  let g' : Gh := ⟨W', g.G, fun r => if r = 0 then v' else g.β r, fun r => g.U r ∨ r = 0⟩
  have hle : g.le g' := ⟨fun b hg => hb.block b (hm.gb b hg).1, fun _ hb => hb, fun r hr => absurd hr (hU' r)⟩
  have hlk : ∀ x o, outsH [some (.row e l')] x = some o → x = 0 ∧ o = .row e l' := by
    intro x o hx
    match x, hx with
    | 0, hx => simp [outsH] at hx; exact ⟨rfl, hx.symm⟩
    | n + 1, hx => simp [outsH] at hx
  have hb0 : g'.β 0 = v' := by show (if (0 : Nat) = 0 then v' else g.β 0) = v'; rw [if_pos rfl]
  obtain ⟨A, cap, hform, _⟩ := ho'.form
  refine ⟨v', g', rfl, rfl, hle, ⟨fun x o hx => ?_, fun x x' o o' b hx hx' _ _ => (hlk x o hx).1.trans (hlk x' o' hx').1.symm, fun x o b hx hbk => ?_, fun b hg => ⟨Nat.lt_of_lt_of_le (hm.gb b hg).1 hb.size, (hm.gb b hg).2⟩, ⟨hb.os, hb.tape, hb.output, hb.size, fun b hlt _ => hb.block b hlt⟩, fun r hr => absurd hr (by simp), hm.anc.2.up hle⟩, ?_⟩
  · obtain ⟨rfl, rfl⟩ := hlk x o hx
    refine ⟨.inr rfl, ?_⟩
    rw [hb0]
    exact ⟨us', by rw [hst']; exact .of_one ho' hn', hmx', fun i j hi hj => by
      rw [hst'] at hj ⊢
      have : j = 0 := by omega
      subst this
      rw [Nat.mul_one, Nat.add_zero]
      exact hle.rep (hc' i hi)⟩
  · obtain ⟨rfl, rfl⟩ := hlk x o hx
    rw [hb0, own_blk ho'] at hbk
    have := hnew b hbk
    exact ⟨fun hg => by have := (hm.gb b hg).1; omega, .inl this⟩
  · simp only [Den]
    exact ⟨.inr rfl, hb0.symm, .inl ⟨A, _, cap, hform⟩⟩
theorem info_ints : (Tryz.prog.info? 23).map (fun i => (i.zero, i.size, i.bytes)) = some (some (.slice none 0 0), 1, 24) := by kernel_rfl
theorem info_ofL {ty sz by_ : Nat} {z : Value} (h : (Tryz.prog.info? ty).map (fun i => (i.zero, i.size, i.bytes)) = some (some z, sz, by_)) : ∃ i, Tryz.prog.info? ty = some i ∧ i.zero = some z ∧ i.size = sz ∧ i.bytes = by_ := by
  cases h' : Tryz.prog.info? ty with
  | none => rw [h'] at h; cases h
  | some i => rw [h'] at h; injection h with h; injection h with h1 h2; injection h2 with h2 h3; exact ⟨i, rfl, h1, h2, h3⟩
def NewRowL (e : Nat) (w : World) (us : List Value) (en : Ending) (w' : World) : Prop :=
  ∃ A cap, en = .returned (.slice A us.length cap) ∧ Own w' e (.slice A us.length cap) us ∧ Below w.heap.size w w' ∧ ∀ g, (Value.slice A us.length cap).ownBlock = some g → w.heap.size ≤ g
set_option maxHeartbeats 400000 in
theorem cloneL_nil (c : Nat) (w : World) : Calls Tryz.prog 37 #[.slice none 0 c] w fun e w' => NewRowL 23 w [] e w' := by
  have hnil := Lib.run_eql_slice_nil (P := Tryz.prog)
  go_enter Tryz.func37, Tryz.ntmps37
  go_wp2
  go_ret
  exact ⟨none, 0, rfl, Own.nil _ _, Below.refl _ _, fun g h => by simp [Value.ownBlock] at h⟩
set_option maxHeartbeats 400000 in
theorem cloneL_some (ad : Addr) (c : Nat) (us : List Value) (n : Nat) (hn : us.length = n) (w : World) (h : ∀ j u, us[j]? = some u → w.cell? (ad.add j) = some u) (h1 : ∀ u ∈ us, u.oneCell' = true) (hl : n ≤ 1000000000000) :
    Calls Tryz.prog 37 #[.slice (some ad) n c] w fun e w' => NewRowL 23 w us e w' := by
  obtain ⟨i0, hi, hz0, hz1, hz2⟩ := info_ofL info_ints
  have hnil := Lib.run_eql_slice_nil (P := Tryz.prog)
  have HI := Lib.hid (And.intro hi (And.intro hz0 (And.intro hz1 hz2)))
  have hcells : SrcAt (w.alloc (.cells #[] 23)) (some ad) us := .inr ⟨ad, rfl, fun j u hu => by
    have h2 := h j u hu
    rw [World.cell?_alloc_lt w _ _ (World.block_lt_of_cell? w _ h2)]
    exact h2⟩
  have HC := Lib.hid hcells
  have HN := Lib.hid hn
  have H1 := Lib.hid h1
  clear hi hz0 hz1 hz2 h hcells hn h1
  go_enter Tryz.func37, Tryz.ntmps37
  go_wp2_with (at_builtin; refine wpList_appendR _ rfl (.tmp 5) (.tmp 6) 22 rfl 23 i0 (.slice none 0 0) 24 Tryz.underlying22 HI.out.1 HI.out.2.1 HI.out.2.2.1 HI.out.2.2.2 rfl _ [] 0 rfl rfl (Own.empty w _) (some ad) c us n HN.out rfl HC.out H1.out (by unfold maxLen; omega) (by omega) ?_)
  intro A cap w1 h1 h2 h3
  have H1 := Lib.hid h1
  have H2 := Lib.hid h2
  have H3 := Lib.hid h3
  clear h1 h2 h3
  go_wp2
  go_ret
  have HN' := HN.out
  subst HN'
  refine ⟨A, cap, rfl, H1.out, ?_, ?_⟩
  · exact (((Kp.refl (fun _ => False) w).alloc _).grown H2.out (fun g e hg => by simp [Value.ownBlock] at e; omega)).none_below
  · intro g hg
    rcases H3.out g hg with e | e
    · simp [Value.ownBlock] at e; omega
    · omega
theorem intss_one {W : World} {G : Nat → Prop} {xs : List (List Int)} {i : Nat} {u : Value} (h : Rep W G ((LD.intss xs).cell i 0) u) : u.oneCell' = true := cell_one (l := .intss xs) (i := i) (j := 0) h
def sCloneL : CtF := fun args os => match args, os with
  | [.im (.ls (.intss xs))], [] => some (xs.length ≤ 1000000000000, .row 0, [some (.row 23 (.intss xs))])
  | _, _ => none
theorem sCloneL_sound : Sound Tryz.prog 37 sCloneL := by
  refine sound_newR (e := 23) (run_enters Tryz.func37 (by kernel_rfl) rfl) fun args os p r outs h => ?_
  unfold sCloneL at h
  split at h
  · rename_i xs
    injection h with h
    injection h with h1 h
    injection h with h2 h3
    subst h1 h2 h3
    refine ⟨.intss xs, rfl, rfl, rfl, rfl, fun hp => ⟨by show xs.length ≤ maxLen; unfold maxLen; omega, fun W G vs hG _ hd => ?_⟩⟩
    simp only [DenL] at hd
    obtain ⟨v, vs', rfl, hd0, hd1⟩ := hd
    subst hd1
    have hr : Rep W G (.ls (.intss xs)) v := hd0
    rcases hr.cases_ls with ⟨h0, A, c, rfl⟩ | ⟨b, off, c, u, rfl, h1, h2, h3, h4, h5⟩
    · have h0' : xs = [] := List.eq_nil_of_length_eq_zero h0
      subst h0'
      cases A with
      | none =>
        refine (cloneL_nil c W).mono ?_
        rintro e' W' ⟨A', cap, rfl, q1, q2, q3⟩
        exact ⟨_, [], rfl, q1, rfl, fun i hi => absurd hi (Nat.not_lt_zero i), q2, q3⟩
      | some ad =>
        refine (cloneL_some ad c [] 0 rfl W (fun j u hu => by simp at hu) (fun u hu => by simp at hu) (by omega)).mono ?_
        rintro e' W' ⟨A', cap, rfl, q1, q2, q3⟩
        exact ⟨_, [], rfl, q1, rfl, fun i hi => absurd hi (Nat.not_lt_zero i), q2, q3⟩
    · have hst : (LD.intss xs).st = 1 := rfl
      have hlen : (LD.intss xs).len = xs.length := rfl
      let us := (List.range xs.length).map fun i => u i 0
      have hul : us.length = xs.length := by simp [us]
      have hug : ∀ i, i < xs.length → us[i]? = some (u i 0) := fun i hi => by simp [us, hi]
      have hrep : ∀ i, i < xs.length → Rep W G ((LD.intss xs).cell i 0) (us.getD i undef) := fun i hi => by
        rw [List.getD_eq_getElem?_getD, hug i hi]
        exact h5 i 0 hi (by rw [hst]; omega)
      refine (cloneL_some ⟨b, off, none⟩ c us xs.length hul W (fun j y hj => ?_) (fun y hy => ?_) hp).mono ?_
      · have hj1 : j < xs.length := by rw [← hul]; exact (List.getElem?_eq_some_iff.1 hj).1
        rw [hug j hj1] at hj
        cases hj
        have := h4 j 0 hj1 (by rw [hst]; omega)
        rw [hst, Nat.mul_one, Nat.add_zero] at this
        rw [add_mk]
        exact this
      · obtain ⟨i, hi, rfl⟩ := List.mem_iff_getElem.1 hy
        have hi' : i < xs.length := by rw [← hul]; exact hi
        have := hrep i hi'
        rw [List.getD_eq_getElem?_getD, List.getElem?_eq_getElem hi] at this
        exact intss_one this
      · rintro e' W' ⟨A', cap, rfl, q1, q2, q3⟩
        exact ⟨_, us, rfl, q1, hul, hrep, q2, q3⟩
  · cases h
abbrev OneV := { v : Value // v.oneCell' = true }
instance : Inhabited OneV := ⟨⟨.slice none 0 0, rfl⟩⟩
def encO (x : OneV) : Value := x.1
theorem oneO : OneCell encO := fun x => x.2
def sDelL : CtF := fun args os => match args, os with
  | [.row 0, .im (.val (.int .i64 i)), .im (.val (.int .i64 j))], [.row 23 (.intss xs)] => some (0 ≤ i ∧ i < j ∧ j ≤ xs.length ∧ xs.length ≤ 1000000000000, .row 1, [none, some (.row 23 (.intss (xs.take i.toNat ++ xs.drop j.toNat)))])
  | _, _ => none
theorem sDelL_sound : Sound Tryz.prog 39 sDelL := by
  refine sound_rowR (e := 23) (run_enters Tryz.func39 (by kernel_rfl) rfl) fun args os p r outs h => ?_
  unfold sDelL at h
  split at h
  · rename_i i j xs
    injection h with h
    injection h with h1 h
    injection h with h2 h3
    subst h1 h2 h3
    refine ⟨_, .intss xs, .intss (xs.take i.toNat ++ xs.drop j.toNat), rfl, rfl, rfl, rfl, rfl, rfl, rfl, fun hp => ⟨?_, fun W G v vs us hG hn _ ho hul hrep hmx hd => ?_⟩⟩
    · show (xs.take i.toNat ++ xs.drop j.toNat).length ≤ maxLen
      simp only [List.length_append, List.length_take, List.length_drop]
      unfold maxLen; omega
    · obtain ⟨hp1, hp2, hp3, hp4⟩ := hp
      obtain ⟨u1, u2, rfl, d1, d2⟩ := denL2 hd
      rw [den_val d1, den_val d2]
      have hul' : us.length = xs.length := hul
      have hone : ∀ u ∈ us, u.oneCell' = true := fun y hy => by
        obtain ⟨k, hk, rfl⟩ := List.mem_iff_getElem.1 hy
        have := hrep k (by show k < xs.length; omega)
        rw [List.getD_eq_getElem?_getD, List.getElem?_eq_getElem hk] at this
        exact intss_one this
      obtain ⟨A, cap, hform, _⟩ := ho.form
      subst hform
      obtain ⟨g, off, rfl⟩ := ho.addr (by omega)
      obtain ⟨cur, k1, k2, k3, k4, _⟩ := ho.cur rfl
      let ds : List OneV := us.pmap Subtype.mk hone
      have hds : ds.map encO = us := by simp [ds, encO, List.map_pmap]
      have hdl : ds.length = us.length := by simp [ds]
      have hol : Own W 23 (.slice (some ⟨g, off, none⟩) us.length cap) (ds.map encO) := by rw [hds]; exact ho
      obtain ⟨i0, hi, hz0, hz1, hz2⟩ := info_ofL info_ints
      have h := AnyE.slices_Delete Tryz.shDelL encO oneO ⟨.slice none 0 0, rfl⟩ (fun w => Tryz.zeroValue23 w) i0 hi hz1 g off cap i.toNat j.toNat ds.toArray W (own_holds hol) (by simp [hdl]; omega) (by unfold maxLen at k3; omega) (by omega) (by simp [hdl]; omega)
      simp only [List.size_toArray, hdl] at h
      rw [show ((i.toNat : Nat) : Int) = i by omega, show ((j.toNat : Nat) : Int) = j by omega] at h
      refine Calls.mono h ?_
      rintro e' w' ⟨rfl, q, rfl⟩
      have hps : ∀ d : Array OneV, putRow encO (Sort.ahead W q) g off d = sortWorld encO W g off q d #[] := fun d => by unfold sortWorld; rw [grow_empty]
      rw [hps]
      have hml : (ds.take i.toNat ++ ds.drop j.toNat).length = us.length - (j.toNat - i.toNat) := by simp only [List.length_append, List.length_take, List.length_drop]; omega
      have h5 := sort_own hol q #[] (ys := ds.take i.toNat ++ ds.drop j.toNat ++ List.replicate (j.toNat - i.toNat) ⟨.slice none 0 0, rfl⟩) (by simp only [List.length_append, List.length_take, List.length_drop, List.length_replicate]; omega) (m := us.length - (j.toNat - i.toNat)) (by simp only [List.length_append, List.length_take, List.length_drop, List.length_replicate]; omega)
      rw [List.take_left' hml] at h5
      have h6 : (ds.take i.toNat ++ ds.drop j.toNat).map encO = us.take i.toNat ++ us.drop j.toNat := by rw [List.map_append, List.map_take, List.map_drop, hds]
      rw [h6] at h5
      refine ⟨_, us.take i.toNat ++ us.drop j.toNat, rfl, h5, ?_, fun k hk => ?_, ?_, fun b hb => .inl hb⟩
      · show (us.take i.toNat ++ us.drop j.toNat).length = (xs.take i.toNat ++ xs.drop j.toNat).length
        simp only [List.length_append, List.length_take, List.length_drop]; omega
      · have hk' : k < (xs.take i.toNat ++ xs.drop j.toNat).length := hk
        simp only [List.length_append, List.length_take, List.length_drop] at hk'
        show Rep W G (.ls (.ints ((xs.take i.toNat ++ xs.drop j.toNat).getD k []))) _
        have hcell : ∀ k', k' < xs.length → Rep W G (.ls (.ints (xs.getD k' []))) (us.getD k' undef) := fun k' hk' => hrep k' hk'
        by_cases hki : k < i.toNat
        · have e1 : (xs.take i.toNat ++ xs.drop j.toNat).getD k [] = xs.getD k [] := by
            rw [List.getD_eq_getElem?_getD, List.getElem?_append_left (by simp; omega), List.getElem?_take_of_lt hki, ← List.getD_eq_getElem?_getD]
          have e2 : (us.take i.toNat ++ us.drop j.toNat).getD k undef = us.getD k undef := by
            rw [List.getD_eq_getElem?_getD, List.getElem?_append_left (by simp; omega), List.getElem?_take_of_lt hki, ← List.getD_eq_getElem?_getD]
          rw [e1, e2]
          exact hcell k (by omega)
        · have l1 : (xs.take i.toNat).length = i.toNat := by rw [List.length_take]; omega
          have l2 : (us.take i.toNat).length = i.toNat := by rw [List.length_take]; omega
          have e1 : (xs.take i.toNat ++ xs.drop j.toNat).getD k [] = xs.getD (j.toNat + (k - i.toNat)) [] := by
            rw [List.getD_eq_getElem?_getD, List.getElem?_append_right (by omega), l1, List.getElem?_drop, ← List.getD_eq_getElem?_getD]
          have e2 : (us.take i.toNat ++ us.drop j.toNat).getD k undef = us.getD (j.toNat + (k - i.toNat)) undef := by
            rw [List.getD_eq_getElem?_getD, List.getElem?_append_right (by omega), l2, List.getElem?_drop, ← List.getD_eq_getElem?_getD]
          rw [e1, e2]
          exact hcell _ (by omega)
      · have hk := sort_kp (enc := encO) (w := W) (g := g) (off := off) q (ds.take i.toNat ++ ds.drop j.toNat ++ List.replicate (j.toNat - i.toNat) (⟨.slice none 0 0, rfl⟩ : OneV)).toArray #[]
        exact ⟨hk.os, hk.tape, hk.output, hk.size, fun b hb hn => hk.block b hb (fun e => hn (by rw [e]; rfl))⟩
  · cases h
end Go.Proofs.YtbpbndlgfiammaaGreatDoor.En
namespace Go.Proofs.YtbpbndlgfiammaaGreatDoor
open Go Go.RowKit Go.Sort Go.Shelf
open Cn (sortI)
def Turned (e : Nat) (w : World) (v : Value) (us : List Value) (w' : World) (v' : Value) : Prop := Own w' e v' us ∧ w.grownBy w' v.ownBlock ∧ ∀ b, v'.ownBlock = some b → v.ownBlock = some b
theorem kp_grown {w w' : World} {g : Nat} (h : Kp (fun b => b = g) w w') : w.grownBy w' (some g) := ⟨h.os, h.tape, h.output, h.size, fun k hk hn => h.block k hk (fun e => hn (by rw [e]))⟩
theorem grown_refl (w : World) (r : Option Nat) : w.grownBy w r := ⟨rfl, rfl, rfl, Nat.le_refl _, fun _ _ _ => rfl⟩
theorem put_sort {α : Type} [Inhabited α] (enc : α → Value) (w : World) (blk off q : Nat) (d : Array α) : putRow enc (Sort.ahead w q) blk off d = sortWorld enc w blk off q d #[] := by unfold sortWorld; rw [grow_empty]
theorem compact_own {v : Value} {xs : List Int} {w : World} (ho : Own w 3 v (xs.map I64)) (hl : xs.length ≤ maxLen) :
    Calls Tryz.prog 99 #[v] w fun e w' => ∃ v', e = .returned v' ∧ Turned 3 w v ((Lib.compact xs).map I64) w' v' := by
  obtain ⟨A, cap, hform, _⟩ := ho.form
  rw [List.length_map] at hform
  subst hform
  by_cases h0 : xs.length = 0
  · obtain rfl := List.eq_nil_of_length_eq_zero h0
    refine (AnyG.slices_Compact_int_empty Tryz.shCompact A cap w).mono ?_
    rintro e w' ⟨rfl, rfl⟩
    exact ⟨_, rfl, ho, grown_refl _ _, fun _ h => h⟩
  · obtain ⟨g, off, rfl⟩ := ho.addr (by omega)
    obtain ⟨cur, h1, h2, h3, h4, _⟩ := ho.cur rfl
    rw [List.length_map] at h2
    refine (AnyG.slices_Compact_int Tryz.shCompact g off cap xs w (own_holds ho) (by unfold maxLen at hl; omega) h2).mono ?_
    rintro e w' ⟨rfl, q, rfl⟩
    have hfl : (Lib.compact xs).length ≤ xs.length := Lib.compact_length_le xs
    rw [put_sort]
    refine ⟨_, rfl, ?_, kp_grown (sort_kp _ _ _), fun b h => h⟩
    have := sort_own ho q #[] (ys := Lib.compact xs ++ List.replicate (xs.length - (Lib.compact xs).length) 0) (by simp; omega) (m := (Lib.compact xs).length) (by simp)
    rw [List.take_left'] at this
    · exact this
    · rfl
theorem sorti_own {v : Value} {xs : List Int} {w : World} (ho : Own w 3 v (xs.map I64)) (hl : xs.length ≤ 1000000000000) :
    Calls Tryz.prog 129 #[v] w fun e w' => e = .returned (.tuple #[]) ∧ Own w' 3 v ((sortI xs).map I64) ∧ Kp (fun b => v.ownBlock = some b) w w' := by
  obtain ⟨A, cap, hform, _⟩ := ho.form
  rw [List.length_map] at hform
  subst hform
  by_cases h0 : xs.length = 0
  · obtain rfl := List.eq_nil_of_length_eq_zero h0
    refine (AnyM.slices_Sort_int_none (P := Tryz.prog) (ρ := Tryz.shSort_ren) Tryz.shSort A cap w).mono ?_
    rintro e w' ⟨rfl, rfl⟩
    exact ⟨rfl, by simpa [sortI] using ho, Kp.refl _ _⟩
  · obtain ⟨g, off, rfl⟩ := ho.addr (by omega)
    have hlt : g < w.heap.size := ho.lt rfl
    refine Calls.mono (AnyM.slices_Sort_int Tryz.shSort g off cap xs w (own_holds ho) hlt (by omega)) ?_
    rintro e w' ⟨rfl, n, os, rfl⟩
    refine ⟨rfl, ?_, (sort_kp _ _ _).mono fun k _ h => by subst h; rfl⟩
    have h2 := sort_own ho n os (ys := sortI xs) (by simp [sortI]) (m := xs.length) (by simp [sortI])
    rw [List.take_of_length_le (by simp [sortI])] at h2
    exact h2
end Go.Proofs.YtbpbndlgfiammaaGreatDoor
namespace Go.Proofs.YtbpbndlgfiammaaGreatDoor.En
open Go Go.RowKit
open Cn (sortI)
def sSortI : CtF := fun args os => match args, os with
  | [.row 0], [.row 3 (.ints xs)] => some (xs.length ≤ 1000000000000, .tup [], [some (.row 3 (.ints (sortI xs)))])
  | _, _ => none
def sCompact : CtF := fun args os => match args, os with
  | [.row 0], [.row 3 (.ints xs)] => some (xs.length ≤ 1000000000000, .row 1, [none, some (.row 3 (.ints (Lib.compact xs)))])
  | _, _ => none
theorem turned_out {w : World} {v : Value} {us : List Value} {e : Ending} {w' : World} (h : ∃ v', e = .returned v' ∧ Turned 3 w v us w' v') :
    ∃ v', e = .returned v' ∧ Own w' 3 v' us ∧ w.grownBy w' v.ownBlock ∧ ∀ b, v'.ownBlock = some b → v.ownBlock = some b ∨ b = w.heap.size := by
  obtain ⟨v', h1, h2, h3, h4⟩ := h
  exact ⟨v', h1, h2, h3, fun b hb => .inl (h4 b hb)⟩
theorem sCompact_sound : Sound Tryz.prog 99 sCompact := by
  refine sound_row (e := 3) (run_enters Tryz.func99 (by kernel_rfl) rfl) fun args os p r outs h => ?_
  unfold sCompact at h
  split at h
  · rename_i xs
    injection h with h
    injection h with h1 h
    injection h with h2 h3
    subst h1 h2 h3
    refine ⟨_, .ints xs, _, rfl, rfl, rfl, rfl, rfl, rfl, rfl, fun hp => ⟨?_, fun W G v vs hG hn _ ho hl hd => ?_⟩⟩
    · have := Lib.compact_length_le xs
      show (Lib.compact xs).length ≤ maxLen
      unfold maxLen; omega
    · simp only [DenL] at hd
      subst hd
      exact (compact_own ho hl).mono fun e' W' h => turned_out h
  · cases h
theorem sSortI_sound : Sound Tryz.prog 129 sSortI := by
  refine sound_inrow (e := 3) (run_enters Tryz.func129 (by kernel_rfl) rfl) fun args os p r outs h => ?_
  unfold sSortI at h
  split at h
  · rename_i xs
    injection h with h
    injection h with h1 h
    injection h with h2 h3
    subst h1 h2 h3
    refine ⟨_, .ints xs, _, _, rfl, rfl, rfl, rfl, rfl, rfl, rfl, rfl, fun hp => ⟨?_, ?_, fun W G v vs hG hn _ ho hl hd => ?_⟩⟩
    · show (sortI xs).length ≤ maxLen
      simp only [sortI, List.length_mergeSort]
      unfold maxLen; omega
    · show (sortI xs).length = xs.length
      simp only [sortI, List.length_mergeSort]
    · simp only [DenL] at hd
      subst hd
      exact sorti_own ho hp
  · cases h
end Go.Proofs.YtbpbndlgfiammaaGreatDoor.En
namespace Go.Proofs.YtbpbndlgfiammaaGreatDoor.En
open Go Go.RowKit
theorem Sound.callsG {P : Program} {f : Nat} {σ : CtF} (h : Sound P f σ) {W : World} {G : Nat → Prop} (hG : ∀ b, G b → b < W.heap.size) (hgl : GlOk (g0 W G)) {args : List AV} {vs : List Value} {p : Prop} {r : AV} (hσ : σ args [] = some (p, r, [])) (hp : p) (hd : DenL (g0 W G) args vs) :
    Calls P f vs.toArray W (fun e w' => ∃ u, e = .returned u ∧ Below W.heap.size W w' ∧ ∃ g' : Gh, g'.W = w' ∧ (∀ b, g'.G b → b < w'.heap.size) ∧ Den g' r u) := by
  have hnl : ∀ b, ¬ lentTo (g0 W G) [] b := by rintro b ⟨i, hi, _⟩; simp at hi
  refine Calls.mono (h.2 (g0 W G) args [] vs p r [] hσ hp ⟨fun r o h => by simp [objsH] at h, fun r r' o o' b h => by simp [objsH] at h, fun r o b h => by simp [objsH] at h, fun b hb => ⟨hG b hb, .inl hb⟩, Kp.refl _ _, fun i hi => by simp at hi, hgl⟩ (fun r hr => False.elim hr) hd) fun e w' he => ?_
  obtain ⟨u, g', rfl, rfl, _, hm, hdu⟩ := he
  exact ⟨u, rfl, ⟨hm.bel.os, hm.bel.tape, hm.bel.output, hm.bel.size, fun k hk => hm.bel.block k hk (hnl k)⟩, g', rfl, fun b hb => (hm.gb b hb).1, hdu⟩
theorem krg_le {G : Nat → Prop} {W W' : World} (h : KRG G W W') : (g0 W G).le (g0 W' G) := ⟨h, fun _ hb => hb, fun _ hr => ⟨hr, rfl⟩⟩
theorem krg_lt {G : Nat → Prop} {W W' : World} (hG : ∀ b, G b → b < W.heap.size) (h : KRG G W W') : ∀ b, G b → b < W'.heap.size := fun b hb => by
  have h1 := h b hb
  rw [Array.getElem?_eq_getElem (hG b hb)] at h1
  exact (Array.getElem?_eq_some_iff.1 h1).1
theorem krg_tr {G : Nat → Prop} {A B C : World} (h : KRG G A B) (h' : KRG G B C) : KRG G A C := fun b hb => (h' b hb).trans (h b hb)
theorem krg_below {G : Nat → Prop} {A B C : World} {n : Nat} (h : KRG G A B) (hG : ∀ b, G b → b < n) (h' : Below n B C) : KRG G A C := fun b hb => (h'.block b (hG b hb)).trans (h b hb)
theorem kp_no {A B : World} (h : Below A.heap.size A B) (Z : Nat → Prop) : Kp Z A B := ⟨h.os, h.tape, h.output, h.size, fun b hb _ => h.block b hb⟩
end Go.Proofs.YtbpbndlgfiammaaGreatDoor.En
namespace Go.Proofs.YtbpbndlgfiammaaGreatDoor.En
open Go Go.RowKit
def tyCnf : List (Nat × TD) := [(3, ⟨1, false, [.int .i64 0], [], none, 8, false, 1, 1⟩),
  (4, ⟨1, false, [.bool false], [], none, 1, true, 0, 2⟩),
  (22, ⟨1, false, [.slice none 0 0], [], some 23, 24, false, 0, 0⟩),
  (23, ⟨1, false, [.slice none 0 0], [], some 3, 24, false, 0, 3⟩),
  (28, ⟨2, true, [.int .i64 0, .slice none 0 0], [(0, 3), (1, 22)], none, 32, false, 0, 6⟩),
  (31, ⟨1, false, [.int .i64 0], [], none, 8, false, 1, 1⟩),
  (45, ⟨1, false, [.slice none 0 0], [], some 4, 24, false, 0, 0⟩),
  (66, ⟨1, false, [.nilFunc], [], none, 8, false, 0, 0⟩),
  (75, ⟨1, false, [.nilFunc], [], none, 8, false, 0, 0⟩),
  (88, ⟨1, false, [.int .i64 0], [], none, 8, false, 1, 1⟩)]
theorem tyCnf_ok : AllTy Tryz.prog tyCnf := ⟨⟨by kernel_rfl, by kernel_rfl, by kernel_rfl⟩, ⟨by kernel_rfl, by kernel_rfl, by kernel_rfl⟩, ⟨by kernel_rfl, by kernel_rfl, by kernel_rfl⟩, ⟨by kernel_rfl, by kernel_rfl, by kernel_rfl⟩, ⟨by kernel_rfl, by kernel_rfl, by kernel_rfl⟩, ⟨by kernel_rfl, by kernel_rfl, by kernel_rfl⟩, ⟨by kernel_rfl, by kernel_rfl, by kernel_rfl⟩, ⟨by kernel_rfl, by kernel_rfl, by kernel_rfl⟩, ⟨by kernel_rfl, by kernel_rfl, by kernel_rfl⟩, ⟨by kernel_rfl, by kernel_rfl, by kernel_rfl⟩, trivial⟩
def cx_cMay : Cx := ⟨tyCnf, [], false⟩
theorem cx_cMay_ok : CxOk Tryz.prog cx_cMay := cx_ok tyCnf_ok trivial
def cMay_σ : CtF
  | [.im (.val (.int .i64 l)), .im (.val (.int .i64 n))], [] => some (0 ≤ n ∧ n ≤ 65536, .bool (Cn.mayP l n), [])
  | _, _ => none
theorem cMay_sound : Sound Tryz.prog 63 cMay_σ := by
 refine Sw (cx := cx_cMay) Tryz.f63 Tryz.func63 ?_
 intro wW wO wβ G0 args os p r outs hσ hp
 have hcx := cx_cMay_ok
 unfold cMay_σ at hσ
 split at hσ
 ·
  rename_i l n
  cases hσ
  refine ⟨by kernel_rfl, ?_⟩
  obtain ⟨hn0, hn1⟩ := hp
  refine Sz hcx [] [] [] [] (Sq hcx [] [4] [0, 1] [] [((l != 0) = true → ((l != 0) = true)), ((l != 0) = true → Fit (-n)), ((l != 0) = true → ((l != 0) = true)), ((l != 0) = true → ((l != 0) = true)), ((l != 0) = true → (l != 0) = true), (((l != 0) && (decide ((-n) ≤ l))) = true → (((l != 0) && (decide ((-n) ≤ l))) = true)), (((l != 0) && (decide ((-n) ≤ l))) = true → (((l != 0) && (decide ((-n) ≤ l))) = true)), (((l != 0) && (decide ((-n) ≤ l))) = true → ((l != 0) && (decide ((-n) ≤ l))) = true)] ?_ (Zr (Ru hcx [])))
  ·
   refine ap ?_ (ap ?_ (ap ?_ (ap ?_ (ap (by exact id) (ap ?_ (ap ?_ (ap (by exact id) az))))))) <;>
    first | omega | exact id | exact vcNot | exact vcG | exact vcH | (intro _; omega) | exact (fun _ h => h) | (intro h; simp at h; omega) | (simp only [List.length_cons, List.length_nil, List.length_append, List.length_map, List.length_set, List.length_replicate]; omega) | (intro h; simp [h]; done) | (intro _; constructor <;> omega)
 ·
  cases hσ
def cx_cOf : Cx := ⟨tyCnf, [], false⟩
theorem cx_cOf_ok : CxOk Tryz.prog cx_cOf := cx_ok tyCnf_ok trivial
def cOf_σ : CtF
  | [.im (.val (.int .i64 l))], [] => some (-9223372036854775807 ≤ l ∧ l ≤ 9223372036854775807, .int (l.natAbs : Int), [])
  | _, _ => none
theorem cOf_sound : Sound Tryz.prog 93 cOf_σ := by
 refine Sw (cx := cx_cOf) Tryz.f93 Tryz.func93 ?_
 intro wW wO wβ G0 args os p r outs hσ hp
 have hcx := cx_cOf_ok
 unfold cOf_σ at hσ
 split at hσ
 ·
  rename_i l
  cases hσ
  refine ⟨by kernel_rfl, ?_⟩
  obtain ⟨hn0, hn1⟩ := hp
  refine Sz hcx [] [] [] [] (Sq hcx [] [2] [0] [] [Fit (-l)] ?_ (Zr (Rv hcx (congrArg AV.int (show (max l (-l)) = (l.natAbs : Int) from (by omega))) [] rfl)))
  ·
   refine ap ?_ az
   first | omega | exact id | exact vcNot | exact vcG | exact vcH | (intro _; omega) | exact (fun _ h => h) | (intro h; simp at h; omega) | (simp only [List.length_cons, List.length_nil, List.length_append, List.length_map, List.length_set, List.length_replicate]; omega) | (intro h; simp [h]; done) | (constructor <;> omega)
 ·
  cases hσ
def cx_cTrue : Cx := ⟨tyCnf, [(63, cMay_σ), (93, cOf_σ)], false⟩
theorem cx_cTrue_ok : CxOk Tryz.prog cx_cTrue := cx_ok tyCnf_ok ⟨cMay_sound, cOf_sound, trivial⟩
def cTrue_σ : CtF
  | [.im (.val (.int .i64 l)), .im (.ls (.bools a))], [] => some (a.length ≤ maxLen, .bool (Cn.litV a l), [])
  | _, _ => none
theorem cTrue_sound : Sound Tryz.prog 65 cTrue_σ := by
 refine Sw (cx := cx_cTrue) Tryz.f65 Tryz.func65 ?_
 intro wW wO wβ G0 args os p r outs hσ hp
 have hcx := cx_cTrue_ok
 unfold cTrue_σ at hσ
 split at hσ
 ·
  rename_i l a
  cases hσ
  refine ⟨by kernel_rfl, ?_⟩
  unfold maxLen at hp
  refine Sz hcx [] [] [] [] (Zs (Sq hcx [] [8] [] [] [(0 ≤ (65536 : Int) ∧ (65536 : Int) ≤ 65536)] ?_ (Zi (b := !(Cn.mayP l (65536 : Int))) (fun h0 => ?_) fun h0 => ?_)))
  ·
   refine ap ?_ az
   first | omega | exact id | exact vcNot | exact vcG | exact vcH | (intro _; omega) | exact (fun _ h => h) | (intro h; simp at h; omega) | (simp only [List.length_cons, List.length_nil, List.length_append, List.length_map, List.length_set, List.length_replicate]; omega) | (intro h; simp [h]; done) | (constructor <;> omega) | trivial
  ·
   replace h0 := (notB_t h0)
   exact Sz hcx [] [4] [8, 0, 1] [] (Zr (Fr (Rv hcx (congrArg AV.bool (show false = (Cn.litV a l) from (by exact (Cn.litV_no h0).symm))) [] rfl)))
  ·
   replace h0 := (notB_f h0)
   have hmb := Cn.mayP_iff.1 h0
   refine Zk (Ft (Sq hcx [] [5] [8] [] [(-9223372036854775807 ≤ l ∧ l ≤ 9223372036854775807)] ?_ (Sq hcx [] [4] [5, 0, 1] [] [((decide ((l.natAbs : Int) < (a.length : Int))) = true → ((decide ((l.natAbs : Int) < (a.length : Int))) = true)), ((decide ((l.natAbs : Int) < (a.length : Int))) = true → ((decide ((l.natAbs : Int) < (a.length : Int))) = true)), ((decide ((l.natAbs : Int) < (a.length : Int))) = true → ((0 : Int) ≤ (l.natAbs : Int) ∧ (l.natAbs : Int) < (a.length : Int))), ((decide ((l.natAbs : Int) < (a.length : Int))) = true → ((decide ((l.natAbs : Int) < (a.length : Int))) = true)), ((decide ((l.natAbs : Int) < (a.length : Int))) = true → (decide ((l.natAbs : Int) < (a.length : Int))) = true)] ?_ (Zr (Rv hcx (congrArg AV.bool (show (((decide ((l.natAbs : Int) < (a.length : Int))) && (a.getD ((l.natAbs : Int).toNat) false)) == (decide (l > 0))) = (Cn.litV a l) from (by exact (Cn.litV_yes h0).symm))) [] rfl)))))
   ·
    refine ap ?_ az
    first | omega | exact id | exact vcNot | exact vcG | exact vcH | (intro _; omega) | exact (fun _ h => h) | (intro h; simp at h; omega) | (simp only [List.length_cons, List.length_nil, List.length_append, List.length_map, List.length_set, List.length_replicate]; omega) | (intro h; simp [h]; done) | (constructor <;> omega) | trivial
   ·
    refine ap ?_ (ap ?_ (ap ?_ (ap ?_ (ap (by exact id) az)))) <;>
     first | omega | exact id | exact vcNot | exact vcG | exact vcH | (intro _; omega) | exact (fun _ h => h) | (intro h; simp at h; omega) | (simp only [List.length_cons, List.length_nil, List.length_append, List.length_map, List.length_set, List.length_replicate]; omega) | (intro h; simp [h]; done) | (constructor <;> omega) | trivial
 ·
  cases hσ
def cx_cHolds1 : Cx := ⟨tyCnf, [(65, (coeF [.id, .ld (.bools [])] cTrue_σ))], false⟩
theorem cx_cHolds1_ok : CxOk Tryz.prog cx_cHolds1 := cx_ok tyCnf_ok ⟨(cTrue_sound.coe [.id, .ld (.bools [])] rfl), trivial⟩
def cHolds1_σ : CtF
  | [.im (.val (.int .i64 x)), .pto [.ls (.bools a)]], [] => some (a.length ≤ maxLen, .bool (Cn.litV a x), [])
  | _, _ => none
theorem cHolds1_sound : Sound Tryz.prog 64 cHolds1_σ := by
 refine Sw (cx := cx_cHolds1) Tryz.f64 Tryz.func64 ?_
 intro wW wO wβ G0 args os p r outs hσ hp
 have hcx := cx_cHolds1_ok
 unfold cHolds1_σ at hσ
 split at hσ
 ·
  rename_i x a
  cases hσ
  refine ⟨by kernel_rfl, ?_⟩
  exact Sz hcx [] [] [] [] (Sq hcx [] [3] [0, 1] [] [(a.length ≤ maxLen)] (ap (by exact hp) az) (Zr (Ru hcx [])))
 ·
  cases hσ
def cx_ixHolds : Cx := ⟨tyCnf, [(64, cHolds1_σ)], false⟩
theorem cx_ixHolds_ok : CxOk Tryz.prog cx_ixHolds := cx_ok tyCnf_ok ⟨cHolds1_sound, trivial⟩
def ixHolds_σ : CtF
  | [.im (.ls (.ints s)), .clo 64 [.pto [.ls (.bools a)]]], [] => some (s.length ≤ maxLen ∧ a.length ≤ maxLen, .int (Cn.idxF (fun x => Cn.litV a x) s), [])
  | _, _ => none
theorem ixHolds_sound : Sound Tryz.prog 92 ixHolds_σ := by
 refine Sw (cx := cx_ixHolds) Tryz.f92 Tryz.func92 ?_
 intro wW wO wβ G0 args os p r outs hσ hp
 have hcx := cx_ixHolds_ok
 unfold ixHolds_σ at hσ
 split at hσ
 ·
  rename_i s a
  cases hσ
  refine ⟨by kernel_rfl, ?_⟩
  obtain ⟨hm1, hpr⟩ := hp
  unfold maxLen at hm1
  refine Sz hcx [] [] [] [] (Zs (Sz hcx [] [7, 8] [] [] (Zb (Lp (X := Nat) (fun x0 => x0 ≤ s.length ∧ ∀ j, j < x0 → (Cn.litV a (s.getD j 0)) = false) (fun x0 => ([(0, .ints s), (1, .clo 64 [.pto [.ls (.bools a)]]), (7, .int (s.length : Int)), (8, .int (x0 : Int))], [])) (fun x0 => s.length - x0) (0) ?_ (Ex 8 (congrArg AV.int (show 0 = (0 : Int) from (by first | rfl | omega | (simp; done)))) Eb) Hb fun k hI => ?_))))
  ·
   exact ⟨Nat.zero_le _, fun j hj => by omega⟩
  ·
   try dsimp only at hI
   obtain ⟨hk, hok⟩ := hI
   refine Sz hcx [] [9] [] [] (Zs (Zj (p := ((k : Int) < (s.length : Int))) (fun h0 => ?_) fun h0 => ?_))
   ·
    refine Zk (Ft (Zs (Zb (Sz hcx [] [5] [9] [] (Sq hcx [] [16] [] [] [((0 : Int) ≤ (k : Int) ∧ (k : Int) < (s.length : Int)), (a.length ≤ maxLen)] ?_ (Zi (b := Cn.litV a (s.getD k 0)) (fun h1 => ?_) fun h1 => ?_))))))
    ·
     refine ap ?_ (ap ?_ az) <;>
      first | omega | exact id | exact vcNot | exact vcG | exact vcH | (intro _; omega) | exact (fun _ h => h) | (intro h; simp at h; omega) | (simp only [List.length_cons, List.length_nil, List.length_append, List.length_map, List.length_set, List.length_replicate]; omega) | (intro h; simp [h]; done) | exact hpr | trivial
    ·
     have hq := h1
     exact Sz hcx [] [4] [16, 5, 0, 1, 7, 8] [] (Zr (Fk (Fr (Fr (Fk (Fr (Rv hcx (congrArg AV.int (show (k : Int) = (Cn.idxF (fun x => Cn.litV a x) s) from (by exact (Cn.idxF_yes (p := (fun x => Cn.litV a x)) (by omega) hok hq).symm))) [] rfl)))))))
    ·
     have hq := h1
     refine Zk (Fb (Ft (Tq hcx [] [8] [16, 5] [] [Fit ((k : Int) + 1)] ?_ (Lr (k + 1) ?_ ?_ (Ex 8 (congrArg AV.int (show ((k : Int) + 1) = ((k + 1) : Int) from (by first | rfl | omega | (simp; done)))) Eb) Hb))))
     ·
      refine ap ?_ az
      first | omega | exact id | exact vcNot | exact vcG | exact vcH | (intro _; omega) | exact (fun _ h => h) | (intro h; simp at h; omega) | (simp only [List.length_cons, List.length_nil, List.length_append, List.length_map, List.length_set, List.length_replicate]; omega) | (intro h; simp [h]; done) | exact hpr | trivial
     ·
      exact ⟨by omega, Cn.falseSucc hok hq⟩
     ·
      show s.length - (k + 1) < s.length - k
      omega
   ·
    exact Ze (Fe (Fe (Fs (Ft (Sz hcx [] [4] [9, 0, 1, 7, 8] [] (Zr (Rv hcx (congrArg AV.int (show (-1) = (Cn.idxF (fun x => Cn.litV a x) s) from (by exact (Cn.idxF_no (p := (fun x => Cn.litV a x)) (Cn.all_mem (d := 0) (fun j hj => hok j (by omega)))).symm))) [] rfl)))))))
 ·
  cases hσ
def cx_ctHolds : Cx := ⟨tyCnf, [(92, (coeF [.ld (.ints []), .id] ixHolds_σ))], false⟩
theorem cx_ctHolds_ok : CxOk Tryz.prog cx_ctHolds := cx_ok tyCnf_ok ⟨(ixHolds_sound.coe [.ld (.ints []), .id] rfl), trivial⟩
def ctHolds_σ : CtF
  | [.im (.ls (.ints s)), .clo 64 [.pto [.ls (.bools a)]]], [] => some (s.length ≤ maxLen ∧ a.length ≤ maxLen, .bool (s.any (fun x => Cn.litV a x)), [])
  | _, _ => none
theorem ctHolds_sound : Sound Tryz.prog 61 ctHolds_σ := by
 refine Sw (cx := cx_ctHolds) Tryz.f61 Tryz.func61 ?_
 intro wW wO wβ G0 args os p r outs hσ hp
 have hcx := cx_ctHolds_ok
 unfold ctHolds_σ at hσ
 split at hσ
 ·
  rename_i s a
  cases hσ
  refine ⟨by kernel_rfl, ?_⟩
  refine Sz hcx [] [] [] [] (Sq hcx [] [4] [0, 1] [] [(s.length ≤ maxLen ∧ a.length ≤ maxLen)] ?_ (Zr (Rv hcx (congrArg AV.bool (show (decide ((Cn.idxF (fun x => Cn.litV a x) s) ≥ 0)) = (s.any (fun x => Cn.litV a x)) from (by exact Cn.idxF_any (p := (fun x => Cn.litV a x)) s))) [] rfl)))
  ·
   refine ap ?_ az
   first | exact hp | (intro h; exact h) | omega
 ·
  cases hσ
def cx_cCheck1 : Cx := ⟨tyCnf, [(63, cMay_σ)], false⟩
theorem cx_cCheck1_ok : CxOk Tryz.prog cx_cCheck1 := cx_ok tyCnf_ok ⟨cMay_sound, trivial⟩
def cCheck1_σ : CtF
  | [.im (.val (.int .i64 x)), .pto [.val (.int .i64 N), .ls (.intss L)]], [] => some (0 ≤ N ∧ N ≤ 65536, .bool (!(Cn.mayP x N)), [])
  | _, _ => none
theorem cCheck1_sound : Sound Tryz.prog 62 cCheck1_σ := by
 refine Sw (cx := cx_cCheck1) Tryz.f62 Tryz.func62 ?_
 intro wW wO wβ G0 args os p r outs hσ hp
 have hcx := cx_cCheck1_ok
 unfold cCheck1_σ at hσ
 split at hσ
 ·
  rename_i x N L
  cases hσ
  refine ⟨by kernel_rfl, ?_⟩
  exact Sz hcx [] [] [] [] (Sq hcx [] [3] [0, 1] [] [(0 ≤ N ∧ N ≤ 65536)] (ap (by exact hp) az) (Zr (Ru hcx [])))
 ·
  cases hσ
def cx_ixCheck : Cx := ⟨tyCnf, [(62, cCheck1_σ)], false⟩
theorem cx_ixCheck_ok : CxOk Tryz.prog cx_ixCheck := cx_ok tyCnf_ok ⟨cCheck1_sound, trivial⟩
def ixCheck_σ : CtF
  | [.im (.ls (.ints s)), .clo 62 [.pto [.val (.int .i64 N), .ls (.intss L)]]], [] => some (s.length ≤ maxLen ∧ 0 ≤ N ∧ N ≤ 65536, .int (Cn.idxF (fun x => !(Cn.mayP x N)) s), [])
  | _, _ => none
theorem ixCheck_sound : Sound Tryz.prog 92 ixCheck_σ := by
 refine Sw (cx := cx_ixCheck) Tryz.f92 Tryz.func92 ?_
 intro wW wO wβ G0 args os p r outs hσ hp
 have hcx := cx_ixCheck_ok
 unfold ixCheck_σ at hσ
 split at hσ
 ·
  rename_i s N L
  cases hσ
  refine ⟨by kernel_rfl, ?_⟩
  obtain ⟨hm1, hpr⟩ := hp
  unfold maxLen at hm1
  refine Sz hcx [] [] [] [] (Zs (Sz hcx [] [7, 8] [] [] (Zb (Lp (X := Nat) (fun x0 => x0 ≤ s.length ∧ ∀ j, j < x0 → (!(Cn.mayP (s.getD j 0) N)) = false) (fun x0 => ([(0, .ints s), (1, .clo 62 [.pto [.int N, .ls (.intss L)]]), (7, .int (s.length : Int)), (8, .int (x0 : Int))], [])) (fun x0 => s.length - x0) (0) ?_ (Ex 8 (congrArg AV.int (show 0 = (0 : Int) from (by first | rfl | omega | (simp; done)))) Eb) Hb fun k hI => ?_))))
  ·
   exact ⟨Nat.zero_le _, fun j hj => by omega⟩
  ·
   try dsimp only at hI
   obtain ⟨hk, hok⟩ := hI
   refine Sz hcx [] [9] [] [] (Zs (Zj (p := ((k : Int) < (s.length : Int))) (fun h0 => ?_) fun h0 => ?_))
   ·
    refine Zk (Ft (Zs (Zb (Sz hcx [] [5] [9] [] (Sq hcx [] [16] [] [] [((0 : Int) ≤ (k : Int) ∧ (k : Int) < (s.length : Int)), (0 ≤ N ∧ N ≤ 65536)] ?_ (Zi (b := !(Cn.mayP (s.getD k 0) N)) (fun h1 => ?_) fun h1 => ?_))))))
    ·
     refine ap ?_ (ap ?_ az) <;>
      first | omega | exact id | exact vcNot | exact vcG | exact vcH | (intro _; omega) | exact (fun _ h => h) | (intro h; simp at h; omega) | (simp only [List.length_cons, List.length_nil, List.length_append, List.length_map, List.length_set, List.length_replicate]; omega) | (intro h; simp [h]; done) | exact hpr | trivial
    ·
     have hq := h1
     exact Sz hcx [] [4] [16, 5, 0, 1, 7, 8] [] (Zr (Fk (Fr (Fr (Fk (Fr (Rv hcx (congrArg AV.int (show (k : Int) = (Cn.idxF (fun x => !(Cn.mayP x N)) s) from (by exact (Cn.idxF_yes (p := (fun x => !(Cn.mayP x N))) (by omega) hok hq).symm))) [] rfl)))))))
    ·
     have hq := h1
     refine Zk (Fb (Ft (Tq hcx [] [8] [16, 5] [] [Fit ((k : Int) + 1)] ?_ (Lr (k + 1) ?_ ?_ (Ex 8 (congrArg AV.int (show ((k : Int) + 1) = ((k + 1) : Int) from (by first | rfl | omega | (simp; done)))) Eb) Hb))))
     ·
      refine ap ?_ az
      first | omega | exact id | exact vcNot | exact vcG | exact vcH | (intro _; omega) | exact (fun _ h => h) | (intro h; simp at h; omega) | (simp only [List.length_cons, List.length_nil, List.length_append, List.length_map, List.length_set, List.length_replicate]; omega) | (intro h; simp [h]; done) | exact hpr | trivial
     ·
      exact ⟨by omega, Cn.falseSucc hok hq⟩
     ·
      show s.length - (k + 1) < s.length - k
      omega
   ·
    exact Ze (Fe (Fe (Fs (Ft (Sz hcx [] [4] [9, 0, 1, 7, 8] [] (Zr (Rv hcx (congrArg AV.int (show (-1) = (Cn.idxF (fun x => !(Cn.mayP x N)) s) from (by exact (Cn.idxF_no (p := (fun x => !(Cn.mayP x N))) (Cn.all_mem (d := 0) (fun j hj => hok j (by omega)))).symm))) [] rfl)))))))
 ·
  cases hσ
def cx_ctCheck : Cx := ⟨tyCnf, [(92, (orF (coeF [.ld (.ints []), .id] ixHolds_σ) (coeF [.ld (.ints []), .id] ixCheck_σ)))], false⟩
theorem cx_ctCheck_ok : CxOk Tryz.prog cx_ctCheck := cx_ok tyCnf_ok ⟨((ixHolds_sound.coe [.ld (.ints []), .id] rfl).or (ixCheck_sound.coe [.ld (.ints []), .id] rfl)), trivial⟩
def ctCheck_σ : CtF
  | [.im (.ls (.ints s)), .clo 62 [.pto [.val (.int .i64 N), .ls (.intss L)]]], [] => some (s.length ≤ maxLen ∧ 0 ≤ N ∧ N ≤ 65536, .bool (s.any (fun x => !(Cn.mayP x N))), [])
  | _, _ => none
theorem ctCheck_sound : Sound Tryz.prog 61 ctCheck_σ := by
 refine Sw (cx := cx_ctCheck) Tryz.f61 Tryz.func61 ?_
 intro wW wO wβ G0 args os p r outs hσ hp
 have hcx := cx_ctCheck_ok
 unfold ctCheck_σ at hσ
 split at hσ
 ·
  rename_i s N L
  cases hσ
  refine ⟨by kernel_rfl, ?_⟩
  refine Sz hcx [] [] [] [] (Sq hcx [] [4] [0, 1] [] [(s.length ≤ maxLen ∧ 0 ≤ N ∧ N ≤ 65536)] ?_ (Zr (Rv hcx (congrArg AV.bool (show (decide ((Cn.idxF (fun x => !(Cn.mayP x N)) s) ≥ 0)) = (s.any (fun x => !(Cn.mayP x N))) from (by exact Cn.idxF_any (p := (fun x => !(Cn.mayP x N))) s))) [] rfl)))
  ·
   refine ap ?_ az
   first | exact hp | (intro h; exact h) | omega
 ·
  cases hσ
def cx_cCheck : Cx := ⟨tyCnf, [(61, (orF (coeF [.ld (.ints []), .id] ctHolds_σ) (coeF [.ld (.ints []), .id] ctCheck_σ)))], false⟩
theorem cx_cCheck_ok : CxOk Tryz.prog cx_cCheck := cx_ok tyCnf_ok ⟨((ctHolds_sound.coe [.ld (.ints []), .id] rfl).or (ctCheck_sound.coe [.ld (.ints []), .id] rfl)), trivial⟩
def cCheck_σ : CtF
  | [.agg [.im (.val (.int .i64 N)), .im (.ls (.intss L))]], [] => some (L.length ≤ maxLen ∧ ∀ l ∈ L, l.length ≤ maxLen, .int (Cn.chkV N L), [])
  | _, _ => none
theorem cCheck_sound : Sound Tryz.prog 27 cCheck_σ := by
 refine Sw (cx := cx_cCheck) Tryz.f27 Tryz.func27 ?_
 intro wW wO wβ G0 args os p r outs hσ hp
 have hcx := cx_cCheck_ok
 unfold cCheck_σ at hσ
 split at hσ
 ·
  rename_i N L
  cases hσ
  refine ⟨by kernel_rfl, ?_⟩
  obtain ⟨hm1, hm2⟩ := hp
  unfold maxLen at hm1
  refine Sz hcx [(1000, .frz)] [1] [0] [] (Zs (Sq hcx [] [12] [] [] [((!(decide (N < 0))) = true → ((!(decide (N < 0))) = true)), ((!(decide (N < 0))) = true → ((!(decide (N < 0))) = true)), ((decide (N < 0)) = false → (!(decide (N < 0))) = true)] ?_ (Zi (b := (decide (N < 0)) || (decide (N > 65536))) (fun h0 => ?_) fun h0 => ?_)))
  ·
   refine ap ?_ (ap ?_ (ap (by exact vcNot) az)) <;>
    first | omega | exact id | exact vcNot | exact vcG | exact vcH | (intro _; omega) | exact (fun _ h => h) | (intro h; simp at h; omega) | (simp only [List.length_cons, List.length_nil, List.length_append, List.length_map, List.length_set, List.length_replicate]; omega) | (intro h; simp [h]; done) | exact ⟨hm2 _ (Cn.getD_memL (by omega)), by omega, by omega⟩
  ·
   try simp only [Bool.or_eq_true, Bool.or_eq_false_iff, Bool.and_eq_true, Bool.and_eq_false_iff, Bool.not_eq_true', Bool.not_eq_false', decide_eq_true_eq, decide_eq_false_iff_not, bne_iff_ne, bne_eq_false_iff_eq, beq_iff_eq, beq_eq_false_iff_ne] at h0
   exact Sz hcx [] [2] [12, 1] [] (Zr (Fr (Rv hcx (congrArg AV.int (show 1 = (Cn.chkV N L) from (by exact (Cn.chk_arg (by omega)).symm))) [] rfl)))
  ·
   try simp only [Bool.or_eq_true, Bool.or_eq_false_iff, Bool.and_eq_true, Bool.and_eq_false_iff, Bool.not_eq_true', Bool.not_eq_false', decide_eq_true_eq, decide_eq_false_iff_not, bne_iff_ne, bne_eq_false_iff_eq, beq_iff_eq, beq_eq_false_iff_ne] at h0
   have hN : ¬ (N < 0 ∨ 65536 < N) := by omega
   refine Zk (Ft (Zs (Sz hcx [] [14, 15, 16] [12] [] (Zb (Lp (X := Nat) (fun x0 => x0 ≤ L.length ∧ ∀ j, j < x0 → Cn.badL N (L.getD j []) = false) (fun x0 => ([(1, .pto [.int N, .ls (.intss L)]), (14, .intss L), (15, .int (L.length : Int)), (16, .int (x0 : Int))], [])) (fun x0 => L.length - x0) (0) ?_ (Ex 16 (congrArg AV.int (show 0 = (0 : Int) from (by first | rfl | omega | (simp; done)))) Eb) Hb fun k hI => ?_)))))
   ·
    exact ⟨Nat.zero_le _, fun j hj => by omega⟩
   ·
    try dsimp only at hI
    obtain ⟨hk, hok⟩ := hI
    refine Sz hcx [] [17] [] [] (Zs (Zj (p := ((k : Int) < (L.length : Int))) (fun h1 => ?_) fun h1 => ?_))
    ·
     refine Zk (Ft (Zs (Zb (Sq hcx [] [4] [17] [] [((0 : Int) ≤ (k : Int) ∧ (k : Int) < (L.length : Int))] ?_ (Sq hcx [] [22] [4] [] [((L.getD k []).length ≤ maxLen ∧ 0 ≤ N ∧ N ≤ 65536)] ?_ (Zi (b := (L.getD k []).any (fun x => !(Cn.mayP x N))) (fun h2 => ?_) fun h2 => ?_))))))
     ·
      refine ap ?_ az
      first | omega | exact id | exact vcNot | exact vcG | exact vcH | (intro _; omega) | exact (fun _ h => h) | (intro h; simp at h; omega) | (simp only [List.length_cons, List.length_nil, List.length_append, List.length_map, List.length_set, List.length_replicate]; omega) | (intro h; simp [h]; done) | exact ⟨hm2 _ (Cn.getD_memL (by omega)), by omega, by omega⟩
     ·
      refine ap ?_ az
      first | omega | exact id | exact vcNot | exact vcG | exact vcH | (intro _; omega) | exact (fun _ h => h) | (intro h; simp at h; omega) | (simp only [List.length_cons, List.length_nil, List.length_append, List.length_map, List.length_set, List.length_replicate]; omega) | (intro h; simp [h]; done) | exact ⟨hm2 _ (Cn.getD_memL (by omega)), by omega, by omega⟩
     ·
      have hq := h2
      exact Sz hcx [] [2] [22, 1, 14, 15, 16] [] (Zr (Fk (Fr (Fr (Fk (Fr (Rv hcx (congrArg AV.int (show 1 = (Cn.chkV N L) from (by exact (Cn.chk_bad hN (by omega) hq).symm))) [] rfl)))))))
     ·
      have hq := h2
      refine Zk (Fb (Ft (Tq hcx [] [16] [22] [] [Fit ((k : Int) + 1)] ?_ (Lr (k + 1) ?_ ?_ (Ex 16 (congrArg AV.int (show ((k : Int) + 1) = ((k + 1) : Int) from (by first | rfl | omega | (simp; done)))) Eb) Hb))))
      ·
       refine ap ?_ az
       first | omega | exact id | exact vcNot | exact vcG | exact vcH | (intro _; omega) | exact (fun _ h => h) | (intro h; simp at h; omega) | (simp only [List.length_cons, List.length_nil, List.length_append, List.length_map, List.length_set, List.length_replicate]; omega) | (intro h; simp [h]; done) | exact ⟨hm2 _ (Cn.getD_memL (by omega)), by omega, by omega⟩
      ·
       exact ⟨by omega, Cn.falseSucc hok hq⟩
      ·
       show L.length - (k + 1) < L.length - k
       omega
    ·
     refine Ze (Fe (Fe (Fs (Ft (Zs (Sz hcx [] [27] [17, 1, 14, 15, 16] [] (Zj (p := ((L.length : Int) > 65536)) (fun h3 => ?_) fun h3 => ?_)))))))
     ·
      have hc := Cn.chk_ok hN (fun j hj => hok j (by omega))
      exact Sz hcx [] [2] [27] [] (Zr (Fr (Rv hcx (congrArg AV.int (show 2 = (Cn.chkV N L) from (by rw [hc, if_pos (by omega)]))) [] rfl)))
     ·
      have hc := Cn.chk_ok hN (fun j hj => hok j (by omega))
      exact Zk (Ft (Sz hcx [] [2] [27] [] (Zr (Rv hcx (congrArg AV.int (show 0 = (Cn.chkV N L) from (by rw [hc, if_neg (by omega)]))) [] rfl))))
 ·
  cases hσ
def cx_sIndex : Cx := ⟨tyCnf, [], false⟩
theorem cx_sIndex_ok : CxOk Tryz.prog cx_sIndex := cx_ok tyCnf_ok trivial
def sIndex_σ : CtF
  | [.im (.ls (.ints s)), .im (.val (.int .i64 v))], [] => some (s.length ≤ maxLen, .int (Cn.idxF (fun x => v == x) s), [])
  | _, _ => none
theorem sIndex_sound : Sound Tryz.prog 78 sIndex_σ := by
 refine Sw (cx := cx_sIndex) Tryz.f78 Tryz.func78 ?_
 intro wW wO wβ G0 args os p r outs hσ hp
 have hcx := cx_sIndex_ok
 unfold sIndex_σ at hσ
 split at hσ
 ·
  rename_i s v
  cases hσ
  refine ⟨by kernel_rfl, ?_⟩
  have hm1 := hp
  unfold maxLen at hm1
  refine Sz hcx [] [] [] [] (Zs (Sz hcx [] [7, 8] [] [] (Zb (Lp (X := Nat) (fun x0 => x0 ≤ s.length ∧ ∀ j, j < x0 → ((v == (s.getD j 0))) = false) (fun x0 => ([(0, .ints s), (1, .int v), (7, .int (s.length : Int)), (8, .int (x0 : Int))], [])) (fun x0 => s.length - x0) (0) ?_ (Ex 8 (congrArg AV.int (show 0 = (0 : Int) from (by first | rfl | omega | (simp; done)))) Eb) Hb fun k hI => ?_))))
  ·
   exact ⟨Nat.zero_le _, fun j hj => by omega⟩
  ·
   try dsimp only at hI
   obtain ⟨hk, hok⟩ := hI
   refine Sz hcx [] [9] [] [] (Zs (Zj (p := ((k : Int) < (s.length : Int))) (fun h0 => ?_) fun h0 => ?_))
   ·
    refine Zk (Ft (Zs (Zb (Sz hcx [] [5] [9] [] (Sq hcx [] [16] [] [] [((0 : Int) ≤ (k : Int) ∧ (k : Int) < (s.length : Int))] (ap (by omega) az) (Zi (b := v == (s.getD k 0)) (fun h1 => ?_) fun h1 => ?_))))))
    ·
     have hq := h1
     exact Sz hcx [] [4] [16, 5, 0, 1, 7, 8] [] (Zr (Fk (Fr (Fr (Fk (Fr (Rv hcx (congrArg AV.int (show (k : Int) = (Cn.idxF (fun x => v == x) s) from (by exact (Cn.idxF_yes (p := fun x => v == x) (by omega) hok hq).symm))) [] rfl)))))))
    ·
     have hq := h1
     refine Zk (Fb (Ft (Tq hcx [] [8] [16, 5] [] [Fit ((k : Int) + 1)] (ap (by omega) az) (Lr (k + 1) ?_ ?_ (Ex 8 (congrArg AV.int (show ((k : Int) + 1) = ((k + 1) : Int) from (by first | rfl | omega | (simp; done)))) Eb) Hb))))
     ·
      exact ⟨by omega, Cn.falseSucc hok hq⟩
     ·
      show s.length - (k + 1) < s.length - k
      omega
   ·
    exact Ze (Fe (Fe (Fs (Ft (Sz hcx [] [4] [9, 0, 1, 7, 8] [] (Zr (Rv hcx (congrArg AV.int (show (-1) = (Cn.idxF (fun x => v == x) s) from (by exact (Cn.idxF_no (p := fun x => v == x) (Cn.all_mem (d := 0) (fun j hj => hok j (by omega)))).symm))) [] rfl)))))))
 ·
  cases hσ
def cx_sContains : Cx := ⟨tyCnf, [(78, (coeF [.ld (.ints []), .id] sIndex_σ))], false⟩
theorem cx_sContains_ok : CxOk Tryz.prog cx_sContains := cx_ok tyCnf_ok ⟨(sIndex_sound.coe [.ld (.ints []), .id] rfl), trivial⟩
def sContains_σ : CtF
  | [.im (.ls (.ints s)), .im (.val (.int .i64 v))], [] => some (s.length ≤ maxLen, .bool (s.contains v), [])
  | _, _ => none
theorem sContains_sound : Sound Tryz.prog 44 sContains_σ := by
 refine Sw (cx := cx_sContains) Tryz.f44 Tryz.func44 ?_
 intro wW wO wβ G0 args os p r outs hσ hp
 have hcx := cx_sContains_ok
 unfold sContains_σ at hσ
 split at hσ
 ·
  rename_i s v
  cases hσ
  refine ⟨by kernel_rfl, ?_⟩
  refine Sz hcx [] [] [] [] (Sq hcx [] [4] [0, 1] [] [(s.length ≤ maxLen)] ?_ (Zr (Rv hcx (congrArg AV.bool (show (decide ((Cn.idxF (fun x => v == x) s) ≥ 0)) = (s.contains v) from (by rw [show (decide ((Cn.idxF (fun x => v == x) s) ≥ 0)) = s.any (fun x => v == x) from Cn.idxF_any (p := fun x => v == x) s]; exact List.any_beq))) [] rfl)))
  ·
   refine ap ?_ az
   first | exact hp
 ·
  cases hσ
end Go.Proofs.YtbpbndlgfiammaaGreatDoor.En
namespace Go.Proofs.YtbpbndlgfiammaaGreatDoor.Cn
open Go Go.RowKit En
theorem str_size (a : List Int) : (strOfNums a).size = a.length := by
  show (strOfNums a).data.size = _
  simp [strOfNums]
theorem bytesI_str {a : List Int} (h : isBytes a) : bytesI (strOfNums a) = a := by
  unfold bytesI
  rw [strOfNums_data, List.map_map]
  conv => rhs; rw [← List.map_id a]
  refine List.map_congr_left fun x hx => ?_
  have := h x hx
  show (((UInt8.ofNat x.toNat).toNat : Nat) : Int) = x
  rw [UInt8.toNat_ofNat']
  omega
theorem itoa_bytes (n : Int) : isBytes (itoaI n) := fun x hx => by rcases itoa_mem x hx with h | h <;> omega
section
variable {b : List Int} {i : Nat}
end
end Go.Proofs.YtbpbndlgfiammaaGreatDoor.Cn
namespace Go.Proofs.YtbpbndlgfiammaaGreatDoor.Cn
open Go Go.RowKit En
theorem getD_memS {l : List ByteArray} {i : Nat} {d : ByteArray} (h : i < l.length) : l.getD i d ∈ l := by rw [List.getD_eq_getElem?_getD, List.getElem?_eq_getElem h]; exact List.getElem_mem _
end Go.Proofs.YtbpbndlgfiammaaGreatDoor.Cn
namespace Go.Proofs.YtbpbndlgfiammaaGreatDoor.Cn
open Go Go.RowKit En
variable {W : List (List Int)}
section
variable {Z : List Int} {i : Nat}
end
end Go.Proofs.YtbpbndlgfiammaaGreatDoor.Cn
namespace Go.Proofs.YtbpbndlgfiammaaGreatDoor.En
open Go
end Go.Proofs.YtbpbndlgfiammaaGreatDoor.En
namespace Go.Proofs.YtbpbndlgfiammaaGreatDoor.En
open Go Go.RowKit
theorem info_int : (Tryz.prog.info? 3).map (fun i => (i.zero, i.size, i.bytes)) = some (some (.int .i64 0), 1, 8) := by kernel_rfl
theorem info_of {ty sz by_ : Nat} {z : Value} (h : (Tryz.prog.info? ty).map (fun i => (i.zero, i.size, i.bytes)) = some (some z, sz, by_)) : ∃ i, Tryz.prog.info? ty = some i ∧ i.zero = some z ∧ i.size = sz ∧ i.bytes = by_ := by
  cases h' : Tryz.prog.info? ty with
  | none => rw [h'] at h; cases h
  | some i => rw [h'] at h; injection h with h; injection h with h1 h2; injection h2 with h2 h3; exact ⟨i, rfl, h1, h2, h3⟩
def NewRow (e : Nat) (w : World) (us : List Value) (en : Ending) (w' : World) : Prop :=
  ∃ A cap, en = .returned (.slice A us.length cap) ∧ Own w' e (.slice A us.length cap) us ∧ Below w.heap.size w w' ∧ ∀ g, (Value.slice A us.length cap).ownBlock = some g → w.heap.size ≤ g
set_option maxHeartbeats 400000 in
theorem clone_nil (c : Nat) (w : World) : Calls Tryz.prog 71 #[.slice none 0 c] w fun e w' => NewRow 3 w [] e w' := by
  have hnil := Lib.run_eql_slice_nil (P := Tryz.prog)
  go_enter Tryz.func71, Tryz.ntmps71
  go_wp2
  go_ret
  exact ⟨none, 0, rfl, Own.nil _ _, Below.refl _ _, fun g h => by simp [Value.ownBlock] at h⟩
set_option maxHeartbeats 400000 in
theorem clone_some (ad : Addr) (c : Nat) (us : List Value) (n : Nat) (hn : us.length = n) (w : World) (h : ∀ j u, us[j]? = some u → w.cell? (ad.add j) = some u) (h1 : ∀ u ∈ us, u.oneCell' = true) (hl : n ≤ 1000000000000) :
    Calls Tryz.prog 71 #[.slice (some ad) n c] w fun e w' => NewRow 3 w us e w' := by
  obtain ⟨i0, hi, hz0, hz1, hz2⟩ := info_of info_int
  have hnil := Lib.run_eql_slice_nil (P := Tryz.prog)
  have HI := Lib.hid (And.intro hi (And.intro hz0 (And.intro hz1 hz2)))
  have hcells : SrcAt (w.alloc (.cells #[] 3)) (some ad) us := .inr ⟨ad, rfl, fun j u hu => by
    have h2 := h j u hu
    rw [World.cell?_alloc_lt w _ _ (World.block_lt_of_cell? w _ h2)]
    exact h2⟩
  have HC := Lib.hid hcells
  have HN := Lib.hid hn
  have H1 := Lib.hid h1
  clear hi hz0 hz1 hz2 h hcells hn h1
  go_enter Tryz.func71, Tryz.ntmps71
  go_wp2_with (at_builtin; refine wpList_appendR _ rfl (.tmp 5) (.tmp 6) 23 rfl 3 i0 (.int .i64 0) 8 Tryz.underlying23 HI.out.1 HI.out.2.1 HI.out.2.2.1 HI.out.2.2.2 rfl _ [] 0 rfl rfl (Own.empty w _) (some ad) c us n HN.out rfl HC.out H1.out (by unfold maxLen; omega) (by omega) ?_)
  intro A cap w1 h1 h2 h3
  have H1 := Lib.hid h1
  have H2 := Lib.hid h2
  have H3 := Lib.hid h3
  clear h1 h2 h3
  go_wp2
  go_ret
  have HN' := HN.out
  subst HN'
  refine ⟨A, cap, rfl, H1.out, ?_, ?_⟩
  · exact (((Kp.refl (fun _ => False) w).alloc _).grown H2.out (fun g e hg => by simp [Value.ownBlock] at e; omega)).none_below
  · intro g hg
    rcases H3.out g hg with e | e
    · simp [Value.ownBlock] at e; omega
    · omega
theorem rep_src {W : World} {G : Nat → Prop} {l : LD} {v : Value} (hf : isFlat1 l = true) (h : Rep W G (.ls l) v) : ∃ A c, v = .slice A l.len c ∧ (A = none → l.len = 0) ∧ ∀ ad, A = some ad → ∀ j u, (encL l)[j]? = some u → W.cell? (ad.add j) = some u := by
  obtain ⟨hn, hst⟩ := encL_len hf
  rcases h.cases_ls with ⟨h0, A, c, rfl⟩ | ⟨b, off, c, u, rfl, h1, h2, h3, h4, h5⟩
  · refine ⟨A, c, by rw [h0], fun _ => h0, fun ad _ j u hj => ?_⟩
    have := (List.getElem?_eq_some_iff.1 hj).1
    omega
  · refine ⟨some ⟨b, off, none⟩, c, rfl, (fun h => by cases h), fun ad had j y hj => ?_⟩
    injection had with had
    subst had
    obtain ⟨hj1, hj2⟩ := List.getElem?_eq_some_iff.1 hj
    rw [hn] at hj1
    have hc := h4 j 0 hj1 (by omega)
    have he : (List.range l.len).map (fun i => u i 0) = encL l := encL_of (W := W) (G := G) hf (by simp) (fun i hi => by
      have := h5 i 0 hi (by omega)
      simpa [List.getD, hi] using this)
    rw [add_mk, ← hj2]
    rw [hst] at hc
    simp only [Nat.mul_one, Nat.add_zero] at hc
    rw [hc]
    simp [← he]
theorem flat_one {l : LD} (hf : isFlat1 l = true) : ∀ u ∈ encL l, u.oneCell' = true := by
  intro u hu
  cases l <;> simp [isFlat1] at hf <;> (simp only [encL, List.mem_map] at hu; obtain ⟨x, _, rfl⟩ := hu; rfl)
def sClone : CtF := fun args os => match args, os with
  | [.im (.ls (.ints xs))], [] => some (xs.length ≤ 1000000000000, .row 0, [some (.row 3 (.ints xs))])
  | _, _ => none
theorem sClone_sound : Sound Tryz.prog 71 sClone := by
  refine sound_new (e := 3) (run_enters Tryz.func71 (by kernel_rfl) rfl) fun args os p r outs h => ?_
  unfold sClone at h
  split at h
  · rename_i xs
    injection h with h
    injection h with h1 h
    injection h with h2 h3
    subst h1 h2 h3
    refine ⟨.ints xs, rfl, rfl, rfl, rfl, fun hp => ⟨by show xs.length ≤ maxLen; unfold maxLen; omega, fun W G vs hG _ hd => ?_⟩⟩
    simp only [DenL] at hd
    obtain ⟨v, vs', rfl, hd0, hd1⟩ := hd
    subst hd1
    have hr : Rep W G (.ls (.ints xs)) v := hd0
    obtain ⟨A, c, rfl, hA, hs⟩ := rep_src (l := .ints xs) rfl hr
    have hn := (encL_len (l := .ints xs) rfl).1
    have fin : ∀ us, us = encL (.ints xs) → ∀ e' W', NewRow 3 W us e' W' → ∃ v', e' = .returned v' ∧ Own W' 3 v' (encL (.ints xs)) ∧ Below W.heap.size W W' ∧ ∀ b, v'.ownBlock = some b → W.heap.size ≤ b := by
      rintro us rfl e' W' ⟨A', cap, rfl, h1, h2, h3⟩
      exact ⟨_, rfl, h1, h2, h3⟩
    cases A with
    | none =>
      have h0 : xs = [] := List.eq_nil_of_length_eq_zero (hA rfl)
      subst h0
      exact (clone_nil c W).mono (fin [] rfl)
    | some ad => exact (clone_some ad c _ xs.length hn W (hs ad rfl) (flat_one rfl) hp).mono (fin _ rfl)
  · cases h
end Go.Proofs.YtbpbndlgfiammaaGreatDoor.En
namespace Go.Proofs.YtbpbndlgfiammaaGreatDoor
open Go Go.RowKit Go.Sort Go.Shelf
open Cn (ahd sortL)
theorem one_i64 : OneCell I64 := fun _ => rfl
def PredIn (f : Nat) (lb : List Value) (p : Int → Bool) (G : Nat → Prop) (w : World) : Prop :=
  ∀ (W : World) (x : Int), (∀ b, G b → W.heap[b]? = w.heap[b]?) → Calls Tryz.prog f (I64 x :: lb).toArray W fun e w' => e = .returned (.bool (p x)) ∧ W = w'
theorem ifnone_x (A : Option Addr) (c : Nat) (fv : Value) (w : World) : Calls Tryz.prog 92 #[.slice A 0 c, fv] w fun e w' => e = .returned (I64 (-1)) ∧ w = w' := by
  go_enter Tryz.func92, Tryz.ntmps92
  go_wp2_with fail
  refine wp_loop_rounds 1 ?_
  rw [rounds_succ]
  go_wp2_with fail
  go_ret
  exact ⟨rfl, rfl⟩
theorem delnone_x (A : Option Addr) (c : Nat) (fv : Value) (w : World) : Calls Tryz.prog 70 #[.slice A 0 c, fv] w fun e w' => e = .returned (.slice A 0 c) ∧ w = w' := by
  go_enter Tryz.func70, Tryz.ntmps70
  go_wp2_with fail
  refine (ifnone_x A c fv w).mono ?_
  rintro e w1 ⟨rfl, rfl⟩
  go_wp2_with fail
  go_ret
  exact ⟨rfl, rfl⟩
theorem del_own {f : Nat} {lb : List Value} {p : Int → Bool} {G : Nat → Prop} {v : Value} {xs : List Int} {w : World} (heg : ∀ (args : Array Value) (w : World), (callFunc f args).run Tryz.prog w = .ok (.enter f args) w)
    (hG : ∀ b, G b → b < w.heap.size) (hv : ∀ b, v.ownBlock = some b → ¬ G b) (hp : PredIn f lb p G w) (ho : Own w 3 v (xs.map I64)) (hl : xs.length ≤ maxLen) :
    Calls Tryz.prog 70 #[v, .func (.func f) #[] lb.toArray] w fun e w' => ∃ v', e = .returned v' ∧ Turned 3 w v ((xs.filter fun x => !p x).map I64) w' v' := by
  obtain ⟨A, cap, hform, _⟩ := ho.form
  rw [List.length_map] at hform
  subst hform
  by_cases h0 : xs.length = 0
  · obtain rfl := List.eq_nil_of_length_eq_zero h0
    refine (delnone_x A cap _ w).mono ?_
    rintro e w' ⟨rfl, rfl⟩
    exact ⟨_, rfl, ho, grown_refl _ _, fun _ h => h⟩
  · obtain ⟨g, off, rfl⟩ := ho.addr (by omega)
    obtain ⟨cur, h1, h2, h3, h4, _⟩ := ho.cur rfl
    rw [List.length_map] at h2
    have hng : ¬ G g := hv g rfl
    have hcall : ∀ (W : World) (x : Int), (∀ b, G b → W.heap[b]? = w.heap[b]?) → FnGives Tryz.prog f lb.toArray #[I64 x] (.bool (p x)) W := fun W x hW => by
      unfold FnGives
      have e : #[I64 x] ++ lb.toArray = (I64 x :: lb).toArray := by simp
      rw [e]
      refine (hp W x hW).mono ?_
      rintro e w' ⟨rfl, rfl⟩
      exact ⟨rfl, 0, rfl⟩
    have h := AnyE.slices_DeleteFunc Tryz.shDelete I64 one_i64 p f lb.toArray heg 0 (fun w => Tryz.zeroValue3 w) g off cap xs.toArray w
      (fun W x hb => hcall W x fun b hb' => hb.block b (hG b hb')) (fun n os dk x _ => hcall _ x fun b hb' => (sort_kp n dk os).block b (hG b hb') (fun e => hng (e ▸ hb')))
      (own_holds ho) (by simp; unfold maxLen at hl; omega) (by simpa using h2)
    simp only [List.size_toArray, List.toList_toArray] at h
    refine Calls.mono h ?_
    rintro e w' ⟨rfl, q, rfl⟩
    have hfl : (xs.filter fun x => !p x).length ≤ xs.length := List.length_filter_le _ _
    rw [put_sort]
    refine ⟨_, rfl, ?_, kp_grown (sort_kp _ _ _), fun b h => h⟩
    have := sort_own ho q #[] (ys := (xs.filter fun x => !p x) ++ List.replicate (xs.length - (xs.filter fun x => !p x).length) 0) (by simp; omega) (m := (xs.filter fun x => !p x).length) (by simp)
    rw [List.take_left'] at this
    · exact this
    · rfl
abbrev Lit := { x : Int // Cn.mayP x 65536 = true }
instance : Inhabited Lit := ⟨⟨1, by decide⟩⟩
def encLit (x : Lit) : Value := I64 x.1
theorem one_lit : OneCell encLit := fun _ => rfl
theorem cmpL_lt (x y : Int) : decide (cmpL x y < 0) = ahd x y := by
  unfold cmpL cmpI ahd
  rw [decide_eq_decide]
  split <;> rename_i h <;> (repeat' split) <;> first | omega | (constructor <;> intro _ <;> omega) | skip
theorem may_bd {x : Int} (h : Cn.mayP x 65536 = true) : x ≠ 0 ∧ -65536 ≤ x ∧ x ≤ 65536 := by
  simp [Cn.mayP] at h
  omega
theorem swo_lit : SWO (ltOf fun (x y : Lit) => cmpL x.1 y.1) := by
  refine ⟨fun x => ?_, fun x y z => ?_, fun x y z => ?_⟩ <;> simp only [ltOf, cmpL_lt, ahd, decide_eq_true_eq, decide_eq_false_iff_not] <;> omega
theorem sortf_own {v : Value} {xs : List Int} {w : World} (hm : ∀ x ∈ xs, Cn.mayP x 65536 = true) (ho : Own w 3 v (xs.map I64)) (hl : xs.length ≤ 1000000000000) :
    Calls Tryz.prog 95 #[v, .func (.func 96) #[] #[]] w fun e w' => e = .returned (.tuple #[]) ∧ Own w' 3 v ((sortL xs).map I64) ∧ Kp (fun b => v.ownBlock = some b) w w' := by
  obtain ⟨A, cap, hform, _⟩ := ho.form
  rw [List.length_map] at hform
  subst hform
  by_cases h0 : xs.length = 0
  · obtain rfl := List.eq_nil_of_length_eq_zero h0
    refine (AnyF.slices_SortFunc_none (P := Tryz.prog) (ρ := Tryz.shSortF_ren) { Tryz.shSortF with } A cap _ w).mono ?_
    rintro e w' ⟨rfl, rfl⟩
    exact ⟨rfl, by simpa [sortL] using ho, Kp.refl _ _⟩
  · obtain ⟨g, off, rfl⟩ := ho.addr (by omega)
    have hlt : g < w.heap.size := ho.lt rfl
    let ls : List Lit := xs.pmap Subtype.mk hm
    have hls : ls.map (fun x : Lit => x.1) = xs := by simp [ls, List.map_pmap]
    have hle : ls.length = xs.length := by simp [ls]
    have hen : ls.map encLit = xs.map I64 := by rw [← hls, List.map_map]; rfl
    have hol : Own w 3 (.slice (some ⟨g, off, none⟩) xs.length cap) (ls.map encLit) := by rw [hen]; exact ho
    have hcmp : CmpLays1 Tryz.prog 96 #[] encLit (fun (x y : Lit) => cmpL x.1 y.1) g off ls.toArray.size w := fun m os dk _ x y => by
      have hx := may_bd x.2
      have hy := may_bd y.2
      refine (norm2_x x.1 y.1 _ hx.2.1 hx.2.2 hy.2.1 hy.2.2).mono ?_
      rintro e w' ⟨rfl, os', rfl⟩
      exact ⟨rfl, 0, os', rfl⟩
    have h := Any.slices_SortFunc_total Tryz.shSortF encLit one_lit (fun (x y : Lit) => cmpL x.1 y.1) swo_lit 96 #[] g off cap ls.toArray w (En.run_enters Tryz.func96 (by kernel_rfl) rfl) hcmp (own_holds hol) hlt (by simp [hle]; omega)
      (fun x y h1 h2 => by
        simp only [ltOf, cmpL_lt, ahd, decide_eq_false_iff_not] at h1 h2
        exact Subtype.ext (by omega))
    simp only [List.size_toArray, List.toList_toArray, hle] at h
    refine Calls.mono h ?_
    rintro e w' ⟨rfl, n, os, rfl⟩
    refine ⟨rfl, ?_, (sort_kp _ _ _).mono fun k _ h => by subst h; rfl⟩
    have h2 := sort_own hol n os (ys := ls.mergeSort fun x y => !(ltOf fun (x y : Lit) => cmpL x.1 y.1) y x) (by simp) (m := xs.length) (by simp [hle])
    rw [List.take_of_length_le (by simp [hle])] at h2
    have h3 : (ls.mergeSort fun x y => !(ltOf fun (x y : Lit) => cmpL x.1 y.1) y x).map encLit = (sortL xs).map I64 := by
      have := List.map_mergeSort (r := fun x y => !(ltOf fun (x y : Lit) => cmpL x.1 y.1) y x) (s := fun x y => !ahd y x) (f := fun x : Lit => x.1) (l := ls) (fun a _ b _ => by simp only [ltOf, cmpL_lt])
      rw [hls] at this
      unfold sortL
      rw [← this, List.map_map]
      rfl
    rw [h3] at h2
    exact h2
theorem grow_x (n : Nat) (hn : n ≤ 1000000) (w : World) : Calls Tryz.prog 102 #[.slice none 0 0, .int .i64 n] w fun e w' => ∃ A c, e = .returned (.slice A 0 c) ∧ Own w' 3 (.slice A 0 c) [] ∧
    (∀ g, (Value.slice A 0 c).ownBlock = some g → w.heap.size ≤ g) ∧ Below w.heap.size w w' := by
  by_cases h0 : n = 0
  · subst h0
    refine (Any8.slices_Grow_room Tryz.shGrow none 0 0 0 w (by omega) (by omega) (by omega) (by omega)).mono ?_
    rintro e w' ⟨rfl, rfl⟩
    exact ⟨none, 0, rfl, Own.nil _ _, fun g h => (by cases h), Below.refl _ _⟩
  · have hinf : (Tryz.prog.info? 3).map (fun i => (i.zero, i.size, i.bytes)) = some (some (.int .i64 0), 1, 8) := by kernel_rfl
    obtain ⟨i0, hi, hz0, hz1, hz2⟩ := info_parts hinf
    refine (Any8.slices_Grow_grow Tryz.shGrow i0 (.int .i64 0) hi hz0 (by omega) none 0 0 n [] w (by omega) (by omega) (by rw [hz2]; omega) (by omega) (by simp) (fun _ => rfl) (fun a h => by cases h)).mono ?_
    rintro e w' ⟨rfl, rfl⟩
    have hge := grownCap_ge w (0 + n) 0 3
    have hle := grownCap_le_maxLen w (0 + n) 0 3 (by unfold maxLen; omega)
    refine ⟨_, _, rfl, .inr ⟨w.heap.size, 0, _, _, rfl, .mk0 (heap_alloc_new _ _), Nat.zero_le _, hle, ?_, fun j h => by simp at h⟩, fun g h => ?_, ((Below.refl _ w).drew).alloc (Nat.le_refl _) _⟩
    · simp only [Array.size_append, size_zeroCells, List.size_toArray, List.length_nil, Nat.zero_add, Nat.sub_zero] at hge ⊢
      simp [Value.cells]
      omega
    · simp [Value.ownBlock] at h
      omega
end Go.Proofs.YtbpbndlgfiammaaGreatDoor
namespace Go.Proofs.YtbpbndlgfiammaaGreatDoor.En
open Go Go.RowKit
def sDel1 : CtF := fun args os => match args, os with
  | [.row 0, .clo 94 []], [.row 3 (.ints xs)] => some (xs.length ≤ 1000000000000, .row 1, [none, some (.row 3 (.ints (xs.filter fun x => Cn.mayP x 65536)))])
  | _, _ => none
def sDel2 : CtF := fun args os => match args, os with
  | [.row 0, .clo 72 [.pto [.val (.int .i64 y)]]], [.row 3 (.ints xs)] => some (xs.length ≤ 1000000000000, .row 1, [none, some (.row 3 (.ints (xs.filter fun x => !(x == y))))])
  | _, _ => none
def sSortF : CtF := fun args os => match args, os with
  | [.row 0, .clo 96 []], [.row 3 (.ints xs)] => some (xs.length ≤ 1000000000000 ∧ ∀ x ∈ xs, Cn.mayP x 65536 = true, .tup [], [some (.row 3 (.ints (Cn.sortL xs)))])
  | _, _ => none
def sGrow : CtF := fun args os => match args, os with
  | [.im (.val (.slice .none 0 0)), .im (.val (.int .i64 n))], [] => some (0 ≤ n ∧ n ≤ 1000000, .row 0, [some (.row 3 (.ints []))])
  | _, _ => none
theorem denL_val2 {g : Gh} {a b : Value} {vs : List Value} (h : DenL g [.im (.val a), .im (.val b)] vs) : vs = [a, b] := by
  simp only [DenL] at h
  obtain ⟨v, vs', rfl, h1, u, us, rfl, h2, rfl⟩ := h
  rw [den_val h1, den_val h2]
theorem sDel1_sound : Sound Tryz.prog 70 sDel1 := by
  refine sound_row (e := 3) (run_enters Tryz.func70 (by kernel_rfl) rfl) fun args os p r outs h => ?_
  unfold sDel1 at h
  split at h
  · rename_i xs
    injection h with h
    injection h with h1 h
    injection h with h2 h3
    subst h1 h2 h3
    refine ⟨_, .ints xs, _, rfl, rfl, rfl, rfl, rfl, rfl, rfl, fun hp => ⟨?_, fun W G v vs hG hn _ ho hl hd => ?_⟩⟩
    · have := List.length_filter_le (fun x => Cn.mayP x 65536) xs
      show (xs.filter _).length ≤ maxLen
      unfold maxLen; omega
    · simp only [DenL, Den] at hd
      obtain ⟨v1, vs', rfl, ⟨lb, rfl, rfl⟩, rfl⟩ := hd
      have := del_own (f := 94) (lb := []) (p := fun x => !Cn.mayP x 65536) (G := G) (v := v) (xs := xs) (w := W) (run_enters Tryz.func94 (by kernel_rfl) rfl) hG hn (fun W x _ => norm1_x x W) ho hl
      refine this.mono fun e' W' h => turned_out ?_
      simp only [Bool.not_not] at h
      exact h
  · cases h
theorem sDel2_sound : Sound Tryz.prog 70 sDel2 := by
  refine sound_row (e := 3) (run_enters Tryz.func70 (by kernel_rfl) rfl) fun args os p r outs h => ?_
  unfold sDel2 at h
  split at h
  · rename_i y xs
    injection h with h
    injection h with h1 h
    injection h with h2 h3
    subst h1 h2 h3
    refine ⟨_, .ints xs, _, rfl, rfl, rfl, rfl, rfl, rfl, rfl, fun hp => ⟨?_, fun W G v vs hG hn _ ho hl hd => ?_⟩⟩
    · have := List.length_filter_le (fun x => !(x == y)) xs
      show (xs.filter _).length ≤ maxLen
      unfold maxLen; omega
    · simp only [DenL, Den] at hd
      obtain ⟨v1, vs', rfl, ⟨lb, rfl, u, lb', rfl, ⟨b, off, rfl, hb, hc⟩, rfl⟩, rfl⟩ := hd
      obtain ⟨u, hcu, hru⟩ := hc 0 (.val (.int .i64 y)) rfl
      have hu : u = I64 y := den_val (g := g0 W G) (by simp only [Den]; exact hru)
      subst hu
      have := del_own (f := 72) (lb := [.pointer (some ⟨b, off, none⟩)]) (p := fun x => x == y) (G := G) (v := v) (xs := xs) (w := W) (run_enters Tryz.func72 (by kernel_rfl) rfl) hG hn
        (fun W1 x hW => res11_x b off y x W1 ((World.cell?_of_block (a := ⟨b, off, none⟩) (hW b hb)).trans hcu)) ho hl
      exact this.mono fun e' W' h => turned_out h
  · cases h
theorem sSortF_sound : Sound Tryz.prog 95 sSortF := by
  refine sound_inrow (e := 3) (run_enters Tryz.func95 (by kernel_rfl) rfl) fun args os p r outs h => ?_
  unfold sSortF at h
  split at h
  · rename_i xs
    injection h with h
    injection h with h1 h
    injection h with h2 h3
    subst h1 h2 h3
    refine ⟨_, .ints xs, _, _, rfl, rfl, rfl, rfl, rfl, rfl, rfl, rfl, fun hp => ⟨?_, ?_, fun W G v vs hG hn _ ho hl hd => ?_⟩⟩
    · show (Cn.sortL xs).length ≤ maxLen
      simp only [Cn.sortL, List.length_mergeSort]
      unfold maxLen; omega
    · show (Cn.sortL xs).length = xs.length
      simp only [Cn.sortL, List.length_mergeSort]
    · simp only [DenL, Den] at hd
      obtain ⟨v1, vs', rfl, ⟨lb, rfl, rfl⟩, rfl⟩ := hd
      exact sortf_own hp.2 ho hp.1
  · cases h
theorem sGrow_sound : Sound Tryz.prog 102 sGrow := by
  refine sound_new (e := 3) (run_enters Tryz.func102 (by kernel_rfl) rfl) fun args os p r outs h => ?_
  unfold sGrow at h
  split at h
  · rename_i n
    injection h with h
    injection h with h1 h
    injection h with h2 h3
    subst h1 h2 h3
    refine ⟨_, rfl, rfl, rfl, rfl, fun hp => ⟨by decide, fun W G vs hG _ hd => ?_⟩⟩
    have hv := denL_val2 hd
    obtain ⟨k, rfl⟩ := Int.eq_ofNat_of_zero_le hp.1
    subst hv
    refine (grow_x k (by omega) W).mono ?_
    rintro e' W' ⟨A, c, rfl, h1, h2, h3⟩
    exact ⟨_, rfl, h1, h3, h2⟩
  · cases h
end Go.Proofs.YtbpbndlgfiammaaGreatDoor.En
namespace Go.Proofs.YtbpbndlgfiammaaGreatDoor.En
open Go Go.RowKit
def tyCnfT : List (Nat × TD) := [(3, ⟨1, false, [.int .i64 0], [], none, 8, false, 1, 1⟩),
  (22, ⟨1, false, [.slice none 0 0], [], some 23, 24, false, 0, 0⟩),
  (23, ⟨1, false, [.slice none 0 0], [], some 3, 24, false, 0, 3⟩),
  (66, ⟨1, false, [.nilFunc], [], none, 8, false, 0, 0⟩),
  (117, ⟨1, false, [.nilFunc], [], none, 8, false, 0, 0⟩)]
theorem tyCnfT_ok : AllTy Tryz.prog tyCnfT := ⟨⟨by kernel_rfl, by kernel_rfl, by kernel_rfl⟩, ⟨by kernel_rfl, by kernel_rfl, by kernel_rfl⟩, ⟨by kernel_rfl, by kernel_rfl, by kernel_rfl⟩, ⟨by kernel_rfl, by kernel_rfl, by kernel_rfl⟩, ⟨by kernel_rfl, by kernel_rfl, by kernel_rfl⟩, trivial⟩
def cx_cNorm : Cx := ⟨tyCnfT, [(71, sClone), (70, (orF sDel1 sDel2)), (95, sSortF), (99, sCompact)], false⟩
theorem cx_cNorm_ok : CxOk Tryz.prog cx_cNorm := cx_ok tyCnfT_ok ⟨sClone_sound, (sDel1_sound.or sDel2_sound), sSortF_sound, sCompact_sound, trivial⟩
def cNorm_σ : CtF
  | [.im (.ls (.ints l))], [] => some (l.length ≤ 1000000, .tup [.row 0, .bool (Cn.tautL l)], [some (.row 3 (.ints (Cn.normL l)))])
  | _, _ => none
theorem cNorm_sound : Sound Tryz.prog 66 cNorm_σ := by
 refine Sw (cx := cx_cNorm) Tryz.f66 Tryz.func66 ?_
 intro wW wO wβ G0 args os p r outs hσ hp
 have hcx := cx_cNorm_ok
 have hmx : Tryz.prog.follows .mixedOrders = true := by kernel_rfl
 unfold cNorm_σ at hσ
 split at hσ
 ·
  rename_i l
  cases hσ
  refine ⟨by kernel_rfl, ?_⟩
  have hf := List.length_filter_le (fun x => Cn.mayP x 65536) l
  have hs : (Cn.sortL (l.filter fun x => Cn.mayP x 65536)).length = (l.filter fun x => Cn.mayP x 65536).length := List.length_mergeSort ..
  have hnl : (Lib.compact (Cn.sortL (l.filter fun x => Cn.mayP x 65536))).length ≤ l.length := Cn.norm_len l
  have hnb : ∀ j, j < (Lib.compact (Cn.sortL (l.filter fun x => Cn.mayP x 65536))).length → -65536 ≤ (Lib.compact (Cn.sortL (l.filter fun x => Cn.mayP x 65536))).getD j 0 ∧ (Lib.compact (Cn.sortL (l.filter fun x => Cn.mayP x 65536))).getD j 0 ≤ 65536 := fun j hj => Cn.norm_bd (l := l) hj
  refine Sz hcx [] [] [] [] (Sq hcx [(1002, .to 208)] [4] [0] [] [(l.length ≤ 1000000000000), (l.length ≤ 1000000000000)] ?_ (Sq hcx [(208, .to 208)] [] [] [] [((l.filter fun z9 => Cn.mayP z9 65536).length ≤ 1000000000000 ∧ ∀ z9 ∈ (l.filter fun z9 => Cn.mayP z9 65536), Cn.mayP z9 65536 = true)] ?_ (Sq hcx [(1001, .to 208)] [4] [] [208] [((Cn.sortL (l.filter fun z9 => Cn.mayP z9 65536)).length ≤ 1000000000000)] ?_ (Zs (Sz hcx [] [14, 15] [] [] (Zb (Lp (X := Nat) (fun x0 => x0 ≤ (Lib.compact (Cn.sortL (l.filter fun x => Cn.mayP x 65536))).length ∧ ∀ j, 0 < j → j < x0 → (Lib.compact (Cn.sortL (l.filter fun x => Cn.mayP x 65536))).getD (j - 1) 0 ≠ -((Lib.compact (Cn.sortL (l.filter fun x => Cn.mayP x 65536))).getD j 0)) (fun x0 => ([(4, .row 208), (14, .int ((Lib.compact (Cn.sortL (l.filter fun z9 => Cn.mayP z9 65536))).length : Int)), (15, .int (x0 : Int))], [(208, .row 3 (.ints (Lib.compact (Cn.sortL (l.filter fun z9 => Cn.mayP z9 65536)))))])) (fun x0 => (Lib.compact (Cn.sortL (l.filter fun x => Cn.mayP x 65536))).length - x0) (0) ?_ (Ex 15 (congrArg AV.int (show 0 = (0 : Int) from (by first | rfl | omega | (simp; done)))) Eb) Hb fun k hI => ?_)))))))
  ·
   refine ap ?_ (ap ?_ az) <;>
    first | omega | exact id | exact vcNot | exact vcG | exact vcH | (intro _; omega) | exact (fun _ h => h) | (intro h; simp at h; omega) | (simp only [List.length_cons, List.length_nil, List.length_append, List.length_map, List.length_set, List.length_replicate]; omega) | (intro h; simp [h]; done) | exact ⟨by omega, fun x hx => (List.mem_filter.1 hx).2⟩ | exact (fun _ => by have := hbk (by omega); constructor <;> omega)
  ·
   refine ap ?_ az
   first | omega | exact id | exact vcNot | exact vcG | exact vcH | (intro _; omega) | exact (fun _ h => h) | (intro h; simp at h; omega) | (simp only [List.length_cons, List.length_nil, List.length_append, List.length_map, List.length_set, List.length_replicate]; omega) | (intro h; simp [h]; done) | exact ⟨by omega, fun x hx => (List.mem_filter.1 hx).2⟩ | exact (fun _ => by have := hbk (by omega); constructor <;> omega)
  ·
   refine ap ?_ az
   first | omega | exact id | exact vcNot | exact vcG | exact vcH | (intro _; omega) | exact (fun _ h => h) | (intro h; simp at h; omega) | (simp only [List.length_cons, List.length_nil, List.length_append, List.length_map, List.length_set, List.length_replicate]; omega) | (intro h; simp [h]; done) | exact ⟨by omega, fun x hx => (List.mem_filter.1 hx).2⟩ | exact (fun _ => by have := hbk (by omega); constructor <;> omega)
  ·
   exact ⟨Nat.zero_le _, fun j _ hj => by omega⟩
  ·
   try dsimp only at hI
   obtain ⟨hk, hok⟩ := hI
   have hbk : k < (Lib.compact (Cn.sortL (l.filter fun x => Cn.mayP x 65536))).length → _ := hnb k
   refine Sz hcx [] [16] [] [] (Zs (Zj (p := ((k : Int) < ((Lib.compact (Cn.sortL (l.filter fun z9 => Cn.mayP z9 65536))).length : Int))) (fun h0 => ?_) fun h0 => ?_))
   ·
    refine Zk (Ft (Zs (Zb (Sz hcx [] [5] [16] [] (Sd hcx hmx [0, 1, 3, 7, 7, 23, 63, 127, 7, 7, 775, 1799, 3847, 8191, 16383] [] [32] [5] [] [((decide ((k : Int) > 0)) = true → ((decide ((k : Int) > 0)) = true)), ((decide ((k : Int) > 0)) = true → Fit ((k : Int) - 1)), ((decide ((k : Int) > 0)) = true → ((decide ((k : Int) > 0)) = true)), ((decide ((k : Int) > 0)) = true → ((decide ((k : Int) > 0)) = true)), ((decide ((k : Int) > 0)) = true → ((0 : Int) ≤ ((k : Int) - 1) ∧ ((k : Int) - 1) < ((Lib.compact (Cn.sortL (l.filter fun z9 => Cn.mayP z9 65536))).length : Int))), ((decide ((k : Int) > 0)) = true → ((decide ((k : Int) > 0)) = true)), ((decide ((k : Int) > 0)) = true → ((((k : Int) - 1).toNat) < (Lib.compact (Cn.sortL (l.filter fun z9 => Cn.mayP z9 65536))).length)), ((decide ((k : Int) > 0)) = true → ((decide ((k : Int) > 0)) = true)), ((decide ((k : Int) > 0)) = true → ((decide ((k : Int) > 0)) = true)), ((decide ((k : Int) > 0)) = true → ((0 : Int) ≤ (k : Int) ∧ (k : Int) < ((Lib.compact (Cn.sortL (l.filter fun z9 => Cn.mayP z9 65536))).length : Int))), ((decide ((k : Int) > 0)) = true → ((decide ((k : Int) > 0)) = true)), ((decide ((k : Int) > 0)) = true → (k < (Lib.compact (Cn.sortL (l.filter fun z9 => Cn.mayP z9 65536))).length)), ((decide ((k : Int) > 0)) = true → ((decide ((k : Int) > 0)) = true)), ((decide ((k : Int) > 0)) = true → Fit (-((Lib.compact (Cn.sortL (l.filter fun z9 => Cn.mayP z9 65536))).getD k 0))), ((decide ((k : Int) > 0)) = true → ((decide ((k : Int) > 0)) = true)), ((decide ((k : Int) > 0)) = true → ((decide ((k : Int) > 0)) = true)), ((decide ((k : Int) > 0)) = true → (decide ((k : Int) > 0)) = true)] ?_ (Zi (b := (decide ((k : Int) > 0)) && (((Lib.compact (Cn.sortL (l.filter fun z9 => Cn.mayP z9 65536))).getD (((k : Int) - 1).toNat) 0) == (-((Lib.compact (Cn.sortL (l.filter fun z9 => Cn.mayP z9 65536))).getD k 0)))) (fun h1 => ?_) fun h1 => ?_))))))
    ·
     refine ap ?_ (ap ?_ (ap ?_ (ap ?_ (ap ?_ (ap ?_ (ap ?_ (ap ?_ (ap ?_ (ap ?_ (ap ?_ (ap ?_ (ap ?_ (ap ?_ (ap ?_ (ap ?_ (ap (by exact id) az)))))))))))))))) <;>
      first | omega | exact id | exact vcNot | exact vcG | exact vcH | (intro _; omega) | exact (fun _ h => h) | (intro h; simp at h; omega) | (simp only [List.length_cons, List.length_nil, List.length_append, List.length_map, List.length_set, List.length_replicate]; omega) | (intro h; simp [h]; done) | exact ⟨by omega, fun x hx => (List.mem_filter.1 hx).2⟩ | exact (fun _ => by have := hbk (by omega); constructor <;> omega)
    ·
     try simp only [Bool.or_eq_true, Bool.or_eq_false_iff, Bool.and_eq_true, Bool.and_eq_false_iff, Bool.not_eq_true', Bool.not_eq_false', decide_eq_true_eq, decide_eq_false_iff_not, bne_iff_ne, bne_eq_false_iff_eq, beq_iff_eq, beq_eq_false_iff_ne] at h1
     have hq := h1
     rw [show ((k : Int) - 1).toNat = k - 1 by omega] at hq
     exact Sz hcx [] [2, 3] [32, 4, 14, 15] [] (Zr (Fk (Fr (Fr (Fk (Fr (Fn [(208, .to 0)] [2, 3] (Rv hcx (congrArg AV.tup (consE rfl (consE (congrArg AV.bool (show true = (Cn.tautL l) from (by exact (Cn.taut_adj_yes (xs := Cn.normL l) (i := k) (by omega) (show k < (Lib.compact (Cn.sortL (l.filter fun x => Cn.mayP x 65536))).length by omega) hq.2).symm))) rfl))) [true] (consO (congrArg some (congrArg (fun x => AObj.row 3 (.ints x)) (show (Lib.compact (Cn.sortL (l.filter fun z9 => Cn.mayP z9 65536))) = (Cn.normL l) from (by first | rfl | (simp; done))))) rfl)))))))))
    ·
     try simp only [Bool.or_eq_true, Bool.or_eq_false_iff, Bool.and_eq_true, Bool.and_eq_false_iff, Bool.not_eq_true', Bool.not_eq_false', decide_eq_true_eq, decide_eq_false_iff_not, bne_iff_ne, bne_eq_false_iff_eq, beq_iff_eq, beq_eq_false_iff_ne] at h1
     have hq := h1
     refine Zk (Fb (Ft (Tq hcx [] [15] [32] [] [Fit ((k : Int) + 1)] ?_ (Lr (k + 1) ?_ ?_ (Ex 15 (congrArg AV.int (show ((k : Int) + 1) = ((k + 1) : Int) from (by first | rfl | omega | (simp; done)))) Eb) Hb))))
     ·
      refine ap ?_ az
      first | omega | exact id | exact vcNot | exact vcG | exact vcH | (intro _; omega) | exact (fun _ h => h) | (intro h; simp at h; omega) | (simp only [List.length_cons, List.length_nil, List.length_append, List.length_map, List.length_set, List.length_replicate]; omega) | (intro h; simp [h]; done) | exact ⟨by omega, fun x hx => (List.mem_filter.1 hx).2⟩ | exact (fun _ => by have := hbk (by omega); constructor <;> omega)
     ·
      try dsimp only
      (refine ⟨by omega, fun j hj0 hj => ?_⟩; by_cases hjk : j = k; (subst hjk; rcases hq with hq | hq; (exact absurd hj0 (by omega)); (rwa [show ((j : Int) - 1).toNat = j - 1 by omega] at hq)); exact hok j hj0 (by omega))
     ·
      try dsimp only
      omega
   ·
    exact Ze (Fe (Fe (Fs (Ft (Sz hcx [] [2, 3] [16, 4, 14, 15] [] (Zr (Fn [(208, .to 0)] [2, 3] (Rv hcx (congrArg AV.tup (consE rfl (consE (congrArg AV.bool (show false = (Cn.tautL l) from (by exact (Cn.taut_adj_no (xs := Cn.normL l) (Cn.norm_str l) (fun x hx => Cn.norm_nz hx) (fun i hi0 hi => hok i hi0 (by have : i < (Lib.compact (Cn.sortL (l.filter fun x => Cn.mayP x 65536))).length := hi; omega))).symm))) rfl))) [true] (consO (congrArg some (congrArg (fun x => AObj.row 3 (.ints x)) (show (Lib.compact (Cn.sortL (l.filter fun z9 => Cn.mayP z9 65536))) = (Cn.normL l) from (by first | rfl | (simp; done))))) rfl)))))))))
 ·
  cases hσ
def cx_sConcat : Cx := ⟨tyCnfT, [(102, sGrow)], false⟩
theorem cx_sConcat_ok : CxOk Tryz.prog cx_sConcat := cx_ok tyCnfT_ok ⟨sGrow_sound, trivial⟩
def sConcat_σ : CtF
  | [.im (.ls (.intss xss))], [] => some (xss.length ≤ 1000000 ∧ Cn.lensN xss ≤ 1000000, .row 0, [some (.row 3 (.ints xss.flatten))])
  | _, _ => none
theorem sConcat_sound : Sound Tryz.prog 73 sConcat_σ := by
 refine Sw (cx := cx_sConcat) Tryz.f73 Tryz.func73 ?_
 intro wW wO wβ G0 args os p r outs hσ hp
 have hcx := cx_sConcat_ok
 unfold sConcat_σ at hσ
 split at hσ
 ·
  rename_i xss
  cases hσ
  refine ⟨by kernel_rfl, ?_⟩
  obtain ⟨hm1, hm2⟩ := hp
  have hl1 := Cn.lens_take xss
  have hl2 := @Cn.lens_step xss
  refine Sz hcx [] [] [] [] (Sz hcx [] [3] [] [] (Zs (Sz hcx [] [9, 10, 11] [] [] (Zb (Lp (X := Nat) (fun x0 => x0 ≤ xss.length) (fun x0 => ([(0, .intss xss), (3, .int (Cn.lensN (xss.take x0) : Int)), (9, .intss xss), (10, .int (xss.length : Int)), (11, .int (x0 : Int))], [])) (fun x0 => xss.length - x0) (0) ?_ (Ex 3 (congrArg AV.int (show 0 = (Cn.lensN (xss.take 0) : Int) from (by first | rfl | omega | (simp; done)))) (Ex 11 (congrArg AV.int (show 0 = (0 : Int) from (by first | rfl | omega | (simp; done)))) Eb)) Hb fun k hI => ?_)))))
  ·
   show 0 ≤ xss.length
   omega
  ·
   replace hI : k ≤ xss.length := hI
   have hl3 := hl1 k
   have hl4 := hl1 (k + 1)
   have hl5 : k < xss.length → _ := fun h => hl2 h
   refine Sz hcx [] [12] [] [] (Zs (Zj (p := ((k : Int) < (xss.length : Int))) (fun h0 => ?_) fun h0 => ?_))
   ·
    refine Zk (Ft (Zs (Zb (Sq hcx [] [5] [12] [] [((0 : Int) ≤ (k : Int) ∧ (k : Int) < (xss.length : Int))] ?_ (Sq hcx [] [3] [5] [] [Fit ((Cn.lensN (xss.take k) : Int) + ((xss.getD k []).length : Int))] ?_ (Sz hcx [] [20] [] [] (Zj (p := (((Cn.lensN (xss.take k) : Int) + ((xss.getD k []).length : Int)) < 0)) (fun h1 => ?_) fun h1 => ?_)))))))
    ·
     refine ap ?_ az
     first | omega | exact id | exact vcNot | exact vcG | exact vcH | (intro _; omega) | exact (fun _ h => h) | (intro h; simp at h; omega) | (simp only [List.length_cons, List.length_nil, List.length_append, List.length_map, List.length_set, List.length_replicate]; omega) | (intro h; simp [h]; done) | (rw [hl6]; omega) | (simp only [hl6]; omega)
    ·
     refine ap ?_ az
     first | omega | exact id | exact vcNot | exact vcG | exact vcH | (intro _; omega) | exact (fun _ h => h) | (intro h; simp at h; omega) | (simp only [List.length_cons, List.length_nil, List.length_append, List.length_map, List.length_set, List.length_replicate]; omega) | (intro h; simp [h]; done) | (rw [hl6]; omega) | (simp only [hl6]; omega)
    ·
     omega
    ·
     refine Zk (Fb (Ft (Tq hcx [] [11] [20] [] [Fit ((k : Int) + 1)] ?_ (Lr (k + 1) ?_ ?_ (Ex 3 (congrArg AV.int (show ((Cn.lensN (xss.take k) : Int) + ((xss.getD k []).length : Int)) = (Cn.lensN (xss.take (k + 1)) : Int) from (by first | rfl | omega | (simp; done)))) (Ex 11 (congrArg AV.int (show ((k : Int) + 1) = ((k + 1) : Int) from (by first | rfl | omega | (simp; done)))) Eb)) Hb))))
     ·
      refine ap ?_ az
      first | omega | exact id | exact vcNot | exact vcG | exact vcH | (intro _; omega) | exact (fun _ h => h) | (intro h; simp at h; omega) | (simp only [List.length_cons, List.length_nil, List.length_append, List.length_map, List.length_set, List.length_replicate]; omega) | (intro h; simp [h]; done) | (rw [hl6]; omega) | (simp only [hl6]; omega)
     ·
      show (k + 1) ≤ xss.length
      omega
     ·
      show xss.length - (k + 1) < xss.length - k
      omega
   ·
    refine Ze (Fe (Fe (Fs (Ft (Sq hcx [(1001, .to 224)] [6] [12, 3, 9, 10, 11] [] [(0 ≤ (Cn.lensN (xss.take k) : Int) ∧ (Cn.lensN (xss.take k) : Int) ≤ 1000000)] ?_ (Zs (Sz hcx [] [25, 26, 27] [0] [] (Zb (Zn [(224, .to 10)] [6, 25, 26, 27] (Lp (X := Nat) (fun x0 => x0 ≤ xss.length) (fun x0 => ([(6, .row 10), (25, .intss xss), (26, .int (xss.length : Int)), (27, .int (x0 : Int))], [(10, .row 3 (.ints ((xss.take x0).flatten)))])) (fun x0 => xss.length - x0) (0) ?_ (Ex 27 (congrArg AV.int (show 0 = (0 : Int) from (by first | rfl | omega | (simp; done)))) Eb) (Hx 10 (congrArg (fun x => AObj.row 3 (.ints x)) (show [] = (xss.take 0).flatten from (by simp))) Hb) fun k hI => ?_))))))))))
    ·
     refine ap ?_ az
     first | omega | exact id | exact vcNot | exact vcG | exact vcH | (intro _; omega) | exact (fun _ h => h) | (intro h; simp at h; omega) | (simp only [List.length_cons, List.length_nil, List.length_append, List.length_map, List.length_set, List.length_replicate]; omega) | (intro h; simp [h]; done) | (rw [hl6]; omega) | (simp only [hl6]; omega)
    ·
     show 0 ≤ xss.length
     omega
    ·
     replace hI : k ≤ xss.length := hI
     have hl3 := hl1 k
     have hl4 := hl1 (k + 1)
     have hl5 : k < xss.length → _ := fun h => hl2 h
     have hl6 : (xss.take k).flatten.length = Cn.lensN (xss.take k) := Cn.lens_flat _
     refine Sz hcx [] [28] [] [] (Zs (Zj (p := ((k : Int) < (xss.length : Int))) (fun h2 => ?_) fun h2 => ?_))
     ·
      refine Zk (Ft (Zs (Zb (Sq hcx [] [8] [28] [] [((0 : Int) ≤ (k : Int) ∧ (k : Int) < (xss.length : Int))] ?_ (Tq hcx [(1002, .to 10)] [6] [8] [10] [((((xss.take k).flatten).length + (xss.getD k []).length) * 8 ≤ 140737488355328)] ?_ (Fb (Ft (Tq hcx [] [27] [] [] [Fit ((k : Int) + 1)] ?_ (Lr (k + 1) ?_ ?_ (Ex 27 (congrArg AV.int (show ((k : Int) + 1) = ((k + 1) : Int) from (by first | rfl | omega | (simp; done)))) Eb) (Hx 10 (congrArg (fun x => AObj.row 3 (.ints x)) (show (((xss.take k).flatten) ++ (xss.getD k [])) = (xss.take (k + 1)).flatten from (by exact Cn.flat_take (by omega)))) Hb))))))))))
      ·
       refine ap ?_ az
       first | omega | exact id | exact vcNot | exact vcG | exact vcH | (intro _; omega) | exact (fun _ h => h) | (intro h; simp at h; omega) | (simp only [List.length_cons, List.length_nil, List.length_append, List.length_map, List.length_set, List.length_replicate]; omega) | (intro h; simp [h]; done) | (rw [hl6]; omega) | (simp only [hl6]; omega)
      ·
       refine ap ?_ az
       first | omega | exact id | exact vcNot | exact vcG | exact vcH | (intro _; omega) | exact (fun _ h => h) | (intro h; simp at h; omega) | (simp only [List.length_cons, List.length_nil, List.length_append, List.length_map, List.length_set, List.length_replicate]; omega) | (intro h; simp [h]; done) | (rw [hl6]; omega) | (simp only [hl6]; omega)
      ·
       refine ap ?_ az
       first | omega | exact id | exact vcNot | exact vcG | exact vcH | (intro _; omega) | exact (fun _ h => h) | (intro h; simp at h; omega) | (simp only [List.length_cons, List.length_nil, List.length_append, List.length_map, List.length_set, List.length_replicate]; omega) | (intro h; simp [h]; done) | (rw [hl6]; omega) | (simp only [hl6]; omega)
      ·
       show (k + 1) ≤ xss.length
       omega
      ·
       show xss.length - (k + 1) < xss.length - k
       omega
     ·
      exact Ze (Fe (Fe (Fs (Ft (Sz hcx [] [2] [28, 6, 25, 26, 27] [] (Zr (Fn [(10, .to 0)] [2] (Rv hcx rfl [true] (consO (congrArg some (congrArg (fun x => AObj.row 3 (.ints x)) (show (xss.take k).flatten = xss.flatten from (by rw [show k = xss.length from (by omega), List.take_length])))) rfl)))))))))
 ·
  cases hσ
def cx_cRes1 : Cx := ⟨tyCnfT, [(71, sClone), (70, (orF sDel1 sDel2))], false⟩
theorem cx_cRes1_ok : CxOk Tryz.prog cx_cRes1 := cx_ok tyCnfT_ok ⟨sClone_sound, (sDel1_sound.or sDel2_sound), trivial⟩
def cRes1_σ : CtF
  | [.im (.ls (.ints l)), .im (.val (.int .i64 x))], [] => some (l.length ≤ 1000000, .row 0, [some (.row 3 (.ints (l.filter fun z9 => !(z9 == x))))])
  | _, _ => none
theorem cRes1_sound : Sound Tryz.prog 69 cRes1_σ := by
 refine Sw (cx := cx_cRes1) Tryz.f69 Tryz.func69 ?_
 intro wW wO wβ G0 args os p r outs hσ hp
 have hcx := cx_cRes1_ok
 unfold cRes1_σ at hσ
 split at hσ
 ·
  rename_i l x
  cases hσ
  refine ⟨by kernel_rfl, ?_⟩
  exact Sz hcx [(1000, .frz)] [3] [1] [] (Sq hcx [(1003, .to 208)] [4] [3, 0] [] [(l.length ≤ 1000000000000), (l.length ≤ 1000000000000)] (ap (by omega) (ap (by omega) az)) (Zr (Fn [(208, .to 0)] [4] (Ru hcx [true]))))
 ·
  cases hσ
def cx_cResolve : Cx := ⟨tyCnfT, [(44, (coeF [.ld (.ints []), .id] sContains_σ)), (66, (coeF [.ld (.ints [])] cNorm_σ)), (73, (coeF [.ld (.intss [])] sConcat_σ)), (69, (coeF [.ld (.ints []), .id] cRes1_σ))], false⟩
theorem cx_cResolve_ok : CxOk Tryz.prog cx_cResolve := cx_ok tyCnfT_ok ⟨(sContains_sound.coe [.ld (.ints []), .id] rfl), (cNorm_sound.coe [.ld (.ints [])] rfl), (sConcat_sound.coe [.ld (.intss [])] rfl), (cRes1_sound.coe [.ld (.ints []), .id] rfl), trivial⟩
def cResolve_σ : CtF
  | [.im (.ls (.ints a)), .im (.ls (.ints b)), .im (.val (.int .i64 v))], [] => some (a.length ≤ 100000 ∧ b.length ≤ 100000 ∧ Fit v, .tup [.row 0, .int (Cn.resE a b v)], [some (.row 3 (.ints (Cn.resL a b v)))])
  | _, _ => none
theorem cResolve_sound : Sound Tryz.prog 32 cResolve_σ := by
 refine Sw (cx := cx_cResolve) Tryz.f32 Tryz.func32 ?_
 intro wW wO wβ G0 args os p r outs hσ hp
 have hcx := cx_cResolve_ok
 unfold cResolve_σ at hσ
 split at hσ
 ·
  rename_i a b v
  cases hσ
  refine ⟨by kernel_rfl, ?_⟩
  obtain ⟨hm1, hm2, hm3, hm4⟩ := hp
  have hm5 : a.length ≤ maxLen := by unfold maxLen; omega
  have hm6 : b.length ≤ maxLen := by unfold maxLen; omega
  have hm7 : [v, -v].length = 2 := rfl
  refine Sz hcx [] [] [] [] (Zs (Sq hcx [] [18] [] [] [((!(decide (v < 1))) = true → ((!(decide (v < 1))) = true)), ((decide (v < 1)) = false → (!(decide (v < 1))) = true)] ?_ (Zi (b := (decide (v < 1)) || (decide (v > 65536))) (fun h0 => ?_) fun h0 => ?_)))
  ·
   refine ap ?_ (ap (by exact vcNot) az)
   first | exact hm5 | exact hm6 | exact (fun _ => hm6) | (first | omega | exact id | exact vcNot | exact vcG | exact vcH | (intro _; omega) | exact (fun _ h => h) | (intro h; simp at h; omega) | (simp only [List.length_cons, List.length_nil, List.length_append, List.length_map, List.length_set, List.length_replicate]; omega) | (intro h; simp [h]; done)) | (have := hX (by omega); constructor <;> omega) | (intro _; have := hX (by omega); constructor <;> omega) | (simp only [Cn.lensN, List.map_cons, List.map_nil, List.sum_cons, List.sum_nil, List.length_cons, List.length_nil]; omega) | (rw [Cn.flat2, List.length_append]; omega)
  ·
   try simp only [Bool.or_eq_true, Bool.or_eq_false_iff, Bool.and_eq_true, Bool.and_eq_false_iff, Bool.not_eq_true', Bool.not_eq_false', decide_eq_true_eq, decide_eq_false_iff_not, bne_iff_ne, bne_eq_false_iff_eq, beq_iff_eq, beq_eq_false_iff_ne] at h0
   exact Sz hcx [] [6, 7] [18, 0, 1, 2] [] (Zr (Fr (Fw 6 700 3 (.ints []) (Fn [(700, .to 0)] [6, 7] (Rv hcx (congrArg AV.tup (consE rfl (consE (congrArg AV.int (show 140 = (Cn.resE a b v) from (by exact (Cn.res_out (by omega)).2.symm))) rfl))) [true] (consO (congrArg some (congrArg (fun x => AObj.row 3 (.ints x)) (show [] = (Cn.resL a b v) from (by exact (Cn.res_out (by omega)).1.symm)))) rfl))))))
  ·
   try simp only [Bool.or_eq_true, Bool.or_eq_false_iff, Bool.and_eq_true, Bool.and_eq_false_iff, Bool.not_eq_true', Bool.not_eq_false', decide_eq_true_eq, decide_eq_false_iff_not, bne_iff_ne, bne_eq_false_iff_eq, beq_iff_eq, beq_eq_false_iff_ne] at h0
   have hv1 : 1 ≤ v := by omega
   have hv2 : v ≤ 65536 := by omega
   refine Zk (Ft (Zs (Sq hcx [] [22, 23, 24] [18, 2] [] [Fit (-v)] ?_ (Zb (Lp (X := Nat) (fun x0 => x0 ≤ 2 ∧ ∀ j, j < x0 → Cn.onB a b ([v, -v].getD j 0) = false) (fun x0 => ([(0, .ints a), (1, .ints b), (22, .ints [v, (-v)]), (23, .int ([v, (-v)].length : Int)), (24, .int (x0 : Int))], [])) (fun x0 => 2 - x0) (0) ?_ (Ex 24 (congrArg AV.int (show 0 = (0 : Int) from (by first | rfl | omega | (simp; done)))) Eb) Hb fun k hI => ?_)))))
   ·
    refine ap ?_ az
    first | exact hm5 | exact hm6 | exact (fun _ => hm6) | (first | omega | exact id | exact vcNot | exact vcG | exact vcH | (intro _; omega) | exact (fun _ h => h) | (intro h; simp at h; omega) | (simp only [List.length_cons, List.length_nil, List.length_append, List.length_map, List.length_set, List.length_replicate]; omega) | (intro h; simp [h]; done)) | (have := hX (by omega); constructor <;> omega) | (intro _; have := hX (by omega); constructor <;> omega) | (simp only [Cn.lensN, List.map_cons, List.map_nil, List.sum_cons, List.sum_nil, List.length_cons, List.length_nil]; omega) | (rw [Cn.flat2, List.length_append]; omega)
   ·
    exact ⟨Nat.zero_le _, fun j hj => by omega⟩
   ·
    try dsimp only at hI
    obtain ⟨hk, hok⟩ := hI
    have hX : k < 2 → -65536 ≤ ([v, -v].getD k 0) ∧ ([v, -v].getD k 0) ≤ 65536 := fun h => Cn.two_bd h hv1 hv2
    refine Sz hcx [] [25] [] [] (Zs (Zj (p := ((k : Int) < ([v, (-v)].length : Int))) (fun h1 => ?_) fun h1 => ?_))
    ·
     refine Zk (Ft (Zs (Zb (Sq hcx [] [9] [25] [] [((0 : Int) ≤ (k : Int) ∧ (k : Int) < ([v, (-v)].length : Int))] ?_ (Zs (Sq hcx [] [38] [] [] [(a.length ≤ maxLen), ((!(!(a.contains ([v, (-v)].getD k 0)))) = true → ((!(!(a.contains ([v, (-v)].getD k 0)))) = true)), ((!(!(a.contains ([v, (-v)].getD k 0)))) = true → Fit (-([v, (-v)].getD k 0))), ((!(!(a.contains ([v, (-v)].getD k 0)))) = true → ((!(!(a.contains ([v, (-v)].getD k 0)))) = true)), ((!(!(a.contains ([v, (-v)].getD k 0)))) = true → ((!(!(a.contains ([v, (-v)].getD k 0)))) = true)), ((!(!(a.contains ([v, (-v)].getD k 0)))) = true → (b.length ≤ maxLen)), ((!(!(a.contains ([v, (-v)].getD k 0)))) = true → ((!(!(a.contains ([v, (-v)].getD k 0)))) = true)), ((!(a.contains ([v, (-v)].getD k 0))) = false → (!(!(a.contains ([v, (-v)].getD k 0)))) = true)] ?_ (Zi (b := (!(a.contains ([v, (-v)].getD k 0))) || (!(b.contains (-([v, (-v)].getD k 0))))) (fun h2 => ?_) fun h2 => ?_)))))))
     ·
      refine ap ?_ az
      first | exact hm5 | exact hm6 | exact (fun _ => hm6) | (first | omega | exact id | exact vcNot | exact vcG | exact vcH | (intro _; omega) | exact (fun _ h => h) | (intro h; simp at h; omega) | (simp only [List.length_cons, List.length_nil, List.length_append, List.length_map, List.length_set, List.length_replicate]; omega) | (intro h; simp [h]; done)) | (have := hX (by omega); constructor <;> omega) | (intro _; have := hX (by omega); constructor <;> omega) | (simp only [Cn.lensN, List.map_cons, List.map_nil, List.sum_cons, List.sum_nil, List.length_cons, List.length_nil]; omega) | (rw [Cn.flat2, List.length_append]; omega)
     ·
      refine ap ?_ (ap ?_ (ap ?_ (ap ?_ (ap ?_ (ap ?_ (ap ?_ (ap (by exact vcNot) az))))))) <;>
       first | exact hm5 | exact hm6 | exact (fun _ => hm6) | (first | omega | exact id | exact vcNot | exact vcG | exact vcH | (intro _; omega) | exact (fun _ h => h) | (intro h; simp at h; omega) | (simp only [List.length_cons, List.length_nil, List.length_append, List.length_map, List.length_set, List.length_replicate]; omega) | (intro h; simp [h]; done)) | (have := hX (by omega); constructor <;> omega) | (intro _; have := hX (by omega); constructor <;> omega) | (simp only [Cn.lensN, List.map_cons, List.map_nil, List.sum_cons, List.sum_nil, List.length_cons, List.length_nil]; omega) | (rw [Cn.flat2, List.length_append]; omega)
     ·
      have hq : Cn.onB a b ([v, -v].getD k 0) = false := Cn.onB_no h2
      refine Ze (Fe (Fs (Ft (Tq hcx [] [24] [38, 9] [] [Fit ((k : Int) + 1)] ?_ (Lr (k + 1) ?_ ?_ (Ex 24 (congrArg AV.int (show ((k : Int) + 1) = ((k + 1) : Int) from (by first | rfl | omega | (simp; done)))) Eb) Hb)))))
      ·
       refine ap ?_ az
       first | exact hm5 | exact hm6 | exact (fun _ => hm6) | (first | omega | exact id | exact vcNot | exact vcG | exact vcH | (intro _; omega) | exact (fun _ h => h) | (intro h; simp at h; omega) | (simp only [List.length_cons, List.length_nil, List.length_append, List.length_map, List.length_set, List.length_replicate]; omega) | (intro h; simp [h]; done)) | (have := hX (by omega); constructor <;> omega) | (intro _; have := hX (by omega); constructor <;> omega) | (simp only [Cn.lensN, List.map_cons, List.map_nil, List.sum_cons, List.sum_nil, List.length_cons, List.length_nil]; omega) | (rw [Cn.flat2, List.length_append]; omega)
      ·
       exact ⟨by omega, Cn.falseSucc (f := fun j => Cn.onB a b ([v, -v].getD j 0)) hok hq⟩
      ·
       show 2 - (k + 1) < 2 - k
       omega
     ·
      have hq : Cn.onB a b ([v, -v].getD k 0) = true := Cn.onB_yes h2
      have hf1 := List.length_filter_le (fun y => !(y == ([v, -v].getD k 0))) a
      have hf2 := List.length_filter_le (fun y => !(y == -([v, -v].getD k 0))) b
      refine Zk (Ft (Sz hcx [] [10] [38, 22, 23, 24] [] (Sq hcx [(1011, .to 251)] [11] [10, 9, 0, 1] [] [(a.length ≤ 1000000), Fit (-([v, (-v)].getD k 0)), (b.length ≤ 1000000), ([(a.filter fun z9 => !(z9 == ([v, (-v)].getD k 0))), (b.filter fun z9 => !(z9 == (-([v, (-v)].getD k 0))))].length ≤ 1000000 ∧ Cn.lensN [(a.filter fun z9 => !(z9 == ([v, (-v)].getD k 0))), (b.filter fun z9 => !(z9 == (-([v, (-v)].getD k 0))))] ≤ 1000000), (([(a.filter fun z9 => !(z9 == ([v, (-v)].getD k 0))), (b.filter fun z9 => !(z9 == (-([v, (-v)].getD k 0))))].flatten).length ≤ 1000000)] ?_ (Sz hcx [] [6, 7] [11] [] (Zr (Fk (Fr (Fr (Fk (Fr (Fn [(251, .to 0)] [6, 7] (Rv hcx (congrArg AV.tup (consE rfl (consE (congrArg AV.int (show 0 = (Cn.resE a b v) from (by exact (Cn.res_yes (k := k) (by omega) hv1 hv2 hok hq).2.symm))) rfl))) [true] (consO (congrArg some (congrArg (fun x => AObj.row 3 (.ints x)) (show (Cn.normL ([(a.filter fun z9 => !(z9 == ([v, (-v)].getD k 0))), (b.filter fun z9 => !(z9 == (-([v, (-v)].getD k 0))))].flatten)) = (Cn.resL a b v) from (by rw [Cn.flat2]; exact (Cn.res_yes (k := k) (by omega) hv1 hv2 hok hq).1.symm)))) rfl)))))))))))))
      ·
       refine ap ?_ (ap ?_ (ap ?_ (ap ?_ (ap ?_ az)))) <;>
        first | exact hm5 | exact hm6 | exact (fun _ => hm6) | (first | omega | exact id | exact vcNot | exact vcG | exact vcH | (intro _; omega) | exact (fun _ h => h) | (intro h; simp at h; omega) | (simp only [List.length_cons, List.length_nil, List.length_append, List.length_map, List.length_set, List.length_replicate]; omega) | (intro h; simp [h]; done)) | (have := hX (by omega); constructor <;> omega) | (intro _; have := hX (by omega); constructor <;> omega) | (simp only [Cn.lensN, List.map_cons, List.map_nil, List.sum_cons, List.sum_nil, List.length_cons, List.length_nil]; omega) | (rw [Cn.flat2, List.length_append]; omega)
    ·
     exact Ze (Fe (Fe (Fs (Ft (Sz hcx [] [6, 7] [25, 0, 1, 22, 23, 24] [] (Zr (Fw 6 700 3 (.ints []) (Fn [(700, .to 0)] [6, 7] (Rv hcx (congrArg AV.tup (consE rfl (consE (congrArg AV.int (show 140 = (Cn.resE a b v) from (by exact (Cn.res_no (fun j hj => hok j (by omega))).2.symm))) rfl))) [true] (consO (congrArg some (congrArg (fun x => AObj.row 3 (.ints x)) (show [] = (Cn.resL a b v) from (by exact (Cn.res_no (fun j hj => hok j (by omega))).1.symm)))) rfl))))))))))
 ·
  cases hσ
end Go.Proofs.YtbpbndlgfiammaaGreatDoor.En
