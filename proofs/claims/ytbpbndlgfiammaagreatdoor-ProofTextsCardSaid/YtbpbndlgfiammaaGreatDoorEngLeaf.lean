/- A reader of regions over abstract values: contracts of functions that are proved by hand and that take a row of the caller's or hand one over. Plain lemmas. -/
import Derived.Test.YtbpbndlgfiammaaGreatDoorEngCalls
set_option linter.unusedSimpArgs false
set_option linter.unusedVariables false
set_option linter.unnecessarySimpa false
namespace Go.Proofs.YtbpbndlgfiammaaGreatDoor.En
open Go Go.RowKit

/-- the list's cells as values -/
def encL : LD → List Value
  | .ints xs => xs.map I64
  | .bools xs => xs.map Value.bool
  | _ => []
def isFlat1 : LD → Bool
  | .ints _ => true
  | .bools _ => true
  | _ => false
theorem encL_len {l : LD} (h : isFlat1 l = true) : (encL l).length = l.len ∧ l.st = 1 := by
  cases l <;> simp [isFlat1] at h <;> simp [encL, LD.len, LD.st]
theorem encL_cell {l : LD} (h : isFlat1 l = true) {W : World} {G : Nat → Prop} {i : Nat} (hi : i < l.len) : Rep W G (l.cell i 0) ((encL l).getD i undef) := by
  cases l <;> simp [isFlat1] at h
  · rename_i xs
    simp only [LD.len] at hi
    have : (encL (.ints xs)).getD i undef = I64 (xs.getD i 0) := by simp [encL, List.getD, List.getElem?_eq_getElem hi]
    rw [this]; exact .val _
  · rename_i xs
    simp only [LD.len] at hi
    have : (encL (.bools xs)).getD i undef = .bool (xs.getD i false) := by simp [encL, List.getD, List.getElem?_eq_getElem hi]
    rw [this]; exact .val _
theorem encL_of {l : LD} (h : isFlat1 l = true) {W : World} {G : Nat → Prop} {xs : List Value} (hl : xs.length = l.len) (hc : ∀ i, i < l.len → Rep W G (l.cell i 0) (xs.getD i undef)) : xs = encL l := by
  have hn := (encL_len h).1
  apply List.ext_getElem (by rw [hl, hn])
  intro i h1 h2
  have hi : i < l.len := by omega
  have hr := hc i hi
  have e1 : xs.getD i undef = xs[i] := by simp [List.getD, List.getElem?_eq_getElem h1]
  rw [e1] at hr
  cases l <;> simp [isFlat1] at h
  · rename_i ys
    have hr' : xs[i] = I64 (ys.getD i 0) := den_val (g := ⟨W, G, fun _ => undef, fun _ => False⟩) (by simp only [Den]; exact hr)
    simp only [LD.len] at hi
    rw [hr']; simp [encL, List.getD, List.getElem?_eq_getElem hi]
  · rename_i ys
    have hr' : xs[i] = .bool (ys.getD i false) := den_val (g := ⟨W, G, fun _ => undef, fun _ => False⟩) (by simp only [Den]; exact hr)
    simp only [LD.len] at hi
    rw [hr']; simp [encL, List.getD, List.getElem?_eq_getElem hi]
/-- a function that takes a row of its caller's, and hands it back under another name -/
theorem sound_row {P : Program} {f e : Nat} {σ : CtF} (hen : ∀ args W, (callFunc f args).run P W = .ok (.enter f args) W)
    (h : ∀ args os p r outs, σ args os = some (p, r, outs) → ∃ avs l l', args = .row 0 :: avs ∧ os = [.row e l] ∧ r = .row 1 ∧ outs = [none, some (.row e l')] ∧ pureL avs = true ∧ isFlat1 l = true ∧ isFlat1 l' = true ∧
      (p → l'.len ≤ maxLen ∧ ∀ (W : World) (G : Nat → Prop) (v : Value) (vs : List Value), (∀ b, G b → b < W.heap.size) → (∀ b, v.ownBlock = some b → ¬ G b) → GlOk (g0 W G) → Own W e v (encL l) → l.len ≤ maxLen → DenL (g0 W G) avs vs →
        Calls P f (v :: vs).toArray W fun e' W' => ∃ v', e' = .returned v' ∧ Own W' e v' (encL l') ∧ W.grownBy W' v.ownBlock ∧ ∀ b, v'.ownBlock = some b → v.ownBlock = some b ∨ b = W.heap.size)) : Sound P f σ := by
  refine ⟨hen, fun g args os vs p r outs hσ hp hm hU hd => ?_⟩
  obtain ⟨avs, l, l', rfl, rfl, rfl, rfl, hpu, hf, hf', hcall⟩ := h args os p r outs hσ
  obtain ⟨hmx', hcall⟩ := hcall hp
  simp only [DenL] at hd
  obtain ⟨v, vs', rfl, hd0, hd1⟩ := hd
  simp only [Den] at hd0
  obtain ⟨hu0, hv, _⟩ := hd0
  obtain ⟨_, xs, ho, hmx, hc⟩ := hm.ok 0 (.row e l) rfl
  obtain ⟨hn, hst⟩ := encL_len hf
  rw [hst] at ho
  obtain ⟨ho1, hxl⟩ := ho.one
  have hxs : xs = encL l := encL_of hf hxl fun i hi => by have := hc i 0 hi (by omega); rwa [hst, Nat.mul_one, Nat.add_zero] at this
  rw [← hv, hxs] at ho1
  have hblk : blkOf v = v.ownBlock := own_blk ho1
  have hnU : ¬ g.U 1 := fun hu => by have := hU 1 hu; simp at this
  refine Calls.mono (hcall g.W g.G v vs' (fun b hb => (hm.gb b hb).1) (fun b hb => (hm.own 0 _ b rfl (by rw [← hv, hblk]; exact hb)).1) (fun kk ys hk => hm.anc.2 kk ys hk) ho1 hmx (DenL.pure (g := g) (g' := g0 g.W g.G) rfl rfl _ _ hpu hd1)) fun e' W' he => ?_
  obtain ⟨v', rfl, ho', hg, hb'⟩ := he
  obtain ⟨hn', hst'⟩ := encL_len hf'
  have hgood := good_row (nm := 1) (e := e) (l := l') (v := v') (xs := encL l') (W' := W') (ob := v.ownBlock) (H' := outsH [none, some (.row e l')]) hm hnU hg (fun b hb => hm.own 0 _ b rfl (by rw [← hv, hblk]; exact hb)) (fun x o hx => ?_)
    (by rw [hst']; exact .of_one ho' hn') hmx' (fun i j hi hj => by
      rw [hst'] at hj ⊢
      have : j = 0 := by omega
      subst this
      rw [Nat.mul_one, Nat.add_zero]
      exact encL_cell hf' hi) (fun b hb => by rw [own_blk ho'] at hb; exact hb' b hb)
  · obtain ⟨g', h1, h2, _, h4, h5⟩ := hgood
    exact ⟨v', g', rfl, h1, h2, h4, h5⟩
  · match x, hx with
    | 1, hx => left; simp [outsH] at hx; exact ⟨rfl, hx.symm⟩
    | 0, hx => simp [outsH] at hx
    | n + 2, hx => simp [outsH] at hx
/-- a function that turns a row of its caller's in place -/
theorem sound_inrow {P : Program} {f e : Nat} {σ : CtF} (hen : ∀ args W, (callFunc f args).run P W = .ok (.enter f args) W)
    (h : ∀ args os p r outs, σ args os = some (p, r, outs) → ∃ avs l l' R, args = .row 0 :: avs ∧ os = [.row e l] ∧ r = .tup [] ∧ outs = [some (.row e l')] ∧ pureL avs = true ∧ isFlat1 l = true ∧ isFlat1 l' = true ∧ R = Value.tuple #[] ∧
      (p → l'.len ≤ maxLen ∧ l'.len = l.len ∧ ∀ (W : World) (G : Nat → Prop) (v : Value) (vs : List Value), (∀ b, G b → b < W.heap.size) → (∀ b, v.ownBlock = some b → ¬ G b) → GlOk (g0 W G) → Own W e v (encL l) → l.len ≤ maxLen → DenL (g0 W G) avs vs →
        Calls P f (v :: vs).toArray W fun e' W' => e' = .returned R ∧ Own W' e v (encL l') ∧ Kp (fun b => v.ownBlock = some b) W W')) : Sound P f σ := by
  refine ⟨hen, fun g args os vs p r outs hσ hp hm hU hd => ?_⟩
  obtain ⟨avs, l, l', R, rfl, rfl, rfl, rfl, hpu, hf, hf', rfl, hcall⟩ := h args os p r outs hσ
  obtain ⟨hmx', hll, hcall⟩ := hcall hp
  simp only [DenL] at hd
  obtain ⟨v, vs', rfl, hd0, hd1⟩ := hd
  simp only [Den] at hd0
  obtain ⟨hu0, hv, _⟩ := hd0
  obtain ⟨_, xs, ho, hmx, hc⟩ := hm.ok 0 (.row e l) rfl
  obtain ⟨hn, hst⟩ := encL_len hf
  rw [hst] at ho
  obtain ⟨ho1, hxl⟩ := ho.one
  have hxs : xs = encL l := encL_of hf hxl fun i hi => by have := hc i 0 hi (by omega); rwa [hst, Nat.mul_one, Nat.add_zero] at this
  rw [← hv, hxs] at ho1
  have hblk : blkOf v = v.ownBlock := own_blk ho1
  have hnG : ∀ b, v.ownBlock = some b → ¬ g.G b := fun b hb => (hm.own 0 _ b rfl (by rw [← hv, hblk]; exact hb)).1
  refine Calls.mono (hcall g.W g.G v vs' (fun b hb => (hm.gb b hb).1) hnG (fun kk ys hk => hm.anc.2 kk ys hk) ho1 hmx (DenL.pure (g := g) (g' := g0 g.W g.G) rfl rfl _ _ hpu hd1)) fun e' W' he => ?_
  obtain ⟨rfl, ho', hk⟩ := he
  obtain ⟨hn', hst'⟩ := encL_len hf'
  let g' : Gh := ⟨W', g.G, g.β, g.U⟩
  have hle : g.le g' := ⟨fun b hb => hk.block b (hm.gb b hb).1 (fun h => hnG b h hb), fun _ hb => hb, fun _ hr => ⟨hr, rfl⟩⟩
  have hlk : ∀ x o, outsH [some (.row e l')] x = some o → x = 0 ∧ o = .row e l' := by
    intro x o hx
    match x, hx with
    | 0, hx => simp [outsH] at hx; exact ⟨rfl, hx.symm⟩
    | n + 1, hx => simp [outsH] at hx
  refine ⟨_, g', rfl, rfl, hle, ⟨fun x o hx => ?_, fun x x' o o' b hx hx' _ _ => (hlk x o hx).1.trans (hlk x' o' hx').1.symm, fun x o b hx hb => ?_, fun b hb => ⟨Nat.lt_of_lt_of_le (hm.gb b hb).1 hk.size, (hm.gb b hb).2⟩, ⟨hk.os, hk.tape, hk.output, hk.size, fun b hb hno => hk.block b hb fun h => hno ⟨0, by simp, by rw [← hv, hblk]; exact h⟩⟩, hm.anc_up hle⟩, ?_⟩
  · obtain ⟨rfl, rfl⟩ := hlk x o hx
    refine ⟨hu0, ?_⟩
    show ObjOk g' (g.β 0) (.row e l')
    rw [← hv]
    exact ⟨encL l', by rw [hst']; exact .of_one ho' hn', hmx', fun i j hi hj => by
      rw [hst'] at hj ⊢
      have : j = 0 := by omega
      subst this
      rw [Nat.mul_one, Nat.add_zero]
      exact encL_cell hf' hi⟩
  · obtain ⟨rfl, rfl⟩ := hlk x o hx
    exact hm.own 0 _ b rfl hb
  · simp only [Den]; exact ⟨[], rfl, by simp [DenL]⟩
/-- a function that hands over a new row -/
theorem sound_new {P : Program} {f e : Nat} {σ : CtF} (hen : ∀ args W, (callFunc f args).run P W = .ok (.enter f args) W)
    (h : ∀ args os p r outs, σ args os = some (p, r, outs) → ∃ l', os = [] ∧ r = .row 0 ∧ outs = [some (.row e l')] ∧ isFlat1 l' = true ∧
      (p → l'.len ≤ maxLen ∧ ∀ (W : World) (G : Nat → Prop) (vs : List Value), (∀ b, G b → b < W.heap.size) → GlOk (g0 W G) → DenL (g0 W G) args vs →
        Calls P f vs.toArray W fun e' W' => ∃ v', e' = .returned v' ∧ Own W' e v' (encL l') ∧ Below W.heap.size W W' ∧ ∀ b, v'.ownBlock = some b → W.heap.size ≤ b)) : Sound P f σ := by
  refine ⟨hen, fun g args os vs p r outs hσ hp hm hU hd => ?_⟩
  obtain ⟨l', rfl, rfl, rfl, hf', hcall⟩ := h args os p r outs hσ
  obtain ⟨hmx', hcall⟩ := hcall hp
  have hU' : ∀ r, ¬ g.U r := fun r hr => absurd (hU r hr) (by simp)
  have hd' : DenL (g0 g.W g.G) args vs := by
    have := DenL.map (f := id) (g := g) (g' := g0 g.W g.G) rfl rfl args vs (fun r _ hu => absurd hu (hU' r)) hd
    rwa [mapRL_id] at this
  refine Calls.mono (hcall g.W g.G vs (fun b hb => (hm.gb b hb).1) (fun kk ys hk => hm.anc.2 kk ys hk) hd') fun e' W' he => ?_
  obtain ⟨v', rfl, ho', hb, hnew⟩ := he
  obtain ⟨hn', hst'⟩ := encL_len hf'
  let g' : Gh := ⟨W', g.G, fun r => if r = 0 then v' else g.β r, fun r => g.U r ∨ r = 0⟩
  have hle : g.le g' := ⟨fun b hg => hb.block b (hm.gb b hg).1, fun _ hb => hb, fun r hr => absurd hr (hU' r)⟩
  have hlk : ∀ x o, outsH [some (.row e l')] x = some o → x = 0 ∧ o = .row e l' := by
    intro x o hx
    match x, hx with
    | 0, hx => simp [outsH] at hx; exact ⟨rfl, hx.symm⟩
    | n + 1, hx => simp [outsH] at hx
  have hb0 : g'.β 0 = v' := by show (if (0 : Nat) = 0 then v' else g.β 0) = v'; rw [if_pos rfl]
  obtain ⟨A, cap, hform, _⟩ := ho'.form
  refine ⟨v', g', rfl, rfl, hle, ⟨fun x o hx => ?_, fun x x' o o' b hx hx' _ _ => (hlk x o hx).1.trans (hlk x' o' hx').1.symm, fun x o b hx hbk => ?_, fun b hg => ⟨Nat.lt_of_lt_of_le (hm.gb b hg).1 hb.size, (hm.gb b hg).2⟩, ⟨hb.os, hb.tape, hb.output, hb.size, fun b hlt _ => hb.block b hlt⟩, fun r hr => absurd hr (by simp), hm.anc.2.up hle⟩, ?_⟩
  · obtain ⟨rfl, rfl⟩ := hlk x o hx
    refine ⟨.inr rfl, ?_⟩
    rw [hb0]
    exact ⟨encL l', by rw [hst']; exact .of_one ho' hn', hmx', fun i j hi hj => by
      rw [hst'] at hj ⊢
      have : j = 0 := by omega
      subst this
      rw [Nat.mul_one, Nat.add_zero]
      exact encL_cell hf' hi⟩
  · obtain ⟨rfl, rfl⟩ := hlk x o hx
    rw [hb0, own_blk ho'] at hbk
    have := hnew b hbk
    exact ⟨fun hg => by have := (hm.gb b hg).1; omega, .inl this⟩
  · simp only [Den]
    exact ⟨.inr rfl, hb0.symm, .inl ⟨A, _, cap, hform⟩⟩
end Go.Proofs.YtbpbndlgfiammaaGreatDoor.En
