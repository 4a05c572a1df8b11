/- Lemmas and contracts for the row. -/
import Derived.Test.YtkkapbnopmmmjaaGreatDoorPkRowEncodeMatchesW
import Derived.Lib.AppendStr
set_option linter.unusedVariables false
set_option linter.unusedSimpArgs false
set_option linter.unnecessarySimpa false
namespace Go.Proofs.YtkkapbnopmmmjaaGreatDoor.En
open Go Go.RowKit
section
variable {P : Program} (w : World)
end
section
variable {P : Program} {cx : Cx} {w0 : Base} {G0 : Nat → Prop} {g : Gh} {H hp : Nat → Option q0d} {nm : Nat} {ins : List AV} {vs : List Value} {ps : List Prop} {v : AV} {hs : List (Nat × Option q0d)} {ρ : Operand → Value} {o : Oper}
theorem j7k (hcx : q1g P cx) (hhp : ∀ r o, hp r = some o → H r = some o) (hm : MOk w0 G0 g H) (hn : ¬ g.U nm) (hin : q0l g ins vs) {t t2 : Nat} (hc : q9v cx nm t t2 hp ins = some (ps, v, hs)) (hps : q3h ps)
 {c : Call} {x y : Operand} (hop : o.op = .call c) (hb : c.callee = .builtin .append) (ht : c.argTypes = #[t, t2]) (ha : c.args = #[x, y]) (hv : [ρ x, ρ y] = vs) : Eff P ρ o g.W (Good w0 G0 g nm (q2c H hs) v) := by
 unfold q9v at hc; cases hc
theorem j6k {t t2 : Nat} (hc : q9v cx nm t t2 hp ins = some (ps, v, hs)) : ∃ x y, ins = [x, y] := by
 unfold q9v at hc; cases hc
theorem x3i (hcx : q1g P cx) (hm : MOk w0 G0 g H) (hin : q0l g ins vs) (hhp : ∀ r o, hp r = some o → H r = some o) {t : Nat} (hc : x4p cx t ins = some (ps, v, hs)) {c : Call} {x : Operand} (hop : o.op = .call c) (hb : c.callee = .builtin .len) (ht : c.argTypes = #[t]) (ha : c.args = #[x]) (hv : [ρ x] = vs) :
 Eff P ρ o g.W (Good w0 G0 g nm (q2c H hs) v) := by
 unfold x4p at hc; cases hc
theorem y3p (hcx : q1g P cx) (hm : MOk w0 G0 g H) (hin : q0l g ins vs) {t : Nat} (hc : j6i cx t ins = some (ps, v, hs)) (hps : q3h ps) {x y : Operand} (hop : o.op = .index t x y) (hv : [ρ x, ρ y] = vs) : Eff P ρ o g.W (Good w0 G0 g nm (q2c H hs) v) := by
 unfold j6i at hc; cases hc
theorem j7y (hcx : q1g P cx) (hm : MOk w0 G0 g H) (hin : q0l g ins vs) {t : Nat} {x : Operand} {lo hi mx : Option Operand} (hc : j0o cx t lo.isSome hi.isSome mx.isSome ins = some (ps, v, hs)) (hps : q3h ps)
 (hop : o.op = .slice t x lo hi mx) (hv : (x :: (lo.toList ++ hi.toList ++ mx.toList)).map ρ = vs) : Eff P ρ o g.W (Good w0 G0 g nm (q2c H hs) v) := by
 unfold j0o at hc
 split at hc
 · rename_i z hz
   rw [hc] at hz
   exact j4c hcx hm hin hz hps hop hv
 · unfold y9b at hc; cases hc
theorem Eff.mono {P : Program} {ρ : Operand → Value} {o : Oper} {W : World} {K K' : Value → World → Prop} (h : Eff P ρ o W K) (hk : ∀ u w', K u w' → K' u w') : Eff P ρ o W K' := by
 unfold Eff at h ⊢
 generalize (execOp ρ o).run P W = r at h ⊢
 cases r with
 | ok n w =>
  cases n with
  | value u => exact hk _ _ h
  | skip => exact hk _ _ h
  | enter f args => exact Calls.mono h fun e w' ⟨u, h1, h2⟩ => ⟨u, h1, hk _ _ h2⟩
  | _ => exact h
 | _ => exact h
theorem y3x (hcx : q1g P cx) (hm : MOk w0 G0 g H) (hhp : ∀ r o, hp r = some o → H r = some o) (hin : q0l g ins vs) {t : Nat} {x : Operand} {lo hi mx : Option Operand} (hc : j7v cx t lo.isSome hi.isSome mx.isSome hp ins = some (ps, v, hs)) (hps : q3h ps)
 (hop : o.op = .slice t x lo hi mx) (hv : (x :: (lo.toList ++ hi.toList ++ mx.toList)).map ρ = vs) : Eff P ρ o g.W (Good w0 G0 g nm (q2c H hs) v) := by
 unfold j7v at hc
 split at hc
 · rename_i z hz
   rw [hc] at hz
   exact j7y hcx hm hin hz hps hop hv
 · unfold y7e at hc
   split at hc
   · rename_i r rest _
     split at hc
     · rename_i e l hr
       split at hc
       · rename_i ps' v' hs'
         simp only [Option.some.injEq, Prod.mk.injEq] at hc
         obtain ⟨rfl, rfl, rfl⟩ := hc
         obtain ⟨g1, k1, k2, k3, k4, k5, k6⟩ := z9v [r] hm
         simp only [q0l] at hin
         obtain ⟨u, us, e1, hd, hrest⟩ := hin
         have hrep := k6 r List.mem_cons_self e l (hhp r _ hr)
         have hu : u = g.β r := by simp only [Den] at hd; exact hd.2.1
         have hin1 : q0l g1 (.im (.ls l) :: rest) vs := by
          simp only [q0l]
          exact ⟨u, us, e1, by simp only [Den]; rw [hu]; exact hrep, q0l.mono k4 rest us hrest⟩
         have h := j4c (nm := nm) hcx k5 hin1 hs' hps hop hv
         rw [k1] at h
         refine Eff.mono h fun u' w' hg => ?_
         obtain ⟨g', a1, a2, a3, a4, a5⟩ := hg
         exact ⟨g', a1, k4.trans a2, fun r => by rw [a3, k3], a4, a5⟩
       · cases hc
     · cases hc
   · cases hc
end
end Go.Proofs.YtkkapbnopmmmjaaGreatDoor.En
namespace Go.Proofs.YtkkapbnopmmmjaaGreatDoor.En
open Go Go.RowKit
section
variable {P : Program} {cx : Cx} {w0 : Base} {G0 : Nat → Prop} {g : Gh} {H hp : Nat → Option q0d} {nm : Nat}
 {ins : List AV} {vs : List Value} {ρ : Operand → Value} {o : Oper} {ps : List Prop} {v : AV} {hs : List (Nat × Option q0d)}
theorem q5v (hcx : q1g P cx) {t e : Nat} (h : j4q cx t = some e) : ∃ k, P.underlying t = some (.map k e) ∧ P.underlying k = some (.int .i64) ∧ ∀ i cs, P.info? e = some i → i.zero ≠ some (.agg cs) := by
 unfold j4q at h
 split at h
 · rename_i td ht
   have hok := (hcx.ty t td ht).2.2
   cases hb : Nat.beq td.ik 10 with
   | false => rw [hb] at h; cases h
   | true =>
    rw [hb] at h
    simp only [cond_true, Option.some.injEq] at h
    unfold k2t at hok
    rw [hb] at hok
    simp only [cond_true] at hok
    split at hok
    · rename_i k e' hu
      simp only [Bool.and_eq_true] at hok
      refine ⟨k, ?_, ?_, fun i cs hi hz => ?_⟩
      · rw [hu, Nat.eq_of_beq_eq_true hok.1, h]
      · have h2 := hok.2.1
        split at h2
        · assumption
        · cases h2
      · have h2 := hok.2.2
        rw [Nat.eq_of_beq_eq_true hok.1, h, hi] at h2
        simp [hz] at h2
    · cases hok
 · cases h
theorem j2g (h : MOk w0 G0 g H) (hn : ¬ g.U nm) : Good w0 G0 g nm (q2c H [(nm, some (.mset []))]) (.row nm) (.map (some g.W.heap.size)) (g.W.alloc (.map #[] 0)) := by
 have hne : ∀ r, g.U r → r ≠ nm := fun r hr e => hn (e ▸ hr)
 have hHn : ∀ r o, H r = some o → r ≠ nm := fun r o hr => hne r (h.ok r o hr).1
 let g' : Gh := ⟨g.W.alloc (.map #[] 0), g.G, fun r => if r = nm then .map (some g.W.heap.size) else g.β r, fun r => g.U r ∨ r = nm⟩
 have hkeep : ∀ b, b < g.W.heap.size → g'.W.heap[b]? = g.W.heap[b]? := fun b hb => Below.heap_alloc g.W _ b hb
 have hle : g.le g' := ⟨fun b hb => hkeep b (h.gb b hb).1, fun _ hb => hb, fun r hr => ⟨.inl hr, if_neg (hne r hr)⟩⟩
 have hb1 : g'.β nm = .map (some g.W.heap.size) := if_pos rfl
 have hb2 : ∀ r, r ≠ nm → g'.β r = g.β r := fun r hr => if_neg hr
 have hupd : ∀ r o, q2c H [(nm, some (.mset []))] r = some o → (r = nm ∧ o = .mset []) ∨ (r ≠ nm ∧ H r = some o) := fun r o hr => y3h hr
 refine ⟨g', rfl, hle, fun _ => Iff.rfl, ⟨?_, ?_, ?_, ?_, ?_, h.anc_up hle⟩, ?_⟩
 · intro r o hr
   rcases hupd r o hr with ⟨rfl, rfl⟩ | ⟨hr', ho⟩
   · rw [hb1]
     exact ⟨.inr rfl, g.W.heap.size, rfl, z8r.made g.W⟩
   · obtain ⟨hu, hok⟩ := h.ok r o ho
     rw [hb2 r hr']
     exact ⟨.inl hu, hok.up hle fun b hb => hkeep b (hok.lt hb)⟩
 · intro r r' o o' b hr hr' hb hb'
   rcases hupd r o hr with ⟨rfl, rfl⟩ | ⟨hn1, ho⟩ <;> rcases hupd r' o' hr' with ⟨rfl, rfl⟩ | ⟨hn2, ho'⟩
   · rfl
   · rw [hb1] at hb
     rw [hb2 _ hn2] at hb'
     have := (h.ok r' o' ho').2.lt hb'
     simp [q1n] at hb
     omega
   · rw [hb1] at hb'
     rw [hb2 _ hn1] at hb
     have := (h.ok r o ho).2.lt hb
     simp [q1n] at hb'
     omega
   · rw [hb2 _ hn1] at hb
     rw [hb2 _ hn2] at hb'
     exact h.sep r r' o o' b ho ho' hb hb'
 · intro r o b hr hb
   rcases hupd r o hr with ⟨rfl, rfl⟩ | ⟨hn1, ho⟩
   · rw [hb1] at hb
     simp [q1n] at hb
     subst hb
     exact ⟨fun hg => by have := (h.gb _ hg).1; omega, .inl h.bel.size⟩
   · rw [hb2 _ hn1] at hb
     exact h.own r o b ho hb
 · intro b hb
   have := h.gb b hb
   exact ⟨by show b < (g.W.alloc _).heap.size; simp; omega, this.2⟩
 · exact h.bel.alloc _
 · simp only [Den]
   exact ⟨.inr rfl, hb1.symm, .inr ⟨_, rfl⟩⟩
theorem j0w {r b : Nat} {o o' : q0d} {ob : Obj} (h : MOk w0 G0 g H) (hr : H r = some o) (hb : q1n (g.β r) = some b)
 (hok : ∀ g' : Gh, g'.W = { g.W with heap := g.W.heap.setIfInBounds b ob } → g.le g' → z6m g' (g.β r) o') :
 Good w0 G0 g nm (q2c H [(r, some o')]) .any undef { g.W with heap := g.W.heap.setIfInBounds b ob } := by
 have hnG : ¬ g.G b := (h.own r _ b hr hb).1
 let g' : Gh := ⟨{ g.W with heap := g.W.heap.setIfInBounds b ob }, g.G, g.β, fun x => g.U x ∨ x = nm⟩
 have hkeep : ∀ k, k ≠ b → g'.W.heap[k]? = g.W.heap[k]? := fun k hk => by
  show (g.W.heap.setIfInBounds b ob)[k]? = _
  rw [Array.getElem?_setIfInBounds, if_neg (fun e => hk e.symm)]
 have hle : g.le g' := ⟨fun k hk => hkeep k (fun e => hnG (e ▸ hk)), fun _ hb => hb, fun r hr => ⟨.inl hr, rfl⟩⟩
 have hupd : ∀ x p, q2c H [(r, some o')] x = some p → (x = r ∧ p = o') ∨ (x ≠ r ∧ H x = some p) := fun x p hx => y3h hx
 have hsome : ∀ x p, q2c H [(r, some o')] x = some p → ∃ q, H x = some q := fun x p hx => by
  rcases hupd x p hx with ⟨rfl, _⟩ | ⟨_, h1⟩
  · exact ⟨_, hr⟩
  · exact ⟨_, h1⟩
 refine ⟨g', rfl, hle, fun _ => Iff.rfl, ⟨?_, ?_, ?_, ?_, ?_, h.anc_up hle⟩, by simp only [Den]⟩
 · intro x p hx
   rcases hupd x p hx with ⟨rfl, rfl⟩ | ⟨hx', ho⟩
   · exact ⟨.inl (h.ok _ _ hr).1, hok g' rfl hle⟩
   · obtain ⟨hu, hok⟩ := h.ok x p ho
     exact ⟨.inl hu, hok.up hle fun k hk => hkeep k (fun e => hx' (h.sep x r p _ b ho hr (e ▸ hk) hb))⟩
 · intro x x' p p' k hx hx' hk hk'
   obtain ⟨q, hq⟩ := hsome x p hx
   obtain ⟨q', hq'⟩ := hsome x' p' hx'
   exact h.sep x x' q q' k hq hq' hk hk'
 · intro x p k hx hk
   obtain ⟨q, hq⟩ := hsome x p hx
   exact h.own x q k hq hk
 · intro k hk
   have := h.gb k hk
   exact ⟨by show k < (g.W.heap.setIfInBounds b ob).size; simpa using this.1, this.2⟩
 · refine ⟨h.bel.os, h.bel.tape, h.bel.output, by simpa [g'] using h.bel.size, fun k hk hn => ?_⟩
   have hb0 := (h.own r _ b hr hb).2
   refine (hkeep k (fun e => ?_)).trans (h.bel.block k hk hn)
   subst e
   rcases hb0 with h0 | h0
   · omega
   · exact hn h0
theorem j8d (hcx : q1g P cx) (hm : MOk w0 G0 g H) (hn : ¬ g.U nm) (hin : q0l g ins vs) {t : Nat} {x : Option Operand} (hc : z9z cx nm t ins = some (ps, v, hs)) (hop : o.op = .makeMap t x) (hv : x.toList.map ρ = vs) :
 Eff P ρ o g.W (Good w0 G0 g nm (q2c H hs) v) := by
 unfold z9z at hc
 have hnew : ∀ W : World, (newObj (.map #[] 0)).run P W = .ok W.heap.size (W.alloc (.map #[] 0)) := fun W => by simp [newObj, Sem.run]
 split at hc
 · split at hc
   · rename_i e he
     simp only [Option.some.injEq, Prod.mk.injEq] at hc
     obtain ⟨rfl, rfl, rfl⟩ := hc
     simp only [q0l] at hin
     subst hin
     have hx : x = none := by cases x <;> simp_all
     subst hx
     refine .of_run (u := .map (some g.W.heap.size)) (W' := g.W.alloc (.map #[] 0)) ?_ (j2g hm hn)
     simp [execOp, hop, Instr.makeMap, hnew, Result.andThen]
   · cases hc
 · rename_i k
   split at hc
   · rename_i e he
     simp only [Option.some.injEq, Prod.mk.injEq] at hc
     obtain ⟨rfl, rfl, rfl⟩ := hc
     obtain ⟨u, e1, hd⟩ := q3s hin
     obtain ⟨y, rfl⟩ : ∃ y, x = some y := by
      cases x with
      | none => rw [e1] at hv; simp at hv
      | some y => exact ⟨y, rfl⟩
     rw [e1] at hv
     simp at hv
     have hy := q0h hd
     rw [← hv] at hy
     obtain ⟨kt, hu, _⟩ := q5v hcx he
     refine .of_run (u := .map (some g.W.heap.size)) (W' := g.W.alloc (.map #[] 0)) ?_ (j2g hm hn)
     simp [execOp, hop, Instr.makeMap, hnew, hy, run_underlying hu, asInt, asIntOf, Result.andThen]
   · cases hc
 · cases hc
theorem q8u {r b : Nat} {u : Value} (hd : Den g (.row r) u) (hβ : g.β r = .map (some b)) : u = .map (some b) := by
 simp only [Den] at hd
 exact hd.2.1.trans hβ
theorem z7v (hcx : q1g P cx) (hhp : ∀ r o, hp r = some o → H r = some o) (hm : MOk w0 G0 g H) (hin : q0l g ins vs) {t : Nat} (hc : j2b cx t hp ins = some (ps, v, hs)) (hps : q3h ps) {m k x : Operand}
 (hop : o.op = .mapUpdate t m k x ∨ o.op = .insert t m k x) (hv : [ρ m, ρ k, ρ x] = vs) : Eff P ρ o g.W (Good w0 G0 g nm (q2c H hs) v) := by
 have hex : ∀ {W' : World}, (Instr.mapUpdate t (ρ m) (ρ k) (ρ x)).run P g.W = .ok () W' → (execOp ρ o).run P g.W = .ok .skip W' ∨ (execOp ρ o).run P g.W = .ok (.value undef) W' := fun h => by
  rcases hop with hop | hop <;> simp [execOp, hop, h, Result.andThen]
 have fin : ∀ {W' : World} {K : Value → World → Prop}, (Instr.mapUpdate t (ρ m) (ρ k) (ρ x)).run P g.W = .ok () W' → K undef W' → Eff P ρ o g.W K := fun h hk => by
  rcases hex h with h | h
  · exact .of_skip h hk
  · exact .of_run h hk
 unfold j2b at hc
 split at hc
 · rename_i r z b
   split at hc
   · rename_i e ks he hr
     simp only [Option.some.injEq, Prod.mk.injEq] at hc
     obtain ⟨rfl, rfl, rfl⟩ := hc
     have hb : b = true := hps
     subst hb
     obtain ⟨u1, u2, u3, e1, d1, d2, d3⟩ := j7z hin
     rw [e1] at hv
     simp only [List.cons.injEq, and_true] at hv
     obtain ⟨q1, q2, q3⟩ := hv
     obtain ⟨bk, hβ, hw⟩ := (hm.ok r _ (hhp r _ hr)).2
     obtain ⟨kt, hu, hkt, hna⟩ := q5v hcx he
     obtain ⟨ob, h1, h2⟩ := x1o t kt e hu hkt hw z
     refine fin (W' := { g.W with heap := g.W.heap.setIfInBounds bk ob }) ?_ (j0w hm (hhp r _ hr) (by rw [hβ]; rfl) fun g' hW hle => ⟨bk, hβ, by rw [hW]; exact h2⟩)
     rw [q1, q2, q3, q8u d1 hβ, q0h d2, q0h d3]
     exact h1
   · cases hc
 · rename_i r z f xs
   obtain ⟨u1, u2, u3, e1, d1, d2, d3⟩ := j7z hin
   rw [e1] at hv
   simp only [List.cons.injEq, and_true] at hv
   obtain ⟨q1, q2, q3⟩ := hv
   split at hc
   · rename_i e he hr
     simp only [Option.some.injEq, Prod.mk.injEq] at hc
     obtain ⟨rfl, rfl, rfl⟩ := hc
     obtain ⟨bk, hβ, hw⟩ := (hm.ok r _ (hhp r _ hr)).2
     obtain ⟨kt, hu, hkt, hna⟩ := q5v hcx he
     obtain ⟨ob, h1, h2⟩ := j1f t kt e hu hkt hw z u3 (.inl rfl)
     replace h2 : z8r { g.W with heap := g.W.heap.setIfInBounds bk ob } bk ([z].zip [u3]) := h2
     refine fin (W' := { g.W with heap := g.W.heap.setIfInBounds bk ob }) ?_ (j0w hm (hhp r _ hr) (by rw [hβ]; rfl) fun g' hW hle => ⟨bk, [u3], hβ, rfl, by rw [hW]; exact h2, by simp only [q0l]; exact ⟨u3, [], rfl, Den.mono hle _ _ d3, rfl⟩⟩)
     rw [q1, q2, q3, q8u d1 hβ, q0h d2]
     exact h1
   · rename_i e ks cs he hr
     cases hall : ks.all fun j => !decide (j = z) with
     | false => rw [hall] at hc; cases hc
     | true =>
      rw [hall] at hc
      simp only [cond_true, Option.some.injEq, Prod.mk.injEq] at hc
      obtain ⟨rfl, rfl, rfl⟩ := hc
      have hnot : z ∉ ks := fun hz => by simpa using (List.all_eq_true.1 hall) z hz
      obtain ⟨bk, us, hβ, hl, hw, hd⟩ := (hm.ok r _ (hhp r _ hr)).2
      obtain ⟨kt, hu, hkt, hna⟩ := q5v hcx he
      have hf : q5w (ks.zip us) z = none := y4u hnot
      obtain ⟨ob, h1, h2⟩ := j1f t kt e hu hkt hw z u3 (.inl hf)
      rw [if_pos hf] at h2
      have hz : (ks ++ [z]).zip (us ++ [u3]) = ks.zip us ++ [(z, u3)] := by rw [List.zip_append hl.symm]; rfl
      refine fin (W' := { g.W with heap := g.W.heap.setIfInBounds bk ob }) ?_ (j0w hm (hhp r _ hr) (by rw [hβ]; rfl) fun g' hW hle => ⟨bk, us ++ [u3], hβ, by simp [hl], by rw [hW, hz]; exact h2, (hd.mono hle).append (by simp only [q0l]; exact ⟨u3, [], rfl, Den.mono hle _ _ d3, rfl⟩)⟩)
      rw [q1, q2, q3, q8u d1 hβ, q0h d2]
      exact h1
   · cases hc
 · cases hc
theorem z8m {k : Int} : ∀ {ks : List Int} {cs : List AV} {us : List Value} {x : AV}, y3r k ks cs = some x → us.length = ks.length → q0l g cs us → ∃ u, q5w (ks.zip us) k = some u ∧ Den g x u
 | [], cs, us, x, h, _, _ => by simp [y3r] at h
 | j :: ks, [], us, x, h, _, _ => by simp [y3r] at h
 | j :: ks, c :: cs, us, x, h, hl, hd => by
  simp only [q0l] at hd
  obtain ⟨u, us', rfl, d1, d2⟩ := hd
  simp only [y3r] at h
  by_cases e : j = k
  · subst e
    simp at h
    subst h
    exact ⟨u, by simp [q5w], d1⟩
  · simp [e] at h
    obtain ⟨u', h1, h2⟩ := z8m h (by simpa using hl) d2
    refine ⟨u', ?_, h2⟩
    unfold q5w at h1 ⊢
    rw [List.zip_cons_cons, List.find?_cons]
    have : (j == k) = false := by simpa using e
    simp only [this]
    exact h1
theorem z9r {w : World} {m : Nat} {f : Int → Option Value} (t kt et : TypeId) (ht : P.underlying t = some (.map kt et)) (hkt : P.underlying kt = some (.int .i64)) (h : q5f w m f) (k : Int) {u : Value} (hu : f k = some u) :
 (Instr.lookup t (.map (some m)) (.int .i64 k) false).run P w = .ok u w := by
 obtain ⟨es, clock, hb, hk, hf⟩ := h
 have hc := fun em : Bool => z3i (P := P) (w := w) kt hkt em 9999 k
 have hg : (getObj m).run P w = .ok (.map es clock) w := by simp [getObj, Sem.run, hb]
 rcases findNow_spec k .i64 es.toList 0 hk with ⟨j, hj, h1, h2, h3, h4⟩ | ⟨h3, h2, h4⟩
 · rw [← hf k, h4] at hu
   cases hu
   simp [Instr.lookup, run_underlying ht, hg, hc, Instr.findKey, run_underlying hkt, h3]
 · rw [← hf k, h4] at hu
   cases hu
theorem y6r (hcx : q1g P cx) {e : Nat} (hna : ∀ i cs, P.info? e = some i → i.zero ≠ some (.agg cs)) (h : x2z cx e = true) (W : World) : (zeroValue e).run P W = .ok (.bool false) W := by
 unfold x2z at h
 split at h
 · rename_i ed he
   split at h
   · rename_i hz
     obtain ⟨i, z, hi, hs, hz', hc, _⟩ := (hcx.ty e ed he).info
     rw [hz] at hc
     have : z = .bool false := by
      cases z with
      | agg cs => exact absurd hz' (hna i cs hi)
      | _ => simpa [Value.cells] using hc
     subst this
     unfold zeroValue
     rw [Sem.run_bind]
     simp [typeInfo, hi, hz']
   · cases h
 · cases h
theorem y4f (hcx : q1g P cx) (hhp : ∀ r o, hp r = some o → H r = some o) (hm : MOk w0 G0 g H) (hin : q0l g ins vs) {t : Nat} {ok : Bool} (hc : j7i cx t ok hp ins = some (ps, v, hs)) {m k : Operand}
 (hop : o.op = .lookup t m k ok) (hv : [ρ m, ρ k] = vs) : Eff P ρ o g.W (Good w0 G0 g nm (q2c H hs) v) := by
 unfold j7i at hc
 split at hc
 · rename_i r z
   obtain ⟨u1, u2, e1, d1, d2⟩ := q3v hin
   rw [e1] at hv
   simp only [List.cons.injEq, and_true] at hv
   obtain ⟨q1, q2⟩ := hv
   split at hc
   · rename_i e ks he hr
     cases hz : x2z cx e with
     | false => rw [hz] at hc; cases hc
     | true =>
      rw [hz] at hc
      simp only [cond_true] at hc
      obtain ⟨rfl, rfl, rfl⟩ := q0s hc
      obtain ⟨bk, hβ, hw⟩ := (hm.ok r _ (hhp r _ hr)).2
      obtain ⟨kt, hu, hkt, hna⟩ := q5v hcx he
      have hz0 := y6r hcx hna hz
      have hf := z5f ks z
      have hg1 : (q5w (y9q ks) z).getD (.bool false) = .bool (ks.contains z) := by rw [hf]; cases ks.contains z <;> rfl
      have hg2 : (q5w (y9q ks) z).isSome = ks.contains z := by rw [hf]; cases ks.contains z <;> rfl
      cases ok with
      | false =>
       have h1 := q7s t kt e (.bool false) hu hkt hz0 hw.mapI z
       rw [hg1] at h1
       refine .of_run (u := .bool (ks.contains z)) (W' := g.W) ?_ (q0n hm (q0g _))
       simp [execOp, hop, q1, q2, q8u d1 hβ, q0h d2, h1, Result.andThen]
      | true =>
       have h1 := k6j t kt e (.bool false) hu hkt hz0 hw.mapI z
       rw [hg1, hg2] at h1
       refine .of_run (u := .tuple #[.bool (ks.contains z), .bool (ks.contains z)]) (W' := g.W) ?_ (q0n hm ?_)
       · simp [execOp, hop, q1, q2, q8u d1 hβ, q0h d2, h1, Result.andThen]
       · simp only [cond_true, Den]
         refine ⟨[.bool (ks.contains z), .bool (ks.contains z)], rfl, ?_⟩
         simp only [q0l]
         exact ⟨_, _, rfl, q0g _, _, _, rfl, q0g _, rfl⟩
   · rename_i e ks cs he hr
     cases ok with
     | true => cases hc
     | false =>
      simp only [cond_false] at hc
      split at hc
      · rename_i x hx
        obtain ⟨rfl, rfl, rfl⟩ := q0s hc
        obtain ⟨bk, us, hβ, hl, hw, hd⟩ := (hm.ok r _ (hhp r _ hr)).2
        obtain ⟨kt, hu, hkt, hna⟩ := q5v hcx he
        obtain ⟨u, h1, h2⟩ := z8m hx hl hd
        have h3 := z9r t kt e hu hkt hw.mapI z h1
        refine .of_run (u := u) (W' := g.W) ?_ (q0n hm h2)
        simp [execOp, hop, q1, q2, q8u d1 hβ, q0h d2, h3, Result.andThen]
      · cases hc
   · cases hc
 · cases hc
theorem x4k {t : Nat} (hc : y7f cx t hp ins = some (ps, v, hs)) : ∃ x, ins = [x] := by
 unfold y7f at hc
 split at hc
 · rename_i z hz
   unfold cLen at hz
   split at hz
   · exact ⟨_, rfl⟩
   · exact ⟨_, rfl⟩
   · exact ⟨_, rfl⟩
   · cases hz
 · split at hc
   · rename_i z hz
     unfold x4p at hz
     cases hz
   · unfold x7f at hc
     split at hc
     · exact ⟨_, rfl⟩
     · cases hc
theorem x1x (hcx : q1g P cx) (hm : MOk w0 G0 g H) (hin : q0l g ins vs) (hhp : ∀ r o, hp r = some o → H r = some o) {t : Nat} (hc : y7f cx t hp ins = some (ps, v, hs)) (hps : q3h ps) {c : Call} {x : Operand} (hop : o.op = .call c) (hb : c.callee = .builtin .len) (ht : c.argTypes = #[t]) (ha : c.args = #[x]) (hv : [ρ x] = vs) :
 Eff P ρ o g.W (Good w0 G0 g nm (q2c H hs) v) := by
 unfold y7f at hc
 split at hc
 · rename_i z hz
   rw [hc] at hz
   exact x9z hcx hm hin hhp hz hop hb ht ha hv
 · split at hc
   · rename_i z hz
     rw [hc] at hz
     exact x3i hcx hm hin hhp hz hop hb ht ha hv
   · unfold x7f at hc
     split at hc
     · rename_i r _ _
       split at hc
       · rename_i e ks he hr
         simp only [Option.some.injEq, Prod.mk.injEq] at hc
         obtain ⟨rfl, rfl, rfl⟩ := hc
         obtain ⟨u, e1, hd⟩ := q3s hin
         rw [← hv] at e1
         cases e1
         obtain ⟨bk, hβ, hw⟩ := (hm.ok r _ (hhp r _ hr)).2
         obtain ⟨kt, hu, hkt, hna⟩ := q5v hcx he
         obtain ⟨es, clock, hh, hsz⟩ := hw.cnt
         have hx := q8u hd hβ
         have hn : es.size = ks.length := by rw [hsz]; simp [y9q]
         refine .of_run (u := .int .i64 ks.length) (W' := g.W) ?_ (q0n hm (q0g _))
         have hg : (getObj bk).run P g.W = .ok (.map es clock) g.W := by simp [getObj, Sem.run, hh]
         simp [execOp, hop, resolve, hb, ht, ha, invoke, builtin, Builtin.len_, hx, run_underlying hu, hg, hn, goInt, Result.andThen]
       · cases hc
     · cases hc
theorem x3r (hcx : q1g P cx) (hm : MOk w0 G0 g H) (hin : q0l g ins vs) {t t' : Nat} {op : BinOp} {x y : Operand} (hc : k0d cx op t y ins = some (ps, v, hs)) (hps : q3h ps) (hop : o.op = .binOp op t x y t') (hv : [ρ x, ρ y] = vs) :
 Eff P ρ o g.W (Good w0 G0 g nm (q2c H hs) v) := by
 unfold k0d at hc
 split at hc
 · rename_i r hr
   cases hc
   exact x9w hcx hm hin hr hps hop hv
 · unfold k7t at hc
   split at hc
   · rename_i b _
     split at hc
     · rename_i td htd _
       cases hk : Nat.beq td.ik 11 with
       | false => rw [hk] at hc; cases hc
       | true =>
        rw [hk] at hc
        simp only [cond_true] at hc
        obtain ⟨rfl, rfl, rfl⟩ := q0s hc
        obtain ⟨u, u', e, hd, hd'⟩ := q3v hin
        rw [← hv] at e
        simp only [List.cons.injEq, and_true] at e
        obtain ⟨e1, e2⟩ := e
        rw [q0h hd'] at e2
        obtain ⟨d, hu, hdd⟩ := (hcx.ty t td htd).desc
        have hik : (descOf d).2.2.2.2 = 11 := by rw [hdd]; exact Nat.eq_of_beq_eq_true hk
        have hi : P.underlying t = some (.interface (P.methodsAt t)) := by
         cases d with
         | interface ms => rw [hu]; simp [Program.methodsAt, hu]
         | int k => cases k <;> simp [descOf, kNo] at hik
         | array n e => simp [descOf] at hik; omega
         | _ => simp [descOf] at hik
        simp only [Den] at hd
        cases b with
        | true =>
         simp only [if_true] at hd
         obtain ⟨te, pe, rfl⟩ := hd
         refine .of_run (u := .bool true) (W' := g.W) ?_ (q0n hm (q0g _))
         have h1 := run_neq_held_nil (P := P) (w := g.W) t te pe hi
         simp [execOp, hop, e1, e2, h1, Result.andThen, eqGuard]
        | false =>
         simp only [Bool.false_eq_true, if_false] at hd
         subst hd
         refine .of_run (u := .bool false) (W' := g.W) ?_ (q0n hm (q0g _))
         have h1 := run_neq_nil_nil (P := P) (w := g.W) t hi
         simp [execOp, hop, e1, e2, h1, Result.andThen, eqGuard]
     · cases hc
   · cases hc
end
end Go.Proofs.YtkkapbnopmmmjaaGreatDoor.En
