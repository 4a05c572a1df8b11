/- Lemmas and contracts for the row. -/
import Derived.Test.YtkkapbnopmmmjaaGreatDoorPkRowEncodeMatchesX
import Derived.Test.YtkkapbnopmmmjaaGreatDoorPkRowEncodeMatchesI
import Derived.Test.YtkkapbnopmmmjaaGreatDoorPkRowEncodeMatchesA
import Derived.Test.YtkkapbnopmmmjaaGreatDoorPkRowEncodeMatchesL
set_option linter.unusedVariables false
set_option linter.unusedSimpArgs false
set_option linter.unnecessarySimpa false
namespace Go.Proofs.YtkkapbnopmmmjaaGreatDoor.En
section
open Go Go.RowKit
section
variable {P : Program} {cx : Cx} {w0 : Base} {G0 : Nat → Prop} {g : Gh} {H hp : Nat → Option q0d} {nm : Nat}
  {ins : List AV} {vs : List Value} {ρ : Operand → Value} {o : Oper} {ps : List Prop} {v : AV} {hs : List (Nat × Option q0d)}
theorem x7n {xs : Array Operand} {vs : List Value} {x : AV} {ins : List AV} (hin : q0l g ins vs) (hv : xs.toList.map ρ = vs) (h : ins = [x]) : ∃ y, xs = #[y] ∧ [ρ y] = vs := by
 subst h
 obtain ⟨u, e, _⟩ := q3s hin
 rw [e] at hv
 obtain ⟨l⟩ := xs
 match l, hv with
 | [y], hv => exact ⟨y, rfl, by rw [e]; simpa using hv⟩
theorem z9q {xs : Array Operand} {vs : List Value} {x y : AV} {ins : List AV} (hin : q0l g ins vs) (hv : xs.toList.map ρ = vs) (h : ins = [x, y]) : ∃ a b, xs = #[a, b] ∧ [ρ a, ρ b] = vs := by
 subst h
 obtain ⟨u, u', e, _⟩ := q3v hin
 rw [e] at hv
 obtain ⟨l⟩ := xs
 match l, hv with
 | [a, b], hv => exact ⟨a, b, rfl, by rw [e]; simpa using hv⟩
theorem y3a (hcx : q1g P cx) (hhp : ∀ r o, hp r = some o → H r = some o) (hm : MOk w0 G0 g H) (hn : ¬ g.U nm) (hin : q0l g ins vs) (hv : o.op.operands.toList.map ρ = vs)
 (hc : core cx nm o.op ins hp = some (ps, v, hs)) (hps : q3h ps) (hcall : z3y o.op = false) : Eff P ρ o g.W (Good w0 G0 g nm (q2c H hs) v) := by
 unfold core at hc
 split at hc <;> rename_i hop
 · rw [hop] at hv; exact j9f hm hin hc (.inl hop) (by simpa [Op.operands] using hv)
 · rw [hop] at hv; exact j9f hm hin hc (.inr hop) (by simpa [Op.operands] using hv)
 · rw [hop] at hv; exact x7q hm hin hc hop (by simpa [Op.operands] using hv)
 · rw [hop] at hv; exact x4i hm hin hc hps hop (by simpa [Op.operands] using hv)
 · exact y6m hcx hm hn hc hop
 · rw [hop] at hv; exact x9h hm hn hin hc hop (by simpa [Op.operands] using hv)
 · rw [hop] at hv; exact x1b hcx hhp hm hin hc hps hop (by simpa [Op.operands] using hv)
 · rw [hop] at hv; exact y8x hcx hhp hm hin hc hps hop (by simpa [Op.operands] using hv)
 · rw [hop] at hv; exact x3r hcx hm hin hc hps hop (by simpa [Op.operands] using hv)
 · rw [hop] at hv; exact k0t hm hin hc hop (by simpa [Op.operands] using hv)
 · rw [hop] at hv; exact x7p hm hin hc hps hop (by simpa [Op.operands] using hv)
 · rw [hop] at hv; exact j7h hcx hhp hm hn hin hc hps hop (by simpa [Op.operands] using hv)
 · rw [hop] at hv; exact j0u hcx hm hin hc hop (by simpa [Op.operands] using hv)
 · rw [hop] at hv; exact y7a hcx hm hin hc hop (by simpa [Op.operands] using hv)
 · rw [hop] at hv; exact j1c hcx hm hin hhp hc hps hop (by simpa [Op.operands] using hv)
 · rw [hop] at hv; exact j7a hm hin hc hop (by simpa [Op.operands] using hv)
 · rw [hop] at hv; exact y3x hcx hm hhp hin hc hps hop (by simpa [Op.operands] using hv)
 · rw [hop] at hv; exact y3p hcx hm hin hc hps hop (by simpa [Op.operands] using hv)
 · rw [hop] at hv; exact z9u hcx hm hn hin hc hps hop (by simpa [Op.operands] using hv)
 · rw [hop] at hv; exact j8d hcx hm hn hin hc hop (by simpa [Op.operands] using hv)
 · rw [hop] at hv; exact z7v hcx hhp hm hin hc hps (.inl hop) (by simpa [Op.operands] using hv)
 · rw [hop] at hv; exact z7v hcx hhp hm hin hc hps (.inr hop) (by simpa [Op.operands] using hv)
 · rw [hop] at hv; exact y4f hcx hhp hm hin hc hop (by simpa [Op.operands] using hv)
 · rw [hop] at hv; exact z6r hcx hhp hm hn hin hc hop (by simpa [Op.operands] using hv)
 · rw [hop] at hv; exact y6q hcx hm hin hc hop (by simpa [Op.operands] using hv)
 · rw [hop] at hv; exact j5q hm hin hc hop (by simpa [Op.operands] using hv)
 · rename_i c
   rw [hop] at hv
   split at hc <;> rename_i hb
   · simp only [Op.operands, Call.operands, hb] at hv
     split at hc
     · rename_i t ht
       obtain ⟨x, hx⟩ := x4k hc
       obtain ⟨y, hy, hvy⟩ := x7n (xs := c.args) hin (by simpa using hv) hx
       exact x1x hcx hm hin hhp hc hps hop hb ht hy hvy
     · cases hc
   · simp only [Op.operands, Call.operands, hb] at hv
     have h1 : ∃ x y, ins = [x, y] := by
      unfold k5m at hc
      split at hc
      · exact ⟨_, _, rfl⟩
      · cases hc
     obtain ⟨x, y, hx⟩ := h1
     obtain ⟨a, b, hy, hvy⟩ := z9q (xs := c.args) hin (by simpa using hv) hx
     exact x6v hm hin hc hop hb hy hvy
   · simp only [Op.operands, Call.operands, hb] at hv
     have h1 : ∃ x y, ins = [x, y] := by
      unfold k5o at hc
      split at hc
      · exact ⟨_, _, rfl⟩
      · cases hc
     obtain ⟨x, y, hx⟩ := h1
     obtain ⟨a, b, hy, hvy⟩ := z9q (xs := c.args) hin (by simpa using hv) hx
     exact x8n hm hin hc hop hb hy hvy
   · simp only [Op.operands, Call.operands, hb] at hv
     split at hc
     · rename_i t t' ht
       cases htt : Nat.beq t t' with
       | false =>
        rw [htt] at hc
        simp only [cond_false] at hc
        obtain ⟨x, y, hx⟩ := j6k hc
        obtain ⟨a, b, hy, hvy⟩ := z9q (xs := c.args) hin (by simpa using hv) hx
        exact j7k hcx hhp hm hn hin hc hps hop hb ht hy hvy
       | true =>
        rw [htt] at hc
        simp only [cond_true] at hc
        have := Nat.eq_of_beq_eq_true htt
        subst this
        have h1 : ∃ x y, ins = [x, y] := by
         unfold z9j at hc
         split at hc
         · exact ⟨_, _, rfl⟩
         · exact ⟨_, _, rfl⟩
         · exact ⟨_, _, rfl⟩
         · cases hc
        obtain ⟨x, y, hx⟩ := h1
        obtain ⟨a, b, hy, hvy⟩ := z9q (xs := c.args) hin (by simpa using hv) hx
        exact y2y hcx hhp hm hn hin hc hps hop hb ht hy hvy
     · cases hc
   · rw [hop] at hcall; simp [z3y, hb] at hcall
   · cases hc
 · cases hc
theorem j7o (hcx : q1g P cx) (hhp : ∀ r o, hp r = some o → H r = some o) (hm : MOk w0 G0 g H) (hn : ∀ r, q1e nm r = true → ¬ g.U r) (hin : q0l g ins vs) (hv : o.op.operands.toList.map ρ = vs)
 (hc : core cx nm o.op ins hp = some (ps, v, hs)) (hps : q3h ps) : Eff P ρ o g.W (y6v w0 G0 g nm (q2c H hs) v) := by
 by_cases hcall : z3y o.op = true
 · unfold core at hc
   cases hop : o.op with
   | call c =>
    rw [hop] at hc hv hcall
    simp only at hc
    cases hb : c.callee with
    | value x =>
     rw [hb] at hc
     simp only [Op.operands, Call.operands, hb] at hv
     exact x2w hcx hhp hm hn hin hc hps hop hb (by simpa using hv)
    | _ => simp [z3y, hb] at hcall
   | _ => rw [hop] at hcall; simp [z3y] at hcall
 · exact (y3a hcx hhp hm (hn nm (z5q nm)) hin hv hc hps (by simpa using hcall)).mono fun _ _ h => h.up
end
def z2z (w0 : Base) (G0 : Nat → Prop) (n : Nat) (U : Nat → Prop) (S : St) (a : Act) (W : World) : Prop :=
 a.tmps.size = n ∧ a.defers = w0.ds ∧ ∃ g : Gh, g.W = W ∧ (∀ r, g.U r → U r) ∧ MOk w0 G0 g S.heap ∧ ∀ i, Den g (S.env i) (a.tmps.getD i undef)
theorem x5q {g : Gh} {S : St} {a : Act} (hg : y1e g) (h : ∀ i, Den g (S.env i) (a.tmps.getD i undef)) (x : Operand) : Den g (S.ev x) (a.eval x) := by
 cases x with
 | tmp t => exact h t
 | const v => exact q0g v
 | global k =>
  simp only [St.ev]
  cases hl : look k glb with
  | none => simp only [Den]
  | some xs =>
   cases hw : Nat.beq (glw k) 0 with
   | false => simp only [cond_false, Den]
   | true =>
   simp only [cond_true, Den, Act.eval]
   refine ⟨k, 0, rfl, (hg k xs hl).1, fun j x hx => ?_⟩
   rw [List.getElem?_map] at hx
   cases hj : xs[j]? with
   | none => rw [hj] at hx; cases hx
   | some y => rw [hj] at hx; cases hx; exact ⟨y, by rw [Nat.zero_add]; exact ((hg k xs hl).2.1 (Nat.eq_of_beq_eq_true hw)).1 j y hj, .val y⟩
 | func f =>
  simp only [St.ev]
  cases hlt : Nat.blt f bndK with
  | false => simp only [cond_false, Den]
  | true => simp only [cond_true, Den, Act.eval]; exact ⟨[], (y0h hlt).symm, by simp [q0l]⟩
theorem y5d {g : Gh} {S : St} {a : Act} (hg : y1e g) (h : ∀ i, Den g (S.env i) (a.tmps.getD i undef)) : ∀ xs : List Operand, q0l g (xs.map S.ev) (xs.map a.eval)
 | [] => by simp [q0l]
 | x :: l => by simp only [List.map_cons, q0l]; exact ⟨_, _, rfl, x5q hg h x, y5d hg h l⟩
theorem q5h {p : Prop} {l : List Prop} : q3h (p :: l) ↔ p ∧ q3h l := by
 cases l with
 | nil => simp [q3h]
 | cons q l => simp [q3h]
theorem q2e : ∀ {l m : List Prop}, q3h (l ++ m) ↔ q3h l ∧ q3h m
 | [], m => by simp [q3h]
 | p :: l, m => by rw [List.cons_append, q5h, q5h, q2e, and_assoc]
theorem z2p : ∀ {l : List Bool}, q3h (eqT l) ↔ ∀ c ∈ l, c = true
 | [] => by simp [eqT, q3h]
 | c :: l => by rw [eqT, q5h, z2p]; simp
theorem z6v {gd : Bool} : ∀ {l : List Prop}, q3h (y0c gd l) → gd = true → q3h l
 | [], _, _ => by simp [q3h]
 | p :: l, h, hg => by rw [y0c, q5h] at h; rw [q5h]; exact ⟨h.1 hg, z6v h.2 hg⟩
theorem j2p {g : Gh} {x : AV} {u : Value} (hd : Den g x u) (hc : ∀ c ∈ x.strip.1, c = true) : Den g x.strip.2 u := by
 cases x with
 | opt c x => simp only [Den] at hd; exact hd.1 (hc c (by simp [AV.strip]))
 | _ => exact hd
theorem z7j {g : Gh} : ∀ {xs : List AV} {us : List Value}, q0l g xs us → (∀ c ∈ (stripL xs).1, c = true) → q0l g (stripL xs).2 us
 | [], us, h, _ => by simpa [stripL] using h
 | x :: l, us, h, hc => by
  simp only [q0l] at h
  obtain ⟨v, vs', e, h1, h2⟩ := h
  simp only [stripL, q0l]
  refine ⟨v, vs', e, j2p h1 fun c hx => hc c ?_, z7j h2 fun c hx => hc c ?_⟩
  · simp only [stripL]; exact List.mem_append_left _ hx
  · simp only [stripL]; exact List.mem_append_right _ hx
theorem j5d {g : Gh} {op : Op} {xs : List AV} {us : List Value} (h : q0l g xs us) (hc : ∀ c ∈ (q2y op xs).1, c = true) : q0l g (q2y op xs).2 us := by
 unfold q2y at hc ⊢
 cases hp : x5o op with
 | false => rw [hp] at hc; exact z7j h hc
 | true =>
  rw [hp] at hc
  simp only [cond_true] at hc ⊢
  cases xs with
  | nil => exact h
  | cons x l =>
   simp only [q0l] at h ⊢
   obtain ⟨v, vs', e, h1, h2⟩ := h
   exact ⟨v, vs', e, j2p h1 hc, h2⟩
theorem j3r {g : Gh} {want gd : Bool} {x : AV} {u : Value} (h : guardOf want x = some gd) (hd : Den g x u) : (gd = true ↔ u = .bool want) := by
 unfold guardOf at h
 split at h
 · rename_i b
   cases h
   rw [q0h hd]
   cases want <;> cases b <;> simp
 · rename_i c b
   cases h
   simp only [Den] at hd
   cases c with
   | false => rw [hd.2 rfl]; simp [undef]
   | true =>
    have := hd.1 rfl
    have hu : u = .bool b := q0h (g := g) (by simp only [Den]; exact this)
    rw [hu]
    cases want <;> cases b <;> simp
 · cases h
theorem q3k {a : Act} {d : Option Tmp} {v : Value} : (a.put d v).tmps.size = a.tmps.size := by cases d <;> simp [Act.put]
theorem q5r {a : Act} {d : Option Tmp} {v : Value} : (a.put d v).defers = a.defers := by cases d <;> simp [Act.put]
theorem j0e {g : Gh} {S : St} {a : Act} {d : Option Tmp} {v : AV} {u : Value} {hs : List (Nat × Option q0d)} (h : ∀ i, Den g (S.env i) (a.tmps.getD i undef)) (hd : Den g v u) (hlt : ∀ k, d = some k → k < a.tmps.size) (i : Nat) :
 Den g ((S.put d v hs).env i) ((a.put d u).tmps.getD i undef) := by
 cases d with
 | none => exact h i
 | some k =>
  have hk := hlt k rfl
  simp only [St.put, Act.put, upd]
  by_cases e : i = k
  · subst e
    rw [q7w]
    simp only [cond_true]
    have : (a.tmps.setIfInBounds i u).getD i undef = u := by simp [Array.getD, hk]
    rw [this]
    exact hd
  · rw [q4i e]
    simp only [cond_false]
    have : (a.tmps.setIfInBounds k u).getD i undef = a.tmps.getD i undef := by
     simp only [Array.getD_eq_getD_getElem?]
     rw [Array.getElem?_setIfInBounds_ne (fun e' => e e'.symm)]
    rw [this]
    exact h i
theorem z6w {rd : Option Nat} {P : Program} {cx : Cx} {w0 : Base} {G0 : Nat → Prop} {n nm : Nat} {U : Nat → Prop} {S : St} {a : Act} {W : World} {ops : Array Oper} {o : Oper} {ps : List Prop} {v : AV} {hs : List (Nat × Option q0d)}
 (hcx : q1g P cx) (hs' : z2z w0 G0 n U S a W) (hst : q1l cx ops nm o S = some (ps, v, hs)) (hps : q3h ps) (hn : ∀ r, q1e nm r = true → ¬ U r) (hd : ∀ k, o.dst = some k → k < n) {K : Act → World → Prop} {Q : Exit → Act → World → Prop}
 (hK : ∀ a' W', z2z w0 G0 n (fun r => U r ∨ q1e nm r = true) (S.put o.dst v hs) a' W' → K a' W') :
 if Region.wanted o (yielded ops a.tmps) = true then o.wpIn (FR rd) 3 P a W K Q else (∀ f, o.about P W a.eval = some f → (FR rd).fn f) ∧ K (a.put o.dst undef) W := by
 obtain ⟨hsz, hdf, g, rfl, hU, hm, henv⟩ := hs'
 unfold q1l at hst
 cases hcore : core cx nm o.op (q2y o.op (q7z S o)).2 (inL (readsOf S o) S.heap) with
 | none => rw [hcore] at hst; cases hst
 | some t =>
  obtain ⟨p, v', hs''⟩ := t
  rw [hcore] at hst
  simp only [k5z] at hst
  have hgu : ∀ r, q1e nm r = true → ¬ g.U r := fun r hr h => hn r hr (hU r h)
  have hraw : q0l g (q7z S o) (o.op.operands.toList.map a.eval) := y5d hm.anc.2 henv o.op.operands.toList
  have hinL : ∀ r ob, inL (readsOf S o) S.heap r = some ob → S.heap r = some ob := by
   intro r ob h
   unfold inL at h
   cases hmm : q4b r (readsOf S o) with
   | false => rw [hmm] at h; cases h
   | true => rw [hmm] at h; exact h
  have hdlt : ∀ k, o.dst = some k → k < a.tmps.size := fun k hk => by rw [hsz]; exact hd k hk
  have hnd : ∀ c, o.op ≠ .defer c := fun c e => by rw [e] at hcore; simp [core] at hcore
  have run : (∀ c ∈ (q2y o.op (q7z S o)).1, c = true) → q3h p → o.wpIn (FR rd) 3 P a g.W (fun a' W' => ∃ u g', a' = a.put o.dst u ∧ g'.W = W' ∧ g.le g' ∧ (∀ r, g'.U r ↔ (g.U r ∨ q1e nm r = true)) ∧ MOk w0 G0 g' (q2c S.heap hs'') ∧ Den g' v' u) Q := by
   intro hcs hp
   have := j7o (o := o) (nm := nm) hcx hinL hm hgu (j5d (op := o.op) hraw hcs) rfl hcore hp
   exact this.wpIn hnd fun u W' ⟨g', h1, h2, h3, h4, h5⟩ => ⟨u, g', rfl, h1, h2, h3, h4, h5⟩
  cases hnk : z0w nm (readsOf S o) hs'' with
  | false => rw [hnk] at hst; cases hst
  | true =>
   rw [hnk] at hst
   simp only [cond_true] at hst
   split at hst
   · rename_i hg
     simp only [Option.some.injEq, Prod.mk.injEq] at hst
     obtain ⟨rfl, rfl, rfl⟩ := hst
     rw [if_pos (by simp [Region.wanted, hg])]
     rw [q2e, z2p] at hps
     refine Oper.wpIn_mono ?_ (run hps.1 hps.2)
     rintro a' W' ⟨u, g', rfl, h1, h2, h3, h4, h5⟩
     exact hK _ _ ⟨by rw [q3k]; exact hsz, by rw [q5r]; exact hdf, g', h1, fun r hr => ((h3 r).1 hr).imp (hU r) id, h4, j0e (fun i => Den.mono h2 _ _ (henv i)) h5 hdlt⟩
   · rename_i jw hg
     obtain ⟨j, want⟩ := jw
     simp only at hst
     split at hst
     · cases hst
     · rename_i d hdst
       split at hst
       · rename_i gd hgd
         simp only [Option.some.injEq, Prod.mk.injEq] at hst
         obtain ⟨rfl, rfl, rfl⟩ := hst
         have hgv := j3r hgd (henv d)
         have hyl : yielded ops a.tmps j = match a.tmps[d]? with | some (.bool b) => some b | _ => none := by
          unfold yielded
          have : (ops[j]?).bind (·.dst) = some d := by
           unfold y5b at hdst
           cases hj : ops[j]? with
           | none => rw [hj] at hdst; cases hdst
           | some oj => rw [hj] at hdst; exact hdst
          rw [this]
          rfl
         have hw : Region.wanted o (yielded ops a.tmps) = true ↔ gd = true := by
          unfold Region.wanted
          rw [hg, hgv]
          simp only [hyl]
          rw [Array.getD_eq_getD_getElem?]
          cases hx : a.tmps[d]? with
          | none => simp [undef]
          | some x => cases x <;> simp
         cases hgd' : gd with
         | true =>
          rw [if_pos (hw.2 hgd')]
          have hpp := z6v hps hgd'
          rw [q2e, z2p] at hpp
          refine Oper.wpIn_mono ?_ (run hpp.1 hpp.2)
          rintro a' W' ⟨u, g', rfl, h1, h2, h3, h4, h5⟩
          refine hK _ _ ⟨by rw [q3k]; exact hsz, by rw [q5r]; exact hdf, g', h1, fun r hr => ((h3 r).1 hr).imp (hU r) id, h4, j0e (fun i => Den.mono h2 _ _ (henv i)) ?_ hdlt⟩
          simp only [Den]
          exact ⟨fun _ => h5, fun h => by rw [hgd'] at h; cases h⟩
         | false =>
          rw [if_neg (fun h => by rw [hw.1 h] at hgd'; cases hgd')]
          refine ⟨fun _ _ => trivial, ?_⟩
          refine hK _ _ ⟨by rw [q3k]; exact hsz, by rw [q5r]; exact hdf, g, rfl, fun r hr => .inl (hU r hr), hm, j0e henv ?_ hdlt⟩
          simp only [Den]
          exact ⟨fun h => absurd (hgd'.symm.trans h) (by decide), fun _ => by simp⟩
       · rename_i gd _ _ hgd
         simp only [Option.some.injEq, Prod.mk.injEq] at hst
         obtain ⟨rfl, rfl, rfl⟩ := hst
         have hgv := j3r hgd (henv d)
         have hyl : yielded ops a.tmps j = match a.tmps[d]? with | some (.bool b) => some b | _ => none := by
          unfold yielded
          have : (ops[j]?).bind (·.dst) = some d := by
           unfold y5b at hdst
           cases hj : ops[j]? with
           | none => rw [hj] at hdst; cases hdst
           | some oj => rw [hj] at hdst; exact hdst
          rw [this]
          rfl
         have hw : Region.wanted o (yielded ops a.tmps) = true ↔ gd = true := by
          unfold Region.wanted
          rw [hg, hgv]
          simp only [hyl]
          rw [Array.getD_eq_getD_getElem?]
          cases hx : a.tmps[d]? with
          | none => simp [undef]
          | some x => cases x <;> simp
         have hps2 : gd = true ∧ q3h (eqT (q2y o.op (q7z S o)).1 ++ p) := by
          have h9 : q3h ([gd = true] ++ (eqT (q2y o.op (q7z S o)).1 ++ p)) := hps
          rw [q2e] at h9
          exact h9
         rw [if_pos (hw.2 hps2.1)]
         have hpp := hps2.2
         rw [q2e, z2p] at hpp
         refine Oper.wpIn_mono ?_ (run hpp.1 hpp.2)
         rintro a' W' ⟨u, g', rfl, h1, h2, h3, h4, h5⟩
         exact hK _ _ ⟨by rw [q3k]; exact hsz, by rw [q5r]; exact hdf, g', h1, fun r hr => ((h3 r).1 hr).imp (hU r) id, h4, j0e (fun i => Den.mono h2 _ _ (henv i)) h5 hdlt⟩
       · cases hst
end
end Go.Proofs.YtkkapbnopmmmjaaGreatDoor.En
namespace Go.Proofs.YtkkapbnopmmmjaaGreatDoor.En
section
open Go Go.RowKit
structure Rec where
 i : Nat
 o : Oper
 T : List Nat
 N : List Nat
def q2d (cx : Cx) (ops : Array Oper) : List (Nat × Oper) → St → Option (List Prop × St × List Rec)
 | [], S => some ([], S, [])
 | (i, o) :: l, S =>
  match q1l cx ops (1000 + i) o S with
  | some (p, v, hs) =>
   match q2d cx ops l (S.put o.dst v hs) with
   | some (q, S', R) => some (p ++ q, S', ⟨i, o, readsOf S o, hs.map (·.1)⟩ :: R)
   | none => none
  | none => none
def x2d (n : Nat) (l m : List Nat) : Bool := l.all fun r => !q1e n r && !q4b r m
def x5k (wt : List Nat) (i j : Nat) : Bool := Nat.testBit (wt.getD j 0) i
def k1a (ops : Array Oper) (wt : List Nat) : Bool := Nat.beq wt.length ops.size && (q3p 0 ops.toList).all fun x => Nat.blt (wt.getD x.1 0) (2 ^ ops.size) && (List.range ops.size).all fun i => !x5k wt i x.1 ||
 x.2.after.toList.any fun e => Region.binds .any e && (Nat.blt e.on x.1 && (Nat.beq e.on i || x5k wt i e.on))
def j9n (ops : Array Oper) (wt : List Nat) (a b : Rec) : Bool :=
 x5k wt a.i b.i || (a.o.apart ops b.o && (x2d (1000 + b.i) a.N b.T && x2d (1000 + a.i) b.N a.T))
def q5q (ops : Array Oper) (wt : List Nat) : List Rec → Bool
 | [] => true
 | a :: l => l.all (j9n ops wt a) && q5q ops wt l
def j8i (l : List (Nat × Oper)) : Bool := l.all fun x => x.2.after.all fun e => !Region.binds .any e || Nat.blt e.on x.1
def j8u (n : Nat) (l : List (Nat × Oper)) : Bool := l.all fun x => match x.2.dst with | some d => Nat.blt d n | none => true
theorem j9w {n : Nat} {l m : List Nat} : x2d n l m = true ↔ ∀ r ∈ l, q1e n r = false ∧ r ∉ m := by
 unfold x2d
 rw [List.all_eq_true]
 have key : ∀ r, (!q1e n r && !q4b r m) = true ↔ q1e n r = false ∧ r ∉ m := by
  intro r
  rw [← q1t]
  cases q1e n r <;> cases q4b r m <;> simp
 exact ⟨fun h r hr => (key r).1 (h r hr), fun h r hr => (key r).2 (h r hr)⟩
theorem z7f : ∀ {l acc : List Nat} {r : Nat}, r ∈ acc → r ∈ j2q acc l
 | [], acc, r, h => h
 | x :: l, acc, r, h => by
  unfold j2q
  refine z7f ?_
  cases q4b x acc with
  | true => exact h
  | false => exact List.mem_append_left _ h
theorem z8o {hp : Nat → Option q0d} : ∀ {k : Nat} {acc : List Nat} {r : Nat}, r ∈ acc → r ∈ z3v hp k acc
 | 0, _, _, h => h
 | k + 1, _, _, h => z8o (k := k) (z7f h)
theorem q8g {hp hp' : Nat → Option q0d} : ∀ {l : List Nat}, (∀ r ∈ l, hp r = hp' r) → q3a hp l = q3a hp' l
 | [], _ => rfl
 | x :: l, h => by
  simp only [q3a]
  rw [q8g (fun r hr => h r (List.mem_cons_of_mem _ hr))]
  unfold j7b
  rw [h x List.mem_cons_self]
theorem z1y {hp hp' : Nat → Option q0d} : ∀ {k : Nat} {acc : List Nat}, (∀ r ∈ z3v hp k acc, hp r = hp' r) → z3v hp' k acc = z3v hp k acc
 | 0, acc, _ => rfl
 | k + 1, acc, h => by
  unfold z3v
  have h1 : q3a hp' acc = q3a hp acc := (q8g fun r hr => h r (z8o (k := k + 1) hr)).symm
  rw [h1]
  exact z1y (k := k) fun r hr => h r hr
theorem j8l {S S' : St} {o : Oper} (hraw : q7z S' o = q7z S o) (hh : ∀ r ∈ readsOf S o, S.heap r = S'.heap r) : readsOf S' o = readsOf S o := by
 unfold readsOf at hh ⊢
 rw [hraw]
 cases hc : z3y o.op with
 | false => rfl
 | true =>
  rw [hc] at hh
  simp only [cond_true] at hh ⊢
  exact z1y hh
theorem z8g {cx : Cx} {ops : Array Oper} {nm : Nat} {o : Oper} {S S' : St} (he : ∀ t ∈ o.looksAt ops, S.env t = S'.env t) (hh : ∀ r ∈ readsOf S o, S.heap r = S'.heap r) :
 readsOf S' o = readsOf S o ∧ q1l cx ops nm o S' = q1l cx ops nm o S := by
 have hraw : q7z S' o = q7z S o := by
  unfold q7z
  refine List.map_congr_left fun x hx => ?_
  cases x with
  | tmp t => exact (he t (List.mem_append_left _ (List.mem_filterMap.2 ⟨.tmp t, hx, rfl⟩))).symm
  | _ => rfl
 have hrd := j8l hraw hh
 refine ⟨hrd, ?_⟩
 unfold q1l
 have hin : inL (readsOf S o) S'.heap = inL (readsOf S o) S.heap := by
  funext r
  unfold inL
  cases hx : q4b r (readsOf S o) with
  | false => rfl
  | true => exact (hh r (q1t.1 hx)).symm
 rw [hrd, hraw, hin]
 generalize core cx nm o.op (q2y o.op (q7z S o)).2 (inL (readsOf S o) S.heap) = out
 cases out with
 | none => rfl
 | some t =>
  obtain ⟨p, v, hs⟩ := t
  unfold k5z
  cases hg : o.guard with
  | none => rfl
  | some jw =>
   simp only
   cases hd : y5b ops jw.1 with
   | none => rfl
   | some d =>
    have : S'.env d = S.env d := by
     refine (he d (List.mem_append_right _ ?_)).symm
     rw [hg]
     unfold y5b at hd
     cases hj : ops[jw.1]? with
     | none => rw [hj] at hd; cases hd
     | some oj => rw [hj] at hd; simp [hj, hd]
    simp only [this]
theorem q1y {hs : List (Nat × Option q0d)} : ∀ {H : Nat → Option q0d} {r : Nat}, r ∉ hs.map (·.1) → (hs.foldl (fun h x => upd h x.1 x.2) H) r = H r := by
 induction hs with
 | nil => intro H r _; rfl
 | cons x l ih =>
  intro H r h
  simp only [List.map_cons, List.mem_cons, not_or] at h
  rw [List.foldl_cons, ih h.2]
  unfold upd
  rw [q4i h.1]
  rfl
theorem q6h {hs : List (Nat × Option q0d)} : ∀ {H H' : Nat → Option q0d} {r : Nat}, H r = H' r → (hs.foldl (fun h x => upd h x.1 x.2) H) r = (hs.foldl (fun h x => upd h x.1 x.2) H') r := by
 induction hs with
 | nil => intro H H' r h; exact h
 | cons x l ih =>
  intro H H' r h
  rw [List.foldl_cons, List.foldl_cons]
  refine ih ?_
  unfold upd
  cases Nat.beq r x.1 with
  | true => rfl
  | false => exact h
theorem j5e {hs : List (Nat × Option q0d)} : ∀ {H H' : Nat → Option q0d} {r : Nat}, r ∈ hs.map (·.1) → (hs.foldl (fun h x => upd h x.1 x.2) H) r = (hs.foldl (fun h x => upd h x.1 x.2) H') r := by
 induction hs with
 | nil => intro H H' r h; simp at h
 | cons x l ih =>
  intro H H' r h
  rw [List.foldl_cons, List.foldl_cons]
  by_cases hl : r ∈ l.map (·.1)
  · exact ih hl
  · simp only [List.map_cons, List.mem_cons, hl, or_false] at h
    subst h
    refine q6h ?_
    unfold upd
    rw [q7w]
    rfl
theorem y6l {S : St} {d d' : Option Nat} {v v' : AV} {h h' : List (Nat × Option q0d)} (hd : ∀ k, d = some k → d' ≠ some k) (hh : ∀ r ∈ h.map (·.1), r ∉ h'.map (·.1)) : (S.put d v h).put d' v' h' = (S.put d' v' h').put d v h := by
 unfold St.put
 simp only [St.mk.injEq]
 constructor
 · cases d with
   | none => rfl
   | some k =>
    cases d' with
    | none => rfl
    | some k' =>
     have hne : k ≠ k' := fun e => hd k rfl (by rw [e])
     funext i
     simp only [upd]
     by_cases h1 : i = k
     · subst h1; rw [q7w, q4i hne]; rfl
     · rw [q4i h1]; rfl
 · funext r
   by_cases h1 : r ∈ h.map (·.1)
   · rw [q1y (hh r h1)]
     exact j5e h1
   · rw [q1y (hs := h) h1]
     exact q6h (q1y h1)
theorem q8n {n : Nat} {rs : List Nat} : ∀ {hs : List (Nat × Option q0d)}, z0w n rs hs = true → ∀ r ∈ hs.map (·.1), q1e n r = true ∨ r ∈ rs
 | [], _, r, hr => by simp at hr
 | (k, x) :: l, h, r, hr => by
  simp only [z0w, Bool.and_eq_true, Bool.or_eq_true] at h
  simp only [List.map_cons, List.mem_cons] at hr
  rcases hr with rfl | hr
  · exact h.1.imp id q1t.1
  · exact q8n h.2 r hr
theorem y5k {cx : Cx} {ops : Array Oper} {j k : Nat} {oj ok : Oper} {S : St} {p1 p2 : List Prop} {v1 v2 : AV} {h1 h2 : List (Nat × Option q0d)}
 (s1 : q1l cx ops (1000 + j) oj S = some (p1, v1, h1)) (s2 : q1l cx ops (1000 + k) ok (S.put oj.dst v1 h1) = some (p2, v2, h2))
 (hap : oj.apart ops ok = true) (d1 : ∀ r ∈ h1.map (·.1), q1e (1000 + k) r = false ∧ r ∉ readsOf (S.put oj.dst v1 h1) ok) (d2 : ∀ r ∈ h2.map (·.1), q1e (1000 + j) r = false ∧ r ∉ readsOf S oj) (hsub : ∀ r ∈ h1.map (·.1), q1e (1000 + j) r = true ∨ r ∈ readsOf S oj) :
 q1l cx ops (1000 + k) ok S = some (p2, v2, h2) ∧ readsOf S ok = readsOf (S.put oj.dst v1 h1) ok ∧ q1l cx ops (1000 + j) oj (S.put ok.dst v2 h2) = some (p1, v1, h1) ∧ readsOf (S.put ok.dst v2 h2) oj = readsOf S oj ∧
  (S.put ok.dst v2 h2).put oj.dst v1 h1 = (S.put oj.dst v1 h1).put ok.dst v2 h2 := by
 obtain ⟨a1, a2, a3⟩ := Oper.apart_spec hap
 have l1 := z8g (cx := cx) (ops := ops) (nm := 1000 + k) (o := ok) (S := S.put oj.dst v1 h1) (S' := S) (fun t ht => by
  unfold St.put
  cases hd : oj.dst with
  | none => rfl
  | some d =>
   have : t ≠ d := fun e => a1 d hd (e ▸ ht)
   simp only [upd]
   rw [q4i this]
   rfl) (fun r hr => q1y (fun hx => (d1 r hx).2 hr))
 have l2 := z8g (cx := cx) (ops := ops) (nm := 1000 + j) (o := oj) (S := S) (S' := S.put ok.dst v2 h2) (fun t ht => by
  unfold St.put
  cases hd : ok.dst with
  | none => rfl
  | some d =>
   have : t ≠ d := fun e => a3 d hd (e ▸ ht)
   simp only [upd]
   rw [q4i this]
   rfl) (fun r hr => (q1y (fun hx => (d2 r hx).2 hr)).symm)
 refine ⟨l1.2.trans s2, l1.1, l2.2.trans s1, l2.1, ?_⟩
 refine y6l (fun d hd hd' => a2 d hd' hd) (fun r hr hr' => ?_)
 rcases hsub r hr' with e | e
 · have := (d2 r hr).1
   rw [e] at this
   cases this
 · exact (d2 r hr).2 e
theorem y2u {cx : Cx} {ops : Array Oper} {nm : Nat} {o : Oper} {S : St} {p : List Prop} {v : AV} {h : List (Nat × Option q0d)} (s : q1l cx ops nm o S = some (p, v, h)) : ∀ r ∈ h.map (·.1), q1e nm r = true ∨ r ∈ readsOf S o := by
 unfold q1l at s
 cases hc : core cx nm o.op (q2y o.op (q7z S o)).2 (inL (readsOf S o) S.heap) with
 | none => rw [hc] at s; cases s
 | some t =>
  obtain ⟨p', v', h'⟩ := t
  rw [hc] at s
  unfold k5z at s
  simp only at s
  cases hn : z0w nm (readsOf S o) h' with
  | false => rw [hn] at s; cases s
  | true =>
   rw [hn] at s
   simp only [cond_true] at s
   split at s
   · simp only [Option.some.injEq, Prod.mk.injEq] at s
     obtain ⟨_, _, rfl⟩ := s
     exact q8n hn
   · split at s
     · cases s
     · split at s
       · simp only [Option.some.injEq, Prod.mk.injEq] at s
         obtain ⟨_, _, rfl⟩ := s
         intro r hr
         simp at hr
       · simp only [Option.some.injEq, Prod.mk.injEq] at s
         obtain ⟨_, _, rfl⟩ := s
         exact q8n hn
       · cases s
theorem j8y {ops : Array Oper} {wt : List Nat} (h : k1a ops wt = true) {i : Nat} : ∀ (f j : Nat), j < f → x5k wt i j = true → q8c .any ops i f j = true
 | 0, j, hj, _ => by omega
 | f + 1, j, hj, hi => by
  have h0 := h
  unfold k1a at h
  simp only [Bool.and_eq_true] at h
  obtain ⟨hl, h⟩ := h
  have hl := Nat.eq_of_beq_eq_true hl
  have hjl : j < ops.size := by
   rcases Nat.lt_or_ge j wt.length with hlt | hge
   · omega
   · have : wt.getD j 0 = 0 := by simp [List.getD, List.getElem?_eq_none hge]
     unfold x5k at hi
     rw [this] at hi
     simp at hi
  have ho : ops[j]? = some ops[j] := by simp [hjl]
  have hmem : (j, ops[j]) ∈ q3p 0 ops.toList := by
   have key : ∀ (l : List Oper) (k i : Nat) (x : Oper), l[i]? = some x → (k + i, x) ∈ q3p k l := by
    intro l
    induction l with
    | nil => intro k i x hx; simp at hx
    | cons y l ih =>
     intro k i x hx
     rcases i with _ | i
     · simp at hx; subst hx; simp [q3p]
     · simp only [q3p]
       refine List.mem_cons_of_mem _ ?_
       rw [show k + (i + 1) = k + 1 + i by omega]
       exact ih (k + 1) i x (by simpa using hx)
   have := key ops.toList 0 j ops[j] (by simp)
   simpa using this
  have hx := (List.all_eq_true.1 h) _ hmem
  simp only [Bool.and_eq_true] at hx
  have hib : i < ops.size := by
   have h1 : wt.getD j 0 < 2 ^ ops.size := by simpa using hx.1
   rcases Nat.lt_or_ge i ops.size with h2 | h2
   · exact h2
   · unfold x5k at hi
     rw [Nat.testBit_lt_two_pow (Nat.lt_of_lt_of_le h1 (Nat.pow_le_pow_right (by omega) h2))] at hi
     cases hi
  have hy := (List.all_eq_true.1 hx.2) i (List.mem_range.2 hib)
  rw [hi] at hy
  simp only [Bool.not_true, Bool.false_or] at hy
  obtain ⟨e, he, hb⟩ := List.any_eq_true.1 hy
  simp only [Bool.and_eq_true, Bool.or_eq_true] at hb
  obtain ⟨h1, h2, h3⟩ := hb
  have h2' : e.on < j := by simpa using h2
  unfold q8c
  rw [ho]
  refine Array.any_eq_true'.2 ⟨e, by simpa using he, ?_⟩
  simp only [Bool.and_eq_true, Bool.or_eq_true, beq_iff_eq]
  refine ⟨h1, ?_⟩
  rcases h3 with h3 | h3
  · exact .inl (Nat.eq_of_beq_eq_true h3)
  · exact .inr (j8y h0 f e.on (by omega) h3)
theorem j6o {cx : Cx} {ops : Array Oper} {wt : List Nat} (hwt : k1a ops wt = true) {i : Nat} {o : Oper} (hi : i < ops.size) : ∀ {l1 l2 : List (Nat × Oper)} {S Sf : St} {ps : List Prop} {R : List Rec}, q2d cx ops (l1 ++ (i, o) :: l2) S = some (ps, Sf, R) → q5q ops wt R = true →
 (∀ x ∈ l1, q8c .any ops x.1 ops.size i = false) → q3h ps →
 ∃ p v hs ps' R', q1l cx ops (1000 + i) o S = some (p, v, hs) ∧ q3h p ∧ q2d cx ops (l1 ++ l2) (S.put o.dst v hs) = some (ps', Sf, R') ∧ q3h ps' ∧ q5q ops wt R' = true ∧
  (∀ a : Rec, (∀ b ∈ R, j9n ops wt a b = true) → ∀ b ∈ R', j9n ops wt a b = true) ∧ (⟨i, o, readsOf S o, hs.map (·.1)⟩ : Rec) ∈ R := by
 intro l1
 induction l1 with
 | nil =>
  intro l2 S Sf ps R hr hp _ ha
  simp only [List.nil_append, q2d] at hr
  cases hs : q1l cx ops (1000 + i) o S with
  | none => rw [hs] at hr; cases hr
  | some t =>
   obtain ⟨p, v, h⟩ := t
   rw [hs] at hr
   simp only at hr
   cases hr2 : q2d cx ops l2 (S.put o.dst v h) with
   | none => rw [hr2] at hr; cases hr
   | some t2 =>
    obtain ⟨q, S', R'⟩ := t2
    rw [hr2] at hr
    simp only [Option.some.injEq, Prod.mk.injEq] at hr
    obtain ⟨rfl, rfl, rfl⟩ := hr
    rw [q2e] at ha
    simp only [q5q, Bool.and_eq_true] at hp
    exact ⟨p, v, h, q, R', rfl, ha.1, by simpa using hr2, ha.2, hp.2, fun a hb b hm => hb b (List.mem_cons_of_mem _ hm), List.mem_cons_self⟩
 | cons x l1 ih =>
  intro l2 S Sf ps R hr hp hw ha
  obtain ⟨j, oj⟩ := x
  simp only [List.cons_append, q2d] at hr
  cases hs : q1l cx ops (1000 + j) oj S with
  | none => rw [hs] at hr; cases hr
  | some t =>
   obtain ⟨p1, v1, h1⟩ := t
   rw [hs] at hr
   simp only at hr
   cases hr2 : q2d cx ops (l1 ++ (i, o) :: l2) (S.put oj.dst v1 h1) with
   | none => rw [hr2] at hr; cases hr
   | some t2 =>
    obtain ⟨q, S', R1⟩ := t2
    rw [hr2] at hr
    simp only [Option.some.injEq, Prod.mk.injEq] at hr
    obtain ⟨rfl, rfl, rfl⟩ := hr
    rw [q2e] at ha
    simp only [q5q, Bool.and_eq_true] at hp
    obtain ⟨p, v, hs2, ps', R', g1, g2, g3, g4, g5, g6, g7⟩ := ih hr2 hp.2 (fun x hx => hw x (List.mem_cons_of_mem _ hx)) ha.2
    have hpair := (List.all_eq_true.1 hp.1) _ g7
    unfold j9n at hpair
    have hnw : x5k wt j i = false := by
     cases hx : x5k wt j i with
     | false => rfl
     | true =>
      have := j8y hwt ops.size i hi hx
      rw [hw (j, oj) List.mem_cons_self] at this
      cases this
    rw [hnw] at hpair
    simp only [Bool.false_or, Bool.and_eq_true] at hpair
    obtain ⟨c1, c2, c3⟩ := hpair
    obtain ⟨e1, e2, e3, e4, e5⟩ := y5k hs g1 c1 (j9w.1 c2) (j9w.1 c3) (y2u hs)
    refine ⟨p, v, hs2, p1 ++ ps', ⟨j, oj, readsOf S oj, h1.map (·.1)⟩ :: R', e1, g2, ?_, q2e.2 ⟨ha.1, g4⟩, ?_, ?_, ?_⟩
    · simp only [List.cons_append, q2d, e3, e5, g3, e4]
    · simp only [q5q, Bool.and_eq_true]
      exact ⟨List.all_eq_true.2 (g6 _ (List.all_eq_true.1 hp.1)), g5⟩
    · intro a hb b hm
      rcases List.mem_cons.1 hm with rfl | hm
      · exact hb _ List.mem_cons_self
      · exact g6 a (fun b' hb' => hb b' (List.mem_cons_of_mem _ hb')) b hm
    · rw [e2]
      exact List.mem_cons_of_mem _ g7
end
end Go.Proofs.YtkkapbnopmmmjaaGreatDoor.En
namespace Go.Proofs.YtkkapbnopmmmjaaGreatDoor.En
section
open Go Go.RowKit
theorem j1r {α : Type} : ∀ (l : List α) (k i : Nat), (q3p k l)[i]? = (l[i]?).map fun x => (k + i, x)
 | [], _, _ => by simp [q3p]
 | x :: l, k, 0 => by simp [q3p]
 | x :: l, k, i + 1 => by
  simp only [q3p, List.getElem?_cons_succ]
  rw [j1r l (k + 1) i]
  congr 1
  funext y
  rw [Nat.add_assoc, Nat.add_comm 1 i]
theorem z8z {α : Type} {l : List α} {x : Nat × α} (h : x ∈ q3p 0 l) : l[x.1]? = some x.2 := by
 obtain ⟨i, hi, e⟩ := List.mem_iff_getElem.1 h
 have := j1r l 0 i
 rw [List.getElem?_eq_getElem hi, e] at this
 cases hl : l[i]? with
 | none => rw [hl] at this; cases this
 | some y =>
  rw [hl] at this
  simp at this
  rw [this]
  exact hl
theorem z2n {α : Type} {l : List α} {i : Nat} {x : α} (h : l[i]? = some x) : (i, x) ∈ q3p 0 l := by
 have := j1r l 0 i
 rw [h] at this
 exact List.mem_of_getElem? (by simpa using this)
theorem q8k {α : Type} : ∀ (l : List α) (k : Nat), (q3p k l).Pairwise (fun a b => a.1 < b.1) ∧ ∀ x ∈ q3p k l, k ≤ x.1
 | [], k => by simp [q3p]
 | x :: l, k => by
  obtain ⟨h1, h2⟩ := q8k l (k + 1)
  simp only [q3p]
  refine ⟨List.pairwise_cons.2 ⟨fun y hy => by have := h2 y hy; show k < y.1; omega, h1⟩, fun y hy => ?_⟩
  rcases List.mem_cons.1 hy with rfl | hy
  · exact Nat.le_refl _
  · have := h2 y hy; omega
def z0y (ops : Array Oper) (L : Array Bool) : List (Nat × Oper) := (q3p 0 ops.toList).filter fun x => !L.getD x.1 true
theorem y7l {ops : Array Oper} {L : Array Bool} {i : Nat} {o : Oper} (hsz : L.size = ops.size) (ho : ops[i]? = some o) (hi : L.getD i true = false) :
 ∃ l1 l2, z0y ops L = l1 ++ (i, o) :: l2 ∧ z0y ops (L.setIfInBounds i true) = l1 ++ l2 := by
 have hlt : i < ops.size := (Array.getElem?_eq_some_iff.1 ho).1
 have hmem : (i, o) ∈ q3p 0 ops.toList := z2n (by simpa using ho)
 obtain ⟨a, b, hab⟩ := List.append_of_mem hmem
 have hs := (q8k ops.toList 0).1
 rw [hab] at hs
 obtain ⟨_, hs2, hs3⟩ := List.pairwise_append.1 hs
 have hb := (List.pairwise_cons.1 hs2).1
 have hget : ∀ x : Nat × Oper, x.1 ≠ i → (L.setIfInBounds i true).getD x.1 true = L.getD x.1 true := fun x hx => q1h (Ne.symm hx) true true
 have hgi : (L.setIfInBounds i true).getD i true = true := by simp [Array.getD, hsz, hlt]
 have fa : ∀ l : List (Nat × Oper), (∀ x ∈ l, x.1 ≠ i) → l.filter (fun x => !(L.setIfInBounds i true).getD x.1 true) = l.filter (fun x => !L.getD x.1 true) := fun l hl =>
  List.filter_congr fun x hx => by rw [hget x (hl x hx)]
 refine ⟨a.filter fun x => !L.getD x.1 true, b.filter fun x => !L.getD x.1 true, ?_, ?_⟩
 · unfold z0y
   rw [hab, List.filter_append, List.filter_cons]
   simp only [hi, Bool.not_false, if_true]
 · unfold z0y
   rw [hab, List.filter_append, List.filter_cons]
   simp only [hgi, Bool.not_true, Bool.false_eq_true, if_false]
   rw [fa a (fun x hx => by have := hs3 x hx (i, o) List.mem_cons_self; simp only at this; omega), fa b (fun x hx => by have := hb x hx; simp only at this; omega)]
def k4l (L : Array Bool) (r : Nat) : Prop := r < 1000 ∨ ∃ i, i < 1000 ∧ L.getD i false = true ∧ q1e (1000 + i) r = true
theorem z7r {i j r : Nat} (hi : i < 1000) (hj : j < 1000) (h1 : q1e (1000 + i) r = true) (h2 : q1e (1000 + j) r = true) : i = j := by
 simp only [q1e, Bool.and_eq_true] at h1 h2
 have a1 := Nat.le_of_ble_eq_true h1.1
 have a2 := Nat.le_of_ble_eq_true h2.1
 have b1 := Nat.eq_of_beq_eq_true h1.2
 have b2 := Nat.eq_of_beq_eq_true h2.2
 omega
theorem j5k {n r : Nat} (h : q1e n r = true) : n ≤ r := by
 simp only [q1e, Bool.and_eq_true] at h
 exact Nat.le_of_ble_eq_true h.1
theorem z2z.weaken {w0 : Base} {G0 : Nat → Prop} {n : Nat} {U U' : Nat → Prop} {S : St} {a : Act} {W : World} (h : z2z w0 G0 n U S a W) (hU : ∀ r, U r → U' r) : z2z w0 G0 n U' S a W := by
 obtain ⟨h1, h2, g, h3, h4, h5⟩ := h
 exact ⟨h1, h2, g, h3, fun r hr => hU r (h4 r hr), h5⟩
theorem z2z.drew {w0 : Base} {G0 : Nat → Prop} {n : Nat} {U : Nat → Prop} {S : St} {a : Act} {W : World} (h : z2z w0 G0 n U S a W) : z2z w0 G0 n U S a W.drew := by
 obtain ⟨h1, h2, g, rfl, h4, h5, h6⟩ := h
 let g' : Gh := ⟨g.W.drew, g.G, g.β, g.U⟩
 have hle : g.le g' := ⟨fun _ _ => rfl, fun _ h => h, fun _ h => ⟨h, rfl⟩⟩
 exact ⟨h1, h2, g', rfl, h4, h5.up hle (fun _ _ => rfl) (fun _ h => .inl h) ⟨h5.bel.os, h5.bel.tape, h5.bel.output, h5.bel.size, h5.bel.block⟩ (Nat.le_refl _), fun i => Den.mono hle _ _ (h6 i)⟩
section
variable {P : Program} {cx : Cx} {ops : Array Oper} {Q : Exit → Act → World → Prop} {w0 : Base} {G0 : Nat → Prop} {n : Nat}
theorem y8c {rd : Option Nat} {wt : List Nat} (hwt : k1a ops wt = true) (hsmall : ops.size ≤ 1000) (hcx : q1g P cx) (hed : j8i (q3p 0 ops.toList) = true) (hds : j8u n (q3p 0 ops.toList) = true) {Sf : St} (hQ : ∀ a W, z2z w0 G0 n (fun _ => True) Sf a W → Q .normal a W) :
 ∀ (fuel : Nat) (L : Array Bool) (a : Act) (W : World) (S : St) (ps : List Prop) (R : List Rec), L.size = ops.size → Clo .any ops L → (z0y ops L).length = fuel → z2z w0 G0 n (k4l L) S a W →
  q2d cx ops (z0y ops L) S = some (ps, Sf, R) → q5q ops wt R = true → q3h ps → wpAnyIn (FR rd) 3 P .any ops Q fuel L a W := by
 have hedge : ∀ i o, ops[i]? = some o → ∀ e ∈ o.after, Region.binds .any e = true → e.on < i := by
  intro i o ho e he hb
  have := (List.all_eq_true.1 hed) (i, o) (z2n (by simpa using ho))
  have := Array.all_eq_true_iff_forall_mem.1 this e he
  rw [hb] at this
  simpa using this
 intro fuel
 induction fuel with
 | zero =>
  intro L a W S ps R hsz hclo hlen hsim hrun _ _
  have hnil := List.eq_nil_of_length_eq_zero hlen
  rw [hnil] at hrun
  simp only [q2d, Option.some.injEq, Prod.mk.injEq] at hrun
  obtain ⟨_, rfl, _⟩ := hrun
  refine ⟨?_, hQ _ _ (hsim.weaken fun _ _ => trivial)⟩
  cases hr : Region.ready .any ops L with
  | nil => rfl
  | cons i l =>
   obtain ⟨hi, o, ho, _⟩ := mem_ready.1 (show i ∈ Region.ready .any ops L by rw [hr]; exact List.mem_cons_self)
   obtain ⟨l1, l2, e, _⟩ := y7l hsz ho hi
   rw [hnil] at e
   simp at e
 | succ fuel ih =>
  intro L a W S ps R hsz hclo hlen hsim hrun hpair hps
  refine ⟨fun hr => ?_, fun i hi => ?_⟩
  · exfalso
    cases hl : z0y ops L with
    | nil => rw [hl] at hlen; cases hlen
    | cons x l =>
     obtain ⟨i, o⟩ := x
     have hx : (i, o) ∈ z0y ops L := by rw [hl]; exact List.mem_cons_self
     have hx' := List.mem_filter.1 hx
     have ho : ops[i]? = some o := by have := z8z hx'.1; simpa using this
     have hi : L.getD i true = false := by simpa using hx'.2
     have hin : i ∈ Region.ready .any ops L := by
      refine mem_ready.2 ⟨hi, o, ho, fun e he hb => ?_⟩
      have hlt := hedge i o ho e he hb
      cases hle : L.getD e.on false with
      | true => rfl
      | false =>
       exfalso
       have hlt2 : i < ops.size := (Array.getElem?_eq_some_iff.1 ho).1
       have hle2 : L.getD e.on true = false := by
        have : e.on < L.size := by omega
        simpa [Array.getD, this] using hle
       have hmem : (e.on, ops[e.on]) ∈ z0y ops L := List.mem_filter.2 ⟨z2n (by simp), by simp [hle2]⟩
       have hso := List.Pairwise.filter (fun x : Nat × Oper => !L.getD x.1 true) (q8k ops.toList 0).1
       change (z0y ops L).Pairwise _ at hso
       rw [hl] at hso hmem
       rcases List.mem_cons.1 hmem with e' | e'
       · cases e'; omega
       · have := (List.pairwise_cons.1 hso).1 _ e'
         simp only at this
         omega
     rw [hr] at hin
     cases hin
  · obtain ⟨hun, o, ho, hall⟩ := mem_ready.1 hi
    obtain ⟨l1, l2, e1, e2⟩ := y7l hsz ho hun
    rw [e1] at hrun
    have hw : ∀ x ∈ l1, q8c .any ops x.1 ops.size i = false := by
     intro x hx
     cases hwx : q8c .any ops x.1 ops.size i with
     | false => rfl
     | true =>
      exfalso
      have hc2 := hclo.set_ hi
      have hili : (L.setIfInBounds i true).getD i false = true := by
       have : i < L.size := by rw [hsz]; exact (Array.getElem?_eq_some_iff.1 ho).1
       simp [Array.getD, this]
      have := q5o hc2 ops.size i hwx hili
      have hx1 : x ∈ z0y ops (L.setIfInBounds i true) := by rw [e2]; exact List.mem_append_left _ hx
      have := (List.mem_filter.1 hx1).2
      have hh : (L.setIfInBounds i true).getD x.1 true = false := by simpa using this
      have := q2p hh
      simp_all
    obtain ⟨p, v, hs, ps', R', g1, g2, g3, g4, g5, _, _⟩ := j6o hwt (Array.getElem?_eq_some_iff.1 ho).1 hrun hpair hw hps
    have hdi : ∀ k, o.dst = some k → k < n := by
     intro k hk
     have := (List.all_eq_true.1 hds) (i, o) (z2n (by simpa using ho))
     simp only [hk] at this
     simpa using this
    have hi1000 : i < 1000 := Nat.lt_of_lt_of_le (Array.getElem?_eq_some_iff.1 ho).1 hsmall
    have hfresh : ∀ r, q1e (1000 + i) r = true → ¬ k4l L r := by
     intro r hr
     rintro (h | ⟨j, hj1, hj, h⟩)
     · have := j5k hr; omega
     · have := z7r hj1 hi1000 h hr
       subst this
       rw [q2p hun] at hj
       cases hj
    unfold wpOpIn
    rw [ho]
    have hstep := z6w (rd := rd) (K := wpAnyIn (FR rd) 3 P .any ops Q fuel (L.setIfInBounds i true)) (Q := Q) hcx hsim g1 g2 hfresh hdi (fun a' W' hs' => by
     refine ih (L.setIfInBounds i true) a' W' _ ps' R' (by simpa using hsz) (hclo.set_ hi) ?_ (hs'.weaken ?_) (by rw [e2]; exact g3) g5 g4
     · rw [e1] at hlen
       rw [e2]
       simp at hlen ⊢
       omega
     · rintro r (h | h)
       · rcases h with h | ⟨j, hj1, hj, h⟩
         · exact .inl h
         · refine .inr ⟨j, hj1, ?_, h⟩
           by_cases hji : i = j
           · subst hji
             rw [q2p hun] at hj
             cases hj
           · rw [q1h hji]; exact hj
       · refine .inr ⟨i, hi1000, ?_, h⟩
         have : i < L.size := by rw [hsz]; exact (Array.getElem?_eq_some_iff.1 ho).1
         simp [Array.getD, this])
    exact hstep
theorem y2x {rd : Option Nat} (hcx : q1g P cx) {Sf : St} (hQ : ∀ a W, z2z w0 G0 n (fun _ => True) Sf a W → Q .normal a W) :
 ∀ (l : List Oper) (k : Nat) (a : Act) (W : World) (S : St) (ps : List Prop), j8u n (q3p k l) = true → z2z w0 G0 n (fun r => r < 1000 ∨ ∃ i, i < k ∧ q1e (1000 + i) r = true) S a W → k + l.length ≤ 1000 → x7c cx ops (q3p k l) S = some (ps, Sf) → q3h ps →
  wpListIn (FR rd) 3 P ops Q l a W := by
 intro l
 induction l with
 | nil =>
  intro k a W S ps _ hsim _ hrun _
  simp only [q3p, x7c, Option.some.injEq, Prod.mk.injEq] at hrun
  obtain ⟨_, rfl⟩ := hrun
  exact hQ _ _ (hsim.weaken fun _ _ => trivial)
 | cons o l ih =>
  intro k a W S ps hds hsim hk hrun hps
  simp only [q3p, x7c] at hrun
  cases hs : q1l cx ops (1000 + k) o S with
  | none => rw [hs] at hrun; cases hrun
  | some t =>
   obtain ⟨p, v, hs'⟩ := t
   rw [hs] at hrun
   simp only at hrun
   cases hr2 : x7c cx ops (q3p (k + 1) l) (S.put o.dst v hs') with
   | none => rw [hr2] at hrun; cases hrun
   | some t2 =>
    obtain ⟨q, S'⟩ := t2
    rw [hr2] at hrun
    simp only [Option.some.injEq, Prod.mk.injEq] at hrun
    obtain ⟨rfl, rfl⟩ := hrun
    rw [q2e] at hps
    simp only [q3p, j8u, List.all_cons, Bool.and_eq_true] at hds
    have hdi : ∀ d, o.dst = some d → d < n := by
     intro d hd
     have := hds.1
     simp only [hd] at this
     simpa using this
    have hstep := z6w (rd := rd) (K := wpListIn (FR rd) 3 P ops Q l) (Q := Q) hcx hsim hs hps.1 (fun r hr hu => by
     simp only [List.length_cons] at hk
     rcases hu with hu | ⟨i, hi, hu⟩
     · have := j5k hr; omega
     · have := z7r (by omega) (by omega) hu hr; omega) hdi (fun a' W' hs' => ih (k + 1) a' W' _ q hds.2 (hs'.weaken fun r hr => by
       rcases hr with (h | ⟨i, hi, h⟩) | h
       · exact .inl h
       · exact .inr ⟨i, by omega, h⟩
       · exact .inr ⟨k, by omega, h⟩) (by simp only [List.length_cons] at hk; omega) hr2 hps.2)
    unfold wpListIn
    exact hstep
end
end
end Go.Proofs.YtkkapbnopmmmjaaGreatDoor.En
namespace Go.Proofs.YtkkapbnopmmmjaaGreatDoor.En
section
open Go Go.RowKit
inductive RM where
 | to (r : Nat)
 | frz
def y8q : List AV → Option (List IV)
 | [] => some []
 | .im x :: l => match y8q l with | some m => some (x :: m) | none => none
 | _ :: _ => none
def y1n (ρ : List (Nat × RM)) (hp : Nat → Option q0d) (r : Nat) : AV :=
 match look r ρ with
 | some (.to r') => .row r'
 | some .frz => match hp r with | some (.row _ l) => .im (.ls l) | _ => .any
 | none => .any
def y1v (ρ : List (Nat × RM)) (hp : Nat → Option q0d) (r off : Nat) : AV :=
 match look r ρ with
 | some (.to r') => .loc r' off
 | some .frz => match hp r with | some (.box cs) => (match y8q cs with | some xs => .pto (xs.drop off) | none => .any) | _ => .any
 | none => .any
mutual
def ren (ρ : List (Nat × RM)) (hp : Nat → Option q0d) : AV → AV
 | .any => .any
 | .im x => .im x
 | .opt c x => .opt c (ren ρ hp x)
 | .agg xs => .agg (j7f ρ hp xs)
 | .tup xs => .tup (j7f ρ hp xs)
 | .loc r off => y1v ρ hp r off
 | .pto xs => .pto xs
 | .row r => y1n ρ hp r
 | .prow _ _ _ => .any
 | .clo f xs => .clo f (j7f ρ hp xs)
 | .err b => .err b
def j7f (ρ : List (Nat × RM)) (hp : Nat → Option q0d) : List AV → List AV
 | [] => []
 | x :: l => ren ρ hp x :: j7f ρ hp l
end
def x8k (ρ : List (Nat × RM)) (hp : Nat → Option q0d) : q0d → q0d
 | .box cs => .box (j7f ρ hp cs)
 | .row e l => .row e l
 | .other b o => .other b o
 | .mset ks => .mset ks
 | .mfun ks cs => .mfun ks (j7f ρ hp cs)
def q1s (ρ : List (Nat × RM)) (hp : Nat → Option q0d) : List (Nat × RM) → List (Nat × q0d)
 | [] => []
 | (r, .to r') :: l => match hp r with | some o => (r', x8k ρ hp o) :: q1s ρ hp l | none => q1s ρ hp l
 | (_, .frz) :: l => q1s ρ hp l
def q4m (ρ : List (Nat × RM)) (S : St) : List Nat → List (Nat × AV)
 | [] => []
 | i :: l => (i, ren ρ S.heap (S.env i)) :: q4m ρ S l
def tos : List (Nat × RM) → List Nat
 | [] => []
 | (_, .to r) :: l => r :: tos l
 | (_, .frz) :: l => tos l
def nodup : List Nat → Bool
 | [] => true
 | r :: l => !q4b r l && nodup l
def z2f (m : Nat) (ρ : List (Nat × RM)) : Bool := nodup (tos ρ) && (tos ρ).all (fun r => Nat.blt r 1000) && nodup (ρ.map (·.1)) && ρ.all fun x => match x.2 with | .to r => Nat.ble m r || Nat.beq x.1 r | .frz => true
section
variable {ρ : List (Nat × RM)} {hp : Nat → Option q0d}
theorem q1p {α : Type} {k : Nat} {x : α} : ∀ {l : List (Nat × α)}, look k l = some x → (k, x) ∈ l
 | [], h => by cases h
 | (j, y) :: l, h => by
  unfold look at h
  by_cases e : j = k
  · subst e; rw [q7w] at h; simp only [cond_true, Option.some.injEq] at h; rw [h]; exact List.mem_cons_self
  · rw [q4i e] at h; exact List.mem_cons_of_mem _ (q1p h)
theorem z2u {α : Type} {k : Nat} {x : α} : ∀ {l : List (Nat × α)}, nodup (l.map (·.1)) = true → (k, x) ∈ l → look k l = some x
 | [], _, h => by cases h
 | (j, y) :: l, hn, h => by
  simp only [List.map_cons, nodup, Bool.and_eq_true] at hn
  unfold look
  rcases List.mem_cons.1 h with e | e
  · cases e; rw [q7w]; rfl
  · have hne : j ≠ k := fun he => by
     subst he
     have : q4b j (l.map (·.1)) = true := q1t.2 (List.mem_map.2 ⟨_, e, rfl⟩)
     rw [this] at hn
     cases hn.1
    rw [q4i hne]
    exact z2u hn.2 e
theorem z3s {r r' : Nat} : ∀ {l : List (Nat × RM)}, (r, RM.to r') ∈ l → r' ∈ tos l
 | [], h => by cases h
 | (j, m) :: l, h => by
  rcases List.mem_cons.1 h with e | e
  · cases e; exact List.mem_cons_self
  · cases m with
    | to k => exact List.mem_cons_of_mem _ (z3s e)
    | frz => exact z3s (l := l) e
theorem y4s {r1 r2 r' : Nat} : ∀ {l : List (Nat × RM)}, nodup (tos l) = true → (r1, RM.to r') ∈ l → (r2, RM.to r') ∈ l → r1 = r2
 | [], _, h, _ => by cases h
 | (j, m) :: l, hn, h1, h2 => by
  rcases List.mem_cons.1 h1 with e1 | e1 <;> rcases List.mem_cons.1 h2 with e2 | e2
  · cases e1; cases e2; rfl
  · cases e1
    simp only [tos, nodup, Bool.and_eq_true] at hn
    have := q1t.2 (z3s e2)
    rw [this] at hn
    cases hn.1
  · cases e2
    simp only [tos, nodup, Bool.and_eq_true] at hn
    have := q1t.2 (z3s e1)
    rw [this] at hn
    cases hn.1
  · cases m with
    | to k => simp only [tos, nodup, Bool.and_eq_true] at hn; exact y4s hn.2 e1 e2
    | frz => exact y4s (l := l) hn e1 e2
theorem j5c {g : Gh} : ∀ {cs : List AV} {xs : List IV} {us : List Value}, y8q cs = some xs → q0l g cs us → ∀ (j : Nat) (x : IV), xs[j]? = some x → ∃ u, us[j]? = some u ∧ Rep g.W g.G x u
 | [], xs, us, h, _, j, x, hx => by cases h; simp at hx
 | c :: cs, xs, us, h, hd, j, x, hx => by
  cases c with
  | im y =>
   simp only [y8q] at h
   cases hm : y8q cs with
   | none => rw [hm] at h; cases h
   | some m =>
    rw [hm] at h
    cases h
    simp only [q0l] at hd
    obtain ⟨u, us', rfl, h1, h2⟩ := hd
    rcases j with _ | j
    · simp at hx; subst hx; exact ⟨u, rfl, by simpa only [Den] using h1⟩
    · exact (j5c hm h2 j x (by simpa using hx)).imp fun u h => ⟨by simpa using h.1, h.2⟩
  | _ => cases h
theorem y4x {W : World} {G : Nat → Prop} {e : Nat} {v : Value} {xs : List Value} {l : LD} (ho : Own W e v xs) (hl : xs.length = l.len) (hmx : l.len ≤ maxLen) (hst : l.st = 1)
 (hc : ∀ i, i < l.len → Rep W G (l.cell i 0) (xs.getD i undef)) (hG : ∀ b, q1n v = some b → G b) : Rep W G (.ls l) v := by
 rcases ho with ⟨rfl, hx⟩ | ⟨b, off, cap, cur, rfl, hw, h1, h2, h3, h4⟩
 · exact .nil l none 0 (by rw [← hl, hx]; rfl)
 · rw [hl]
   refine .ls l b off cap (fun i _ => xs.getD i undef) (by omega) hmx (hG b rfl) (fun i j hi hj => ?_) (fun i j hi hj => ?_)
   · have hj0 : j = 0 := by omega
     subst hj0
     rw [hst, Nat.mul_one, Nat.add_zero, hw.cell (off + i), h4 i (by omega)]
     simp [List.getD, List.getElem?_eq_getElem (show i < xs.length by omega)]
   · have hj0 : j = 0 := by omega
     subst hj0
     exact hc i hi
theorem x6s {W : World} {G : Nat → Prop} {e : Nat} {v : Value} {xs : List Value} {l : LD} (ho : q3x W e l.st v l.len xs) (hmx : l.len ≤ maxLen)
 (hc : ∀ i j, i < l.len → j < l.st → Rep W G (l.cell i j) (xs.getD (i * l.st + j) undef)) (hG : ∀ b, q1n v = some b → G b) : Rep W G (.ls l) v := by
 rcases ho.cells with ⟨hv, hn⟩ | ⟨b, off, cap, hv, h5, h6⟩
 · rw [hv]; exact .nil l none 0 hn
 · have hlen := ho.len
   have hg := hG b (by rw [hv]; rfl)
   rw [hv]
   refine .ls l b off cap (fun i j => xs.getD (i * l.st + j) undef) h5 hmx hg (fun i j hi hj => ?_) hc
   have hlt : i * l.st + j < xs.length := by rw [hlen]; exact y9k hi hj
   have := h6 _ hlt
   rw [← Nat.add_assoc] at this
   rw [this]
   simp [List.getD, List.getElem?_eq_getElem hlt]
def z1w (ρ : List (Nat × RM)) (hp : Nat → Option q0d) : Bool := ρ.all fun x => (hp x.1).isSome
theorem z1u {ρ l : List (Nat × RM)} {hp : Nat → Option q0d} {r r' : Nat} {o : q0d} (ho : hp r = some o) : (r, RM.to r') ∈ l → (look r' (q1s ρ hp l)).isSome = true := by
 induction l with
 | nil => intro h; cases h
 | cons x l ih =>
  intro h
  obtain ⟨j, m⟩ := x
  rcases List.mem_cons.1 h with e | e
  · cases e
    simp only [q1s, ho, look]
    rw [q7w]
    rfl
  · cases m with
    | frz => exact ih e
    | to k =>
     simp only [q1s]
     split
     · unfold look
       by_cases hk : k = r'
       · subst hk; rw [q7w]; rfl
       · rw [q4i hk]; exact ih e
     · exact ih e
theorem z3z {ρ : List (Nat × RM)} {S : St} {keys : List Nat} (i : Nat) : q2q (q4m ρ S keys) i = .any ∨ q2q (q4m ρ S keys) i = ren ρ S.heap (S.env i) := by
 unfold q2q
 cases hl : look i (q4m ρ S keys) with
 | none => exact .inl rfl
 | some x =>
  right
  have hmem := q1p hl
  clear hl
  induction keys with
  | nil => cases hmem
  | cons k l ih =>
   rcases List.mem_cons.1 hmem with e | e
   · cases e; rfl
   · exact ih e
theorem q4d {ρ : List (Nat × RM)} {hp : Nat → Option q0d} {r' : Nat} {o' : q0d} : ∀ {l : List (Nat × RM)}, (r', o') ∈ q1s ρ hp l → ∃ r o, (r, RM.to r') ∈ l ∧ hp r = some o ∧ o' = x8k ρ hp o
 | [], h => by cases h
 | (r, .frz) :: l, h => by
  obtain ⟨r0, o, h1, h2⟩ := q4d (l := l) h
  exact ⟨r0, o, List.mem_cons_of_mem _ h1, h2⟩
 | (r, .to k) :: l, h => by
  simp only [q1s] at h
  cases ho : hp r with
  | none =>
   rw [ho] at h
   obtain ⟨r0, o, h1, h2⟩ := q4d (l := l) h
   exact ⟨r0, o, List.mem_cons_of_mem _ h1, h2⟩
  | some o =>
   rw [ho] at h
   rcases List.mem_cons.1 h with e | e
   · cases e; exact ⟨r, o, List.mem_cons_self, ho, rfl⟩
   · obtain ⟨r0, o, h1, h2⟩ := q4d (l := l) e
     exact ⟨r0, o, List.mem_cons_of_mem _ h1, h2⟩
theorem y3c {ρ : List (Nat × RM)} {hp : Nat → Option q0d} {r' : Nat} {o' : q0d} (hn : nodup (ρ.map (·.1)) = true) (h : look r' (q1s ρ hp ρ) = some o') : ∃ r o, look r ρ = some (.to r') ∧ hp r = some o ∧ o' = x8k ρ hp o := by
 obtain ⟨r, o, h1, h2, h3⟩ := q4d (q1p h)
 exact ⟨r, o, z2u hn h1, h2, h3⟩
theorem z2z.renG {w0 : Base} {G0 : Nat → Prop} {n : Nat} {U : Nat → Prop} {S : St} {a : Act} {W : World} (h : z2z w0 G0 n U S a W) (hm1000 : w0.m ≤ 1000) (hρ : z2f w0.m ρ = true) {env' : Nat → AV} {hp' : Nat → Option q0d} (he : ∀ i, env' i = .any ∨ env' i = ren ρ S.heap (S.env i))
 (hh : ∀ r' o', hp' r' = some o' → ∃ r o, look r ρ = some (.to r') ∧ S.heap r = some o ∧ o' = x8k ρ S.heap o) (hi : ∀ r r', look r ρ = some (.to r') → (hp' r').isSome = true) :
 z2z w0 G0 n (fun r => r < 1000 ∧ (r < w0.m ∨ (hp' r).isSome = true)) ⟨env', hp'⟩ a W := by
 obtain ⟨hsz, hdf, g, rfl, hU, hm, henv⟩ := h
 simp only [z2f, Bool.and_eq_true] at hρ
 obtain ⟨⟨⟨hn1, hlt⟩, hn2⟩, hanc⟩ := hρ
 have hanc' : ∀ r r', look r ρ = some (.to r') → r' < w0.m → r = r' := by
  intro r r' hr hlt'
  have := (List.all_eq_true.1 hanc) _ (q1p hr)
  simp only [Bool.or_eq_true] at this
  rcases this with h1 | h1
  · have := Nat.le_of_ble_eq_true h1; omega
  · exact Nat.eq_of_beq_eq_true h1
 let g' : Gh := ⟨g.W, fun b => g.G b ∨ ∃ r o, look r ρ = some .frz ∧ S.heap r = some o ∧ q1n (g.β r) = some b,
  fun r' => if r' < w0.m then w0.β r' else match ρ.find? (fun x => match x.2 with | .to k => Nat.beq k r' | .frz => false) with | some x => g.β x.1 | none => undef, fun r' => r' < w0.m ∨ ∃ r, look r ρ = some (.to r') ∧ g.U r⟩
 have hβ : ∀ r r', look r ρ = some (.to r') → g'.β r' = g.β r := by
  intro r r' hr
  show (if r' < w0.m then w0.β r' else match ρ.find? (fun x => match x.2 with | .to k => Nat.beq k r' | .frz => false) with | some x => g.β x.1 | none => undef) = g.β r
  by_cases hrm : r' < w0.m
  · rw [if_pos hrm, hanc' r r' hr hrm, (hm.anc.1 r' hrm).2]
  rw [if_neg hrm]
  cases hf : ρ.find? (fun x => match x.2 with | .to k => Nat.beq k r' | .frz => false) with
  | none =>
   have := List.find?_eq_none.1 hf (r, .to r') (q1p hr)
   simp at this
  | some x =>
   obtain ⟨r2, m⟩ := x
   have hx := List.find?_some hf
   have hmem := List.mem_of_find?_eq_some hf
   cases m with
   | frz => simp at hx
   | to k =>
    have : k = r' := Nat.eq_of_beq_eq_true hx
    subst this
    simp only
    rw [y4s hn1 hmem (q1p hr)]
 have hrep : ∀ {x : IV} {v : Value}, Rep g.W g.G x v → Rep g'.W g'.G x v := fun h => h.mono (fun _ _ => rfl) (fun _ h => .inl h)
 have hrow : ∀ r v, Den g (.row r) v → Den g' (y1n ρ S.heap r) v := by
  intro r v hd
  simp only [Den] at hd
  obtain ⟨hu, rfl, hform⟩ := hd
  unfold y1n
  split
  · rename_i r' hr
    simp only [Den]
    exact ⟨.inr ⟨r, hr, hu⟩, (hβ r r' hr).symm, hform⟩
  · rename_i hr
    split
    · rename_i e l hl
      obtain ⟨_, xs, ho, h2, h4⟩ := hm.ok r _ hl
      simp only [Den]
      exact x6s ho h2 (fun i j hi hj => hrep (h4 i j hi hj)) (fun b hb => .inr ⟨r, _, hr, hl, hb⟩)
    · simp only [Den]
  · simp only [Den]
 have hloc : ∀ r off v, Den g (.loc r off) v → Den g' (y1v ρ S.heap r off) v := by
  intro r off v hd
  simp only [Den] at hd
  obtain ⟨hu, b, hb, rfl⟩ := hd
  unfold y1v
  split
  · rename_i r' hr
    simp only [Den]
    exact ⟨.inr ⟨r, hr, hu⟩, b, (hβ r r' hr).trans hb, rfl⟩
  · rename_i hr
    split
    · rename_i cs hl
      split
      · rename_i xs hxs
        obtain ⟨_, b', t, arr, hb', hw, hdl⟩ := hm.ok r _ hl
        rw [hb] at hb'
        cases hb'
        simp only [Den]
        refine ⟨b, off, rfl, .inr ⟨r, _, hr, hl, by rw [hb]; rfl⟩, fun j x hx => ?_⟩
        rw [List.getElem?_drop] at hx
        obtain ⟨u, hu1, hu2⟩ := j5c hxs hdl (off + j) x hx
        exact ⟨u, by rw [cell_of_row g.W b (off + j) arr t (0, 0) hw]; simpa using hu1, hrep hu2⟩
      · simp only [Den]
    · simp only [Den]
  · simp only [Den]
 have hd1 : ∀ x v, Den g x v → Den g' (Go.Proofs.YtkkapbnopmmmjaaGreatDoor.En.ren ρ S.heap x) v := by
  intro x
  refine AV.rec (motive_1 := fun x => ∀ v, Den g x v → Den g' (Go.Proofs.YtkkapbnopmmmjaaGreatDoor.En.ren ρ S.heap x) v) (motive_2 := fun xs => ∀ vs, q0l g xs vs → q0l g' (j7f ρ S.heap xs) vs) ?_ ?_ ?_ ?_ ?_ ?_ ?_ ?_ ?_ ?_ ?_ ?_ ?_ x
  · intro v _; simp only [Go.Proofs.YtkkapbnopmmmjaaGreatDoor.En.ren, Den]
  · intro x v hd; simp only [Go.Proofs.YtkkapbnopmmmjaaGreatDoor.En.ren, Den] at hd ⊢; exact hrep hd
  · intro c x ih v hd; simp only [Go.Proofs.YtkkapbnopmmmjaaGreatDoor.En.ren, Den] at hd ⊢; exact ⟨fun hc => ih v (hd.1 hc), hd.2⟩
  · intro xs ih v hd; simp only [Go.Proofs.YtkkapbnopmmmjaaGreatDoor.En.ren, Den] at hd ⊢; obtain ⟨vs, e, hl⟩ := hd; exact ⟨vs, e, ih vs hl⟩
  · intro xs ih v hd; simp only [Go.Proofs.YtkkapbnopmmmjaaGreatDoor.En.ren, Den] at hd ⊢; obtain ⟨vs, e, hl⟩ := hd; exact ⟨vs, e, ih vs hl⟩
  · intro r off v hd; simp only [Go.Proofs.YtkkapbnopmmmjaaGreatDoor.En.ren]; exact hloc r off v hd
  · intro xs v hd
    simp only [Go.Proofs.YtkkapbnopmmmjaaGreatDoor.En.ren, Den] at hd ⊢
    obtain ⟨b, off, e, hG, hc⟩ := hd
    exact ⟨b, off, e, .inl hG, fun j x hx => (hc j x hx).imp fun u h => ⟨h.1, hrep h.2⟩⟩
  · intro r v hd; simp only [Go.Proofs.YtkkapbnopmmmjaaGreatDoor.En.ren]; exact hrow r v hd
  · intro r i j v _; simp only [Go.Proofs.YtkkapbnopmmmjaaGreatDoor.En.ren, Den]
  · intro f xs ih v hd; simp only [Go.Proofs.YtkkapbnopmmmjaaGreatDoor.En.ren, Den] at hd ⊢; obtain ⟨vs, e, hl⟩ := hd; exact ⟨vs, e, ih vs hl⟩
  · intro b v hd; simp only [Go.Proofs.YtkkapbnopmmmjaaGreatDoor.En.ren, Den] at hd ⊢; exact hd
  · intro vs hd; simpa only [j7f, q0l] using hd
  · intro x l ih1 ih2 vs hd; simp only [j7f, q0l] at hd ⊢; obtain ⟨v, vs', e, h1, h2⟩ := hd; exact ⟨v, vs', e, ih1 v h1, ih2 vs' h2⟩
 have hd2 : ∀ xs vs, q0l g xs vs → q0l g' (j7f ρ S.heap xs) vs := by
  intro xs
  induction xs with
  | nil => intro vs hd; simpa only [j7f, q0l] using hd
  | cons x l ih =>
   intro vs hd
   simp only [j7f, q0l] at hd ⊢
   obtain ⟨v, vs', e, h1, h2⟩ := hd
   exact ⟨v, vs', e, hd1 x v h1, ih vs' h2⟩
 have hheap := hh
 refine ⟨hsz, hdf, g', rfl, ?_, ⟨?_, ?_, ?_, ?_, hm.bel, fun r hr => ⟨.inl hr, if_pos hr⟩, fun k xs hk => ⟨.inl (hm.anc.2 k xs hk).1, (hm.anc.2 k xs hk).2⟩⟩, ?_⟩
 · rintro r' (hr | ⟨r, hr, _⟩)
   · exact ⟨by omega, .inl hr⟩
   have := (List.all_eq_true.1 hlt) r' (z3s (q1p hr))
   exact ⟨by simpa using this, .inr (hi r r' hr)⟩
 · intro r' o' hl
   obtain ⟨r, o, hr, ho, rfl⟩ := hheap r' o' hl
   obtain ⟨hu, hok⟩ := hm.ok r o ho
   rw [hβ r r' hr]
   refine ⟨.inr ⟨r, hr, hu⟩, ?_⟩
   cases o with
   | box cs =>
    obtain ⟨b, t, arr, hb, hw, hd⟩ := hok
    exact ⟨b, t, arr, hb, hw, hd2 _ _ hd⟩
   | other b o => exact hok
   | mset ks => exact hok
   | mfun ks cs =>
    obtain ⟨b, us, hb, hl, hw, hd⟩ := hok
    exact ⟨b, us, hb, hl, hw, hd2 _ _ hd⟩
   | row e l =>
    obtain ⟨xs, ho', h2, h4⟩ := hok
    exact ⟨xs, ho', h2, fun i j hi hj => hrep (h4 i j hi hj)⟩
 · intro r1 r2 o1 o2 b hl1 hl2 hb1 hb2
   obtain ⟨s1, p1, hr1, ho1, _⟩ := hheap r1 o1 hl1
   obtain ⟨s2, p2, hr2, ho2, _⟩ := hheap r2 o2 hl2
   rw [hβ s1 r1 hr1] at hb1
   rw [hβ s2 r2 hr2] at hb2
   have := hm.sep s1 s2 p1 p2 b ho1 ho2 hb1 hb2
   subst this
   rw [hr1] at hr2
   cases hr2
   rfl
 · intro r' o' b hl hb
   obtain ⟨r, o, hr, ho, _⟩ := hheap r' o' hl
   rw [hβ r r' hr] at hb
   refine ⟨?_, (hm.own r o b ho hb).2⟩
   rintro (h | ⟨r2, o2, hf, ho2, hb2⟩)
   · exact (hm.own r o b ho hb).1 h
   · have := hm.sep r r2 o o2 b ho ho2 hb hb2
     subst this
     rw [hr] at hf
     cases hf
 · rintro b (h | ⟨r, o, _, ho, hb⟩)
   · exact hm.gb b h
   · exact ⟨(hm.ok r o ho).2.lt hb, .inr (hm.own r o b ho hb).2⟩
 · intro i
   rcases he i with e | e
   · show Den g' (env' i) _; rw [e]; simp only [Den]
   · show Den g' (env' i) _; rw [e]; exact hd1 _ _ (henv i)
theorem z2z.ren {w0 : Base} {G0 : Nat → Prop} {n : Nat} {U : Nat → Prop} {S : St} {a : Act} {W : World} (h : z2z w0 G0 n U S a W) (hm1000 : w0.m ≤ 1000) (hρ : z2f w0.m ρ = true) (hlv : z1w ρ S.heap = true) (keys : List Nat) :
 z2z w0 G0 n (fun r => r < 1000 ∧ (r < w0.m ∨ (look r (q1s ρ S.heap ρ)).isSome = true)) (q8b (q4m ρ S keys) (q1s ρ S.heap ρ)) a W := by
 have hn2 : nodup (ρ.map (·.1)) = true := by simp only [z2f, Bool.and_eq_true] at hρ; exact hρ.1.2
 refine h.renG hm1000 hρ (env' := q2q (q4m ρ S keys)) (hp' := fun r => look r (q1s ρ S.heap ρ)) (fun i => z3z i) (fun r' o' hl => y3c hn2 hl) (fun r r' hr => ?_)
 obtain ⟨o, ho⟩ := Option.isSome_iff_exists.1 ((List.all_eq_true.1 hlv) _ (q1p hr))
 exact z1u ho (q1p hr)
end
end
end Go.Proofs.YtkkapbnopmmmjaaGreatDoor.En
namespace Go.Proofs.YtkkapbnopmmmjaaGreatDoor.En
section
open Go Go.RowKit
structure Ct where
 P : Program
 cx : Cx
 w0 : Base
 G0 : Nat → Prop
 n : Nat
 rnd : Option Nat
abbrev Env := List (Nat × AV)
abbrev Hp := List (Nat × q0d)
def Sim (k : Ct) (E : Env) (H : Hp) (a : Act) (W : World) : Prop := z2z k.w0 k.G0 k.n (fun r => r < 1000 ∧ (r < k.w0.m ∨ (look r H).isSome = true)) (q8b E H) a W
theorem Sim.m_le {k : Ct} {E : Env} {H : Hp} {a : Act} {W : World} (h : Sim k E H a W) : k.w0.m ≤ 1000 := by
 obtain ⟨_, _, g, _, hU, hm, _⟩ := h
 rcases Nat.eq_zero_or_pos k.w0.m with h0 | h0
 · omega
 · have := (hU _ (hm.anc.1 (k.w0.m - 1) (by omega)).1).1
   omega
def Tri (k : Ct) (E : Env) (H : Hp) (c : Code) (Q : Exit → Act → World → Prop) : Prop := ∀ a W, Sim k E H a W → Wp k.rnd k.P c Q a W
def Fin (k : Ct) (E : Env) (H : Hp) (Q : Exit → Act → World → Prop) (e : Exit) : Prop := ∀ a W, Sim k E H a W → Q e a W
section
variable {k : Ct} {E E' : Env} {H H' : Hp} {Q : Exit → Act → World → Prop} {ops : Array Oper} {id : Nat} {ρ : List (Nat × RM)} {keys : List Nat} {ps : List Prop}
theorem j7u {x y : Code} (h : Tri k E H x (Exit.then (Wp k.rnd k.P y Q) Q)) : Tri k E H (.seq x y) Q := fun a W hs => wpIn_seq (h a W hs)
theorem x0g {c : Code} (h : Tri k E H c (Exit.inBlock id Q)) : Tri k E H (.block id c) Q := fun a W hs => wpIn_block (h a W hs)
theorem x3l (h : Fin k E H Q .normal) : Tri k E H .skip Q := fun a W hs => wpIn_skip (h a W hs)
theorem x4b (h : Fin k E H Q (.exit id)) : Tri k E H (.exit id) Q := fun a W hs => wpIn_exit (h a W hs)
theorem x9e (h : Fin k E H Q .ret) : Tri k E H .ret Q := fun a W hs => wpIn_ret (h a W hs)
theorem z2t {c : Operand} {x y : Code} {b : Bool} (hc : (q8b E H).ev c = .im (.val (.bool b))) (ht : b = true → Tri k E H x Q) (hf : b = false → Tri k E H y Q) : Tri k E H (.cond c x y) Q := fun a W hs => by
 obtain ⟨_, _, g, _, _, hm, henv⟩ := id hs
 have hd := x5q hm.anc.2 henv c
 rw [hc] at hd
 exact wpIn_cond_split (q0h hd) (fun h => ht h a W hs) (fun h => hf h a W hs)
theorem y1w {y : Code} {Q1 Q2 : Exit → Act → World → Prop} (h : Tri k E H y Q1) : Fin k E H (Exit.then (Wp k.rnd k.P y Q1) Q2) .normal := h
theorem z6p (h : Fin k E H Q .normal) : Fin k E H (Exit.inBlock id Q) (.exit id) := fun a W hs => by
 show (if id = id then Q .normal a W else Q (.exit id) a W)
 rw [if_pos rfl]
 exact h a W hs
def y4q (E E' : Env) : Prop := E'.map (fun x => q2q E x.1) = E'.map (·.2)
theorem k3a {b : Bool} (h : (!b) = false) : b = true := by cases b <;> simp_all
theorem k0y {a b : Int} (h : (a != b) = false) : a = b := by simpa using h
theorem q0c {a a' : AV} {l l' : List AV} (h : a = a') (h' : l = l') : a :: l = a' :: l' := by rw [h, h']
def q7v (P : Program) : List (Nat × TD) → Prop
 | [] => True
 | (t, td) :: l => z2h P t td ∧ q7v P l
def x0i (P : Program) : List (Nat × CtF) → Prop
 | [] => True
 | (f, σ) :: l => q0o P f σ ∧ x0i P l
theorem q7v.get {P : Program} : ∀ {l : List (Nat × TD)}, q7v P l → ∀ t td, (t, td) ∈ l → z2h P t td
 | (_, _) :: _, h, t, td, hm => by
  rcases List.mem_cons.1 hm with e | e
  · cases e; exact h.1
  · exact q7v.get h.2 t td e
theorem x0i.get {P : Program} : ∀ {l : List (Nat × CtF)}, x0i P l → ∀ f σ, (f, σ) ∈ l → q0o P f σ
 | (_, _) :: _, h, f, σ, hm => by
  rcases List.mem_cons.1 hm with e | e
  · cases e; exact h.1
  · exact x0i.get h.2 f σ e
theorem q1b {P : Program} {ty : List (Nat × TD)} {fn : List (Nat × CtF)} (h1 : q7v P ty) {m : Bool} (h2 : x0i P fn) : q1g P ⟨ty, fn, m⟩ := ⟨fun t td h => h1.get t td (q1p h), fun f σ h => h2.get f σ (q1p h)⟩
theorem x4h {E E' : Env} (h : y4q E E') {i : Nat} {x : AV} (hx : look i E' = some x) : q2q E i = x := by
 unfold y4q at h
 have hmem := q1p hx
 have key : ∀ l : Env, l.map (fun x => q2q E x.1) = l.map (·.2) → (i, x) ∈ l → q2q E i = x := by
  intro l
  induction l with
  | nil => intro _ h; cases h
  | cons y l ih =>
   intro hl hm
   simp only [List.map_cons, List.cons.injEq] at hl
   rcases List.mem_cons.1 hm with e | e
   · rw [← e] at hl; exact hl.1
   · exact ih hl.2 e
 exact key E' h hmem
theorem Sim.sub {a : Act} {W : World} (h : Sim k E H a W) (hE : y4q E E') : Sim k E' H a W := by
 obtain ⟨h1, h2, g, h3, h4, h5, h6⟩ := h
 refine ⟨h1, h2, g, h3, h4, h5, fun i => ?_⟩
 show Den g (q2q E' i) _
 unfold q2q
 cases hl : look i E' with
 | none => simp only [Den]
 | some x =>
  have := h6 i
  change Den g (q2q E i) _ at this
  rw [x4h hE hl] at this
  exact this
def x1n (k : Ct) {X : Type} (I : X → Prop) (E : X → Env) (H : X → Hp) (μ : X → Nat) (x : X) (a : Act) (W : World) : Prop := ∃ y, I y ∧ μ y < μ x ∧ Sim k (E y) (H y) a W
theorem exists_least {p : Nat → Prop} (h : ∃ m, p m) : ∃ m, p m ∧ ∀ j, p j → m ≤ j := by
 obtain ⟨m, hm⟩ := h
 induction m using Nat.strongRecOn with
 | _ m ih =>
  by_cases hx : ∃ j, j < m ∧ p j
  · obtain ⟨j, hj, hp⟩ := hx
    exact ih j hj hp
  · exact ⟨m, hm, fun j hj => by
     rcases Nat.lt_or_ge j m with h | h
     · exact absurd ⟨j, h, hj⟩ hx
     · exact h⟩
theorem x1s {X : Type} (I : X → Prop) (EL : X → Env) (HL : X → Hp) (μ : X → Nat) (x0 : X) {c : Code} (h0 : I x0) (hE : y4q E (EL x0)) (hH : H = HL x0)
 (round : ∀ x, I x → Tri k (EL x) (HL x) c (Exit.then (x1n k I EL HL μ x) Q)) : Tri k E H (.loop c) Q := by
 intro a W hs
 have hJ : ∃ x, I x ∧ Sim k (EL x) (HL x) a W := ⟨x0, h0, by rw [← hH]; exact hs.sub hE⟩
 refine wpIn_loop (fun a W => ∃ x, I x ∧ Sim k (EL x) (HL x) a W) (fun a W => by
  classical
  exact if h : ∃ m, ∃ x, I x ∧ Sim k (EL x) (HL x) a W ∧ μ x = m then Classical.choose (exists_least h) else 0) hJ fun a W hx => ?_
 classical
 have hex : ∃ m, ∃ x, I x ∧ Sim k (EL x) (HL x) a W ∧ μ x = m := let ⟨x, h1, h2⟩ := hx; ⟨_, x, h1, h2, rfl⟩
 obtain ⟨⟨x, h1, h2, h3⟩, _⟩ := Classical.choose_spec (exists_least hex)
 refine wpIn_mono (round x h1 a W h2) fun e a' W' hq => ?_
 cases e with
 | normal =>
  obtain ⟨y, g1, g2, g3⟩ := hq
  refine ⟨⟨y, g1, g3⟩, ?_⟩
  have hex' : ∃ m, ∃ x, I x ∧ Sim k (EL x) (HL x) a' W' ∧ μ x = m := ⟨_, y, g1, g3, rfl⟩
  rw [dif_pos hex', dif_pos hex]
  have := (Classical.choose_spec (exists_least hex')).2 _ ⟨y, g1, g3, rfl⟩
  omega
 | _ => exact hq
theorem y9i {X : Type} {I : X → Prop} {EL : X → Env} {HL : X → Hp} {μ : X → Nat} {x : X} (y : X) (hI : I y) (hμ : μ y < μ x) (hE : y4q E (EL y)) (hH : H = HL y) : Fin k E H (Exit.then (x1n k I EL HL μ x) Q) .normal :=
 fun a W hs => ⟨y, hI, hμ, by rw [← hH]; exact hs.sub hE⟩
theorem q4l {X : Type} (I : X → Prop) (EL : X → Env) (HL : X → Hp) {x y : Code} (h : Tri k E H x (Exit.then (fun a W => ∃ z, I z ∧ Sim k (EL z) (HL z) a W) Q)) (hy : ∀ z, I z → Tri k (EL z) (HL z) y Q) : Tri k E H (.seq x y) Q := by
 intro a W hs
 refine wpIn_seq (wpIn_mono (h a W hs) fun e a' W' hq => ?_)
 cases e with
 | normal => obtain ⟨z, h1, h2⟩ := hq; exact hy z h1 a' W' h2
 | _ => exact hq
theorem q1m {X : Type} {I : X → Prop} {EL : X → Env} {HL : X → Hp} (z : X) (hI : I z) (hE : y4q E (EL z)) (hH : H = HL z) : Fin k E H (Exit.then (fun a W => ∃ z, I z ∧ Sim k (EL z) (HL z) a W) Q) .normal :=
 fun a W hs => ⟨z, hI, by rw [← hH]; exact hs.sub hE⟩
end
section
variable {k : Ct} {E E' : Env} {H : Hp} {Q : Exit → Act → World → Prop} {c : Code}
def k0q (i : Nat) (l : LD) (E : Env) : Env := E.map fun x => bif Nat.beq x.1 i then (match x.2 with | .im (.val (.slice none 0 0)) => (x.1, .im (.ls l)) | _ => x) else x
theorem z9s {f : Nat × AV → Nat × AV} (hf : ∀ x, (f x).1 = x.1) : ∀ {l : Env} {i : Nat}, look i (l.map f) = (look i l).map fun v => (f (i, v)).2
 | [], i => rfl
 | (j, v) :: l, i => by
  simp only [List.map_cons]
  have h1 := hf (j, v)
  obtain ⟨a, b, hb'⟩ : ∃ a b, f (j, v) = (a, b) := ⟨_, _, rfl⟩
  rw [hb'] at h1 ⊢
  simp only at h1
  subst h1
  unfold look
  by_cases e : a = i
  · subst e
    rw [q7w]
    simp only [cond_true, Option.map_some]
    rw [hb']
  · rw [q4i e]
    simp only [cond_false]
    exact z9s hf
theorem y9r (i : Nat) (l : LD) (hl : Nat.beq l.len 0 = true) (hE : k0q i l E = E') {a : Act} {W : World} (hs : Sim k E H a W) : Sim k E' H a W := by
 subst hE
 obtain ⟨h1, h2, g, h3, h4, h5, h6⟩ := hs
 refine ⟨h1, h2, g, h3, h4, h5, fun j => ?_⟩
 have hj := h6 j
 change Den g (q2q E j) _ at hj
 show Den g (q2q (k0q i l E) j) _
 unfold q2q at hj ⊢
 unfold k0q
 rw [z9s (fun x => by
  cases Nat.beq x.1 i with
  | false => rfl
  | true => simp only [cond_true]; split <;> rfl)]
 cases hlk : look j E with
 | none => simp only [Option.map_none, Den]
 | some v =>
  rw [hlk] at hj
  simp only [Option.map_some]
  simp only at hj
  cases Nat.beq j i with
  | false => exact hj
  | true =>
   simp only [cond_true]
   split
   · rw [q0h hj]
     simp only [Den]
     exact .nil l none 0 (Nat.eq_of_beq_eq_true hl)
   · exact hj
def x6i (i r : Nat) (E : Env) : Env := E.map fun x => bif Nat.beq x.1 i then (match x.2 with | .im (.val (.slice none 0 0)) => (x.1, .row r) | _ => x) else x
def z1s {α : Type} : List α → Nat → α → List α
 | [], _, _ => []
 | _ :: l, 0, y => y :: l
 | x :: l, n + 1, y => x :: z1s l n y
def x5s (b j r : Nat) (H : Hp) : Hp := H.map fun x => bif Nat.beq x.1 b then (match x.2 with | .box cs => (match cs[j]? with | some (.im (.val (.slice none 0 0))) => (x.1, .box (z1s cs j (.row r))) | _ => x) | _ => x) else x
theorem j5u {f : Nat × q0d → Nat × q0d} (hf : ∀ x, (f x).1 = x.1) : ∀ {l : Hp} {i : Nat}, look i (l.map f) = (look i l).map fun v => (f (i, v)).2
 | [], i => rfl
 | (j, v) :: l, i => by
  simp only [List.map_cons]
  have h1 := hf (j, v)
  obtain ⟨a, b, hb'⟩ : ∃ a b, f (j, v) = (a, b) := ⟨_, _, rfl⟩
  rw [hb'] at h1 ⊢
  simp only at h1
  subst h1
  unfold look
  by_cases e : a = i
  · subst e
    rw [q7w]
    simp only [cond_true, Option.map_some]
    rw [hb']
  · rw [q4i e]
    simp only [cond_false]
    exact j5u hf
theorem MOk.nilRow {w0 : Base} {G0 : Nat → Prop} {g : Gh} {H : Nat → Option q0d} (h : MOk w0 G0 g H) {r e : Nat} {l : LD} (hr : ¬ g.U r) (hl : l.len = 0) (hst : 0 < l.st) :
 ∃ g' : Gh, g'.W = g.W ∧ g.le g' ∧ (∀ x, g'.U x ↔ (g.U x ∨ x = r)) ∧ g'.β r = .slice none 0 0 ∧ MOk w0 G0 g' (upd H r (some (.row e l))) := by
 have hg := good_row (nm := r) (e := e) (l := l) (v := .slice none 0 0) (xs := []) (W' := g.W) (ob := none) (H' := upd H r (some (.row e l))) h hr ⟨rfl, rfl, rfl, Nat.le_refl _, fun _ _ _ => rfl⟩ (fun b hb => by cases hb) (fun x o hx => by
  unfold upd at hx
  by_cases e' : x = r
  · subst e'; rw [q7w] at hx; simp at hx; exact .inl ⟨rfl, hx.symm⟩
  · rw [q4i e'] at hx; exact .inr ⟨e', hx, fun b hb => by cases hb⟩) (by rw [hl]; exact q3x.nil g.W e hst) (by rw [hl]; exact Nat.zero_le _) (fun i j hi _ => by omega) (fun b hb => by simp [q1n] at hb)
 obtain ⟨g', h1, h2, h3, h4, h5⟩ := hg
 simp only [Den] at h5
 exact ⟨g', h1, h2, h3, h5.2.1.symm, h4⟩
theorem y4v (i r e : Nat) (l : LD) (hl : Nat.beq l.len 0 = true) (hst : Nat.blt 0 l.st = true) (hr : (Nat.blt r 1000 && Nat.ble k.w0.m r) = true) (hf : (look r H).isSome = false) (hE : x6i i r E = E') {a : Act} {W : World} (hs : Sim k E H a W) : Sim k E' ((r, .row e l) :: H) a W := by
 subst hE
 obtain ⟨h1, h2, g, rfl, h4, h5, h6⟩ := hs
 have hr1 : r < 1000 ∧ k.w0.m ≤ r := by simp only [Bool.and_eq_true] at hr; exact ⟨by simpa using hr.1, Nat.le_of_ble_eq_true hr.2⟩
 have hU : ¬ g.U r := fun hu => by
  rcases (h4 r hu).2 with h | h
  · omega
  · rw [hf] at h; cases h
 obtain ⟨g', q1, q2, q3, q4, q5⟩ := h5.nilRow (e := e) hU (Nat.eq_of_beq_eq_true hl) (by simpa using hst)
 have hheap : (q8b (x6i i r E) ((r, .row e l) :: H)).heap = upd (q8b E H).heap r (some (.row e l)) := by
  funext x
  show (bif Nat.beq r x then some (.row e l) else look x H) = (bif Nat.beq x r then some (.row e l) else look x H)
  by_cases hx : x = r
  · subst hx; rw [q7w]
  · rw [q4i hx, q4i (Ne.symm hx)]
 refine ⟨h1, h2, g', q1, fun x hx => ?_, by rw [hheap]; exact q5, fun j => ?_⟩
 · rcases (q3 x).1 hx with hx | rfl
   · refine ⟨(h4 x hx).1, (h4 x hx).2.imp id fun h4' => ?_⟩
     unfold look
     by_cases e' : r = x
     · subst e'; rw [q7w]; rfl
     · rw [q4i e']; exact h4'
   · refine ⟨hr1.1, .inr ?_⟩
     unfold look
     rw [q7w]
     rfl
 · have hj := Den.mono q2 _ _ (h6 j)
   change Den g' (q2q E j) _ at hj
   show Den g' (q2q (x6i i r E) j) _
   unfold q2q at hj ⊢
   unfold x6i
   rw [z9s (fun x => by
    cases Nat.beq x.1 i with
    | false => rfl
    | true => simp only [cond_true]; split <;> rfl)]
   cases hlk : look j E with
   | none => simp only [Option.map_none, Den]
   | some v =>
    rw [hlk] at hj
    simp only [Option.map_some]
    simp only at hj
    cases Nat.beq j i with
    | false => exact hj
    | true =>
     simp only [cond_true]
     split
     · rw [q0h hj]
       simp only [Den]
       exact ⟨(q3 r).2 (.inr rfl), q4.symm, .inl ⟨none, 0, 0, rfl⟩⟩
     · exact hj
theorem z7g {g : Gh} : ∀ {cs : List AV} {us : List Value} {j : Nat} {x : AV} {u : Value}, q0l g cs us → us[j]? = some u → Den g x u → q0l g (z1s cs j x) us
 | [], us, j, x, u, h, hu, _ => by simp only [q0l] at h; subst h; simp at hu
 | c :: cs, us, 0, x, u, h, hu, hx => by simp only [q0l] at h; obtain ⟨v, vs', rfl, _, h2⟩ := h; simp at hu; subst hu; simp only [z1s, q0l]; exact ⟨_, _, rfl, hx, h2⟩
 | c :: cs, us, j + 1, x, u, h, hu, hx => by simp only [q0l] at h; obtain ⟨v, vs', rfl, h1, h2⟩ := h; simp only [z1s, q0l]; exact ⟨_, _, rfl, h1, z7g h2 (by simpa using hu) hx⟩
theorem j8t {H' : Hp} (b j r e : Nat) (l : LD) (hl : Nat.beq l.len 0 = true) (hst : Nat.blt 0 l.st = true) (hr : (Nat.blt r 1000 && Nat.ble k.w0.m r) = true) (hf : (look r H).isSome = false) (hH : x5s b j r H = H') {a : Act} {W : World} (hs : Sim k E H a W) : Sim k E ((r, .row e l) :: H') a W := by
 subst hH
 obtain ⟨h1, h2, g, rfl, h4, h5, h6⟩ := hs
 have hr1 : r < 1000 ∧ k.w0.m ≤ r := by simp only [Bool.and_eq_true] at hr; exact ⟨by simpa using hr.1, Nat.le_of_ble_eq_true hr.2⟩
 have hU : ¬ g.U r := fun hu => by
  rcases (h4 r hu).2 with h | h
  · omega
  · rw [hf] at h; cases h
 obtain ⟨g', q1, q2, q3, q4, q5⟩ := h5.nilRow (e := e) hU (Nat.eq_of_beq_eq_true hl) (by simpa using hst)
 have hfst : ∀ x : Nat × q0d, (bif Nat.beq x.1 b then (match x.2 with | .box cs => (match cs[j]? with | some (.im (.val (.slice none 0 0))) => (x.1, q0d.box (z1s cs j (.row r))) | _ => x) | _ => x) else x).1 = x.1 := by
  intro x
  cases Nat.beq x.1 b with
  | false => rfl
  | true =>
   simp only [cond_true]
   split
   · split <;> rfl
   · rfl
 have hlk : ∀ x, look x (x5s b j r H) = (look x H).map fun o => (bif Nat.beq x b then (match o with | .box cs => (match cs[j]? with | some (.im (.val (.slice none 0 0))) => q0d.box (z1s cs j (.row r)) | _ => o) | _ => o) else o) := by
  intro x
  unfold x5s
  rw [j5u hfst]
  congr 1
  funext o
  cases Nat.beq x b with
  | false => rfl
  | true =>
   simp only [cond_true]
   split
   · split <;> rfl
   · rfl
 refine ⟨h1, h2, g', q1, fun x hx => ?_, ⟨?_, ?_, ?_, q5.gb, q5.bel, q5.anc⟩, fun i => Den.mono q2 _ _ (h6 i)⟩
 · rcases (q3 x).1 hx with hx | rfl
   · refine ⟨(h4 x hx).1, (h4 x hx).2.imp id fun h4' => ?_⟩
     unfold look
     by_cases e' : r = x
     · subst e'; rw [q7w]; rfl
     · rw [q4i e']
       simp only [cond_false]
       rw [hlk]
       simpa using h4'
   · refine ⟨hr1.1, .inr ?_⟩
     unfold look
     rw [q7w]
     rfl
 all_goals
  have hsome : ∀ x o, look x ((r, .row e l) :: x5s b j r H) = some o → ∃ o', upd (q8b E H).heap r (some (.row e l)) x = some o' ∧ (o' = o ∨ (x ≠ r ∧ ∃ cs, o' = .box cs ∧ cs[j]? = some (.im (.val (.slice none 0 0))) ∧ o = .box (z1s cs j (.row r)))) := by
   intro x o hx
   unfold look at hx
   by_cases e' : r = x
   · subst e'
     rw [q7w] at hx
     exact ⟨_, by unfold upd; rw [q7w]; exact hx, .inl rfl⟩
   · rw [q4i e'] at hx
     simp only [cond_false] at hx
     rw [hlk] at hx
     cases ho : look x H with
     | none => rw [ho] at hx; cases hx
     | some o' =>
      rw [ho] at hx
      simp only [Option.map_some, Option.some.injEq] at hx
      refine ⟨o', by unfold upd; rw [q4i (Ne.symm e')]; exact ho, ?_⟩
      cases hb : Nat.beq x b with
      | false => rw [hb] at hx; exact .inl hx
      | true =>
       rw [hb] at hx
       simp only [cond_true] at hx
       split at hx
       · rename_i cs
         split at hx
         · rename_i hc
           exact .inr ⟨Ne.symm e', cs, rfl, hc, hx.symm⟩
         · exact .inl hx
       · exact .inl hx
 · intro x o hx
   obtain ⟨o', ho', hc⟩ := hsome x o hx
   obtain ⟨hu, hok⟩ := q5.ok x o' ho'
   refine ⟨hu, ?_⟩
   rcases hc with rfl | ⟨_, cs, rfl, hcj, rfl⟩
   · exact hok
   · obtain ⟨b', t, arr, hb', hw, hd⟩ := hok
     refine ⟨b', t, arr, hb', hw, ?_⟩
     obtain ⟨u, hu1, hu2⟩ := hd.get hcj
     refine z7g hd hu1 ?_
     rw [q0h hu2]
     simp only [Den]
     exact ⟨(q3 r).2 (.inr rfl), q4.symm, .inl ⟨none, 0, 0, rfl⟩⟩
 · intro x x' o o' b' hx hx' hb hb'
   obtain ⟨p, hp, _⟩ := hsome x o hx
   obtain ⟨p', hp', _⟩ := hsome x' o' hx'
   exact q5.sep x x' p p' b' hp hp' hb hb'
 · intro x o b' hx hb
   obtain ⟨p, hp, _⟩ := hsome x o hx
   exact q5.own x p b' hp hb
theorem x9s (i : Nat) (l : LD) (hl : Nat.beq l.len 0 = true) (hE : k0q i l E = E') (h : Tri k E' H c Q) : Tri k E H c Q := fun a W hs => h a W (y9r i l hl hE hs)
theorem x9l (i : Nat) (l : LD) (hl : Nat.beq l.len 0 = true) (hE : k0q i l E = E') {x : Exit} (h : Fin k E' H Q x) : Fin k E H Q x := fun a W hs => h a W (y9r i l hl hE hs)
theorem x9g (i r e : Nat) (l : LD) (hl : Nat.beq l.len 0 = true) (hst : Nat.blt 0 l.st = true) (hr : (Nat.blt r 1000 && Nat.ble k.w0.m r) = true) (hf : (look r H).isSome = false) (hE : x6i i r E = E') (h : Tri k E' ((r, .row e l) :: H) c Q) : Tri k E H c Q := fun a W hs => h a W (y4v i r e l hl hst hr hf hE hs)
theorem x8w (i r e : Nat) (l : LD) (hl : Nat.beq l.len 0 = true) (hst : Nat.blt 0 l.st = true) (hr : (Nat.blt r 1000 && Nat.ble k.w0.m r) = true) (hf : (look r H).isSome = false) (hE : x6i i r E = E') {x : Exit} (h : Fin k E' ((r, .row e l) :: H) Q x) : Fin k E H Q x := fun a W hs => h a W (y4v i r e l hl hst hr hf hE hs)
theorem x2i {H' : Hp} (b j r e : Nat) (l : LD) (hl : Nat.beq l.len 0 = true) (hst : Nat.blt 0 l.st = true) (hr : (Nat.blt r 1000 && Nat.ble k.w0.m r) = true) (hf : (look r H).isSome = false) (hH : x5s b j r H = H') (h : Tri k E ((r, .row e l) :: H') c Q) : Tri k E H c Q := fun a W hs => h a W (j8t b j r e l hl hst hr hf hH hs)
theorem x3y {H' : Hp} (b j r e : Nat) (l : LD) (hl : Nat.beq l.len 0 = true) (hst : Nat.blt 0 l.st = true) (hr : (Nat.blt r 1000 && Nat.ble k.w0.m r) = true) (hf : (look r H).isSome = false) (hH : x5s b j r H = H') {x : Exit} (h : Fin k E ((r, .row e l) :: H') Q x) : Fin k E H Q x := fun a W hs => h a W (j8t b j r e l hl hst hr hf hH hs)
theorem q0r {a a' : Option q0d} {l l' : List (Option q0d)} (h : a = a') (h' : l = l') : a :: l = a' :: l' := by rw [h, h']
theorem neB {a b : Int} (h : (a == b) = false) : a ≠ b := ne_of_beq_false h
end
def Post (w0 : Base) (G0 : Nat → Prop) (r : AV) (outs : List (Option q0d)) (e : Ending) (W' : World) : Prop :=
 ∃ u g', e = .returned u ∧ g'.W = W' ∧ MOk w0 G0 g' (q4w outs) ∧ Den g' r u
def x0j (cx : Cx) (E : Env) (H : Hp) : List ResultVar → Option (List AV)
 | [] => some []
 | .tmp t :: l => match x0j cx E H l with | some m => some (q2q E t :: m) | none => none
 | .cell a t :: l =>
  match q2q E a, look t cx.ty with
  | .loc r off, some td =>
   match look r H with
   | some (.box cs) => (match q6s td (cs.drop off), x0j cx E H l with | some v, some m => some (v :: m) | _, _ => none)
   | _ => none
  | _, _ => none
def j6p : List AV → AV
 | [x] => x
 | l => .tup l
def k5q (tmps : Array Value) : ResultVar → Sem Value
 | .tmp t => pure (tmps.getD t undef)
 | .cell a t => do loadVar t (← asAddr (tmps.getD a undef))
theorem j6l {k : Ct} (hcx : q1g k.P k.cx) {E : Env} {H : Hp} {a : Act} {g : Gh} (hm : MOk k.w0 k.G0 g (q8b E H).heap) (henv : ∀ i, Den g ((q8b E H).env i) (a.tmps.getD i undef)) :
 ∀ (rs : List ResultVar) (avs : List AV), x0j k.cx E H rs = some avs →
  ∃ us, (rs.mapM (k5q a.tmps)).run k.P g.W = .ok us g.W ∧ q0l g avs us
 | [], avs, h => by cases h; exact ⟨[], by simp, by simp [q0l]⟩
 | .tmp t :: l, avs, h => by
  unfold x0j at h
  cases hr : x0j k.cx E H l with
  | none => rw [hr] at h; cases h
  | some m =>
   rw [hr] at h
   cases h
   obtain ⟨us, h1, h2⟩ := j6l hcx hm henv l m hr
   refine ⟨a.tmps.getD t undef :: us, ?_, ?_⟩
   · rw [List.mapM_cons, Sem.run_bind]
     simp only [k5q, Sem.run_pure, Result.andThen, Sem.run_bind, h1]
   · simp only [q0l]; exact ⟨_, _, rfl, henv t, h2⟩
 | .cell p t :: l, avs, h => by
  unfold x0j at h
  split at h
  · rename_i r off td he ht
    split at h
    · rename_i cs hr
      split at h
      · rename_i v m hv hl
        cases h
        obtain ⟨us, h1, h2⟩ := j6l hcx hm henv l m hl
        have hd := henv p
        change Den g (q2q E p) _ at hd
        rw [he] at hd
        simp only [Den] at hd
        obtain ⟨_, b, hb, hx⟩ := hd
        obtain ⟨_, b', t', arr, hb', hw, hdl⟩ := hm.ok r _ hr
        rw [hb] at hb'
        cases hb'
        obtain ⟨u, hu, hdu⟩ := q6t (hcx.ty t td ht) g.W b off (arr.toList.drop off) (fun j u hu => by
         rw [cell_of_row g.W b (off + j) arr t' (0, 0) hw]
         rw [List.getElem?_drop] at hu
         simpa using hu) (hdl.drop off) hv
        refine ⟨u :: us, ?_, ?_⟩
        · rw [List.mapM_cons, Sem.run_bind]
          simp only [k5q, hx, asAddr, Sem.run_pure, Result.andThen, Sem.run_bind, hu, h1]
        · simp only [q0l]; exact ⟨_, _, rfl, hdu, h2⟩
      · cases h
    · cases h
  · cases h
def q8d (H : Hp) : Nat → List Bool → List (Option q0d)
 | _, [] => []
 | i, b :: l => (bif b then look i H else none) :: q8d H (i + 1) l
theorem z7l {H : Hp} : ∀ {l : List Bool} {i k : Nat} {o : q0d}, (q8d H i l)[k]? = some (some o) → look (i + k) H = some o
 | [], i, k, o, h => by simp [q8d] at h
 | b :: l, i, 0, o, h => by
  cases b with
  | true => simpa [q8d] using h
  | false => simp [q8d] at h
 | b :: l, i, k + 1, o, h => by
  have := z7l (l := l) (i := i + 1) (k := k) (by simpa [q8d] using h)
  rw [show i + (k + 1) = i + 1 + k by omega]
  exact this
def mkD (b : Nat) : Deferred := { target := .collected b, args := #[] }
def dfr : Obj := .deferred (some [])
def z9t (H : Hp) : List (Nat × Nat) → Prop
 | [] => True
 | (r, b) :: l => look r H = some (.other b dfr) ∧ z9t H l
def z0k (ns : List Nat) (H : Hp) : Hp := H.filter fun x => !q4b x.1 ns
theorem z8i {ns : List Nat} {r : Nat} : ∀ {H : Hp}, look r (z0k ns H) = bif q4b r ns then none else look r H
 | [] => by cases q4b r ns <;> rfl
 | (j, x) :: l => by
  have ih := z8i (ns := ns) (r := r) (H := l)
  unfold z0k at ih ⊢
  rw [List.filter_cons]
  by_cases e : j = r
  · subst e
    cases hm : q4b j ns with
    | true => rw [hm] at ih; simpa [hm] using ih
    | false => simp [look, q7w]
  · cases hm : q4b j ns with
    | true => simp only [hm, Bool.not_true, Bool.false_eq_true, if_false]; rw [ih]; simp [look, q4i e]
    | false => simp only [hm, Bool.not_false, if_true, look, q4i e, cond_false]; exact ih
theorem MOk.take {w0 : Base} {G0 : Nat → Prop} {g : Gh} {Hf : Nat → Option q0d} {r b : Nat} {o : Obj} (o' : Obj) (h : MOk w0 G0 g Hf) (hr : Hf r = some (.other b o)) :
 g.le ⟨g.W.putObj b o', g.G, g.β, g.U⟩ ∧ MOk w0 G0 ⟨g.W.putObj b o', g.G, g.β, g.U⟩ (upd Hf r none) := by
 obtain ⟨hv, hw⟩ := (h.ok r _ hr).2
 have hbk : q1n (g.β r) = some b := by rw [hv]; rfl
 obtain ⟨hnG, hmine⟩ := h.own r _ b hr hbk
 have hle : g.le ⟨g.W.putObj b o', g.G, g.β, g.U⟩ := ⟨fun k hk => World.putObj_heap_other (fun e => hnG (e ▸ hk)), fun _ hk => hk, fun _ hk => ⟨hk, rfl⟩⟩
 have hupd : ∀ x o, upd Hf r none x = some o → x ≠ r ∧ Hf x = some o := by
  intro x o hx
  unfold upd at hx
  by_cases e' : x = r
  · subst e'; rw [q7w] at hx; cases hx
  · rw [q4i e'] at hx; exact ⟨e', hx⟩
 refine ⟨hle, fun x o hx => ?_, fun x x' o o' b hx hx' => h.sep x x' o o' b (hupd x o hx).2 (hupd x' o' hx').2, fun x o b hx => h.own x o b (hupd x o hx).2, fun k hk => ⟨by simpa using (h.gb k hk).1, (h.gb k hk).2⟩, ?_, h.anc_up hle⟩
 · obtain ⟨hne, hx⟩ := hupd x o hx
   exact ⟨(h.ok x o hx).1, (h.ok x o hx).2.up hle fun k hk => World.putObj_heap_other (fun e => hne (h.sep x r o _ b hx hr (e ▸ hk) hbk))⟩
 · refine ⟨h.bel.os, h.bel.tape, h.bel.output, by simpa using h.bel.size, fun k hk hno => (World.putObj_heap_other (fun e => ?_)).trans (h.bel.block k hk hno)⟩
   subst e
   rcases hmine with h1 | h1
   · exact absurd hk (Nat.not_lt.2 h1)
   · exact hno h1
theorem z1x {w0 : Base} {G0 : Nat → Prop} {P : Program} {fn : Func} {tmps : Array Value} {R : Ending → World → Prop} {n : Nat} : ∀ (ms : List (Nat × Nat)) (g : Gh) (Hf : Nat → Option q0d), MOk w0 G0 g Hf → (∀ x ∈ ms, Hf x.1 = some (.other x.2 dfr)) → nodup (ms.map (·.1)) = true →
 (∀ g' : Gh, g.le g' → MOk w0 G0 g' (fun r => bif q4b r (ms.map (·.1)) then none else Hf r) → LeavesIn (FR none) n P fn tmps R [] .returning g'.W) → LeavesInM (FR none) n P fn tmps R (ms.map fun x => mkD x.2) .returning g.W
 | [], g, Hf, hm, _, _, hk => hk g (Gh.le.refl g) hm
 | (r, b) :: ms, g, Hf, hm, hH, hnd, hk => by
  have hr := hH (r, b) List.mem_cons_self
  obtain ⟨hle, hm'⟩ := hm.take (.deferred none) hr
  obtain ⟨hv, hw⟩ := (hm.ok r _ hr).2
  simp only [List.map_cons, nodup, Bool.and_eq_true] at hnd
  refine ⟨by simp, .inl ⟨b, _, rfl, run_takeDeferred hw, ?_⟩⟩
  refine z1x ms _ _ hm' (fun x hx => ?_) hnd.2 fun g' hg' hm'' => hk g' (hle.trans hg') ?_
  · have hne : x.1 ≠ r := fun e => by
     have : q4b r (ms.map (·.1)) = true := q1t.2 (e ▸ List.mem_map_of_mem hx)
     rw [this] at hnd
     cases hnd.1
    unfold upd
    rw [q4i hne]
    exact hH x (List.mem_cons_of_mem _ hx)
  · have e : (fun x => bif q4b x (((r, b) :: ms).map (·.1)) then none else Hf x) = fun x => bif q4b x (ms.map (·.1)) then none else upd Hf r none x := by
     funext x
     simp only [List.map_cons, q4b, upd]
     by_cases hx : r = x
     · subst hx; simp [q7w]
     · simp [q4i hx, q4i (Ne.symm hx)]
    rw [e]
    exact hm''
theorem z9t.all {H : Hp} : ∀ {ms : List (Nat × Nat)}, z9t H ms → ∀ x ∈ ms, look x.1 H = some (.other x.2 dfr)
 | _ :: _, h, x, hx => by
  rcases List.mem_cons.1 hx with e | e
  · rw [e]; exact h.1
  · exact h.2.all x e
theorem x6t {k : Ct} {E : Env} {H : Hp} {fn : Func} {avs : List AV} {r : AV} {outs : List (Option q0d)} (ms : List (Nat × Nat)) (hds : k.w0.ds = ms.map fun x => mkD x.2) (hnd : nodup (ms.map (·.1)) = true) (hmk : z9t H ms) (hcx : q1g k.P k.cx)
 (h : x0j k.cx E (z0k (ms.map (·.1)) H) fn.results.toList = some avs) (hr : j6p avs = r) (mask : List Bool) (ho : q8d (z0k (ms.map (·.1)) H) 0 mask = outs) : Fin k E H (bodyPostM (FR none) 3 k.P fn (Post k.w0 k.G0 r outs)) .ret := by
 intro a W hs
 obtain ⟨_, hdf, g, rfl, _, hm, henv⟩ := hs
 show LeavesInM (FR none) 3 k.P fn a.tmps _ a.defers .returning g.W
 rw [hdf, hds]
 refine z1x ms g _ hm hmk.all hnd fun g' hle hm' => ?_
 have e : (fun r => bif q4b r (ms.map (·.1)) then none else (q8b E H).heap r) = (q8b E (z0k (ms.map (·.1)) H)).heap := by funext r; exact z8i.symm
 rw [e] at hm'
 replace henv : ∀ i, Den g' ((q8b E (z0k (ms.map (·.1)) H)).env i) (a.tmps.getD i undef) := fun i => Den.mono hle _ _ (henv i)
 clear hm hle
 revert hm' henv
 generalize z0k (ms.map (·.1)) H = H at h ho ⊢
 intro hm henv
 generalize g' = g at hm henv ⊢
 obtain ⟨us, h1, h2⟩ := j6l hcx hm henv _ _ h
 have hlen := h2.length
 refine ⟨if h : us.toArray.size = 1 then us.toArray[0] else .tuple us.toArray, ?_, ?_⟩
 · have e : results fn a.tmps = (do let vs ← fn.results.mapM (k5q a.tmps); pure (if h : vs.size = 1 then vs[0] else .tuple vs)) := rfl
   rw [e, Sem.run_bind, Array.mapM_eq_mapM_toList]
   simp [h1, Result.andThen]
 · have hdr : Den g r (if h : us.toArray.size = 1 then us.toArray[0] else .tuple us.toArray) := by
    rw [← hr]
    match avs, us, h2, hlen with
    | [x], us, h2, _ => obtain ⟨u, rfl, hu⟩ := q3s h2; simpa [j6p] using hu
    | [], us, h2, hl =>
     have : us = [] := by simpa [q0l] using h2
     subst this
     simp only [j6p, Den]
     exact ⟨[], by simp, by simp [q0l]⟩
    | x :: y :: l, us, h2, hl =>
     have hne : ¬ us.toArray.size = 1 := by simp at hl ⊢; omega
     rw [dif_neg hne]
     simp only [j6p, Den]
     exact ⟨us, rfl, h2⟩
   have hsub : ∀ i o, q4w outs i = some o → (q8b E H).heap i = some o := by
    intro i o hi
    unfold q4w at hi
    split at hi
    · rename_i x hx
      subst hi
      rw [← ho] at hx
      have := z7l hx
      rw [Nat.zero_add] at this
      exact this
    · cases hi
   exact ⟨_, g, rfl, rfl, ⟨fun x o hx => hm.ok x o (hsub x o hx), fun x x' o o' b hx hx' => hm.sep x x' o o' b (hsub x o hx) (hsub x' o' hx'), fun x o b hx => hm.own x o b (hsub x o hx), hm.gb, hm.bel, hm.anc⟩, hdr⟩
theorem k0w {k : Ct} {E E' : Env} {H H' : Hp} {Q : Exit → Act → World → Prop} {e : Exit} (ρ : List (Nat × RM)) (keys : List Nat) (h : (bif z2f k.w0.m ρ && z1w ρ (fun r => look r H) then some (q4m ρ (q8b E H) keys, q1s ρ (fun r => look r H) ρ) else none) = some (E', H')) (hf : Fin k E' H' Q e) : Fin k E H Q e := by
 intro a W hs
 cases hb : (z2f k.w0.m ρ && z1w ρ (fun r => look r H)) with
 | false => rw [hb] at h; cases h
 | true =>
  rw [hb] at h
  simp only [cond_true, Option.some.injEq, Prod.mk.injEq] at h
  obtain ⟨rfl, rfl⟩ := h
  simp only [Bool.and_eq_true] at hb
  exact hf a W (z2z.ren (S := q8b E H) hs hs.m_le hb.1 hb.2 keys)
theorem x8o {k : Ct} {E E' : Env} {H H' : Hp} {Q : Exit → Act → World → Prop} {c : Code} (ρ : List (Nat × RM)) (keys : List Nat) (h : (bif z2f k.w0.m ρ && z1w ρ (fun r => look r H) then some (q4m ρ (q8b E H) keys, q1s ρ (fun r => look r H) ρ) else none) = some (E', H')) (hf : Tri k E' H' c Q) : Tri k E H c Q := by
 intro a W hs
 cases hb : (z2f k.w0.m ρ && z1w ρ (fun r => look r H)) with
 | false => rw [hb] at h; cases h
 | true =>
  rw [hb] at h
  simp only [cond_true, Option.some.injEq, Prod.mk.injEq] at h
  obtain ⟨rfl, rfl⟩ := h
  simp only [Bool.and_eq_true] at hb
  exact hf a W (z2z.ren (S := q8b E H) hs hs.m_le hb.1 hb.2 keys)
theorem q2w {P : Program} {f : Nat} {fn : Func} {c : Code} (hf : P.funcs[f]? = some fn) (hname : (fn.name == "runtime.NumGoroutine") = false) (hb : fn.body = some c) (args : Array Value) (W : World) :
 (callFunc f args).run P W = .ok (.enter f args) W := by
 have h1 : fn.name ≠ "runtime.NumGoroutine" := by simpa using hname
 simp [callFunc, hf, h1, hb]
theorem y4z {g g' : Gh} {os : List q0d} {H' : Nat → Option q0d} {r : AV} {u : Value} (hm : MOk ⟨g.W, q6d g os, os.length, g.β, []⟩ g.G g (z0c os)) (hU : ∀ r, g.U r → r < os.length)
 (hm' : MOk ⟨g.W, q6d g os, os.length, g.β, []⟩ g.G g' H') (hd : Den g' r u) : ∃ g'' : Gh, g''.W = g'.W ∧ g.le g'' ∧ MOk ⟨g.W, q6d g os, os.length, g.β, []⟩ g.G g'' H' ∧ Den g'' r u := by
 have hlent : ∀ b, q6d g os b → ¬ g.G b := by
  rintro b ⟨r, hr, hb⟩
  exact (hm.own r os[r] b (List.getElem?_eq_getElem hr) hb).1
 have hkeep : ∀ b, g.G b → g'.W.heap[b]? = g.W.heap[b]? := fun b hb => hm'.bel.block b (hm.gb b hb).1 (fun h => hlent b h hb)
 let g2 : Gh := ⟨g'.W, fun b => g'.G b ∨ g.G b, g'.β, g'.U⟩
 have hle2 : g'.le g2 := ⟨fun _ _ => rfl, fun _ h => .inl h, fun _ h => ⟨h, rfl⟩⟩
 refine ⟨g2, rfl, ⟨hkeep, fun _ h => .inr h, fun r hr => hm'.anc.1 r (hU r hr)⟩, ⟨fun x o hx => ?_, hm'.sep, fun x o b hx hb => ?_, ?_, hm'.bel, hm'.anc.1, hm'.anc.2.up hle2⟩, Den.mono hle2 _ _ hd⟩
 · exact ⟨(hm'.ok x o hx).1, (hm'.ok x o hx).2.up hle2 fun _ _ => rfl⟩
 · obtain ⟨h1, h2⟩ := hm'.own x o b hx hb
   refine ⟨fun h => ?_, h2⟩
   rcases h with h | h
   · exact h1 h
   · rcases h2 with h2 | h2
     · have := (hm.gb b h).1
       exact absurd (show g.W.heap.size ≤ b from h2) (by omega)
     · exact hlent b h2 h
 · rintro b (h | h)
   · exact hm'.gb b h
   · exact ⟨Nat.lt_of_lt_of_le (hm.gb b h).1 hm'.bel.size, .inl h⟩
theorem x1k {P : Program} {cx : Cx} {f : Nat} {fn : Func} {c : Code} {σ : CtF} (hf : P.funcs[f]? = some fn) (hname : (fn.name == "runtime.NumGoroutine") = false) (hb : fn.body = some c)
 (h : ∀ w0 G0 args os p r outs, σ args os = some (p, r, outs) → p → w0.m = os.length → w0.ds = [] → (Nat.ble args.length fn.ntmps && Nat.ble os.length 1000) = true ∧ Tri ⟨P, cx, w0, G0, fn.ntmps, none⟩ (q3p 0 args) (q3p 0 os) c (bodyPostM (FR none) 3 P fn (Post w0 G0 r outs))) : q0o P f σ := by
 refine ⟨fun args W => q2w hf hname hb args W, fun g args os vs p r outs hσ hp hm hU hd => ?_⟩
 obtain ⟨hlen', ht⟩ := h ⟨g.W, q6d g os, os.length, g.β, []⟩ g.G args os p r outs hσ hp rfl rfl
 simp only [Bool.and_eq_true] at hlen'
 have hlen := Nat.le_of_ble_eq_true hlen'.1
 have hlos := Nat.le_of_ble_eq_true hlen'.2
 have hnum : ∀ i, (q8b (q3p 0 args) (q3p 0 os)).heap i = z0c os i := by
  intro i
  show look i (q3p 0 os) = os[i]?
  have key : ∀ (l : List q0d) (j i : Nat), look (j + i) (q3p j l) = l[i]? := by
   intro l
   induction l with
   | nil => intro j i; rfl
   | cons x l ih =>
    intro j i
    unfold q3p look
    rcases i with _ | i
    · rw [Nat.add_zero, q7w]; rfl
    · rw [q4i (by omega), show j + (i + 1) = j + 1 + i by omega]
      exact ih (j + 1) i
  have := key os 0 i
  rwa [Nat.zero_add] at this
 have hheap : (q8b (q3p 0 args) (q3p 0 os)).heap = z0c os := funext hnum
 refine Calls.mono (z7k.1 (callsIn_of_wp_marks (F := FR none) (n := 3) hf hb trivial (ht _ g.W ⟨?_, rfl, g, rfl, fun r hr => ⟨Nat.lt_of_lt_of_le (hU r hr) hlos, .inl (hU r hr)⟩, by rw [hheap]; exact hm, ?_⟩) rfl)) fun e W' hpost => ?_
 · have := hd.length
   simp
   omega
 · intro i
   show Den _ (q2q (q3p 0 args) i) _
   unfold q2q
   cases hl : look i (q3p 0 args) with
   | none => simp only [Den]
   | some x =>
    have hx := z8z (q1p hl)
    obtain ⟨v, hv, hdv⟩ := hd.get hx
    have hi : i < vs.length := (List.getElem?_eq_some_iff.1 hv).1
    have : (vs.toArray ++ Array.replicate (fn.ntmps - vs.toArray.size) undef).getD i undef = v := by
     rw [Array.getD_eq_getD_getElem?, Array.getElem?_append_left (by simpa using hi)]
     simp at hv ⊢
     simp [hv]
    rw [this]
    exact hdv
 · obtain ⟨u, g', rfl, rfl, h1, h2⟩ := hpost
   obtain ⟨g'', q1, q2, q3, q4⟩ := y4z hm hU h1 h2
   exact ⟨u, g'', rfl, q1, q2, q3, q4⟩
end
end Go.Proofs.YtkkapbnopmmmjaaGreatDoor.En
namespace Go.Proofs.YtkkapbnopmmmjaaGreatDoor.En
section
open Go Go.RowKit
def q8o (ks : List Nat) : Env → Env
 | [] => []
 | (i, x) :: l => bif q4b i ks then (i, x) :: q8o ks l else q8o ks l
def q8s (ns : List Nat) : Hp → Hp
 | [] => []
 | (i, x) :: l => bif q4b i ns then (i, x) :: q8s ns l else q8s ns l
def k5p (ρ : List (Nat × RM)) (r : Nat) : Bool := match look r ρ with | some (.to r') => Nat.beq r r' | _ => false
mutual
def AV.stay (ρ : List (Nat × RM)) : AV → Bool
 | .any => true
 | .im _ => true
 | .opt _ x => x.stay ρ
 | .agg xs => j2r ρ xs
 | .tup xs => j2r ρ xs
 | .loc r _ => k5p ρ r
 | .pto _ => true
 | .row r => k5p ρ r
 | .prow _ _ _ => false
 | .clo _ xs => j2r ρ xs
 | .err _ => true
def j2r (ρ : List (Nat × RM)) : List AV → Bool
 | [] => true
 | x :: l => x.stay ρ && j2r ρ l
end
def q0d.stay (ρ : List (Nat × RM)) : q0d → Bool
 | .box cs => j2r ρ cs
 | .row _ _ => true
 | .other _ _ => true
 | .mset _ => true
 | .mfun _ cs => j2r ρ cs
theorem j6g {ρ : List (Nat × RM)} {r : Nat} (h : k5p ρ r = true) : look r ρ = some (.to r) := by
 unfold k5p at h
 split at h
 · rename_i r' hr; rw [hr, Nat.eq_of_beq_eq_true h]
 · cases h
mutual
theorem z9w {ρ : List (Nat × RM)} {hp : Nat → Option q0d} : ∀ x : AV, x.stay ρ = true → ren ρ hp x = x
 | .any, _ => by simp only [ren]
 | .im x, _ => by simp only [ren]
 | .opt c x, h => by simp only [ren, z9w x (by simpa only [AV.stay] using h)]
 | .agg xs, h => by simp only [ren, q5c xs (by simpa only [AV.stay] using h)]
 | .tup xs, h => by simp only [ren, q5c xs (by simpa only [AV.stay] using h)]
 | .loc r off, h => by simp only [AV.stay] at h; simp only [ren, y1v, j6g h]
 | .pto xs, _ => by simp only [ren]
 | .row r, h => by simp only [AV.stay] at h; simp only [ren, y1n, j6g h]
 | .prow r i j, h => by simp [AV.stay] at h
 | .clo k xs, h => by simp only [ren, q5c xs (by simpa only [AV.stay] using h)]
 | .err b, _ => by simp only [ren]
theorem q5c {ρ : List (Nat × RM)} {hp : Nat → Option q0d} : ∀ xs : List AV, j2r ρ xs = true → j7f ρ hp xs = xs
 | [], _ => by simp only [j7f]
 | x :: l, h => by simp only [j2r, Bool.and_eq_true] at h; simp only [j7f, z9w x h.1, q5c l h.2]
end
theorem y5a {ρ : List (Nat × RM)} {hp : Nat → Option q0d} {o : q0d} (h : o.stay ρ = true) : x8k ρ hp o = o := by
 cases o with
 | box cs => simp only [x8k, q5c cs h]
 | row e l => rfl
 | other b o => rfl
 | mset ks => rfl
 | mfun ks cs => simp only [x8k, q5c cs h]
theorem q5s {α : Type} {k : Nat} : ∀ {a b : List (Nat × α)}, look k (a ++ b) = match look k a with | some x => some x | none => look k b
 | [], b => rfl
 | (j, x) :: a, b => by
  simp only [List.cons_append, look]
  cases Nat.beq j k with
  | true => rfl
  | false => exact q5s
theorem q7j {ks : List Nat} {i : Nat} {x : AV} : ∀ {E : Env}, look i (q8o ks E) = some x → look i E = some x ∧ i ∈ ks
 | [], h => by cases h
 | (j, y) :: l, h => by
  simp only [q8o] at h
  cases hm : q4b j ks with
  | true =>
   rw [hm] at h
   simp only [cond_true, look] at h ⊢
   by_cases e : j = i
   · subst e; rw [q7w] at h ⊢; exact ⟨h, q1t.1 hm⟩
   · rw [q4i e] at h ⊢; exact q7j h
  | false =>
   rw [hm] at h
   simp only [cond_false] at h
   have := q7j h
   refine ⟨?_, this.2⟩
   unfold look
   by_cases e : j = i
   · subst e; rw [q1t.2 this.2] at hm; cases hm
   · rw [q4i e]; exact this.1
theorem q7k {ns : List Nat} {i : Nat} : ∀ {H : Hp}, i ∈ ns → look i (q8s ns H) = look i H
 | [], _ => rfl
 | (j, y) :: l, h => by
  simp only [q8s]
  cases hm : q4b j ns with
  | true =>
   simp only [cond_true, look]
   by_cases e : j = i
   · subst e; rw [q7w]; rfl
   · rw [q4i e]; exact q7k h
  | false =>
   simp only [cond_false, look]
   by_cases e : j = i
   · subst e; rw [q1t.2 h] at hm; cases hm
   · rw [q4i e]; exact q7k h
theorem z8y {ns : List Nat} {i : Nat} {o : q0d} : ∀ {H : Hp}, (i, o) ∈ q8s ns H → i ∈ ns
 | [], h => by cases h
 | (j, y) :: l, h => by
  simp only [q8s] at h
  cases hm : q4b j ns with
  | true =>
   rw [hm] at h
   rcases List.mem_cons.1 h with e | e
   · cases e; exact q1t.1 hm
   · exact z8y e
  | false => rw [hm] at h; exact z8y h
section
variable {cx : Cx} {ops : Array Oper}
theorem z4w : ∀ {l : List (Nat × Oper)} {S Sf : St} {ps : List Prop} {R : List Rec}, q2d cx ops l S = some (ps, Sf, R) → x7c cx ops l S = some (ps, Sf)
 | [], S, Sf, ps, R, h => by simp only [q2d, Option.some.injEq, Prod.mk.injEq] at h; obtain ⟨rfl, rfl, _⟩ := h; rfl
 | (i, o) :: l, S, Sf, ps, R, h => by
  simp only [q2d] at h
  simp only [x7c]
  cases hs : q1l cx ops (1000 + i) o S with
  | none => rw [hs] at h; cases h
  | some t =>
   obtain ⟨p, v, hs'⟩ := t
   rw [hs] at h
   simp only at h ⊢
   cases hr : q2d cx ops l (S.put o.dst v hs') with
   | none => rw [hr] at h; cases h
   | some t2 =>
    obtain ⟨q, S', R'⟩ := t2
    rw [hr] at h
    simp only [Option.some.injEq, Prod.mk.injEq] at h
    obtain ⟨rfl, rfl, _⟩ := h
    rw [z4w hr]
theorem z7p {i : Nat} : ∀ {l : List (Nat × Oper)} {S Sf : St} {ps : List Prop} {R : List Rec}, q2d cx ops l S = some (ps, Sf, R) → (∀ x ∈ l, x.2.dst ≠ some i) → Sf.env i = S.env i
 | [], S, Sf, ps, R, h, _ => by simp only [q2d, Option.some.injEq, Prod.mk.injEq] at h; obtain ⟨_, rfl, _⟩ := h; rfl
 | (j, o) :: l, S, Sf, ps, R, h, hn => by
  simp only [q2d] at h
  cases hs : q1l cx ops (1000 + j) o S with
  | none => rw [hs] at h; cases h
  | some t =>
   obtain ⟨p, v, hs'⟩ := t
   rw [hs] at h
   simp only at h
   cases hr : q2d cx ops l (S.put o.dst v hs') with
   | none => rw [hr] at h; cases h
   | some t2 =>
    obtain ⟨q, S', R'⟩ := t2
    rw [hr] at h
    simp only [Option.some.injEq, Prod.mk.injEq] at h
    obtain ⟨_, rfl, _⟩ := h
    rw [z7p hr fun x hx => hn x (List.mem_cons_of_mem _ hx)]
    have h0 := hn (j, o) List.mem_cons_self
    unfold St.put
    cases hd : o.dst with
    | none => rfl
    | some d =>
     have : i ≠ d := fun e => h0 (by rw [e]; exact hd)
     simp only [upd]
     rw [q4i this]
     rfl
theorem z5m {r : Nat} : ∀ {l : List (Nat × Oper)} {S Sf : St} {ps : List Prop} {R : List Rec}, q2d cx ops l S = some (ps, Sf, R) → (∀ a ∈ R, r ∉ a.N) → Sf.heap r = S.heap r
 | [], S, Sf, ps, R, h, _ => by simp only [q2d, Option.some.injEq, Prod.mk.injEq] at h; obtain ⟨_, rfl, _⟩ := h; rfl
 | (j, o) :: l, S, Sf, ps, R, h, hn => by
  simp only [q2d] at h
  cases hs : q1l cx ops (1000 + j) o S with
  | none => rw [hs] at h; cases h
  | some t =>
   obtain ⟨p, v, hs'⟩ := t
   rw [hs] at h
   simp only at h
   cases hr : q2d cx ops l (S.put o.dst v hs') with
   | none => rw [hr] at h; cases h
   | some t2 =>
    obtain ⟨q, S', R'⟩ := t2
    rw [hr] at h
    simp only [Option.some.injEq, Prod.mk.injEq] at h
    obtain ⟨_, rfl, rfl⟩ := h
    rw [z5m hr fun a ha => hn a (List.mem_cons_of_mem _ ha)]
    exact q1y (hn _ List.mem_cons_self)
end
def z4m (m : Nat) (ops : Array Oper) (n : Nat) (ρ : List (Nat × RM)) (ks ns : List Nat) (E : Env) (H : Hp) (Sf : St) (R : List Rec) : Bool :=
 j8u n (q3p 0 ops.toList) && (z2f m ρ && (z1w ρ Sf.heap && (Nat.ble ops.size 1000 && ((q3p 0 ops.toList).all (fun x => match x.2.dst with | some d => !q4b d ks | none => true) && ((q8o ks E).all (fun x => x.2.stay ρ) &&
  (ns.all (fun r => R.all fun a => !q4b r a.N) && (q8s ns H).all (fun x => x.2.stay ρ)))))))
def q5x (ρ : List (Nat × RM)) (ns : List Nat) : List (Nat × RM) := ρ ++ ns.map fun r => (r, .to r)
def k1j (draw : Bool) (cx : Cx) (m : Nat) (ops : Array Oper) (wt : List Nat) (n : Nat) (ρ : List (Nat × RM)) (keys ks ns : List Nat) (E : Env) (H : Hp) : Option (List Prop × Env × Hp) :=
 match q2d cx ops (q3p 0 ops.toList) (q8b E H) with
 | some (ps, Sf, R) =>
  bif z4m m ops n (q5x ρ ns) ks ns E H Sf R && (bif draw then j8i (q3p 0 ops.toList) && (k1a ops wt && q5q ops wt R) else true) then
   some (ps, q4m (q5x ρ ns) Sf keys, q1s (q5x ρ ns) Sf.heap ρ) else none
 | none => none
theorem x7l {ops : Array Oper} {ks : List Nat} (h : (q3p 0 ops.toList).all (fun x => match x.2.dst with | some d => !q4b d ks | none => true) = true) {i : Nat} (hi : i ∈ ks) : ∀ x ∈ q3p 0 ops.toList, x.2.dst ≠ some i := by
 intro x hx hd
 have := (List.all_eq_true.1 h) x hx
 rw [hd] at this
 simp only [q1t.2 hi] at this
 cases this
theorem z2z.delta {w0 : Base} {G0 : Nat → Prop} {n : Nat} {U : Nat → Prop} {cx : Cx} {ops : Array Oper} {ρ : List (Nat × RM)} {keys ks ns : List Nat} {E : Env} {H : Hp} {Sf : St} {ps : List Prop} {R : List Rec} {a : Act} {W : World}
 (hrun : q2d cx ops (q3p 0 ops.toList) (q8b E H) = some (ps, Sf, R)) (hok : z4m w0.m ops n (q5x ρ ns) ks ns E H Sf R = true) (h : z2z w0 G0 n U Sf a W) (hm1000 : w0.m ≤ 1000) :
 z2z w0 G0 n (fun r => r < 1000 ∧ (r < w0.m ∨ (look r (q1s (q5x ρ ns) Sf.heap ρ ++ q8s ns H)).isSome = true)) (q8b (q4m (q5x ρ ns) Sf keys ++ q8o ks E) (q1s (q5x ρ ns) Sf.heap ρ ++ q8s ns H)) a W := by
 simp only [z4m, Bool.and_eq_true] at hok
 obtain ⟨_, hρ, hlv, _, hoff, hst, hN, hsto⟩ := hok
 have hn2 : nodup ((q5x ρ ns).map (·.1)) = true := by have h0 := hρ; simp only [z2f, Bool.and_eq_true] at h0; exact h0.1.2
 have hns : ∀ r ∈ ns, look r (q5x ρ ns) = some (.to r) := fun r hr => z2u hn2 (List.mem_append_right _ (List.mem_map.2 ⟨r, hr, rfl⟩))
 have hheap : ∀ r ∈ ns, Sf.heap r = look r H := fun r hr => z5m hrun fun x hx hm => by
  have := (List.all_eq_true.1 ((List.all_eq_true.1 hN) r hr)) x hx
  rw [q1t.2 hm] at this
  cases this
 refine h.renG hm1000 hρ (env' := q2q (q4m (q5x ρ ns) Sf keys ++ q8o ks E)) (hp' := fun r => look r (q1s (q5x ρ ns) Sf.heap ρ ++ q8s ns H)) (fun i => ?_) (fun r' o' hl => ?_) (fun r r' hr => ?_)
 · have h1 := z3z (ρ := q5x ρ ns) (S := Sf) (keys := keys) i
   unfold q2q at h1 ⊢
   rw [q5s]
   cases hl : look i (q4m (q5x ρ ns) Sf keys) with
   | some x => rw [hl] at h1; exact h1
   | none =>
    simp only
    cases hk : look i (q8o ks E) with
    | none => exact .inl rfl
    | some x =>
     right
     obtain ⟨k1, k2⟩ := q7j hk
     have hx := (List.all_eq_true.1 hst) _ (q1p hk)
     have he : Sf.env i = x := by
      rw [z7p hrun (x7l hoff k2)]
      show q2q E i = x
      unfold q2q
      rw [k1]
     rw [he]
     exact (z9w x hx).symm
 · replace hl : look r' (q1s (q5x ρ ns) Sf.heap ρ ++ q8s ns H) = some o' := hl
   rw [q5s] at hl
   cases hl1 : look r' (q1s (q5x ρ ns) Sf.heap ρ) with
   | some o =>
    rw [hl1] at hl
    cases hl
    obtain ⟨r, o, h1, h2, h3⟩ := q4d (q1p hl1)
    exact ⟨r, o, z2u hn2 (List.mem_append_left _ h1), h2, h3⟩
   | none =>
    rw [hl1] at hl
    simp only at hl
    have hr := z8y (q1p hl)
    refine ⟨r', o', hns r' hr, ?_, ?_⟩
    · rw [hheap r' hr, ← hl, q7k hr]
    · exact (y5a ((List.all_eq_true.1 hsto) _ (q1p hl))).symm
 · rw [q5s]
   obtain ⟨o, ho⟩ := Option.isSome_iff_exists.1 ((List.all_eq_true.1 hlv) _ (q1p hr))
   rcases List.mem_append.1 (q1p hr) with h1 | h1
   · obtain ⟨x, hx⟩ := Option.isSome_iff_exists.1 (z1u (ρ := q5x ρ ns) ho h1)
     rw [hx]; rfl
   · obtain ⟨y, hy, e⟩ := List.mem_map.1 h1
     cases e
     cases look r (q1s (q5x ρ ns) Sf.heap ρ) with
     | some x => rfl
     | none =>
      simp only
      rw [q7k hy, ← hheap r hy, ho]
      rfl
section
variable {k : Ct} {E En : Env} {H Hn : Hp} {Q : Exit → Act → World → Prop} {ops : Array Oper} {id : Nat} {ρ : List (Nat × RM)} {keys ks ns : List Nat} {ps : List Prop}
theorem x1f (hcx : q1g k.P k.cx) (ρ : List (Nat × RM)) (keys ks ns : List Nat) (ps : List Prop) (En : Env) (Hn : Hp) (h : k1j false k.cx k.w0.m ops [] k.n ρ keys ks ns E H = some (ps, En, Hn)) (hp : q3h ps) (hf : Fin k (En ++ q8o ks E) (Hn ++ q8s ns H) Q .normal) : Tri k E H (.region id ops false) Q := by
 intro a W hs
 unfold k1j at h
 cases hr : q2d k.cx ops (q3p 0 ops.toList) (q8b E H) with
 | none => rw [hr] at h; cases h
 | some t =>
  obtain ⟨ps', Sf, R⟩ := t
  rw [hr] at h
  simp only at h
  cases hb : z4m k.w0.m ops k.n (q5x ρ ns) ks ns E H Sf R with
  | false => rw [hb] at h; cases h
  | true =>
   rw [hb] at h
   simp only [cond_false, Bool.and_true, cond_true, Option.some.injEq, Prod.mk.injEq] at h
   obtain ⟨rfl, rfl, rfl⟩ := h
   have hb0 := hb
   simp only [z4m, Bool.and_eq_true] at hb0
   exact wpIn_region_list (y2x hcx (fun a W hsim => hf a W (hsim.delta hr hb hs.m_le)) ops.toList 0 a W _ ps' hb0.1 (hs.weaken fun _ h => .inl h.1) (by have := Nat.le_of_ble_eq_true hb0.2.2.2.1; simpa using this) (z4w hr) hp)
theorem y9v (wt : List Nat) (hcx : q1g k.P k.cx) (hmx : k.P.follows .mixedOrders = true) (ρ : List (Nat × RM)) (keys ks ns : List Nat) (ps : List Prop) (En : Env) (Hn : Hp) (h : k1j true k.cx k.w0.m ops wt k.n ρ keys ks ns E H = some (ps, En, Hn)) (hp : q3h ps) (hf : Fin k (En ++ q8o ks E) (Hn ++ q8s ns H) Q .normal) : Tri k E H (.region id ops true) Q := by
 intro a W hs
 unfold k1j at h
 cases hr : q2d k.cx ops (q3p 0 ops.toList) (q8b E H) with
 | none => rw [hr] at h; cases h
 | some t =>
  obtain ⟨ps', Sf, R⟩ := t
  rw [hr] at h
  simp only at h
  cases hb : z4m k.w0.m ops k.n (q5x ρ ns) ks ns E H Sf R with
  | false => rw [hb] at h; cases h
  | true =>
   rw [hb] at h
   simp only [cond_true, Bool.true_and] at h
   cases hb2 : (j8i (q3p 0 ops.toList) && (k1a ops wt && q5q ops wt R)) with
   | false => rw [hb2] at h; cases h
   | true =>
    rw [hb2] at h
    simp only [cond_true, Option.some.injEq, Prod.mk.injEq] at h
    obtain ⟨rfl, rfl, rfl⟩ := h
    have hb0 := hb
    simp only [z4m, Bool.and_eq_true] at hb0 hb2
    obtain ⟨h3, hwt, h4⟩ := hb2
    have hrem : z0y ops (Array.replicate ops.size false) = q3p 0 ops.toList := by
     unfold z0y
     refine List.filter_eq_self.2 fun x hx => ?_
     have := z8z hx
     have hlt : x.1 < ops.size := by
      have := (List.getElem?_eq_some_iff.1 this).1
      simpa using this
     simp [Array.getD, hlt]
    have hlen : ∀ (l : List Oper) (j : Nat), (q3p j l).length = l.length := by
     intro l
     induction l with
     | nil => intro j; rfl
     | cons x l ih => intro j; simp [q3p, ih]
    refine wpIn_region_any hmx (y8c hwt (Nat.le_of_ble_eq_true hb0.2.2.2.1) hcx h3 hb0.1 (fun a W hsim => hf a W (hsim.delta hr hb hs.m_le)) ops.size _ a _ _ ps' R (by simp) ?_ ?_ (hs.drew.weaken ?_) (by rw [hrem]; exact hr) h4 hp)
    · intro j o hj hl
      simp [Array.getD] at hl
    · rw [hrem, hlen]; simp
    · intro r hr
      exact .inl hr.1
theorem az : q3h [] := trivial
theorem ap {p : Prop} {l : List Prop} (h : p) (h' : q3h l) : q3h (p :: l) := q5h.2 ⟨h, h'⟩
end
end
end Go.Proofs.YtkkapbnopmmmjaaGreatDoor.En
namespace Go.Proofs.YtkkapbnopmmmjaaGreatDoor.En
section
open Go Go.RowKit
theorem q1v {b : Bool} (h : b = false) : (!b) = true := by rw [h]; rfl
inductive Kd where
 | id
 | ld (l : LD)
 | agg (ks : List Kd)
def y5y (l : LD) : AV → AV
 | .im (.val (.slice none 0 0)) => .im (.ls l)
 | x => x
mutual
def coe : Kd → AV → AV
 | .id, x => x
 | .ld l, x => y5y l x
 | .agg ks, .agg xs => .agg (x4v ks xs)
 | .agg _, x => x
def x4v : List Kd → List AV → List AV
 | k :: ks, x :: xs => coe k x :: x4v ks xs
 | _, xs => xs
end
mutual
def Kd.ok : Kd → Bool
 | .id => true
 | .ld l => Nat.beq l.len 0
 | .agg ks => okL ks
def okL : List Kd → Bool
 | [] => true
 | k :: ks => k.ok && okL ks
end
theorem y3s {g : Gh} {l : LD} (hl : l.len = 0) {x : AV} {u : Value} (hd : Den g x u) : Den g (y5y l x) u := by
 unfold y5y
 split
 · rw [q0h hd]; simp only [Den]; exact .nil l none 0 hl
 · exact hd
mutual
theorem x8c {g : Gh} : ∀ (k : Kd) (x : AV) (u : Value), k.ok = true → Den g x u → Den g (coe k x) u
 | .id, x, u, _, hd => by simpa only [coe] using hd
 | .ld l, x, u, hk, hd => by simp only [coe]; exact y3s (Nat.eq_of_beq_eq_true (by simpa only [Kd.ok] using hk)) hd
 | .agg ks, x, u, hk, hd => by
  cases x with
  | agg xs => simp only [coe, Den] at hd ⊢; obtain ⟨vs, e, hl⟩ := hd; exact ⟨vs, e, j0s ks xs vs (by simpa only [Kd.ok] using hk) hl⟩
  | _ => simpa only [coe] using hd
theorem j0s {g : Gh} : ∀ (ks : List Kd) (xs : List AV) (us : List Value), okL ks = true → q0l g xs us → q0l g (x4v ks xs) us
 | [], xs, us, _, hd => by simpa only [x4v] using hd
 | k :: ks, [], us, _, hd => by simpa only [x4v] using hd
 | k :: ks, x :: xs, us, hk, hd => by
  simp only [okL, Bool.and_eq_true] at hk
  simp only [x4v, q0l] at hd ⊢
  obtain ⟨v, vs', e, h1, h2⟩ := hd
  exact ⟨v, vs', e, x8c k x v hk.1 h1, j0s ks xs vs' hk.2 h2⟩
end
def q2g (ks : List Kd) (σ : CtF) : CtF := fun args os => σ (x4v ks args) os
theorem q0o.coe {P : Program} {f : Nat} {σ : CtF} (h : q0o P f σ) (ks : List Kd) (hk : okL ks = true) : q0o P f (q2g ks σ) :=
 ⟨h.1, fun g args os vs p r outs hs hp hm hU hd => h.2 g (x4v ks args) os vs p r outs hs hp hm hU (j0s ks args vs hk hd)⟩
theorem q7a {W : World} {G : Nat → Prop} {xs : List Int} {v : Value} (h : Rep W G (.ls (.ints xs)) v) (hG : ∀ b, G b → b < W.heap.size) : ∃ A c, v = .slice A xs.length c ∧ Rd I64 (· < W.heap.size) W A xs ∧ xs.length ≤ maxLen := by
 rcases h.cases_ls with ⟨h0, A, c, rfl⟩ | ⟨b, off, c, u, rfl, h1, h2, h3, h4, h5⟩
 · simp only [LD.len] at h0
   refine ⟨A, c, by rw [h0], fun hn => by omega, by rw [h0]; exact Nat.zero_le _⟩
 · refine ⟨_, c, rfl, fun _ => ⟨b, off, rfl, hG b h3, fun j hj => ?_⟩, h2⟩
   have hc := h4 j 0 hj Nat.one_pos
   have hr := h5 j 0 hj Nat.one_pos
   simp only [LD.st, Nat.mul_one, Nat.add_zero] at hc
   have hu : u j 0 = .int .i64 (xs.getD j 0) := q0h (g := ⟨W, G, fun _ => undef, fun _ => False⟩) (by simp only [Den]; exact hr)
   rw [hc, hu]
   simp [List.getD, List.getElem?_eq_getElem hj]
theorem z0u {W : World} {G : Nat → Prop} {e : Nat} {v : Value} {xs : List Int} (h : Own W e v (xs.map I64)) (hm : xs.length ≤ maxLen) (hG : ∀ b, v.ownBlock = some b → G b) : Rep W G (.ls (.ints xs)) v :=
 y4x h (by simp [LD.len]) hm rfl (fun i hi => by
  have hi' : i < xs.length := hi
  have : (xs.map I64).getD i undef = .int .i64 (xs.getD i 0) := by simp [List.getD, List.getElem?_eq_getElem hi', I64]
  rw [this]
  exact .val _) (fun b hb => hG b (by rw [← q8l h]; exact hb))
end
end Go.Proofs.YtkkapbnopmmmjaaGreatDoor.En
namespace Go.Proofs.YtkkapbnopmmmjaaGreatDoor.En
open Go Go.RowKit
def ItF := List AV → Option (Prop × Nat × (Nat → List AV))
structure StJ (k : Ct) (g0 : Gh) (M : Nat) (H : Hp) (Z : Nat → Prop) (g : Gh) (W : World) : Prop where
 w : g.W = W
 sz : g0.W.heap.size ≤ W.heap.size
 keep : ∀ b, g0.G b → W.heap[b]? = g0.W.heap[b]? ∧ g.G b
 fix : ∀ r, r < M → g.U r ∧ g.β r = g0.β r
 bd : ∀ r, g.U r → r < 1000 ∧ (r < M ∨ (look r H).isSome = true)
 ok : MOk k.w0 k.G0 g (fun r => look r H)
 far : ∀ b, Z b → (g0.W.heap.size ≤ b ∧ b < W.heap.size) ∧ ¬ g.G b ∧ ∀ r o, look r H = some o → q1n (g.β r) ≠ some b
def β1 (g : Gh) (rn l : Nat) (r : Nat) : Value := if r = rn then .pointer (some ⟨l, 0, none⟩) else g.β r
def g1 (g : Gh) (rn l : Nat) : Gh := ⟨g.W, g.G, β1 g rn l, fun r => g.U r ∨ r = rn⟩
section
variable {k : Ct} {g0 g : Gh} {M rn l : Nat} {H H1 : Hp} {Z : Nat → Prop} {W W3 : World}
end
section
variable {X : Type} {k : Ct} {E : Env} {ps : Array Nat} {assign body : Code} {N M rn : Nat} {el : Nat → List AV} (I : Nat → X → Prop) (HL : Nat → X → Hp) (EA : Nat → X → Env) (HA : Nat → X → Hp) (C : Exit → Hp → Prop)
end
def Ct.mark (k : Ct) (D : Nat) : Ct := { k with w0 := { k.w0 with ds := mkD D :: k.w0.ds } }
section
variable {X : Type} {k : Ct} {E : Env} {H : Hp} {Q : Exit → Act → World → Prop} {gop : Operand} {ps : Array Nat} {assign body : Code} {gf : Nat} {caps : List AV} {σ : ItF} {p : Prop} {N : Nat} {el : Nat → List AV}
end
section
variable {X : Type} {k kr : Ct} {M rn i l : Nat} {I : Nat → X → Prop} {HL : Nat → X → Hp} {C : Exit → Hp → Prop} {r1 : Loop} {E : Env} {H : Hp}
end
end Go.Proofs.YtkkapbnopmmmjaaGreatDoor.En
namespace Go.Proofs.YtkkapbnopmmmjaaGreatDoor.En
open Go Go.RowKit
abbrev Tg (k : Ct) (S : Env × Hp) (c : Code) (Q : Exit → Act → World → Prop) : Prop := Tri k S.1 S.2 c Q
abbrev Fg (k : Ct) (S : Env × Hp) (Q : Exit → Act → World → Prop) (e : Exit) : Prop := Fin k S.1 S.2 Q e
def rgK (ops : Array Oper) (dk : List Nat) (E : Env) : List Nat := (E.map (·.1)).filter fun i => !q4b i dk && ops.toList.all fun o => match o.dst with | some d => !Nat.beq d i | none => true
def rgN (ρ : List (Nat × RM)) (dn : List Nat) (H : Hp) : List Nat := (H.map (·.1)).filter fun r => !q4b r dn && !q4b r (ρ.map (·.1))
section
variable (d : Bool) (k : Ct) (ops : Array Oper) (wt : List Nat) (ρ : List (Nat × RM)) (ky dk dn : List Nat) (S : Env × Hp)
def rgO : Option (List Prop × Env × Hp) := k1j d k.cx k.w0.m ops wt k.n ρ ky (rgK ops dk S.1) (rgN ρ dn S.2) S.1 S.2
def rgS : Env × Hp := match rgO d k ops wt ρ ky dk dn S with
 | some x => (x.2.1 ++ q8o (rgK ops dk S.1) S.1, x.2.2 ++ q8s (rgN ρ dn S.2) S.2)
 | none => ([], [])
def rgP : Option (List Prop) := match rgO d k ops wt ρ ky dk dn S with | some x => some x.1 | none => none
end
theorem x5x {d : Bool} {k : Ct} {ops : Array Oper} {wt : List Nat} {ρ : List (Nat × RM)} {ky dk dn : List Nat} {S : Env × Hp} {ps : List Prop} (h : rgP d k ops wt ρ ky dk dn S = some ps) :
 ∃ En Hn, k1j d k.cx k.w0.m ops wt k.n ρ ky (rgK ops dk S.1) (rgN ρ dn S.2) S.1 S.2 = some (ps, En, Hn) ∧ rgS d k ops wt ρ ky dk dn S = (En ++ q8o (rgK ops dk S.1) S.1, Hn ++ q8s (rgN ρ dn S.2) S.2) := by
 unfold rgP at h
 unfold rgS
 cases hc : rgO d k ops wt ρ ky dk dn S with
 | none => rw [hc] at h; cases h
 | some x =>
  obtain ⟨ps', En, Hn⟩ := x
  rw [hc] at h
  cases h
  exact ⟨En, Hn, hc, rfl⟩
section
variable {k : Ct} {S : Env × Hp} {Q : Exit → Act → World → Prop} {ops : Array Oper} {id : Nat} {y c : Code}
theorem Tq (hcx : q1g k.P k.cx) (ρ : List (Nat × RM)) (ky dk dn : List Nat) (ps : List Prop) (hp : q3h ps) (hf : Fg k (rgS false k ops [] ρ ky dk dn S) Q .normal) (h : rgP false k ops [] ρ ky dk dn S = some ps := by kernel_rfl) : Tg k S (.region id ops false) Q := by
 obtain ⟨En, Hn, h1, h2⟩ := x5x h
 rw [h2] at hf
 exact x1f hcx ρ ky _ _ ps En Hn h1 hp hf
theorem Tz (hcx : q1g k.P k.cx) (ρ : List (Nat × RM)) (ky dk dn : List Nat) (hf : Fg k (rgS false k ops [] ρ ky dk dn S) Q .normal) (h : rgP false k ops [] ρ ky dk dn S = some [] := by kernel_rfl) : Tg k S (.region id ops false) Q := Tq hcx ρ ky dk dn [] trivial hf h
theorem Sq (hcx : q1g k.P k.cx) (ρ : List (Nat × RM)) (ky dk dn : List Nat) (ps : List Prop) (hp : q3h ps) (hf : Tg k (rgS false k ops [] ρ ky dk dn S) y Q) (h : rgP false k ops [] ρ ky dk dn S = some ps := by kernel_rfl) : Tg k S (.seq (.region id ops false) y) Q := j7u (Tq hcx ρ ky dk dn ps hp (y1w hf) h)
theorem Sz (hcx : q1g k.P k.cx) (ρ : List (Nat × RM)) (ky dk dn : List Nat) (hf : Tg k (rgS false k ops [] ρ ky dk dn S) y Q) (h : rgP false k ops [] ρ ky dk dn S = some [] := by kernel_rfl) : Tg k S (.seq (.region id ops false) y) Q := Sq hcx ρ ky dk dn [] trivial hf h
theorem Td (hcx : q1g k.P k.cx) (hmx : k.P.follows .mixedOrders = true) (wt : List Nat) (ρ : List (Nat × RM)) (ky dk dn : List Nat) (ps : List Prop) (hp : q3h ps) (hf : Fg k (rgS true k ops wt ρ ky dk dn S) Q .normal) (h : rgP true k ops wt ρ ky dk dn S = some ps := by kernel_rfl) : Tg k S (.region id ops true) Q := by
 obtain ⟨En, Hn, h1, h2⟩ := x5x h
 rw [h2] at hf
 exact y9v wt hcx hmx ρ ky _ _ ps En Hn h1 hp hf
theorem Sd (hcx : q1g k.P k.cx) (hmx : k.P.follows .mixedOrders = true) (wt : List Nat) (ρ : List (Nat × RM)) (ky dk dn : List Nat) (ps : List Prop) (hp : q3h ps) (hf : Tg k (rgS true k ops wt ρ ky dk dn S) y Q) (h : rgP true k ops wt ρ ky dk dn S = some ps := by kernel_rfl) : Tg k S (.seq (.region id ops true) y) Q := j7u (Td hcx hmx wt ρ ky dk dn ps hp (y1w hf) h)
def y8a (k : Ct) (cx : Cx) : Ct := ⟨k.P, cx, k.w0, k.G0, k.n, k.rnd⟩
theorem Zt {E : Env} {H : Hp} (h : Tg k (E, H) c Q) : Tri k E H c Q := h
theorem Zs {x : Code} (h : Tg k S x (Exit.then (Wp k.rnd k.P y Q) Q)) : Tg k S (.seq x y) Q := j7u h
theorem Zb (h : Tg k S c (Exit.inBlock id Q)) : Tg k S (.block id c) Q := x0g h
theorem Zk (h : Fg k S Q .normal) : Tg k S .skip Q := x3l h
theorem Ze (h : Fg k S Q (.exit id)) : Tg k S (.exit id) Q := x4b h
theorem Zr (h : Fg k S Q .ret) : Tg k S .ret Q := x9e h
theorem Ft {Q1 Q2 : Exit → Act → World → Prop} (h : Tg k S y Q1) : Fg k S (Exit.then (Wp k.rnd k.P y Q1) Q2) .normal := h
theorem Fe {N : Act → World → Prop} (h : Fg k S Q (.exit id)) : Fg k S (Exit.then N Q) (.exit id) := h
theorem Fr {N : Act → World → Prop} (h : Fg k S Q .ret) : Fg k S (Exit.then N Q) .ret := h
theorem Fb (h : Fg k S Q .normal) : Fg k S (Exit.inBlock id Q) .normal := h
theorem Fs (h : Fg k S Q .normal) : Fg k S (Exit.inBlock id Q) (.exit id) := z6p h
theorem Fk (h : Fg k S Q .ret) : Fg k S (Exit.inBlock id Q) .ret := h
theorem Zi {o : Operand} {x : Code} {b : Bool} (ht : b = true → Tg k S x Q) (hf : b = false → Tg k S y Q) (hc : (q8b S.1 S.2).ev o = .im (.val (.bool b)) := by kernel_rfl) : Tg k S (.cond o x y) Q := z2t hc ht hf
theorem Zj {o : Operand} {x : Code} {p : Prop} [Decidable p] (ht : p → Tg k S x Q) (hf : ¬ p → Tg k S y Q) (hc : (q8b S.1 S.2).ev o = .im (.val (.bool (decide p))) := by kernel_rfl) : Tg k S (.cond o x y) Q := z2t hc (fun h => ht (of_decide_eq_true h)) (fun h => hf (of_decide_eq_false h))
theorem Zu {o : Operand} {x : Code} {a b : Int} (ht : a = b → Tg k S x Q) (hf : a ≠ b → Tg k S y Q) (hc : (q8b S.1 S.2).ev o = .im (.val (.bool (a == b))) := by kernel_rfl) : Tg k S (.cond o x y) Q := z2t hc (fun h => ht (eq_of_beq h)) (fun h => hf (neB h))
theorem Zx {o : Operand} {x : Code} {a b : Int} (ht : a ≠ b → Tg k S x Q) (hf : a = b → Tg k S y Q) (hc : (q8b S.1 S.2).ev o = .im (.val (.bool (a != b))) := by kernel_rfl) : Tg k S (.cond o x y) Q := z2t hc (fun h => ht (bne_iff_ne.1 h)) (fun h => hf (k0y h))
def rnS (k : Ct) (ρ : List (Nat × RM)) (ky : List Nat) (S : Env × Hp) : Env × Hp := (q4m ρ (q8b S.1 S.2) ky, q1s ρ (fun r => look r S.2) ρ)
def rnB (k : Ct) (ρ : List (Nat × RM)) (S : Env × Hp) : Bool := z2f k.w0.m ρ && z1w ρ (fun r => look r S.2)
theorem x6r {ρ : List (Nat × RM)} {ky : List Nat} (h : rnB k ρ S = true) : (bif z2f k.w0.m ρ && z1w ρ (fun r => look r S.2) then some (q4m ρ (q8b S.1 S.2) ky, q1s ρ (fun r => look r S.2) ρ) else none) = some ((rnS k ρ ky S).1, (rnS k ρ ky S).2) := by
 unfold rnB at h
 rw [h]; rfl
theorem Zn (ρ : List (Nat × RM)) (ky : List Nat) (hf : Tg k (rnS k ρ ky S) c Q) (h : rnB k ρ S = true := by kernel_rfl) : Tg k S c Q := x8o ρ ky (x6r h) hf
theorem Fn {e : Exit} (ρ : List (Nat × RM)) (ky : List Nat) (hf : Fg k (rnS k ρ ky S) Q e) (h : rnB k ρ S = true := by kernel_rfl) : Fg k S Q e := k0w ρ ky (x6r h) hf
theorem Zo (i : Nat) (l : LD) (h : Tg k (k0q i l S.1, S.2) c Q) (hl : Nat.beq l.len 0 = true := by kernel_rfl) : Tg k S c Q := x9s i l hl rfl h
theorem Fp (i : Nat) (l : LD) {e : Exit} (h : Fg k (k0q i l S.1, S.2) Q e) (hl : Nat.beq l.len 0 = true := by kernel_rfl) : Fg k S Q e := x9l i l hl rfl h
def rwB (k : Ct) (r : Nat) (l : LD) (S : Env × Hp) : Bool := Nat.beq l.len 0 && (Nat.blt 0 l.st && ((Nat.blt r 1000 && Nat.ble k.w0.m r) && !(look r S.2).isSome))
theorem y0f {r : Nat} {l : LD} (h : rwB k r l S = true) : Nat.beq l.len 0 = true ∧ Nat.blt 0 l.st = true ∧ (Nat.blt r 1000 && Nat.ble k.w0.m r) = true ∧ (look r S.2).isSome = false := by
 unfold rwB at h
 cases h1 : Nat.beq l.len 0 <;> cases h2 : Nat.blt 0 l.st <;> cases h3 : (Nat.blt r 1000 && Nat.ble k.w0.m r) <;> cases h4 : (look r S.2).isSome <;> simp_all
theorem Zw (i r e : Nat) (l : LD) (h : Tg k (x6i i r S.1, (r, .row e l) :: S.2) c Q) (hb : rwB k r l S = true := by kernel_rfl) : Tg k S c Q := by
 obtain ⟨h1, h2, h3, h4⟩ := y0f hb
 exact x9g i r e l h1 h2 h3 h4 rfl h
theorem Fw (i r e : Nat) (l : LD) {x : Exit} (h : Fg k (x6i i r S.1, (r, .row e l) :: S.2) Q x) (hb : rwB k r l S = true := by kernel_rfl) : Fg k S Q x := by
 obtain ⟨h1, h2, h3, h4⟩ := y0f hb
 exact x8w i r e l h1 h2 h3 h4 rfl h
theorem Zv (b j r e : Nat) (l : LD) (h : Tg k (S.1, (r, .row e l) :: x5s b j r S.2) c Q) (hb : rwB k r l S = true := by kernel_rfl) : Tg k S c Q := by
 obtain ⟨h1, h2, h3, h4⟩ := y0f hb
 exact x2i b j r e l h1 h2 h3 h4 rfl h
theorem Fv (b j r e : Nat) (l : LD) {x : Exit} (h : Fg k (S.1, (r, .row e l) :: x5s b j r S.2) Q x) (hb : rwB k r l S = true := by kernel_rfl) : Fg k S Q x := by
 obtain ⟨h1, h2, h3, h4⟩ := y0f hb
 exact x3y b j r e l h1 h2 h3 h4 rfl h
end
def k6g (i : Nat) (y : AV) (E : Env) : Env := E.map fun z => bif Nat.beq z.1 i then (z.1, y) else z
theorem y0j {i j : Nat} {y : AV} : ∀ {E : Env}, look j (k6g i y E) = (look j E).map fun z => bif Nat.beq j i then y else z
 | [] => rfl
 | (a, z) :: E => by
  show look j ((bif Nat.beq a i then (a, y) else (a, z)) :: k6g i y E) = _
  have ih := y0j (i := i) (j := j) (y := y) (E := E)
  by_cases h : a = j
  · subst h
    have e : Nat.beq a a = true := Nat.beq_refl a
    cases hb : Nat.beq a i <;> simp [look, hb, e]
  · have e : Nat.beq a j = false := by
     cases hb : Nat.beq a j with
     | false => rfl
     | true => exact absurd (Nat.eq_of_beq_eq_true hb) h
    cases hb : Nat.beq a i <;> simp [look, hb, e, ih]
theorem Eb {E E' : Env} (h : E'.map (fun x => q2q E x.1) = E'.map (·.2) := by kernel_rfl) : y4q E E' := h
theorem Ex {E E' : Env} (i : Nat) {x y : AV} (hxy : x = y) (h : y4q (k6g i y E) E') (Hx : q2q E i = x := by kernel_rfl) : y4q E E' := by
 subst hxy
 unfold y4q at h ⊢
 rw [← h]
 refine List.map_congr_left fun z hz => ?_
 unfold q2q at Hx ⊢
 rw [y0j]
 cases hl : look z.1 E with
 | none => rfl
 | some v =>
  simp only [Option.map_some]
  cases hb : Nat.beq z.1 i with
  | false => rfl
  | true =>
   have e := Nat.eq_of_beq_eq_true hb
   rw [e] at hl
   rw [hl] at Hx
   exact Hx
theorem Hb {H H' : Hp} (h : H = H' := by kernel_rfl) : H = H' := h
def k2i (r : Nat) (o : q0d) : Hp → Hp
 | [] => []
 | z :: H => bif Nat.beq z.1 r then (z.1, o) :: H else z :: k2i r o H
theorem x0l {r : Nat} {o : q0d} : ∀ {H : Hp}, look r H = some o → k2i r o H = H
 | [], _ => rfl
 | (a, z) :: H, h => by
  unfold look at h
  unfold k2i
  simp only
  cases hb : Nat.beq a r with
  | true => rw [hb] at h; cases h; rfl
  | false => rw [hb] at h; show (a, z) :: k2i r o H = _; rw [x0l (H := H) h]
theorem Hx {H H' : Hp} (r : Nat) {o o' : q0d} (ho : o = o') (h : k2i r o' H = H') (hl : look r H = some o := by kernel_rfl) : H = H' := by
 subst ho
 rw [← h, x0l hl]
section
variable {k : Ct} {S : Env × Hp} {Q : Exit → Act → World → Prop}
theorem Lp {X : Type} (I : X → Prop) (SL : X → Env × Hp) (μ : X → Nat) (x0 : X) {c : Code} (h0 : I x0) (hE : y4q S.1 (SL x0).1) (hH : S.2 = (SL x0).2)
 (round : ∀ x, I x → Tg k (SL x) c (Exit.then (x1n k I (fun x => (SL x).1) (fun x => (SL x).2) μ x) Q)) : Tg k S (.loop c) Q := x1s I (fun x => (SL x).1) (fun x => (SL x).2) μ x0 h0 hE hH round
theorem Lr {X : Type} {I : X → Prop} {SL : X → Env × Hp} {μ : X → Nat} {x : X} (y : X) (hI : I y) (hμ : μ y < μ x) (hE : y4q S.1 (SL y).1) (hH : S.2 = (SL y).2) : Fg k S (Exit.then (x1n k I (fun x => (SL x).1) (fun x => (SL x).2) μ x) Q) .normal := y9i y hI hμ hE hH
theorem Rv {fn : Func} {x r : AV} {o outs : List (Option q0d)} (hcx : q1g k.P k.cx) (hr : x = r) (mask : List Bool) (ho : o = outs) (hds : k.w0.ds = [] := by rfl)
 (h : (match x0j k.cx S.1 (z0k [] S.2) fn.results.toList with | some l => some (j6p l) | none => none) = some x := by kernel_rfl) (h2 : q8d (z0k [] S.2) 0 mask = o := by kernel_rfl) : Fg k S (bodyPostM (FR none) 3 k.P fn (Post k.w0 k.G0 r outs)) .ret := by
 cases hl : x0j k.cx S.1 (z0k [] S.2) fn.results.toList with
 | none => rw [hl] at h; cases h
 | some l =>
  rw [hl] at h
  cases h
  exact x6t [] hds rfl trivial hcx hl hr mask (h2.trans ho)
theorem Ru {fn : Func} {r : AV} {outs : List (Option q0d)} (hcx : q1g k.P k.cx) (mask : List Bool) (hds : k.w0.ds = [] := by rfl)
 (h : (match x0j k.cx S.1 (z0k [] S.2) fn.results.toList with | some l => some (j6p l) | none => none) = some r := by kernel_rfl) (h2 : q8d (z0k [] S.2) 0 mask = outs := by kernel_rfl) : Fg k S (bodyPostM (FR none) 3 k.P fn (Post k.w0 k.G0 r outs)) .ret := Rv hcx rfl mask rfl hds h h2
theorem Rw {fn : Func} {x r : AV} {o outs : List (Option q0d)} (hcx : q1g k.P k.cx) (hr : x = r) (mask : List Bool) (ho : o = outs) (hds : k.w0.ds = [] := by rfl)
 (h : (match x0j k.cx S.1 (z0k [] S.2) fn.results.toList with | some l => some (j6p l) | none => none) = some x := by kernel_rfl) (h2 : q8d (z0k [] S.2) 0 mask = o := by kernel_rfl) : Fg k S (bodyPostM (FR none) 3 k.P fn (Post k.w0 k.G0 r outs)) .normal := Rv hcx hr mask ho hds h h2
end
theorem Sw {P : Program} {cx : Cx} {f : Nat} (fn : Func) {c : Code} {σ : CtF} (hf : P.funcs[f]? = some fn)
 (h : ∀ wW wO wβ G0 args os p r outs, σ args os = some (p, r, outs) → p → (Nat.ble args.length fn.ntmps && Nat.ble os.length 1000) = true ∧ Tg ⟨P, cx, ⟨wW, wO, os.length, wβ, []⟩, G0, fn.ntmps, none⟩ (q3p 0 args, q3p 0 os) c (bodyPostM (FR none) 3 P fn (Post ⟨wW, wO, os.length, wβ, []⟩ G0 r outs)))
 (hname : (fn.name == "runtime.NumGoroutine") = false := by kernel_rfl) (hb : fn.body = some c := by rfl) : q0o P f σ :=
 x1k hf hname hb fun w0 G0 args os p r outs hσ hp hm hd => by
  obtain ⟨wW, wO, wm, wβ, wd⟩ := w0
  replace hm : wm = os.length := hm
  replace hd : wd = [] := hd
  subst hm hd
  exact h wW wO wβ G0 args os p r outs hσ hp
end Go.Proofs.YtkkapbnopmmmjaaGreatDoor.En
namespace Go.Proofs.YtkkapbnopmmmjaaGreatDoor.En
open Go Go.RowKit
def g0 (W : World) (G : Nat → Prop) : Gh := ⟨W, G, fun _ => undef, fun _ => False⟩
theorem j5n {α : Type} {enc : α → Value} {W : World} {G : Nat → Prop} {A : Option Addr} {xs : List α} {l : LD} {c : Nat} (h : Rd enc G W A xs) (hm : xs.length ≤ maxLen) (hl : l.len = xs.length) (hst : l.st = 1) (hcap : xs.length ≤ c)
 (hc : ∀ i (hi : i < xs.length), l.cell i 0 = .val (enc xs[i])) : Rep W G (.ls l) (.slice A xs.length c) := by
 rcases Nat.eq_zero_or_pos xs.length with h0 | h0
 · rw [h0]; exact .nil l A c (by omega)
 · obtain ⟨b, off, rfl, hb, hcell⟩ := h h0
   rw [← hl]
   refine .ls l b off c (fun i _ => if hi : i < xs.length then enc xs[i] else undef) (by omega) (by omega) hb (fun i j hi hj => ?_) (fun i j hi hj => ?_)
   · have hj0 : j = 0 := by omega
     subst hj0
     rw [hst, Nat.mul_one, Nat.add_zero, dif_pos (by omega : i < xs.length)]
     exact hcell i (by omega)
   · have hj0 : j = 0 := by omega
     subst hj0
     rw [dif_pos (by omega : i < xs.length), hc i (by omega)]
     exact .val _
theorem q0o.calls {P : Program} {f : Nat} {σ : CtF} (h : q0o P f σ) {W : World} (hgl : y1e (g0 W (· < W.heap.size))) {args : List AV} {vs : List Value} {p : Prop} {r : AV} (hσ : σ args [] = some (p, r, [])) (hp : p) (hd : q0l (g0 W (· < W.heap.size)) args vs) :
 Calls P f vs.toArray W (fun e w' => ∃ u, e = .returned u ∧ Below W.heap.size W w' ∧ ∃ g' : Gh, g'.W = w' ∧ (∀ b, g'.G b → b < w'.heap.size) ∧ Den g' r u) := by
 have hnl : ∀ b, ¬ q6d (g0 W (· < W.heap.size)) [] b := by rintro b ⟨i, hi, _⟩; simp at hi
 refine Calls.mono (h.2 (g0 W (· < W.heap.size)) args [] vs p r [] hσ hp ⟨fun r o h => by simp [z0c] at h, fun r r' o o' b h => by simp [z0c] at h, fun r o b h => by simp [z0c] at h, fun b hb => ⟨hb, .inl hb⟩, Kp.refl _ _, fun i hi => by simp at hi, hgl⟩ (fun r hr => False.elim hr) hd) fun e w' he => ?_
 obtain ⟨u, g', rfl, rfl, _, hm, hdu⟩ := he
 exact ⟨u, rfl, ⟨hm.bel.os, hm.bel.tape, hm.bel.output, hm.bel.size, fun k hk => hm.bel.block k hk (hnl k)⟩, g', rfl, fun b hb => (hm.gb b hb).1, hdu⟩
theorem x0z {P : Program} {f : Nat} {σ : CtF} {W : World} (hgl : y1e (g0 W (· < W.heap.size))) (h : q0o P f σ) {args : List AV} {vs : List Value} {p : Prop} (hσ : σ args [] = some (p, .bool true, [])) (hp : p) (hd : q0l (g0 W (· < W.heap.size)) args vs) :
 Calls P f vs.toArray W (fun e w' => e = .returned (.bool true) ∧ Below W.heap.size W w') := by
 refine Calls.mono (h.calls hgl hσ hp hd) fun e w' he => ?_
 obtain ⟨u, rfl, hb, g', _, _, hd⟩ := he
 rw [q0h hd]
 exact ⟨rfl, hb⟩
theorem x1g {W : World} {A : Option Addr} {xs : List Int} {c : Nat} (h : Rd I64 (· < W.heap.size) W A xs) (hm : xs.length ≤ maxLen) (hcap : xs.length ≤ c) : Den (g0 W (· < W.heap.size)) (.ints xs) (.slice A xs.length c) := by
 simp only [Den]
 exact j5n h hm rfl rfl hcap fun i hi => by simp [LD.cell, List.getD, List.getElem?_eq_getElem hi, I64]
end Go.Proofs.YtkkapbnopmmmjaaGreatDoor.En
namespace Go.Proofs.YtkkapbnopmmmjaaGreatDoor.En
open Go Go.RowKit
def y0n : LD → List Value
 | .ints xs => xs.map I64
 | .bools xs => xs.map Value.bool
 | _ => []
def q6i : LD → Bool
 | .ints _ => true
 | .bools _ => true
 | _ => false
theorem j1n {l : LD} (h : q6i l = true) : (y0n l).length = l.len ∧ l.st = 1 := by
 cases l <;> simp [q6i] at h <;> simp [y0n, LD.len, LD.st]
theorem y6e {l : LD} (h : q6i l = true) {W : World} {G : Nat → Prop} {i : Nat} (hi : i < l.len) : Rep W G (l.cell i 0) ((y0n l).getD i undef) := by
 cases l <;> simp [q6i] at h
 · rename_i xs
   simp only [LD.len] at hi
   have : (y0n (.ints xs)).getD i undef = I64 (xs.getD i 0) := by simp [y0n, List.getD, List.getElem?_eq_getElem hi]
   rw [this]; exact .val _
 · rename_i xs
   simp only [LD.len] at hi
   have : (y0n (.bools xs)).getD i undef = .bool (xs.getD i false) := by simp [y0n, List.getD, List.getElem?_eq_getElem hi]
   rw [this]; exact .val _
theorem x9a {l : LD} (h : q6i l = true) {W : World} {G : Nat → Prop} {xs : List Value} (hl : xs.length = l.len) (hc : ∀ i, i < l.len → Rep W G (l.cell i 0) (xs.getD i undef)) : xs = y0n l := by
 have hn := (j1n h).1
 apply List.ext_getElem (by rw [hl, hn])
 intro i h1 h2
 have hi : i < l.len := by omega
 have hr := hc i hi
 have e1 : xs.getD i undef = xs[i] := by simp [List.getD, List.getElem?_eq_getElem h1]
 rw [e1] at hr
 cases l <;> simp [q6i] at h
 · rename_i ys
   have hr' : xs[i] = I64 (ys.getD i 0) := q0h (g := ⟨W, G, fun _ => undef, fun _ => False⟩) (by simp only [Den]; exact hr)
   simp only [LD.len] at hi
   rw [hr']; simp [y0n, List.getD, List.getElem?_eq_getElem hi]
 · rename_i ys
   have hr' : xs[i] = .bool (ys.getD i false) := q0h (g := ⟨W, G, fun _ => undef, fun _ => False⟩) (by simp only [Den]; exact hr)
   simp only [LD.len] at hi
   rw [hr']; simp [y0n, List.getD, List.getElem?_eq_getElem hi]
theorem sound_row {P : Program} {f e : Nat} {σ : CtF} (hen : ∀ args W, (callFunc f args).run P W = .ok (.enter f args) W)
 (h : ∀ args os p r outs, σ args os = some (p, r, outs) → ∃ avs l l', args = .row 0 :: avs ∧ os = [.row e l] ∧ r = .row 1 ∧ outs = [none, some (.row e l')] ∧ j0j avs = true ∧ q6i l = true ∧ q6i l' = true ∧
  (p → l'.len ≤ maxLen ∧ ∀ (W : World) (G : Nat → Prop) (v : Value) (vs : List Value), (∀ b, G b → b < W.heap.size) → (∀ b, v.ownBlock = some b → ¬ G b) → y1e (g0 W G) → Own W e v (y0n l) → l.len ≤ maxLen → q0l (g0 W G) avs vs →
   Calls P f (v :: vs).toArray W fun e' W' => ∃ v', e' = .returned v' ∧ Own W' e v' (y0n l') ∧ W.grownBy W' v.ownBlock ∧ ∀ b, v'.ownBlock = some b → v.ownBlock = some b ∨ b = W.heap.size)) : q0o P f σ := by
 refine ⟨hen, fun g args os vs p r outs hσ hp hm hU hd => ?_⟩
 obtain ⟨avs, l, l', rfl, rfl, rfl, rfl, hpu, hf, hf', hcall⟩ := h args os p r outs hσ
 obtain ⟨hmx', hcall⟩ := hcall hp
 simp only [q0l] at hd
 obtain ⟨v, vs', rfl, hd0, hd1⟩ := hd
 simp only [Den] at hd0
 obtain ⟨hu0, hv, _⟩ := hd0
 obtain ⟨_, xs, ho, hmx, hc⟩ := hm.ok 0 (.row e l) rfl
 obtain ⟨hn, hst⟩ := j1n hf
 rw [hst] at ho
 obtain ⟨ho1, hxl⟩ := ho.one
 have hxs : xs = y0n l := x9a hf hxl fun i hi => by have := hc i 0 hi (by omega); rwa [hst, Nat.mul_one, Nat.add_zero] at this
 rw [← hv, hxs] at ho1
 have hblk : q1n v = v.ownBlock := q8l ho1
 have hnU : ¬ g.U 1 := fun hu => by have := hU 1 hu; simp at this
 refine Calls.mono (hcall g.W g.G v vs' (fun b hb => (hm.gb b hb).1) (fun b hb => (hm.own 0 _ b rfl (by rw [← hv, hblk]; exact hb)).1) (fun kk ys hk => hm.anc.2 kk ys hk) ho1 hmx (q0l.pure (g := g) (g' := g0 g.W g.G) rfl rfl _ _ hpu hd1)) fun e' W' he => ?_
 obtain ⟨v', rfl, ho', hg, hb'⟩ := he
 obtain ⟨hn', hst'⟩ := j1n hf'
 have hgood := good_row (nm := 1) (e := e) (l := l') (v := v') (xs := y0n l') (W' := W') (ob := v.ownBlock) (H' := q4w [none, some (.row e l')]) hm hnU hg (fun b hb => hm.own 0 _ b rfl (by rw [← hv, hblk]; exact hb)) (fun x o hx => ?_)
  (by rw [hst']; exact .of_one ho' hn') hmx' (fun i j hi hj => by
   rw [hst'] at hj ⊢
   have : j = 0 := by omega
   subst this
   rw [Nat.mul_one, Nat.add_zero]
   exact y6e hf' hi) (fun b hb => by rw [q8l ho'] at hb; exact hb' b hb)
 · obtain ⟨g', h1, h2, _, h4, h5⟩ := hgood
   exact ⟨v', g', rfl, h1, h2, h4, h5⟩
 · match x, hx with
   | 1, hx => left; simp [q4w] at hx; exact ⟨rfl, hx.symm⟩
   | 0, hx => simp [q4w] at hx
   | n + 2, hx => simp [q4w] at hx
end Go.Proofs.YtkkapbnopmmmjaaGreatDoor.En
namespace Go.Proofs.YtkkapbnopmmmjaaGreatDoor.En
open Go
theorem z0q {P : Program} {f : Nat} {fn : Func} {c : Code} {σ : CtF} (hf : P.funcs[f]? = some fn) (hname : (fn.name == "runtime.NumGoroutine") = false) (hb : fn.body = some c)
 (h : ∀ args os p r outs, σ args os = some (p, r, outs) → p → False) : q0o P f σ :=
 ⟨fun args W => q2w hf hname hb args W, fun g args os vs p r outs hσ hp => (h args os p r outs hσ hp).elim⟩
theorem z5h {P : Program} {f : Nat} {σ : Nat → CtF} {τ : CtF} (h : ∀ n, q0o P f (σ n)) (hτ : ∀ args os p r outs, τ args os = some (p, r, outs) → p → ∃ n q, σ n args os = some (q, r, outs) ∧ q) : q0o P f τ :=
 ⟨(h 0).1, fun g args os vs p r outs hσ hp => by
  obtain ⟨n, q, h1, h2⟩ := hτ args os p r outs hσ hp
  exact (h n).2 g args os vs q r outs h1 h2⟩
theorem q9q {P : Program} {f : Nat} {σ : Nat → CtF} (h0 : q0o P f (σ 0)) (h : ∀ n, q0o P f (σ n) → q0o P f (σ (n + 1))) : ∀ n, q0o P f (σ n)
 | 0 => h0
 | n + 1 => h n (q9q h0 h n)
end Go.Proofs.YtkkapbnopmmmjaaGreatDoor.En
namespace Go.Proofs.YtkkapbnopmmmjaaGreatDoor.En
open Go Go.RowKit
theorem x3v {P : Program} {ρ : Operand → Value} {o : Oper} {W : World} {t : Nat} {x : Operand} {n : Int} (hop : o.op = .unOp .neg t x) (hx : ρ x = .int .i64 n) : Eff P ρ o W (fun u W' => u = .int .i64 (wrap64 (-n)) ∧ W' = W) := by
 simp [Eff, execOp, hop, hx, Op.unary, Op.intArith]
 exact IntWalk.i64_left _
theorem j5f {P : Program} {ρ : Operand → Value} {o : Oper} {W : World} {x : Operand} (hop : o.op = .move x ∨ o.op = .assign x) : Eff P ρ o W (fun u W' => u = ρ x ∧ W' = W) := by
 rcases hop with h | h <;> simp [Eff, execOp, h]
theorem j7n {a : Act} {d i : Nat} {u : Value} (hd : d < a.tmps.size) : ((a.put (some d) u).tmps.getD i undef) = if i = d then u else a.tmps.getD i undef := by
 simp only [Act.put]
 by_cases e : i = d
 · subst e; simp [Array.getD, hd]
 · rw [if_neg e]
   simp only [Array.getD_eq_getD_getElem?]
   rw [Array.getElem?_setIfInBounds_ne (fun e' => e e'.symm)]
theorem x2m {k : Ct} {E : Env} {H : Hp} {Q : Exit → Act → World → Prop} {ops : Array Oper} {id : Nat} (p q s t : Nat) (x : Int) (ks : List Nat) (o1 o2 o3 : Oper) (hl : ops.toList = [o1, o2, o3])
 (h1 : o1.op = .move (.tmp s) ∧ o1.dst = some p ∧ o1.guard = none) (h2 : o2.op = .unOp .neg t (.tmp p) ∧ o2.dst = some q ∧ o2.guard = none) (h3 : o3.op = .assign (.tmp q) ∧ o3.dst = some s ∧ o3.guard = none)
 (hb : (Nat.blt p k.n && (Nat.blt q k.n && (Nat.blt s k.n && (q4b s ks || q4b p ks || q4b q ks) == false))) = true)
 (hE : look s E = some (.im (.val (.int .i64 x)))) (hf : Fin k ((s, .im (.val (.int .i64 (wrap64 (-x))))) :: q8o ks E) H Q .normal) : Tri k E H (.region id ops false) Q := by
 intro a W hs
 obtain ⟨hsz, hdf, g, rfl, hU, hm, henv⟩ := hs
 simp only [Bool.and_eq_true, Nat.blt_eq, beq_iff_eq, Bool.or_eq_false_iff] at hb
 obtain ⟨hp, hq, hss, ⟨ks1, ks2⟩, ks3⟩ := hb
 have hx : a.tmps.getD s undef = .int .i64 x := by
  have := henv s
  simp only [q8b, q2q, hE] at this
  exact q0h this
 have hw : ∀ o : Oper, o.guard = none → ∀ y, Region.wanted o y = true := fun o h y => by simp [Region.wanted, h]
 refine wpIn_region_list ?_
 rw [hl]
 unfold wpListIn
 rw [if_pos (hw _ h1.2.2 _)]
 refine (j5f (.inl h1.1)).wpIn (fun c e => by rw [h1.1] at e; cases e) fun u1 W1 ⟨e1, e1'⟩ => ?_
 subst e1 e1'
 rw [h1.2.1]
 have t1 := fun i => j7n (a := a) (d := p) (i := i) (u := a.tmps.getD s undef) (by omega)
 unfold wpListIn
 rw [if_pos (hw _ h2.2.2 _)]
 refine (x3v (n := x) h2.1 ?_).wpIn (fun c e => by rw [h2.1] at e; cases e) fun u2 W2 ⟨e2, e2'⟩ => ?_
 · show (a.put (some p) (a.tmps.getD s undef)).tmps.getD p undef = _
   rw [t1, if_pos rfl, hx]
 subst e2 e2'
 rw [h2.2.1]
 have s1 : ∀ (u : Value), (a.put (some p) u).tmps.size = a.tmps.size := fun u => q3k
 have t2 := fun i => j7n (a := a.put (some p) (a.tmps.getD s undef)) (d := q) (i := i) (u := .int .i64 (wrap64 (-x))) (by rw [s1]; omega)
 unfold wpListIn
 rw [if_pos (hw _ h3.2.2 _)]
 refine (j5f (.inr h3.1)).wpIn (fun c e => by rw [h3.1] at e; cases e) fun u3 W3 ⟨e3, e3'⟩ => ?_
 have e4 : u3 = .int .i64 (wrap64 (-x)) := by rw [e3]; show (Act.tmps _).getD q undef = _; exact (t2 q).trans (if_pos rfl)
 subst e4 e3'
 rw [h3.2.1]
 unfold wpListIn
 refine hf _ _ ⟨by rw [q3k, q3k, q3k]; exact hsz, by rw [q5r, q5r, q5r]; exact hdf, g, rfl, hU, hm, fun i => ?_⟩
 rw [j7n (by rw [q3k, q3k]; omega)]
 simp only [q8b, q2q, look]
 by_cases hi : s = i
 · subst hi
   rw [q7w, if_pos rfl]
   exact q0g _
 · rw [q4i hi, if_neg (fun e => hi e.symm)]
   simp only [cond_false]
   cases hk : look i (q8o ks E) with
   | none => simp only [Den]
   | some y =>
    obtain ⟨k1, k2⟩ := q7j hk
    have hp' : i ≠ p := fun e => by subst e; rw [q1t.2 k2] at ks2; cases ks2
    have hq' : i ≠ q := fun e => by subst e; rw [q1t.2 k2] at ks3; cases ks3
    have := henv i
    simp only [q8b, q2q, k1] at this
    have e9 : a.eval (.tmp s) = a.tmps.getD s undef := rfl
    rw [e9, t2, if_neg hq', t1, if_neg hp']
    exact this
theorem Zg {k : Ct} {S : Env × Hp} {Q : Exit → Act → World → Prop} {ops : Array Oper} {id : Nat} (p q s t : Nat) (x : Int) (ks : List Nat) (o1 o2 o3 : Oper) (hl : ops.toList = [o1, o2, o3])
 (h1 : o1.op = .move (.tmp s) ∧ o1.dst = some p ∧ o1.guard = none) (h2 : o2.op = .unOp .neg t (.tmp p) ∧ o2.dst = some q ∧ o2.guard = none) (h3 : o3.op = .assign (.tmp q) ∧ o3.dst = some s ∧ o3.guard = none)
 (hf : Fg k ((s, .im (.val (.int .i64 (wrap64 (-x))))) :: q8o ks S.1, S.2) Q .normal)
 (hb : (Nat.blt p k.n && (Nat.blt q k.n && (Nat.blt s k.n && (q4b s ks || q4b p ks || q4b q ks) == false))) = true := by kernel_rfl)
 (hE : look s S.1 = some (.im (.val (.int .i64 x))) := by kernel_rfl) : Tg k S (.region id ops false) Q := x2m p q s t x ks o1 o2 o3 hl h1 h2 h3 hb hE hf
end Go.Proofs.YtkkapbnopmmmjaaGreatDoor.En
namespace Go.Proofs.YtkkapbnopmmmjaaGreatDoor
open Go Go.RowKit
open En (q4t inK z1d)
theorem j9l {a : Int} (h0 : 0 ≤ a) : q4t a 1 = a % 2 := by
 obtain ⟨n, rfl⟩ := Int.eq_ofNat_of_zero_le h0
 have e : (BitVec.ofInt 64 (n : Int) &&& BitVec.ofInt 64 1).toNat = n % 2 := by
  rw [BitVec.toNat_and, BitVec.toNat_ofInt, BitVec.toNat_ofInt]
  have h1 : ((n : Int) % ((2 ^ 64 : Nat) : Int)).toNat = n % 2 ^ 64 := by omega
  have h2 : ((1 : Int) % ((2 ^ 64 : Nat) : Int)).toNat = 1 := by decide
  rw [h1, h2, Nat.and_one_is_mod]
  omega
 unfold q4t
 rw [e, z1d (k := .i64) (show inK .i64 ((n % 2 : Nat) : Int) from ⟨by omega, by omega⟩)]
 omega
theorem k5r {a : Int} (h0 : 0 ≤ a) (k : Nat) : (q4t (a / 2 ^ k) 1 == 1) = a.toNat.testBit k := by
 obtain ⟨n, rfl⟩ := Int.eq_ofNat_of_zero_le h0
 have e : ((n : Int) / 2 ^ k) = ((n / 2 ^ k : Nat) : Int) := by push_cast; rfl
 rw [e, j9l (Int.natCast_nonneg _)]
 show ((((n / 2 ^ k : Nat) : Int) % 2 : Int) == 1) = n.testBit k
 rw [Nat.testBit_eq_decide_div_mod_eq]
 generalize n / 2 ^ k = m
 by_cases h : m % 2 = 1
 · rw [decide_eq_true h]
   have : ((m : Int) % 2) = 1 := by omega
   rw [this]; rfl
 · rw [decide_eq_false h]
   have : ((m : Int) % 2) = 0 := by omega
   rw [this]; rfl
def rl (f : Int → List Int) (t : Int) : List (List Int) := (List.range t.toNat).map fun j : Nat => f (j : Int)
theorem z1o (f : Int → List Int) (t : Int) : (rl f t).length = t.toNat := by simp [rl]
theorem j5r {f : Int → List Int} {t : Int} {k : Nat} (h : (k : Int) < t) : (rl f t).getD k [] = f k := by
 have hk : k < t.toNat := by omega
 simp [rl, List.getD, List.getElem?_map, List.getElem?_range hk]
theorem x5t {f : Int → List Int} {t : Int} {l : List Int} (h : l ∈ rl f t) : ∃ j : Int, l = f j := by
 obtain ⟨j, _, rfl⟩ := List.mem_map.1 h
 exact ⟨_, rfl⟩
def Emp (f : Int → List Int) (t : Int) : Prop := 0 ≤ t ∧ ∀ j, t ≤ j → f j = []
def x6b (rows : List (List Int)) (k : Nat) : List (List Int) := rows ++ List.replicate (k + 1 - rows.length) []
def z5w (rows : List (List Int)) (k : Nat) (x : Int) : List (List Int) := (x6b rows k).set k ((x6b rows k).getD k [] ++ [x])
theorem x6e {a b : List (List Int)} (h : a.length = b.length) (hg : ∀ j, j < a.length → a.getD j [] = b.getD j []) : a = b := by
 apply List.ext_getElem h
 intro j h1 h2
 have := hg j h1
 simpa [List.getD, List.getElem?_eq_getElem h1, List.getElem?_eq_getElem h2] using this
theorem z3c (rows : List (List Int)) (k : Nat) : (x6b rows k).length = max rows.length (k + 1) := by
 simp [x6b]; omega
theorem y1k (rows : List (List Int)) (k j : Nat) : (x6b rows k).getD j [] = rows.getD j [] := by
 unfold x6b
 simp only [List.getD]
 by_cases h : j < rows.length
 · rw [List.getElem?_append_left h]
 · rw [List.getElem?_append_right (by omega), List.getElem?_eq_none (by omega : rows.length ≤ j), List.getElem?_replicate]
   split <;> rfl
theorem y8u {f : Int → List Int} {t : Int} (h : Emp f t) (k : Nat) : (rl f t).getD k [] = f k := by
 by_cases hk : (k : Int) < t
 · exact j5r hk
 · rw [h.2 k (by omega)]
   have : (rl f t).length ≤ k := by rw [z1o]; omega
   simp [List.getD, List.getElem?_eq_none this]
theorem y8r (l : List (List Int)) (k j : Nat) (x : List Int) (hk : k < l.length) : (l.set k x).getD j [] = if j = k then x else l.getD j [] := by
 simp only [List.getD, List.getElem?_set]
 by_cases h : k = j
 · subst h; simp [hk]
 · rw [if_neg h, if_neg (fun e => h e.symm)]
theorem y5l {f : Int → List Int} {t : Int} (h : Emp f t) (k : Nat) (x : Int) : z5w (rl f t) k x = rl (z6b f k x) (max t (k + 1)) := by
 have h0 := h.1
 apply x6e
 · simp only [z5w, List.length_set, z3c, z1o]; omega
 · intro j hj
   simp only [z5w, List.length_set, z3c, z1o] at hj
   unfold z5w
   rw [y8r _ _ _ _ (by rw [z3c]; omega), y1k, y1k, y8u h, y8u h, j5r (by omega)]
   simp only [z6b]
   by_cases e : j = k
   · subst e; simp
   · rw [if_neg e, if_neg (by omega)]
theorem Emp.upd {f : Int → List Int} {t : Int} (h : Emp f t) (k x : Int) : Emp (z6b f k x) (max t (k + 1)) :=
 ⟨by have := h.1; omega, fun j hj => by simp only [z6b]; rw [if_neg (by omega)]; exact h.2 j (by omega)⟩
theorem k2z {f : Int → List Int} {t : Int} (k : Nat) (l : List Int) (hk : (k : Int) < t) : (rl f t).set k l = rl (y0u f k l) t := by
 apply x6e
 · simp [z1o]
 · intro j hj
   simp only [List.length_set, z1o] at hj
   rw [y8r _ _ _ _ (by rw [z1o]; omega), j5r (by omega), j5r (by omega)]
   simp only [y0u]
   by_cases e : j = k
   · subst e; simp
   · rw [if_neg e, if_neg (by omega)]
theorem Emp.set {f : Int → List Int} {t : Int} (h : Emp f t) (k : Int) (l : List Int) (hk : k < t) : Emp (y0u f k l) t :=
 ⟨h.1, fun j hj => by simp only [y0u]; rw [if_neg (by omega)]; exact h.2 j hj⟩
theorem Emp.feedTo {s : Fd} (h : Emp s.1 s.2) (n : Nat) (x : Int) : ∀ j, Emp (feedTo n x s j).1 (feedTo n x s j).2
 | 0 => h
 | j + 1 => by
  rw [q2n]
  split
  · exact (h.feedTo n x j).upd j x
  · exact h.feedTo n x j
theorem Emp.all : ∀ (cl : List (Int × Int)) (s : Fd), Emp s.1 s.2 → Emp (q0y s cl).1 (q0y s cl).2
 | [], _, h => h
 | q :: cl, s, h => Emp.all cl _ (h.feedTo q.1.toNat q.2 64)
theorem Emp.zero : Emp fd0.1 fd0.2 := ⟨Int.le_refl _, fun _ _ => rfl⟩
theorem Emp.step {k : Int} {s : Ps} (h : Emp s.rows s.top) (hk : k < s.top) : Emp (q1l k s).rows (q1l k s).top :=
 ((h.set k _ hk).upd k s.nx).upd (k + 1) (s.nx + 1)
def fdL (s : Fd) : List (List Int) := rl s.1 s.2
theorem x7k {s : Fd} (h : Emp s.1 s.2) (k : Nat) (x : Int) : z5w (fdL s) k x = fdL (feed1 s x k) := y5l h k x
def psL (s : Ps) : List (List Int) := rl s.rows s.top
theorem x3x {k : Nat} {s : Ps} (h : Emp s.rows s.top) (hk : (k : Int) < s.top) : z5w (z5w ((psL s).set k ((s.rows k).drop 3)) k s.nx) (k + 1) (s.nx + 1) = psL (q1l k s) := by
 unfold psL
 rw [k2z k _ hk, y5l (h.set k _ hk), y5l ((h.set k _ hk).upd k s.nx)]
 rfl
def fdA (coef l : List Int) (i : Nat) : Fd := q0y fd0 ((coef.zip l).take i)
theorem x3h {coef l : List Int} {i : Nat} (h1 : i < coef.length) (h2 : i < l.length) : fdA coef l (i + 1) = feedTo (coef.getD i 0).toNat (l.getD i 0) (fdA coef l i) 64 := by
 unfold fdA
 have h : i < (coef.zip l).length := by simp; omega
 rw [List.take_succ_eq_append_getElem h, z1p]
 simp [List.getD, List.getElem?_eq_getElem h1, List.getElem?_eq_getElem h2]
theorem x6y (coef l : List Int) (i : Nat) : Emp (fdA coef l i).1 (fdA coef l i).2 := Emp.all _ _ Emp.zero
theorem y9n (coef l : List Int) (i : Nat) (n : Nat) (x : Int) (j : Nat) : Emp (feedTo n x (fdA coef l i) j).1 (feedTo n x (fdA coef l i) j).2 := (x6y coef l i).feedTo n x j
theorem y6x {c : Int} {x : Int} {s : Fd} {k : Nat} (h0 : 0 ≤ c) (hk : k ≤ 64) (h : ¬ 0 < c / 2 ^ k) : feedTo c.toNat x s 64 = feedTo c.toNat x s k := by
 refine y1s _ _ _ _ hk ?_
 obtain ⟨n, rfl⟩ := Int.eq_ofNat_of_zero_le h0
 have e : ((n : Int) / 2 ^ k) = ((n / 2 ^ k : Nat) : Int) := by push_cast; rfl
 rw [e] at h
 show n / 2 ^ k * 2 ^ k = 0
 have : n / 2 ^ k = 0 := Nat.eq_zero_of_not_pos (fun hp => h (Int.natCast_pos.2 hp))
 rw [this]; simp
def par (n i : Nat) : Bool := (List.range i).foldl (fun b j => b != n.testBit j) false
theorem x0w (n i : Nat) : par n (i + 1) = (par n i != n.testBit i) := by simp [par, List.range_succ]
theorem k0c {n i : Nat} (h : i = 2 ∨ i = 3) (hn : n < 2 ^ i) : par n i = k4k n := by
 rcases h with rfl | rfl
 · have : n = 0 ∨ n = 1 ∨ n = 2 ∨ n = 3 := by omega
   rcases this with rfl | rfl | rfl | rfl <;> rfl
 · have : n = 0 ∨ n = 1 ∨ n = 2 ∨ n = 3 ∨ n = 4 ∨ n = 5 ∨ n = 6 ∨ n = 7 := by omega
   rcases this with rfl | rfl | rfl | rfl | rfl | rfl | rfl | rfl <;> rfl
def sgs (l : List Int) (n i : Nat) : List Int := (l.take i).mapIdx fun j x => sgn n j x
theorem x2f {l : List Int} {n i : Nat} (h : i < l.length) : sgs l n (i + 1) = sgs l n i ++ [sgn n i (l.getD i 0)] := by
 unfold sgs
 rw [List.take_succ_eq_append_getElem h, List.mapIdx_append]
 simp [List.getD, List.getElem?_eq_getElem h, Nat.min_eq_left (Nat.le_of_lt h)]
theorem k0v {l : List Int} {n i : Nat} (h : i = l.length) : sgs l n i = z3e l n l.length := by
 subst h
 unfold sgs z3e
 rw [List.take_length]
 apply List.ext_getElem
 · simp
 · intro j h1 h2
   have hj : j < l.length := by simpa using h1
   simp [hj]
theorem y8l (l : List Int) (s c : Int) (h : l.length = 2) : j2s l s c = (List.range (2 ^ l.length)).map (q9i l s) ++ [[0 - l.getD 0 0, 0 - l.getD 1 0, c], [l.getD 0 0, 0 - c], [l.getD 1 0, 0 - c]] := by
 match l, h with
 | [a, b], _ => simp [j2s, prs, List.range_succ]
theorem j7m (l : List Int) (s c : Int) (h : l.length = 3) : j2s l s c = (List.range (2 ^ l.length)).map (q9i l s) ++ [[0 - l.getD 0 0, 0 - l.getD 1 0, c], [0 - l.getD 0 0, 0 - l.getD 2 0, c], [0 - l.getD 1 0, 0 - l.getD 2 0, c]] ++
 [[l.getD 0 0, l.getD 1 0, 0 - c], [l.getD 0 0, l.getD 2 0, 0 - c], [l.getD 1 0, l.getD 2 0, 0 - c]] := by
 match l, h with
 | [a, b, d], _ => simp [j2s, prs, List.range_succ]
def j8e (k : Int) (s : Ps) : Ps := q1l k s
def q2a : x3t → List Int | .err _ => [] | .ok b _ _ => b
def z6f : x3t → List (List Int) | .err _ => [] | .ok _ c _ => c
def j4g : x3t → Int | .err _ => 0 | .ok _ _ n => n
def q5a : x3t → Int | .err e => e | .ok _ _ _ => 0
end Go.Proofs.YtkkapbnopmmmjaaGreatDoor
namespace Go.Proofs.YtkkapbnopmmmjaaGreatDoor
open Go Go.RowKit
open En (q4t)
section
variable {bits : List Int} {k : Int} {i n j : Nat}
theorem x9i (h : (decide (k < 0) || decide (k > 4503599627370496)) = true) : Cn.q0q bits k = ([], 1) := by
 simp only [Bool.or_eq_true, decide_eq_true_eq] at h
 have : q2l bits k = .err 1 := by unfold q2l; rw [if_pos (by omega)]
 unfold Cn.q0q; rw [this]
theorem k6v (h : (decide (k < 0) || decide (k > 4503599627370496)) = false) : 0 ≤ k ∧ k ≤ 4503599627370496 := by
 simp only [Bool.or_eq_false_iff, decide_eq_false_iff_not] at h
 omega
theorem x8l (hi : i < bits.length) (h : (decide (bits.getD i 0 < -65536) || decide (bits.getD i 0 > 65536)) = true) : Cn.q0q bits k = ([], 1) := by
 have : bits.any y4o = true := List.any_eq_true.2 ⟨_, Cn.q0u (d := (0 : Int)) hi, h⟩
 have : q2l bits k = .err 1 := by unfold q2l; rw [if_pos (.inr (.inr this))]
 unfold Cn.q0q; rw [this]
theorem j8x (h : ∀ j, j < i → (decide (bits.getD j 0 < -65536) || decide (bits.getD j 0 > 65536)) = false) (hi : i = bits.length) : bits.any y4o = false := by
 rw [List.any_eq_false]
 intro x hx
 obtain ⟨j, hj, rfl⟩ := List.getElem_of_mem hx
 have := h j (by omega)
 rw [List.getD_eq_getElem?_getD, List.getElem?_eq_getElem hj] at this
 unfold y4o
 simpa using this
theorem x9v (hk : 0 ≤ k ∧ k ≤ 4503599627370496) (ho : bits.any y4o = false) (h : 60 < bits.length) : Cn.q0q bits k = ([], 2) := by
 have : q2l bits k = .err 2 := by unfold q2l; rw [if_neg (by rw [ho]; simp; omega), if_pos h]
 unfold Cn.q0q; rw [this]
theorem k4j (hk : 0 ≤ k ∧ k ≤ 4503599627370496) (ho : bits.any y4o = false) (h : bits.length ≤ 60) : Cn.q0q bits k = (q0w bits k.toNat 64, 0) := by
 have : q2l bits k = .ok (q0w bits k.toNat 64) := by unfold q2l; rw [if_neg (by rw [ho]; simp; omega), if_neg (by omega)]
 unfold Cn.q0q; rw [this]
theorem k5t (hk : 0 ≤ k) : (q4t (k / 2 ^ n) 1 == 0) = !k.toNat.testBit n := by
 have h0 : 0 ≤ k / 2 ^ n := Int.ediv_nonneg hk (Int.pow_nonneg (by decide))
 rw [← k5r hk n, j9l h0]
 generalize k / 2 ^ n = z at *
 have : z % 2 = 0 ∨ z % 2 = 1 := by omega
 rcases this with h | h <;> rw [h] <;> rfl
theorem k3g (hk : 0 ≤ k) (h : (q4t (k / 2 ^ n) 1 == 0) = true) : k.toNat.testBit n = false := by
 rw [k5t hk] at h; cases hb : k.toNat.testBit n <;> simp_all
theorem k1n (hk : 0 ≤ k) (h : (q4t (k / 2 ^ n) 1 == 0) = false) : k.toNat.testBit n = true := by
 rw [k5t hk] at h; cases hb : k.toNat.testBit n <;> simp_all
theorem k6z (h : (decide ((n : Int) < (bits.length : Int)) && (bits.getD n 0 != 0)) = true) : q8m k.toNat bits n n = true := by
 rw [Bool.and_eq_true] at h
 unfold q8m
 simpa using h.2
theorem k1w (h : (decide ((n : Int) < (bits.length : Int)) && (bits.getD n 0 != 0)) = true) : (n : Int) < (bits.length : Int) := by
 rw [Bool.and_eq_true] at h
 exact of_decide_eq_true h.1
theorem k1x (h : (decide ((n : Int) < (bits.length : Int)) && (bits.getD n 0 != 0)) = false) : q8m k.toNat bits n n = false := by
 rw [Bool.and_eq_false_iff] at h
 unfold q8m
 rcases h with h | h
 · have := of_decide_eq_false h
   have e : bits.getD n 0 = 0 := by rw [List.getD_eq_getElem?_getD, List.getElem?_eq_none (by omega)]; rfl
   rw [e]; rfl
 · rw [h]; rfl
theorem k1q (hk : 0 ≤ k) (h : ((q4t (k / 2 ^ j) 1 == 0) && (bits.getD j 0 != 0)) = true) : (!k.toNat.testBit j && (bits.getD j 0 != 0)) = true := by rwa [k5t hk] at h
theorem x5g (hk : 0 ≤ k) (h : ((q4t (k / 2 ^ j) 1 == 0) && (bits.getD j 0 != 0)) = false) : (!k.toNat.testBit j && (bits.getD j 0 != 0)) = false := by rwa [k5t hk] at h
theorem y7u : ∀ m, m ≤ n → q4h bits k.toNat n m = []
 | 0, _ => rfl
 | m + 1, h => by
  rw [q4a, y7u m (by omega), if_neg]; · rfl
  unfold q8m
  have h1 : ¬ m = n := by omega
  have h2 : ¬ n < m := by omega
  simp [h1, h2]
theorem x6n (h : q8m k.toNat bits n n = true) : [] ++ [bits.getD n 0] = q4h bits k.toNat n (n + 1) := by
 rw [q4a, y7u n (Nat.le_refl _), if_pos h]
theorem x4w (h : q8m k.toNat bits n n = false) : [] = q4h bits k.toNat n (n + 1) := by
 rw [q4a, y7u n (Nat.le_refl _), if_neg (by rw [h]; simp)]; rfl
theorem k1l (h : n < j) : q8m k.toNat bits n j = (!k.toNat.testBit j && (bits.getD j 0 != 0)) := by
 unfold q8m
 have h1 : (j == n) = false := by rw [beq_eq_false_iff_ne]; omega
 rw [h1, decide_eq_true h]
 cases k.toNat.testBit j <;> cases (bits.getD j 0 != 0) <;> rfl
theorem y1m (h : (!k.toNat.testBit j && (bits.getD j 0 != 0)) = true) (hj : n < j) : q4h bits k.toNat n j ++ [bits.getD j 0] = q4h bits k.toNat n (j + 1) := by
 rw [q4a, if_pos (by rw [k1l hj]; exact h)]
theorem y2c (h : (!k.toNat.testBit j && (bits.getD j 0 != 0)) = false) (hj : n < j) : q4h bits k.toNat n j = q4h bits k.toNat n (j + 1) := by
 rw [q4a, if_neg (by rw [k1l hj, h]; simp), List.append_nil]
theorem x5w : ∀ d, q4h bits k.toNat n (bits.length + d) = q4h bits k.toNat n bits.length
 | 0 => rfl
 | d + 1 => by
  rw [show bits.length + (d + 1) = (bits.length + d) + 1 from rfl, q4a, x5w d, if_neg]; · exact List.append_nil _
  unfold q8m
  have e : bits.getD (bits.length + d) 0 = 0 := by rw [List.getD_eq_getElem?_getD, List.getElem?_eq_none (by omega)]; rfl
  rw [e]; simp
theorem j1e (h : k.toNat.testBit n = false) : q0w bits k.toNat n = q0w bits k.toNat (n + 1) := by
 rw [q4o, h]; simp
theorem j8c (h : k.toNat.testBit n = true) (hj : bits.length ≤ j) : q0w bits k.toNat n ++ [q4h bits k.toNat n j] = q0w bits k.toNat (n + 1) := by
 obtain ⟨d, rfl⟩ : ∃ d, j = bits.length + d := ⟨j - bits.length, by omega⟩
 rw [q4o, h, x5w]; rfl
theorem q6q (hk : k ≤ 4503599627370496) (hn : n = 60) : q0w bits k.toNat 64 = q0w bits k.toNat n := by
 subst hn
 refine q6v bits k.toNat 60 64 (by decide) fun m h1 _ => ?_
 refine Nat.testBit_lt_two_pow ?_
 calc k.toNat ≤ 4503599627370496 := by omega
  _ < 2 ^ 60 := by decide
  _ ≤ 2 ^ m := Nat.pow_le_pow_right (by decide) h1
end
end Go.Proofs.YtkkapbnopmmmjaaGreatDoor
namespace Go.Proofs.YtkkapbnopmmmjaaGreatDoor.Cn
open Go
theorem j1l (C L : List Int) (n : Int) : q2o C L n = (q2a (q2b C L n), z6f (q2b C L n), j4g (q2b C L n), q5a (q2b C L n)) := by
 unfold q2o
 cases q2b C L n <;> rfl
theorem y9z {g next : Int} (hg : g ≠ 0) : q9e next [g] ≠ 0 ↔ (next ≤ g ∨ g ≤ -next) := by
 have h : q2v next [g] = true ↔ ((g.natAbs : Int) < next) := by
  rw [x6j]
  constructor
  · intro h
    exact (h 0 (by simp)).2.1
  · intro h i hi
    have : i = 0 := by simp at hi; omega
    subst this
    exact ⟨hg, h, fun j hj => by omega⟩
 unfold q9e
 by_cases ha : q2v next [g] = true
 · rw [if_pos ha]
   have := h.1 ha
   constructor
   · intro q; exact absurd rfl q
   · intro q; omega
 · rw [if_neg ha]
   constructor
   · intro _
     have : ¬ ((g.natAbs : Int) < next) := fun q => ha (h.2 q)
     omega
   · intro _; decide
theorem k9l {g next : Int} (hn : 1 ≤ next) (h : ((g != 0) && (q9e next [g] != 0)) = true) : next ≤ g ∨ g ≤ -next := by
 simp only [Bool.and_eq_true, bne_iff_ne] at h
 exact (y9z h.1).1 h.2
theorem k9e {g next : Int} (hn : 1 ≤ next) (h : ((g != 0) && (q9e next [g] != 0)) = false) : ¬ (next ≤ g ∨ g ≤ -next) := by
 by_cases hg : g = 0
 · omega
 · simp only [Bool.and_eq_false_iff, bne_eq_false_iff_eq] at h
   rcases h with h | h
   · exact absurd h hg
   · exact fun q => (y9z hg).2 q h
section
variable {C L : List Int} {B g next : Int}
theorem k8z (hn : q2u C B) (hk : q1q C B = 2 ∨ q1q C B = 3) : (B + C.getD 0 0 - 1).tdiv (C.getD 0 0) = evK C B ∧ 1 ≤ C.getD 0 0 ∧ C.getD 0 0 ≤ 4503599627370496 ∧ 1 ≤ B ∧ B ≤ 4503599627370496 ∧ 1 ≤ evK C B ∧ evK C B ≤ C.length := by
 have he := j5j hk
 obtain ⟨f1, f2, f3, f4, f5, f6, f7⟩ := q6g hn he
 have h0 : ¬ (C.length : Int) = 0 := by omega
 exact ⟨x4x hn h0 (by rw [← z1v h0]; exact he), f2, f3, (k1u hn h0).2.1, hn.2.2.2.1, f4, f5⟩
theorem k1t (hk : q1q C B = 2) (h : (q1w (evK C B) L next).2.2.2 ≠ 0) : encS C L B g next = ([], 0, (q1w (evK C B) L next).2.2.2) := by rw [q8z hk, j9r h]
theorem x6m (hn : q2u C B) (hl : L.length = C.length) (hk : q1q C B = 2) (h : (q1w (evK C B) L next).2.2.2 = 0) : ((q1w (evK C B) L next).1.length : Int) = evK C B := by
 obtain ⟨f1, f2, f3, f4, f5, f6, f7⟩ := q6g hn (j5j (.inl hk))
 have hok := k4u f4 (by omega) h
 rw [hok.2]; exact y1p f4 (by omega) hok.1
theorem k6e (hn : q2u C B) (hl : L.length = C.length) (hk : q1q C B = 2) (h : (q1w (evK C B) L next).2.2.2 = 0) : encS C L B g next = ((q1w (evK C B) L next).2.1 ++ grd g [[(q1w (evK C B) L next).1.getD (evK C B - 1).toNat 0]], (q1w (evK C B) L next).2.2.1, 0) := by
 obtain ⟨f1, f2, f3, f4, f5, f6, f7⟩ := q6g hn (j5j (.inl hk))
 have hol := x6m hn hl hk h
 have hone : ((q1w (evK C B) L next).1.take (evK C B).toNat).drop (evK C B - 1).toNat = [(q1w (evK C B) L next).1.getD (evK C B - 1).toNat 0] := by
  rw [show (evK C B).toNat = (evK C B - 1).toNat + 1 by omega, z1j (d := 0) (by omega), List.drop_left']
  rw [List.length_take]; omega
 rw [q8z hk, x2e h, hone]
theorem k2g (hk : q1q C B = 3) (h : (q0i L (evK C B) next).2.2 ≠ 0) : encS C L B g next = ([], 0, (q0i L (evK C B) next).2.2) := by rw [q9c hk, j9z h]
theorem k6h (hk : q1q C B = 3) (h : (q0i L (evK C B) next).2.2 = 0) : encS C L B g next = (grd g (q0i L (evK C B) next).1, (q0i L (evK C B) next).2.1, 0) := by rw [q9c hk, x3k h]
theorem k3y (hk : q1q C B = 4) (h : q5a (q2b C L next) ≠ 0) : encS C L B g next = ([], 0, q5a (q2b C L next)) := by
 have e := j1l C L next
 rw [q8h hk, y1o (by rw [e]; exact h), e]
theorem x6x (hk : q1q C B = 4) (h : q5a (q2b C L next) = 0) (h2 : (q0q (q2a (q2b C L next)) B).2 ≠ 0) : encS C L B g next = ([], 0, (q0q (q2a (q2b C L next)) B).2) := by
 have e := j1l C L next
 rw [q8h hk, z9n (by rw [e]; exact h) (by rw [e]; exact h2), e]
theorem k6o (hk : q1q C B = 4) (h : q5a (q2b C L next) = 0) (h2 : (q0q (q2a (q2b C L next)) B).2 = 0) : encS C L B g next = (z6f (q2b C L next) ++ grd g (q0q (q2a (q2b C L next)) B).1, j4g (q2b C L next), 0) := by
 have e := j1l C L next
 rw [q8h hk, x1i (by rw [e]; exact h) (by rw [e]; exact h2), e]
theorem k3q : (q2a (q2b C L next)).length ≤ 70000 ∧ (z6f (q2b C L next)).length ≤ 7000000 := by
 have h := q9o C L next
 rw [j1l] at h
 exact ⟨h.1, h.2.1⟩
end
end Go.Proofs.YtkkapbnopmmmjaaGreatDoor.Cn
