/- Lemmas and contracts for the row. -/
import Derived.Test.YtkkapbnopmmmjaaGreatDoorPkRowEncodeMatchesY
import Derived.Test.YtkkapbnopmmmjaaGreatDoorPkRowEncodeMatchesR
import Derived.Test.YtkkapbnopmmmjaaGreatDoorPkRowEncodeMatchesL
set_option linter.unusedVariables false
set_option linter.unusedSimpArgs false
set_option linter.unnecessarySimpa false
namespace Go.Proofs.YtkkapbnopmmmjaaGreatDoor.En
open Go Go.RowKit
theorem Tcd {k : Ct} {S : Env × Hp} {id : Nat} {ops : Array Oper} {Q : Exit → Act → World → Prop} (cx : Cx) (hcx : q1g k.P cx) (hmx : k.P.follows .mixedOrders = true) (wt : List Nat) (ρ : List (Nat × RM)) (ky dk dn : List Nat) (ps : List Prop) (hp : q3h ps) (hf : Fg k (rgS true (y8a k cx) ops wt ρ ky dk dn S) Q .normal) (h : rgP true (y8a k cx) ops wt ρ ky dk dn S = some ps := by kernel_rfl) : Tg k S (.region id ops true) Q :=
 Td (k := y8a k cx) hcx hmx wt ρ ky dk dn ps hp hf h
theorem q0o.weak {P : Program} {f : Nat} {σ τ : CtF} (h : q0o P f σ) (hst : ∀ args os p r outs, τ args os = some (p, r, outs) → ∃ p' r', σ args os = some (p', r', outs) ∧ (p → p' ∧ r' = r)) : q0o P f τ := by
 refine ⟨h.1, fun g args os vs p r outs hσ hp hm hU hd => ?_⟩
 obtain ⟨p', r', e, h2⟩ := hst args os p r outs hσ
 obtain ⟨hp', rfl⟩ := h2 hp
 exact h.2 g args os vs p' r' outs e hp' hm hU hd
theorem j4z {W : World} {G : Nat → Prop} (hgl : y1e (g0 W G)) : TabAt W := by
 have h := ((hgl 1 (Lib.deBruijn64tab.map fun (n : Nat) => Value.int .u8 (n : Int)) rfl).2.1 rfl).1
 have hl : Lib.deBruijn64tab.length = 64 := rfl
 intro j hj
 refine h j _ ?_
 rw [List.getElem?_map, List.getD_eq_getElem?_getD, List.getElem?_eq_getElem (by omega)]
 rfl
theorem k1o {B : Nat} {W : World} {G : Nat → Prop} {v : Value} {xs : List Int} (h : Cl (fun b => B ≤ b) W v xs) (hm : xs.length ≤ maxLen) (hG : ∀ b, T3 (fun b => B ≤ b) W b → G b) : Rep W G (.ls (.ints xs)) v := by
 obtain ⟨A, c, rfl, hc, hr⟩ := h
 exact j5n (enc := I64) (l := .ints xs) (hr.mono hG) hm rfl rfl hc (fun i hi => by simp [LD.cell, List.getD, List.getElem?_eq_getElem hi, I64])
theorem y8p {B : Nat} {W : World} {G : Nat → Prop} {ov : Value} {cs : List (List Int)} (h : Bag B W ov cs) (hx : ∀ c ∈ cs, c.length ≤ maxLen) (hG : ∀ b, B ≤ b → b < W.heap.size → ov.ownBlock ≠ some b → G b) :
 ∃ vs, Own W 22 ov vs ∧ vs.length = cs.length ∧ ∀ i, i < cs.length → Rep W G (.ls (.ints (cs.getD i []))) (vs.getD i undef) := by
 obtain ⟨vs, h1, h2, h3, h4⟩ := h
 refine ⟨vs, h1, h3, fun i hi => ?_⟩
 have e1 : vs.getD i undef = vs[i]'(by omega) := by simp [List.getD, List.getElem?_eq_getElem (show i < vs.length by omega)]
 have e2 : cs.getD i [] = cs[i] := by simp [List.getD, List.getElem?_eq_getElem hi]
 rw [e1, e2]
 exact k1o (h4 i _ _ (List.getElem?_eq_getElem (by omega)) (List.getElem?_eq_getElem hi)) (hx _ (List.getElem_mem hi)) (fun b hb => hG b hb.2 hb.lt (hb.ne_own h1 (by decide)))
def j2d : y7z
 | [.im (.ls (.ints l)), .im (.val (.int .i64 k))] => some (l.length ≤ 1000000000, .tup [.intss (Cn.q0q l k).1, .int (Cn.q0q l k).2])
 | _ => none
theorem y0k {g : Gh} {a b : AV} {u v : Value} (h1 : Den g a u) (h2 : Den g b v) : Den g (.tup [a, b]) (.tuple #[u, v]) := by
 rw [Den]
 refine ⟨[_, _], rfl, ?_⟩
 simp only [q0l]
 exact ⟨_, _, rfl, h1, _, _, rfl, h2, rfl⟩
theorem x3d {g : Gh} {a b c d : AV} {u v w x : Value} (h1 : Den g a u) (h2 : Den g b v) (h3 : Den g c w) (h4 : Den g d x) : Den g (.tup [a, b, c, d]) (.tuple #[u, v, w, x]) := by
 rw [Den]
 refine ⟨[_, _, _, _], rfl, ?_⟩
 simp only [q0l]
 exact ⟨_, _, rfl, h1, _, _, rfl, h2, _, _, rfl, h3, _, _, rfl, h4, rfl⟩
theorem j3t : j0y Tryz.prog 132 j2d := by
 refine ⟨fun args W => q2w (fn := Tryz.f132) Tryz.func132 (by kernel_rfl) rfl args W, fun W G args vs p r hG hgl hs hp hd => ?_⟩
 unfold j2d at hs
 split at hs
 · rename_i l k
   simp only [Option.some.injEq, Prod.mk.injEq] at hs
   obtain ⟨rfl, rfl⟩ := hs
   obtain ⟨u, u', rfl, h1, h2⟩ := q3v hd
   simp only [Den] at h1
   obtain ⟨A, c, rfl, r1, m1⟩ := q7a h1 hG
   rw [q0h h2]
   refine (y5o A c l k W r1 (j4z hgl) hp).mono fun e w' he => ?_
   have hln := Cn.q5d l k
   cases hs : q2l l k with
   | err e0 =>
    rw [hs] at he
    obtain ⟨rfl, hb⟩ := he
    have hq : Cn.q0q l k = ([], e0) := by unfold Cn.q0q; rw [hs]
    rw [hq]
    refine ⟨_, rfl, hb, y0k ?_ (q0g _)⟩
    simp only [Den]
    exact .nil _ _ _ rfl
   | ok cs =>
    rw [hs] at he
    obtain ⟨C, cC, rfl, _, _, hb, hbag⟩ := he
    have hq : Cn.q0q l k = (cs, 0) := by unfold Cn.q0q; rw [hs]
    rw [hq] at hln ⊢
    refine ⟨_, rfl, hb, y0k ?_ (q0g _)⟩
    obtain ⟨ws, q1, q2, q3⟩ := y8p (G := fun b => G b ∨ (W.heap.size ≤ b ∧ b < w'.heap.size)) hbag (fun x hx => by have := hln.2 x hx; unfold maxLen; omega) (fun b h1 h2 _ => .inr ⟨h1, h2⟩)
    obtain ⟨_, _, hbk, _⟩ := hbag
    simp only [Den]
    exact y4x (l := .intss cs) q1 q2 (by show cs.length ≤ maxLen; have := hln.1; unfold maxLen; simp only at this; omega) rfl q3 (fun b hb' => .inr ⟨hbk b (by rw [← q8l q1]; exact hb'), q1.lt (by rw [← q8l q1]; exact hb')⟩)
 · cases hs
def y7s : CtF := fun args os => match args, os with
 | [.im (.ls (.ints C)), .im (.ls (.ints L)), .im (.val (.int .i64 n))], [] => some (C.length ≤ 1000000000 ∧ L.length ≤ 1000000000, .tup [.ints (Cn.q2o C L n).1, .row 0, .int (Cn.q2o C L n).2.2.1, .int (Cn.q2o C L n).2.2.2], [some (.row 22 (.intss (Cn.q2o C L n).2.1))])
 | _, _ => none
theorem k0n {C L : List Int} {n : Int} {w w' : World} {e : Ending} (h : z0o w (q2b C L n) e w') : ∃ A cA C' cC, e = .returned (.tuple #[.slice A (Cn.q2o C L n).1.length cA, .slice C' (Cn.q2o C L n).2.1.length cC, I64 (Cn.q2o C L n).2.2.1, I64 (Cn.q2o C L n).2.2.2]) ∧ Below w.heap.size w w' ∧
 Own w' 3 (.slice A (Cn.q2o C L n).1.length cA) ((Cn.q2o C L n).1.map I64) ∧ (∀ b, (Value.slice A (Cn.q2o C L n).1.length cA).ownBlock = some b → w.heap.size ≤ b) ∧ Bag w.heap.size w' (.slice C' (Cn.q2o C L n).2.1.length cC) (Cn.q2o C L n).2.1 := by
 cases hs : q2b C L n with
 | err c =>
  rw [hs] at h
  obtain ⟨rfl, hb⟩ := h
  have hq : Cn.q2o C L n = ([], [], 0, c) := by unfold Cn.q2o; rw [hs]
  rw [hq]
  exact ⟨none, 0, none, 0, rfl, hb, Own.nil _ _, fun b hb => by simp [Value.ownBlock] at hb, Bag.nil _ _⟩
 | ok bits cs after =>
  rw [hs] at h
  obtain ⟨A, cA, C', cC, rfl, _, _, _, _, hb, h1, h2, h3⟩ := h
  have hq : Cn.q2o C L n = (bits, cs, after, 0) := by unfold Cn.q2o; rw [hs]
  rw [hq]
  exact ⟨A, cA, C', cC, rfl, hb, h1, h2, h3⟩
theorem y4g : q0o Tryz.prog 131 y7s := by
 refine ⟨fun args W => q2w (fn := Tryz.f131) Tryz.func131 (by kernel_rfl) rfl args W, fun g args os vs p r outs hσ hp hm hU hd => ?_⟩
 unfold y7s at hσ
 split at hσ
 · rename_i C L n
   simp only [Option.some.injEq, Prod.mk.injEq] at hσ
   obtain ⟨rfl, rfl, rfl⟩ := hσ
   have hU' : ∀ r, ¬ g.U r := fun r hr => absurd (hU r hr) (by simp)
   have hd' : q0l (g0 g.W g.G) [.im (.ls (.ints C)), .im (.ls (.ints L)), .im (.val (.int .i64 n))] vs := by
    have := q0l.map (f := id) (g := g) (g' := g0 g.W g.G) rfl rfl _ vs (fun r _ hu => absurd hu (hU' r)) hd
    rwa [q7q] at this
   have hG : ∀ b, g.G b → b < g.W.heap.size := fun b hb => (hm.gb b hb).1
   obtain ⟨u1, u2, u3, rfl, h1, h2, h3⟩ := j7z hd'
   simp only [Den] at h1 h2
   obtain ⟨A, k, rfl, r1, m1⟩ := q7a h1 hG
   obtain ⟨A', k', rfl, r2, m2⟩ := q7a h2 hG
   rw [q0h h3]
   refine Calls.mono (k0g A A' k k' C L n g.W r1 r2 (j4z (G := g.G) (fun kk ys hk => hm.anc.2 kk ys hk)) hp.1 hp.2) fun e W' he => ?_
   have hln := Cn.q9o C L n
   replace he := k0n he
   generalize Cn.q2o C L n = Q at he hln ⊢
   obtain ⟨bits, cs, after, er⟩ := Q
   simp only at he hln ⊢
   obtain ⟨Ab, cb, Ac, cc, rfl, hb, hob, hbn, hbag⟩ := he
   let cv : Value := .slice Ac cs.length cc
   let g' : Gh := ⟨W', fun b => g.G b ∨ (g.W.heap.size ≤ b ∧ b < W'.heap.size ∧ cv.ownBlock ≠ some b), fun r => if r = 0 then cv else g.β r, fun r => g.U r ∨ r = 0⟩
   have hle : g.le g' := ⟨fun b hg => hb.block b (hG b hg), fun _ hb => .inl hb, fun r hr => absurd hr (hU' r)⟩
   have hlk : ∀ x o, q4w [some (.row 22 (.intss cs))] x = some o → x = 0 ∧ o = .row 22 (.intss cs) := by
    intro x o hx
    match x, hx with
    | 0, hx => simp [q4w] at hx; exact ⟨rfl, hx.symm⟩
    | n + 1, hx => simp [q4w] at hx
   have hb0 : g'.β 0 = cv := by show (if (0 : Nat) = 0 then cv else g.β 0) = cv; rw [if_pos rfl]
   obtain ⟨ws, q1, q2, q3⟩ := y8p (G := g'.G) hbag (fun x hx => by have := hln.2.2 x hx; unfold maxLen; omega) (fun b h1 h2 h3 => .inr ⟨h1, h2, h3⟩)
   obtain ⟨_, _, hbk, _⟩ := hbag
   have hblk : q1n cv = cv.ownBlock := q8l q1
   refine ⟨_, g', rfl, rfl, hle, ⟨fun x o hx => ?_, fun x x' o o' b hx hx' _ _ => (hlk x o hx).1.trans (hlk x' o' hx').1.symm, fun x o b hx hbb => ?_, fun b hg => ?_, ⟨hb.os, hb.tape, hb.output, hb.size, fun b hlt _ => hb.block b hlt⟩, fun r hr => absurd hr (by simp), hm.anc.2.up hle⟩, ?_⟩
   · obtain ⟨rfl, rfl⟩ := hlk x o hx
     refine ⟨.inr rfl, ?_⟩
     rw [hb0]
     have hr1 := k8i (l := .intss cs) (W := W') (G := g'.G) (e := 22) (v := cv) (xs := ws) rfl q2 q1 q3
     exact ⟨ws, hr1.1, by show cs.length ≤ maxLen; have := hln.2.1; unfold maxLen; omega, hr1.2⟩
   · obtain ⟨rfl, rfl⟩ := hlk x o hx
     rw [hb0, hblk] at hbb
     have := hbk b hbb
     refine ⟨fun hg => ?_, .inl this⟩
     rcases hg with hg | hg
     · have := hG b hg; omega
     · exact hg.2.2 hbb
   · rcases hg with hg | hg
     · exact ⟨Nat.lt_of_lt_of_le (hG b hg) hb.size, (hm.gb b hg).2⟩
     · exact ⟨hg.2.1, .inr (.inl hg.1)⟩
   · refine x3d ?_ ?_ (q0g _) (q0g _)
     · simp only [Den]
       exact z0u hob (by have := hln.1; unfold maxLen; omega) (fun b hb' => .inr ⟨hbn b hb', hob.lt hb', fun e => (show T3 (fun _ => True) W' b from ⟨hob.ty0 hb' (by decide), trivial⟩).ne_own q1 (by decide) e⟩)
     · simp only [Den]
       exact ⟨.inr rfl, hb0.symm, .inl ⟨Ac, _, cc, rfl⟩⟩
 · cases hσ
end Go.Proofs.YtkkapbnopmmmjaaGreatDoor.En
namespace Go.Proofs.YtkkapbnopmmmjaaGreatDoor
open Go Go.RowKit
open En (q4t)
theorem getD_in {l : List Int} {k : Nat} (h : k < l.length) : l.getD k 0 ∈ l := by
 have : l.getD k 0 = l[k] := by simp [List.getD, List.getElem?_eq_getElem h]
 rw [this]; exact List.getElem_mem h
theorem x3z {l : List (List Int)} {k : Nat} : l.getD k [] = [] ∨ l.getD k [] ∈ l := by
 by_cases h : k < l.length
 · right
   have : l.getD k [] = l[k] := by simp [List.getD, List.getElem?_eq_getElem h]
   rw [this]; exact List.getElem_mem h
 · left; simp [List.getD, List.getElem?_eq_none (by omega : l.length ≤ k)]
theorem z8c {rows : List (List Int)} {N : Nat} (h : ∀ r ∈ rows, r.length ≤ N) (t j : Nat) : ((rows ++ List.replicate t []).getD j []).length ≤ N := by
 rcases x3z (l := rows ++ List.replicate t []) (k := j) with e | e
 · rw [e]; simp
 · rcases List.mem_append.1 e with e | e
   · exact h _ e
   · rw [(List.mem_replicate.1 e).2]; simp
theorem x2u {rows : List (List Int)} {k t : Nat} {x : Int} (h : t = k + 1 - rows.length) : (rows ++ List.replicate t []).set k (([] ++ (rows ++ List.replicate t []).getD k []) ++ [x]) = z5w rows k x := by subst h; rfl
theorem x3w (rows : List (List Int)) (k : Nat) (x : Int) : (z5w rows k x).length = max rows.length (k + 1) := by
 unfold z5w; rw [List.length_set, z3c]
theorem y4t {rows : List (List Int)} {N : Nat} (h : ∀ r ∈ rows, r.length ≤ N) (k : Nat) (x : Int) : ∀ r ∈ z5w rows k x, r.length ≤ N + 1 := by
 intro r hr
 unfold z5w at hr
 rcases List.mem_or_eq_of_mem_set hr with e | e
 · unfold x6b at e
   rcases List.mem_append.1 e with e | e
   · have := h _ e; omega
   · rw [(List.mem_replicate.1 e).2]; simp
 · rw [e, List.length_append]
   have := z8c h (k + 1 - rows.length) k
   unfold x6b
   simp only [List.length_cons, List.length_nil]
   omega
theorem x4o {rows : List (List Int)} {N k : Nat} {l : List Int} (h : ∀ r ∈ rows, r.length ≤ N) (hl : l.length ≤ N) : ∀ r ∈ rows.set k l, r.length ≤ N := by
 intro r hr
 rcases List.mem_or_eq_of_mem_set hr with e | e
 · exact h _ e
 · rw [e]; exact hl
theorem x3q {l : List Int} {s : Int} {n i : Nat} (hi : i = l.length) (hl : l.length = 2 ∨ l.length = 3) (hn : n < 2 ^ l.length) : sgs l n i ++ [bif !par n i then 0 - s else s] = q9i l s n := by
 rw [k0v hi, hi, k0c hl hn]
 unfold q9i
 cases k4k n <;> simp
theorem x8v (l : List Int) (n i : Nat) : (sgs l n i).length ≤ l.length := by simp [sgs]; omega
theorem x7d {l : List Int} {n i : Nat} (h : i < l.length) : sgs l n i ++ [bif n.testBit i then 0 - l.getD i 0 else l.getD i 0] = sgs l n (i + 1) := by
 rw [x2f h]
 unfold sgn
 cases n.testBit i <;> simp
theorem j1p {n a x : Int} : q8e n (a, x) = true ↔ 0 ≤ a ∧ a ≤ 1099511627776 ∧ x ≠ 0 ∧ x < n ∧ -n < x := by
 simp [q8e, and_assoc]
theorem x6u {n a x : Int} (h : ¬ (0 ≤ a ∧ a ≤ 1099511627776 ∧ x ≠ 0 ∧ x < n ∧ -n < x)) : q8e n (a, x) = false := by
 cases h' : q8e n (a, x) with
 | false => rfl
 | true => exact absurd (j1p.1 h') h
theorem k0l {coef l : List Int} {next : Int} (h : next < 1 ∨ 65537 < next ∨ coef.length ≠ l.length) : q2b coef l next = .err 1 := by rw [q2b, if_pos h]
theorem k2w {coef l : List Int} {i : Nat} (h1 : i < coef.length) (h2 : i < l.length) : (coef.getD i 0, l.getD i 0) ∈ coef.zip l := by
 have h : i < (coef.zip l).length := by simp; omega
 have e : (coef.getD i 0, l.getD i 0) = (coef.zip l)[i] := by simp [List.getD, List.getElem?_eq_getElem h1, List.getElem?_eq_getElem h2]
 rw [e]; exact List.getElem_mem h
theorem x7i {coef l : List Int} {next : Int} {i : Nat} (h1 : i < coef.length) (h2 : i < l.length) (h : q8e next (coef.getD i 0, l.getD i 0) = false) : q2b coef l next = .err 1 := by
 rw [q2b]
 split
 · rfl
 · rw [if_pos]
   cases ha : (coef.zip l).all (q8e next) with
   | false => rfl
   | true => rw [List.all_eq_true.1 ha _ (k2w h1 h2)] at h; cases h
theorem k2q {coef l : List Int} {next : Int} (hl : coef.length = l.length) (h : ∀ j, j < l.length → q8e next (coef.getD j 0, l.getD j 0) = true) : (coef.zip l).all (q8e next) = true := by
 rw [List.all_eq_true]
 intro q hq
 obtain ⟨j, hj, rfl⟩ := List.mem_iff_getElem.1 hq
 have h2 : j < l.length := by simp at hj; omega
 have h1 : j < coef.length := by omega
 have := h j h2
 simpa [List.getD, List.getElem?_eq_getElem h1, List.getElem?_eq_getElem h2] using this
theorem k3b {c : Int} {k : Nat} (h1 : c ≤ 1099511627776) (h : 0 < c / 2 ^ k) : k < 41 := by
 apply Nat.lt_of_not_le
 intro hk
 have hp : (2 : Int) ^ 41 ≤ 2 ^ k := by exact_mod_cast Nat.pow_le_pow_right (by decide : 0 < 2) hk
 have h2 : c / 2 ^ k < 1 := Int.ediv_lt_of_lt_mul (Int.pow_pos (by decide)) (by
  have : (2 : Int) ^ 41 = 2199023255552 := by decide
  omega)
 omega
theorem k1m (coef l : List Int) {i : Nat} (hi : i ≤ 40) : q1u (fdA coef l i) (64 * 40) := (q1u.all _ _ _ q1u.zero).mono (by simp; omega)
theorem x3c {s : Fd} {n : Nat} (h : q1u s n) : (fdL s).length ≤ 64 ∧ ∀ r ∈ fdL s, r.length ≤ n := by
 refine ⟨by have := h.2.2; unfold fdL; rw [z1o]; omega, fun r hr => ?_⟩
 obtain ⟨j, rfl⟩ := x5t hr
 exact h.1 j
theorem x0x (coef l : List Int) {i k : Nat} (c : Nat) (x : Int) (hi : i ≤ 40) (hk : k ≤ 64) : (fdL (feedTo c x (fdA coef l i) k)).length ≤ 64 ∧ ∀ r ∈ fdL (feedTo c x (fdA coef l i) k), r.length ≤ 1000000 :=
 let h := x3c ((k1m coef l hi).feedTo c x k hk)
 ⟨h.1, fun r hr => by have := h.2 r hr; omega⟩
theorem x5r {s : Fd} {n k : Nat} {x : Int} (he : Emp (feedTo n x s k).1 (feedTo n x s k).2) (h : n.testBit k = true) : z5w (fdL (feedTo n x s k)) k x = fdL (feedTo n x s (k + 1)) := by
 rw [q2n, if_pos h, x7k he]
theorem k5h {s : Fd} {n k : Nat} {x : Int} (h : n.testBit k = false) : fdL (feedTo n x s k) = fdL (feedTo n x s (k + 1)) := by
 rw [q2n, if_neg (by rw [h]; simp)]
theorem x9x {coef l : List Int} {i : Nat} (h1 : coef.length = l.length) (h : ¬ i < l.length) (hi : i ≤ l.length) (next : Int) : fdL (fdA coef l i) = psL (st0 coef l next) := by
 unfold fdA
 rw [List.take_of_length_le (by simp; omega)]
 rfl
theorem k0e (coef l : List Int) (next : Int) : Emp (st0 coef l next).rows (st0 coef l next).top := Emp.all _ _ Emp.zero
theorem q6r (s : Ps) : (psL s).length = s.top.toNat := z1o _ _
theorem q2x {s : Ps} {k : Nat} (h : (k : Int) < s.top) : (psL s).getD k [] = s.rows k := j5r h
theorem x1e {s : Ps} {next : Int} (h : y4r next s) : (psL s).length ≤ 65601 ∧ ∀ r ∈ psL s, r.length ≤ 327680 := by
 have h1 := h.lo; have h2 := h.hi; have h3 := h.top; have h4 := h.nx
 refine ⟨by rw [q6r]; omega, fun r hr => ?_⟩
 obtain ⟨j, rfl⟩ := x5t hr
 have := h.len j
 omega
theorem z2s (x : List Int) : [] ++ ((x.take x.length).drop (min 3 (x.length : Int)).toNat) = x.drop 3 := by
 rw [List.nil_append, List.take_length]
 by_cases h : 3 ≤ x.length
 · rw [show (min 3 (x.length : Int)).toNat = 3 by omega]
 · rw [show (min 3 (x.length : Int)).toNat = x.length by omega, List.drop_length, List.drop_eq_nil_of_le (by omega)]
theorem z8t (x : List Int) : [] ++ ((x.take (min 3 (x.length : Int)).toNat).drop 0) = x.take 3 := by
 rw [List.nil_append, List.drop_zero]
 by_cases h : 3 ≤ x.length
 · rw [show (min 3 (x.length : Int)).toNat = 3 by omega]
 · rw [show (min 3 (x.length : Int)).toNat = x.length by omega, List.take_length, List.take_of_length_le (by omega)]
theorem hd1 {o l : List Int} (h : l.length = 1) : o ++ [l.getD 0 0] = o ++ [l.headD 0] := by
 match l, h with
 | [a], _ => rfl
theorem hd0 {o l : List Int} (h : ¬ 1 < l.length) (h' : ¬ l.length = 1) : o ++ [0] = o ++ [l.headD 0] := by
 rw [List.eq_nil_of_length_eq_zero (by omega : l.length = 0)]; rfl
def RS (coef l : List Int) (next : Int) (f k : Nat) (s : Ps) (o : List Int) : Prop :=
 z0n f k s o = z0n q8a 0 (st0 coef l next) [] ∧ 3 * (70000 - s.nx) + (s.top - (k : Int)) < (f : Int) ∧ y4r next s ∧ (k : Int) ≤ s.top ∧ o.length = k ∧ Emp s.rows s.top
theorem RS.start {coef l : List Int} {next : Int} (h1 : 1 ≤ next) (h2 : next ≤ 65537) (h3 : (coef.zip l).all (q8e next) = true) (h4 : l.length ≤ 4096) : RS coef l next q8a 0 (st0 coef l next) [] := by
 have h := x5c h1 h2 h3 (by omega)
 have ha := h.hi; have hb := h.top; have hc := h.top0; have hd := h.nx; have he := h.lo
 exact ⟨rfl, by unfold q8a; omega, h, hc, rfl, k0e _ _ _⟩
theorem RS.fuel {coef l : List Int} {next : Int} {f k : Nat} {s : Ps} {o : List Int} (h : RS coef l next f k s o) : ∃ f', f = f' + 1 := by
 have h2 := h.2.1; have h3 := h.2.2.1.hi; have h4 := h.2.2.2.1
 exact ⟨f - 1, by omega⟩
theorem RS.adder {coef l : List Int} {next : Int} {f k : Nat} {s : Ps} {o : List Int} (h : RS coef l next f k s o) (hk : (k : Int) < s.top) (hl : 1 < (s.rows k).length) (hf : s.nx + 2 ≤ 65537) :
 RS coef l next (f - 1) k (j8e k s) o ∧ (k : Int) < (j8e k s).top := by
 obtain ⟨f', rfl⟩ := h.fuel
 obtain ⟨h1, h2, h3, h4, h5, h6⟩ := h
 rw [y0p hk hl hf] at h1
 have et : (q1l k s).top = max (max s.top ((k : Int) + 1)) ((k : Int) + 1 + 1) := rfl
 have en : (q1l k s).nx = s.nx + 2 := rfl
 have hps := h3.step k (by omega) hk hf
 have := h3.hi
 exact ⟨⟨h1, by show 3 * (70000 - (q1l k s).nx) + ((q1l k s).top - (k : Int)) < _; rw [et, en]; omega, hps, by show _ ≤ (q1l k s).top; rw [et]; omega, h5, h6.step hk⟩, by show _ < (q1l k s).top; rw [et]; omega⟩
theorem RS.next {coef l : List Int} {next : Int} {f k : Nat} {s : Ps} {o : List Int} (h : RS coef l next f k s o) (hk : (k : Int) < s.top) (hl : ¬ 1 < (s.rows k).length) : RS coef l next (f - 1) (k + 1) s (o ++ [(s.rows k).headD 0]) := by
 obtain ⟨f', rfl⟩ := h.fuel
 obtain ⟨h1, h2, h3, h4, h5, h6⟩ := h
 rw [j4n hk hl] at h1
 exact ⟨by exact_mod_cast h1, by push_cast; omega, h3, by omega, by simp [h5], h6⟩
theorem RS.full {coef l : List Int} {next : Int} {f k : Nat} {s : Ps} {o : List Int} (h : RS coef l next f k s o) (hk : (k : Int) < s.top) (hl : 1 < (s.rows k).length) (hf : 65537 < s.nx + 2)
 (h1 : ¬ (next < 1 ∨ 65537 < next ∨ coef.length ≠ l.length)) (h2 : (coef.zip l).all (q8e next) = true) (h3 : ¬ 4096 < l.length) : q2b coef l next = .err 2 := by
 obtain ⟨f', rfl⟩ := h.fuel
 rw [z9a h1 h2 h3, ← h.1, j2v hk hl hf]; rfl
theorem RS.done {coef l : List Int} {next : Int} {f k : Nat} {s : Ps} {o : List Int} (h : RS coef l next f k s o) (hk : ¬ (k : Int) < s.top)
 (h1 : ¬ (next < 1 ∨ 65537 < next ∨ coef.length ≠ l.length)) (h2 : (coef.zip l).all (q8e next) = true) (h3 : ¬ 4096 < l.length) : q2b coef l next = .ok o s.cs s.nx := by
 obtain ⟨f', rfl⟩ := h.fuel
 rw [z9a h1 h2 h3, ← h.1, j9j hk]; rfl
theorem RS.rows {coef l : List Int} {next : Int} {f k : Nat} {s : Ps} {o : List Int} (h : RS coef l next f k s o) (hk : (k : Int) < s.top) :
 (((psL s).set k ((s.rows k).drop 3)).length ≤ 1000000 ∧ ∀ r ∈ (psL s).set k ((s.rows k).drop 3), r.length ≤ 1000000) ∧
  (z5w ((psL s).set k ((s.rows k).drop 3)) k s.nx).length ≤ 1000000 ∧ ∀ r ∈ z5w ((psL s).set k ((s.rows k).drop 3)) k s.nx, r.length ≤ 1000000 := by
 have hp := h.2.2.1
 obtain ⟨h1, h2⟩ := x1e hp
 have hl : ((s.rows k).drop 3).length ≤ 327680 := by
  have h3 := hp.len k; have h4 := hp.hi; have h5 := hp.lo
  rw [List.length_drop]; omega
 have hs := x4o (k := k) h2 hl
 have hkk : k < (psL s).length := by rw [q6r]; omega
 refine ⟨⟨by rw [List.length_set]; omega, fun r hr => by have := hs r hr; omega⟩, by rw [x3w, List.length_set]; omega, fun r hr => by have := y4t hs k s.nx r hr; omega⟩
theorem RS.some {coef l : List Int} {next : Int} {f k : Nat} {s : Ps} {o : List Int} (h : RS coef l next f k s o) (hl : 1 < (s.rows k).length) :
 (((s.rows k).take 3).length = 2 ∨ ((s.rows k).take 3).length = 3) ∧ ∀ x ∈ (s.rows k).take 3, -100000 ≤ x ∧ x ≤ 100000 := by
 refine ⟨by rw [List.length_take]; omega, fun x hx => ?_⟩
 have := h.2.2.1.lit k x (List.mem_of_mem_take hx)
 omega
end Go.Proofs.YtkkapbnopmmmjaaGreatDoor
namespace Go.Proofs.YtkkapbnopmmmjaaGreatDoor.En
open Go Go.RowKit
def k1i : List (Nat × TD) := [(3, ⟨1, false, [.int .i64 0], [], none, 8, false, 1, 1⟩),
 (4, ⟨1, false, [.bool false], [], none, 1, true, 0, 2⟩),
 (22, ⟨1, false, [.slice none 0 0], [], some 3, 24, false, 0, 3⟩),
 (30, ⟨1, false, [.slice none 0 0], [], some 22, 24, false, 0, 0⟩),
 (135, ⟨1, false, [.pointer none], [], none, 8, false, 0, 0⟩),
 (137, ⟨3, true, [.slice none 0 0, .slice none 0 0, .int .i64 0], [(0, 30), (1, 30), (2, 3)], none, 56, false, 0, 0⟩),
 (138, ⟨1, false, [.int .u64 0], [], none, 8, false, 3, 0⟩)]
theorem z5t : q7v Tryz.prog k1i := ⟨⟨by kernel_rfl, by kernel_rfl, by kernel_rfl⟩, ⟨by kernel_rfl, by kernel_rfl, by kernel_rfl⟩, ⟨by kernel_rfl, by kernel_rfl, by kernel_rfl⟩, ⟨by kernel_rfl, by kernel_rfl, by kernel_rfl⟩, ⟨by kernel_rfl, by kernel_rfl, by kernel_rfl⟩, ⟨by kernel_rfl, by kernel_rfl, by kernel_rfl⟩, ⟨by kernel_rfl, by kernel_rfl, by kernel_rfl⟩, trivial⟩
def j2j : Cx := ⟨k1i, [], false⟩
theorem j4y : q1g Tryz.prog j2j := q1b z5t trivial
def j0p : CtF
 | [.loc 0 0, .im (.val (.int .i64 k)), .im (.val (.int .i64 x))], [.box [.row 1, .row 2, .im (.val (.int .i64 nx))], .row 22 (.intss rows), .row 22 (.intss cs)] => some (0 ≤ k ∧ k ≤ 1000000 ∧ rows.length ≤ 1000000 ∧ ∀ r ∈ rows, r.length ≤ 1000000, .tup [], [some (.box [.row 3, .row 2, .int nx]), none, some (.row 22 (.intss cs)), some (.row 22 (.intss (z5w rows k.toNat x)))])
 | _, _ => none
theorem j4a : q0o Tryz.prog 97 j0p := by
 refine Sw (cx := j2j) Tryz.f97 Tryz.func97 ?_
 intro wW wO wβ G0 args os p r outs hσ hp
 have hcx := j4y
 have hmx : Tryz.prog.follows .mixedOrders = true := by kernel_rfl
 unfold j0p at hσ
 split at hσ
 ·
  rename_i k x nx rows cs
  cases hσ
  refine ⟨by kernel_rfl, ?_⟩
  obtain ⟨hk0, hk1, hrl, hrs⟩ := hp
  refine Zs (Zb (Zn [(0, .to 0), (2, .to 2), (1, .to 10)] [0, 1, 2] (Lp (X := Nat) (fun x0 => x0 ≤ k.toNat + 1 - rows.length) (fun x0 => ([(0, .loc 0 0), (1, .int k), (2, .int x)], [(0, .box [.row 10, .row 2, .int nx]), (2, .row 22 (.intss cs)), (10, .row 22 (.intss (rows ++ List.replicate x0 [])))])) (fun x0 => k.toNat + 1 - rows.length - x0) (0) ?_ Eb (Hx 10 (congrArg (fun x => q0d.row 22 (.intss x)) (show rows = (rows ++ List.replicate 0 []) from (by simp))) Hb) fun t hI => ?_)))
  ·
   show 0 ≤ k.toNat + 1 - rows.length
   omega
  ·
   try dsimp only at hI
   have hr := z8c hrs t k.toNat
   refine Zs (Sz hcx [] [12] [] [] (Zj (p := (((rows ++ List.replicate t []).length : Int) ≤ k)) (fun h0 => ?_) fun h0 => ?_))
   ·
    simp only [List.length_append, List.length_replicate] at h0
    refine Zk (Ft (Zb (Tq hcx [(0, .to 0), (1006, .to 10)] [] [12] [10] [(((rows ++ List.replicate t []).length + ([([] : List Int)] : List (List Int)).length) * 24 ≤ 140737488355328)] ?_ (Fb (Fn [(0, .to 0), (2, .to 2), (10, .to 10)] [0, 1, 2] (Lr (t + 1) ?_ ?_ Eb (Hx 10 (congrArg (fun x => q0d.row 22 (.intss x)) (show ((rows ++ List.replicate t []) ++ [[]]) = (rows ++ List.replicate (t + 1) []) from (by rw [List.append_assoc, ← List.replicate_succ']))) Hb)))))))
    ·
     refine ap ?_ az
     (simp only [List.length_cons, List.length_nil, List.length_append, List.length_map, List.length_set, List.length_replicate]; omega)
    ·
     show (t + 1) ≤ k.toNat + 1 - rows.length
     omega
    ·
     try dsimp only
     omega
   ·
    simp only [List.length_append, List.length_replicate] at h0
    refine Ze (Fe (Fe (Fs (Ft (Td hcx hmx [0, 1, 3, 7, 0, 0, 0, 64, 192, 448, 0, 1984, 4032, 8160, 0, 16384, 65504, 131071, 262143] [(10, .to 10)] [] [12, 0, 1, 2] [] [((0 : Int) ≤ k ∧ k < ((rows ++ List.replicate t []).length : Int)), (k.toNat < (rows ++ List.replicate t []).length), ((([] : List Int).length + ((rows ++ List.replicate t []).getD k.toNat []).length) * 8 ≤ 140737488355328), ((([] ++ ((rows ++ List.replicate t []).getD k.toNat [])).length + [x].length) * 8 ≤ 140737488355328), ((0 : Int) ≤ k ∧ k < ((rows ++ List.replicate t []).length : Int)), (k.toNat < (rows ++ List.replicate t []).length)] ?_ (Fn [(0, .to 0), (2, .to 2), (10, .to 3)] [] (Rw hcx rfl [true, false, true, true] (q0r rfl (q0r rfl (q0r rfl (q0r (congrArg some (congrArg (fun x => q0d.row 22 (.intss x)) (show ((rows ++ List.replicate t []).set k.toNat (([] ++ ((rows ++ List.replicate t []).getD k.toNat [])) ++ [x])) = (z5w rows k.toNat x) from (by exact x2u (by omega))))) rfl)))))))))))
    ·
     refine ap ?_ (ap ?_ (ap ?_ (ap ?_ (ap ?_ (ap ?_ az))))) <;>
      (simp only [List.length_cons, List.length_nil, List.length_append, List.length_map, List.length_set, List.length_replicate]; omega)
 ·
  cases hσ
def z2e : Cx := ⟨k1i, [], false⟩
theorem z3j : q1g Tryz.prog z2e := q1b z5t trivial
def q8p : CtF
 | [.im (.val (.int .i64 x)), .im (.val (.bool y))], [] => some (Fit (0 - x), .int (bif y then 0 - x else x), [])
 | _, _ => none
theorem z4p : q0o Tryz.prog 134 q8p := by
 refine Sw (cx := z2e) Tryz.f134 Tryz.func134 ?_
 intro wW wO wβ G0 args os p r outs hσ hp
 have hcx := z3j
 unfold q8p at hσ
 split at hσ
 ·
  rename_i x y
  cases hσ
  refine ⟨by kernel_rfl, ?_⟩
  refine Sz hcx [] [] [] [] (Zs (Sz hcx [] [5] [1] [] (Zi (b := y) (fun h0 => ?_) fun h0 => ?_)))
  ·
   exact Sq hcx [] [4] [5, 0] [] [Fit (0 - x)] (ap (by exact hp) az) (Zr (Fr (Rv hcx (congrArg AV.int (show (0 - x) = (bif y then 0 - x else x) from (by first | (rw [hb0]; rfl) | (cases y <;> simp_all)))) [] rfl)))
  ·
   exact Zk (Ft (Sz hcx [] [4] [5, 0] [] (Zr (Rv hcx (congrArg AV.int (show x = (bif y then 0 - x else x) from (by first | (rw [hb0]; rfl) | (cases y <;> simp_all)))) [] rfl))))
 ·
  cases hσ
def j3u : Cx := ⟨k1i, [(134, q8p)], false⟩
theorem j4h : q1g Tryz.prog j3u := q1b z5t ⟨z4p, trivial⟩
def z8u : CtF
 | [.loc 0 0, .im (.ls (.ints l)), .im (.val (.int .i64 s)), .im (.val (.int .i64 c))], [.box [.row 1, .row 2, .im (.val (.int .i64 nx))], .row 22 (.intss rows), .row 22 (.intss cs)] => some ((l.length = 2 ∨ l.length = 3) ∧ (∀ x ∈ l, -100000 ≤ x ∧ x ≤ 100000) ∧ -100000 ≤ s ∧ s ≤ 100000 ∧ -100000 ≤ c ∧ c ≤ 100000 ∧ cs.length ≤ 100000000, .tup [], [some (.box [.row 1, .row 3, .int nx]), some (.row 22 (.intss rows)), none, some (.row 22 (.intss (cs ++ j2s l s c)))])
 | _, _ => none
theorem j4s : q0o Tryz.prog 98 z8u := by
 refine Sw (cx := j3u) Tryz.f98 Tryz.func98 ?_
 intro wW wO wβ G0 args os p r outs hσ hp
 have hcx := j4h
 have hmx : Tryz.prog.follows .mixedOrders = true := by kernel_rfl
 unfold z8u at hσ
 split at hσ
 ·
  rename_i l s c nx rows cs
  cases hσ
  refine ⟨by kernel_rfl, ?_⟩
  obtain ⟨hl, hlx, hs0, hs1, hc0, hc1, hcl⟩ := hp
  have hpw : ((1 : Int) * 2 ^ ((l.length : Int)).toNat) = ((2 ^ l.length : Nat) : Int) := by simp
  have hp8 : 2 ^ l.length ≤ 8 := by rcases hl with h | h <;> rw [h] <;> decide
  have hp1 : 1 ≤ 2 ^ l.length := Nat.one_le_two_pow
  have hg : ∀ k, k < l.length → -100000 ≤ l.getD k 0 ∧ l.getD k 0 ≤ 100000 := fun k h => hlx _ (getD_in h)
  refine Zs (Sz hcx [] [8] [] [] (Zb (Zn [(0, .to 0), (1, .to 1), (2, .to 20)] [0, 1, 2, 3, 8] (Lp (X := Nat) (fun x0 => x0 ≤ 2 ^ l.length) (fun x0 => ([(0, .loc 0 0), (1, .ints l), (2, .int s), (3, .int c), (8, .int (x0 : Int))], [(0, .box [.row 1, .row 20, .int nx]), (1, .row 22 (.intss rows)), (20, .row 22 (.intss (cs ++ (List.range x0).map (q9i l s))))])) (fun x0 => 2 ^ l.length - x0) (0) ?_ (Ex 8 (congrArg AV.int (show 0 = (0 : Int) from (by first | rfl | omega | (simp; done)))) Eb) (Hx 20 (congrArg (fun x => q0d.row 22 (.intss x)) (show cs = (cs ++ (List.range 0).map (q9i l s)) from (by simp))) Hb) fun n hI => ?_))))
  ·
   show 0 ≤ 2 ^ l.length
   omega
  ·
   replace hI : n ≤ 2 ^ l.length := hI
   refine Zs (Sq hcx [] [18] [] [] [inK .u64 (l.length : Int), ((0 : Int) ≤ (l.length : Int) ∧ (l.length : Int) ≤ 64 ∧ Fit (1 * 2 ^ (l.length : Int).toNat))] ?_ (Zj (p := ((n : Int) < (1 * 2 ^ (l.length : Int).toNat))) (fun h0 => ?_) fun h0 => ?_))
   ·
    refine ap (by exact ⟨by omega, by omega⟩) (ap ?_ az)
    rw [hpw]; exact ⟨by omega, by omega, by constructor <;> omega⟩
   ·
    rw [hpw] at h0
    refine Zk (Ft (Zs (Zb (Sz hcx [] [9] [18] [] (Sz hcx [] [10] [] [] (Zs (Sz hcx [] [11] [] [] (Zb (Zw 9 10 3 (.ints []) (Zn [(0, .to 0), (1, .to 1), (10, .to 10), (20, .to 20)] [0, 1, 2, 3, 8, 9, 10, 11] (Lp (X := Nat) (fun x0 => x0 ≤ l.length) (fun x0 => ([(0, .loc 0 0), (1, .ints l), (2, .int s), (3, .int c), (8, .int (n : Int)), (9, .row 10), (10, .bool (par n x0)), (11, .int (x0 : Int))], [(0, .box [.row 1, .row 20, .int nx]), (1, .row 22 (.intss rows)), (10, .row 3 (.ints (sgs l n x0))), (20, .row 22 (.intss (cs ++ (List.range n).map (q9i l s))))])) (fun x0 => l.length - x0) (0) ?_ (Ex 11 (congrArg AV.int (show 0 = (0 : Int) from (by first | rfl | omega | (simp; done)))) Eb) (Hx 10 (congrArg (fun x => q0d.row 3 (.ints x)) (show [] = (sgs l n 0) from (by simp [sgs]))) Hb) fun i hI => ?_)))))))))))
    ·
     show 0 ≤ l.length
     omega
    ·
     replace hI : i ≤ l.length := hI
     have hsl := x8v l n i
     have hli : i < l.length → Fit (0 - l.getD i 0) := fun h => by have := hg i h; constructor <;> omega
     have hbit : (q4t ((n : Int) / 2 ^ ((i : Int)).toNat) 1 == 1) = n.testBit i := k5r (by omega) i
     refine Zs (Sz hcx [] [24] [] [] (Zj (p := ((i : Int) < (l.length : Int))) (fun h1 => ?_) fun h1 => ?_))
     ·
      refine Zk (Ft (Zs (Zb (Sq hcx [] [12] [24] [] [inK .u64 (i : Int), ((0 : Int) ≤ (i : Int) ∧ (i : Int) ≤ 64)] ?_ (Sz hcx [] [10] [] [] (Tq hcx [(1008, .to 10)] [9] [12] [10] [((0 : Int) ≤ (i : Int) ∧ (i : Int) < (l.length : Int)), (Fit (0 - (l.getD i 0))), (((sgs l n i).length + [(bif ((q4t ((n : Int) / 2 ^ (i : Int).toNat) 1) == 1) then 0 - (l.getD i 0) else (l.getD i 0))].length) * 8 ≤ 140737488355328)] ?_ (Fb (Ft (Tq hcx [] [11] [] [] [Fit ((i : Int) + 1)] ?_ (Fn [(0, .to 0), (1, .to 1), (10, .to 10), (20, .to 20)] [0, 1, 2, 3, 8, 9, 10, 11] (Lr (i + 1) ?_ ?_ (Ex 10 (congrArg AV.bool (show (!((par n i) == ((q4t ((n : Int) / 2 ^ (i : Int).toNat) 1) == 1))) = (par n (i + 1)) from (by rw [hbit, x0w]; rfl))) (Ex 11 (congrArg AV.int (show ((i : Int) + 1) = ((i + 1) : Int) from (by first | rfl | omega | (simp; done)))) Eb)) (Hx 10 (congrArg (fun x => q0d.row 3 (.ints x)) (show ((sgs l n i) ++ [(bif ((q4t ((n : Int) / 2 ^ (i : Int).toNat) 1) == 1) then 0 - (l.getD i 0) else (l.getD i 0))]) = (sgs l n (i + 1)) from (by rw [hbit]; exact x7d (by omega)))) Hb))))))))))))
      ·
       refine ap (by exact ⟨by omega, by omega⟩) (ap ?_ az)
       omega
      ·
       refine ap ?_ (ap ?_ (ap ?_ az)) <;>
        first | omega | (simp only [List.length_cons, List.length_nil, List.length_append, List.length_map, List.length_set, List.length_replicate]; omega)
      ·
       refine ap ?_ az
       omega
      ·
       show (i + 1) ≤ l.length
       omega
      ·
       show l.length - (i + 1) < l.length - i
       omega
     ·
      refine Ze (Fe (Fe (Fs (Ft (Sq hcx [(1006, .to 10)] [9] [24, 10, 11] [10] [(Fit (0 - s)), (((sgs l n i).length + [(bif (!(par n i)) then 0 - s else s)].length) * 8 ≤ 140737488355328)] ?_ (Tq hcx [(0, .to 0), (1007, .to 20)] [] [9] [10, 20] [(((cs ++ (List.range n).map (q9i l s)).length + [((sgs l n i) ++ [(bif (!(par n i)) then 0 - s else s)])].length) * 24 ≤ 140737488355328)] ?_ (Fb (Ft (Tq hcx [] [8] [] [] [Fit ((n : Int) + 1)] ?_ (Fn [(0, .to 0), (1, .to 1), (20, .to 20)] [0, 1, 2, 3, 8] (Lr (n + 1) ?_ ?_ (Ex 8 (congrArg AV.int (show ((n : Int) + 1) = ((n + 1) : Int) from (by first | rfl | omega | (simp; done)))) Eb) (Hx 20 (congrArg (fun x => q0d.row 22 (.intss x)) (show ((cs ++ (List.range n).map (q9i l s)) ++ [((sgs l n i) ++ [(bif (!(par n i)) then 0 - s else s)])]) = (cs ++ (List.range (n + 1)).map (q9i l s)) from (by rw [x3q (by omega) hl (by omega), List.range_succ, List.map_append, List.append_assoc]; rfl))) Hb))))))))))))
      ·
       refine ap ?_ (ap ?_ az) <;>
        first | omega | (simp only [List.length_cons, List.length_nil, List.length_append, List.length_map, List.length_set, List.length_replicate]; omega)
      ·
       refine ap ?_ az
       (simp only [List.length_cons, List.length_nil, List.length_append, List.length_map, List.length_range]; omega)
      ·
       refine ap ?_ az
       omega
      ·
       show (n + 1) ≤ 2 ^ l.length
       omega
      ·
       try dsimp only
       omega
   ·
    rw [hpw] at h0
    have g0 := hg 0 (by omega)
    have g1 := hg 1 (by omega)
    refine Ze (Fe (Fe (Fs (Ft (Zs (Sz hcx [] [64] [18, 2, 8] [] (Zu (a := (l.length : Int)) (b := 2) (fun h2 => ?_) fun h2 => ?_)))))))
    ·
     refine Sd hcx hmx [0, 0, 2, 6, 14, 0, 32, 96, 224, 0, 512, 1536, 3584, 0, 16352, 0, 32768, 98304, 0, 262144, 1015808, 0, 2097152, 6291456, 0, 16777216, 65011712, 134217696, 268435454, 536870911, 1073741823, 2147483647] [(0, .to 0), (1028, .to 20)] [] [64, 0, 1, 3] [20] [((0 : Int) ≤ 0 ∧ 0 < (l.length : Int)), Fit (0 - (l.getD 0 0)), ((0 : Int) ≤ 1 ∧ 1 < (l.length : Int)), Fit (0 - (l.getD 1 0)), ((0 : Int) ≤ 0 ∧ 0 < (l.length : Int)), Fit (0 - c), ((0 : Int) ≤ 1 ∧ 1 < (l.length : Int)), Fit (0 - c), (((cs ++ (List.range n).map (q9i l s)).length + [[(0 - (l.getD 0 0)), (0 - (l.getD 1 0)), c], [(l.getD 0 0), (0 - c)], [(l.getD 1 0), (0 - c)]].length) * 24 ≤ 140737488355328)] ?_ (Zr (Fr (Fn [(0, .to 0), (1, .to 1), (20, .to 3)] [] (Rv hcx rfl [true, true, false, true] (q0r rfl (q0r rfl (q0r rfl (q0r (congrArg some (congrArg (fun x => q0d.row 22 (.intss x)) (show ((cs ++ (List.range n).map (q9i l s)) ++ [[(0 - (l.getD 0 0)), (0 - (l.getD 1 0)), c], [(l.getD 0 0), (0 - c)], [(l.getD 1 0), (0 - c)]]) = (cs ++ j2s l s c) from (by rw [show n = 2 ^ l.length by omega, y8l l s c (by omega), List.append_assoc])))) rfl))))))))
     ·
      refine ap ?_ (ap ?_ (ap ?_ (ap ?_ (ap ?_ (ap ?_ (ap ?_ (ap ?_ (ap ?_ az)))))))) <;>
       first | omega | (simp only [List.length_cons, List.length_nil, List.length_append, List.length_map, List.length_range]; omega)
    ·
     have g2 := hg 2 (by omega)
     refine Zk (Ft (Sd hcx hmx [0, 0, 2, 6, 14, 0, 32, 96, 224, 0, 512, 1536, 3584, 0, 16352, 0, 32768, 98304, 229376, 0, 524288, 1572864, 3670016, 0, 16744448, 0, 33554432, 100663296, 234881024, 0, 536870912, 1610612736, 3758096384, 0, 17146314752, 34359738336, 68719476734, 137438953471, 274877906943, 549755813887] [(0, .to 0), (1036, .to 20)] [] [64] [20] [((0 : Int) ≤ 0 ∧ 0 < (l.length : Int)), Fit (0 - (l.getD 0 0)), ((0 : Int) ≤ 1 ∧ 1 < (l.length : Int)), Fit (0 - (l.getD 1 0)), ((0 : Int) ≤ 0 ∧ 0 < (l.length : Int)), Fit (0 - (l.getD 0 0)), ((0 : Int) ≤ 2 ∧ 2 < (l.length : Int)), Fit (0 - (l.getD 2 0)), ((0 : Int) ≤ 1 ∧ 1 < (l.length : Int)), Fit (0 - (l.getD 1 0)), ((0 : Int) ≤ 2 ∧ 2 < (l.length : Int)), Fit (0 - (l.getD 2 0)), (((cs ++ (List.range n).map (q9i l s)).length + [[(0 - (l.getD 0 0)), (0 - (l.getD 1 0)), c], [(0 - (l.getD 0 0)), (0 - (l.getD 2 0)), c], [(0 - (l.getD 1 0)), (0 - (l.getD 2 0)), c]].length) * 24 ≤ 140737488355328)] ?_ (Td hcx hmx [0, 0, 2, 6, 14, 0, 32, 96, 0, 256, 768, 0, 2048, 8160, 0, 16384, 49152, 0, 131072, 393216, 0, 1048576, 4177920, 0, 8388608, 25165824, 0, 67108864, 201326592, 0, 536870912, 2139095040, 4294967264, 8589934590, 17179869183, 34359738367, 68719476735] [(0, .to 0), (1033, .to 20)] [] [0, 1, 3] [20] [((0 : Int) ≤ 0 ∧ 0 < (l.length : Int)), ((0 : Int) ≤ 1 ∧ 1 < (l.length : Int)), Fit (0 - c), ((0 : Int) ≤ 0 ∧ 0 < (l.length : Int)), ((0 : Int) ≤ 2 ∧ 2 < (l.length : Int)), Fit (0 - c), ((0 : Int) ≤ 1 ∧ 1 < (l.length : Int)), ((0 : Int) ≤ 2 ∧ 2 < (l.length : Int)), Fit (0 - c), ((((cs ++ (List.range n).map (q9i l s)) ++ [[(0 - (l.getD 0 0)), (0 - (l.getD 1 0)), c], [(0 - (l.getD 0 0)), (0 - (l.getD 2 0)), c], [(0 - (l.getD 1 0)), (0 - (l.getD 2 0)), c]]).length + [[(l.getD 0 0), (l.getD 1 0), (0 - c)], [(l.getD 0 0), (l.getD 2 0), (0 - c)], [(l.getD 1 0), (l.getD 2 0), (0 - c)]].length) * 24 ≤ 140737488355328)] ?_ (Fn [(0, .to 0), (1, .to 1), (20, .to 3)] [] (Rw hcx rfl [true, true, false, true] (q0r rfl (q0r rfl (q0r rfl (q0r (congrArg some (congrArg (fun x => q0d.row 22 (.intss x)) (show (((cs ++ (List.range n).map (q9i l s)) ++ [[(0 - (l.getD 0 0)), (0 - (l.getD 1 0)), c], [(0 - (l.getD 0 0)), (0 - (l.getD 2 0)), c], [(0 - (l.getD 1 0)), (0 - (l.getD 2 0)), c]]) ++ [[(l.getD 0 0), (l.getD 1 0), (0 - c)], [(l.getD 0 0), (l.getD 2 0), (0 - c)], [(l.getD 1 0), (l.getD 2 0), (0 - c)]]) = (cs ++ j2s l s c) from (by rw [show n = 2 ^ l.length by omega, j7m l s c (by omega)]; simp only [List.append_assoc])))) rfl)))))))))
     ·
      refine ap ?_ (ap ?_ (ap ?_ (ap ?_ (ap ?_ (ap ?_ (ap ?_ (ap ?_ (ap ?_ (ap ?_ (ap ?_ (ap ?_ (ap ?_ az)))))))))))) <;>
       first | omega | (simp only [List.length_cons, List.length_nil, List.length_append, List.length_map, List.length_range]; omega)
     ·
      refine ap ?_ (ap ?_ (ap ?_ (ap ?_ (ap ?_ (ap ?_ (ap ?_ (ap ?_ (ap ?_ (ap ?_ az))))))))) <;>
       first | omega | (simp only [List.length_cons, List.length_nil, List.length_append, List.length_map, List.length_range]; omega)
 ·
  cases hσ
def j2n : Cx := ⟨k1i, [(97, j0p), (98, (q2g [.id, .ld (.ints []), .id, .id] z8u))], false⟩
theorem j2w : q1g Tryz.prog j2n := q1b z5t ⟨j4a, (j4s.coe [.id, .ld (.ints []), .id, .id] rfl), trivial⟩
def z8v : CtF
 | [.im (.ls (.ints coef)), .im (.ls (.ints l)), .im (.val (.int .i64 next))], [] => some (coef.length ≤ 40 ∧ l.length ≤ 40, .tup [.ints (q2a (q2b coef l next)), .row 0, .int (j4g (q2b coef l next)), .int (q5a (q2b coef l next))], [some (.row 22 (.intss (z6f (q2b coef l next))))])
 | _, _ => none
theorem j4f : q0o Tryz.prog 45 z8v := by
 refine Sw (cx := j2n) Tryz.f45 Tryz.func45 ?_
 intro wW wO wβ G0 args os p r outs hσ hp
 have hcx := j2w
 have hmx : Tryz.prog.follows .mixedOrders = true := by kernel_rfl
 unfold z8v at hσ
 split at hσ
 ·
  rename_i coef l next
  cases hσ
  refine ⟨by kernel_rfl, ?_⟩
  obtain ⟨hm1, hm2⟩ := hp
  refine Sz hcx [] [] [] [] (Zs (Sq hcx [] [33] [] [] [((!(decide (next < 1))) = true → ((!(decide (next < 1))) = true)), ((decide (next < 1)) = false → (!(decide (next < 1))) = true), ((!((decide (next < 1)) || (decide (next > 65537)))) = true → ((!((decide (next < 1)) || (decide (next > 65537)))) = true)), ((!((decide (next < 1)) || (decide (next > 65537)))) = true → ((!((decide (next < 1)) || (decide (next > 65537)))) = true)), ((!((decide (next < 1)) || (decide (next > 65537)))) = true → ((!((decide (next < 1)) || (decide (next > 65537)))) = true)), ((!((decide (next < 1)) || (decide (next > 65537)))) = true → ((!((decide (next < 1)) || (decide (next > 65537)))) = true)), (((decide (next < 1)) || (decide (next > 65537))) = false → (!((decide (next < 1)) || (decide (next > 65537)))) = true)] ?_ (Zi (b := ((decide (next < 1)) || (decide (next > 65537))) || ((coef.length : Int) != (l.length : Int))) (fun h0 => ?_) fun h0 => ?_)))
  ·
   refine ap ?_ (ap (by exact q1v) (ap ?_ (ap ?_ (ap ?_ (ap ?_ (ap (by exact q1v) az)))))) <;>
    exact id
  ·
   try simp only [Bool.or_eq_true, Bool.or_eq_false_iff, Bool.and_eq_true, Bool.and_eq_false_iff, Bool.not_eq_true', Bool.not_eq_false', decide_eq_true_eq, decide_eq_false_iff_not, bne_iff_ne, bne_eq_false_iff_eq, beq_iff_eq, beq_eq_false_iff_ne] at h0
   have hR : q2b coef l next = .err 1 := k0l (by omega)
   exact Sz hcx [] [6, 7, 8, 9] [33, 0, 1, 2] [] (Zr (Fr (Fp 6 (.ints []) (Fw 7 700 22 (.intss []) (Fn [(700, .to 0)] [6, 7, 8, 9] (Rv hcx (congrArg AV.tup (q0c (congrArg AV.ints (show [] = (q2a (q2b coef l next)) from (by rw [hR]; rfl))) (q0c rfl (q0c (congrArg AV.int (show 0 = (j4g (q2b coef l next)) from (by rw [hR]; rfl))) (q0c (congrArg AV.int (show 1 = (q5a (q2b coef l next)) from (by rw [hR]; rfl))) rfl))))) [true] (q0r (congrArg some (congrArg (fun x => q0d.row 22 (.intss x)) (show [] = (z6f (q2b coef l next)) from (by rw [hR]; rfl)))) rfl)))))))
  ·
   try simp only [Bool.or_eq_true, Bool.or_eq_false_iff, Bool.and_eq_true, Bool.and_eq_false_iff, Bool.not_eq_true', Bool.not_eq_false', decide_eq_true_eq, decide_eq_false_iff_not, bne_iff_ne, bne_eq_false_iff_eq, beq_iff_eq, beq_eq_false_iff_ne] at h0
   refine Zk (Ft (Zs (Sz hcx [] [10] [33] [] (Zb (Lp (X := Nat) (fun x0 => x0 ≤ l.length ∧ ∀ j, j < x0 → q8e next (coef.getD j 0, l.getD j 0) = true) (fun x0 => ([(0, .ints coef), (1, .ints l), (2, .int next), (10, .int (x0 : Int))], [])) (fun x0 => l.length - x0) (0) ?_ (Ex 10 (congrArg AV.int (show 0 = (0 : Int) from (by first | rfl | omega | (simp; done)))) Eb) Hb fun i hI => ?_)))))
   ·
    exact ⟨Nat.zero_le _, fun j hj => by omega⟩
   ·
    try dsimp only at hI
    obtain ⟨hi, hok⟩ := hI
    refine Zs (Sz hcx [] [37] [] [] (Zj (p := ((i : Int) < (l.length : Int))) (fun h1 => ?_) fun h1 => ?_))
    ·
     refine Zk (Ft (Zs (Zb (Sq hcx [] [75] [37] [] [((0 : Int) ≤ (i : Int) ∧ (i : Int) < (coef.length : Int)), ((!(decide ((coef.getD i 0) < 0))) = true → ((!(decide ((coef.getD i 0) < 0))) = true)), ((!(decide ((coef.getD i 0) < 0))) = true → ((!(decide ((coef.getD i 0) < 0))) = true)), ((!(decide ((coef.getD i 0) < 0))) = true → ((0 : Int) ≤ (i : Int) ∧ (i : Int) < (coef.length : Int))), ((!(decide ((coef.getD i 0) < 0))) = true → ((!(decide ((coef.getD i 0) < 0))) = true)), ((!(decide ((coef.getD i 0) < 0))) = true → ((!(decide ((coef.getD i 0) < 0))) = true)), ((decide ((coef.getD i 0) < 0)) = false → (!(decide ((coef.getD i 0) < 0))) = true), ((!((decide ((coef.getD i 0) < 0)) || (decide ((coef.getD i 0) > 1099511627776)))) = true → ((!((decide ((coef.getD i 0) < 0)) || (decide ((coef.getD i 0) > 1099511627776)))) = true)), ((!((decide ((coef.getD i 0) < 0)) || (decide ((coef.getD i 0) > 1099511627776)))) = true → ((!((decide ((coef.getD i 0) < 0)) || (decide ((coef.getD i 0) > 1099511627776)))) = true)), ((!((decide ((coef.getD i 0) < 0)) || (decide ((coef.getD i 0) > 1099511627776)))) = true → ((0 : Int) ≤ (i : Int) ∧ (i : Int) < (l.length : Int))), ((!((decide ((coef.getD i 0) < 0)) || (decide ((coef.getD i 0) > 1099511627776)))) = true → ((!((decide ((coef.getD i 0) < 0)) || (decide ((coef.getD i 0) > 1099511627776)))) = true)), ((!((decide ((coef.getD i 0) < 0)) || (decide ((coef.getD i 0) > 1099511627776)))) = true → ((!((decide ((coef.getD i 0) < 0)) || (decide ((coef.getD i 0) > 1099511627776)))) = true)), (((decide ((coef.getD i 0) < 0)) || (decide ((coef.getD i 0) > 1099511627776))) = false → (!((decide ((coef.getD i 0) < 0)) || (decide ((coef.getD i 0) > 1099511627776)))) = true), ((!(((decide ((coef.getD i 0) < 0)) || (decide ((coef.getD i 0) > 1099511627776))) || ((l.getD i 0) == 0))) = true → ((!(((decide ((coef.getD i 0) < 0)) || (decide ((coef.getD i 0) > 1099511627776))) || ((l.getD i 0) == 0))) = true)), ((!(((decide ((coef.getD i 0) < 0)) || (decide ((coef.getD i 0) > 1099511627776))) || ((l.getD i 0) == 0))) = true → ((!(((decide ((coef.getD i 0) < 0)) || (decide ((coef.getD i 0) > 1099511627776))) || ((l.getD i 0) == 0))) = true)), ((!(((decide ((coef.getD i 0) < 0)) || (decide ((coef.getD i 0) > 1099511627776))) || ((l.getD i 0) == 0))) = true → ((0 : Int) ≤ (i : Int) ∧ (i : Int) < (l.length : Int))), ((!(((decide ((coef.getD i 0) < 0)) || (decide ((coef.getD i 0) > 1099511627776))) || ((l.getD i 0) == 0))) = true → ((!(((decide ((coef.getD i 0) < 0)) || (decide ((coef.getD i 0) > 1099511627776))) || ((l.getD i 0) == 0))) = true)), ((!(((decide ((coef.getD i 0) < 0)) || (decide ((coef.getD i 0) > 1099511627776))) || ((l.getD i 0) == 0))) = true → ((!(((decide ((coef.getD i 0) < 0)) || (decide ((coef.getD i 0) > 1099511627776))) || ((l.getD i 0) == 0))) = true)), ((!(((decide ((coef.getD i 0) < 0)) || (decide ((coef.getD i 0) > 1099511627776))) || ((l.getD i 0) == 0))) = true → ((!(((decide ((coef.getD i 0) < 0)) || (decide ((coef.getD i 0) > 1099511627776))) || ((l.getD i 0) == 0))) = true)), ((((decide ((coef.getD i 0) < 0)) || (decide ((coef.getD i 0) > 1099511627776))) || ((l.getD i 0) == 0)) = false → (!(((decide ((coef.getD i 0) < 0)) || (decide ((coef.getD i 0) > 1099511627776))) || ((l.getD i 0) == 0))) = true), ((!((((decide ((coef.getD i 0) < 0)) || (decide ((coef.getD i 0) > 1099511627776))) || ((l.getD i 0) == 0)) || (decide ((l.getD i 0) ≥ next)))) = true → ((!((((decide ((coef.getD i 0) < 0)) || (decide ((coef.getD i 0) > 1099511627776))) || ((l.getD i 0) == 0)) || (decide ((l.getD i 0) ≥ next)))) = true)), ((!((((decide ((coef.getD i 0) < 0)) || (decide ((coef.getD i 0) > 1099511627776))) || ((l.getD i 0) == 0)) || (decide ((l.getD i 0) ≥ next)))) = true → ((!((((decide ((coef.getD i 0) < 0)) || (decide ((coef.getD i 0) > 1099511627776))) || ((l.getD i 0) == 0)) || (decide ((l.getD i 0) ≥ next)))) = true)), ((!((((decide ((coef.getD i 0) < 0)) || (decide ((coef.getD i 0) > 1099511627776))) || ((l.getD i 0) == 0)) || (decide ((l.getD i 0) ≥ next)))) = true → ((0 : Int) ≤ (i : Int) ∧ (i : Int) < (l.length : Int))), ((!((((decide ((coef.getD i 0) < 0)) || (decide ((coef.getD i 0) > 1099511627776))) || ((l.getD i 0) == 0)) || (decide ((l.getD i 0) ≥ next)))) = true → ((!((((decide ((coef.getD i 0) < 0)) || (decide ((coef.getD i 0) > 1099511627776))) || ((l.getD i 0) == 0)) || (decide ((l.getD i 0) ≥ next)))) = true)), ((!((((decide ((coef.getD i 0) < 0)) || (decide ((coef.getD i 0) > 1099511627776))) || ((l.getD i 0) == 0)) || (decide ((l.getD i 0) ≥ next)))) = true → ((!((((decide ((coef.getD i 0) < 0)) || (decide ((coef.getD i 0) > 1099511627776))) || ((l.getD i 0) == 0)) || (decide ((l.getD i 0) ≥ next)))) = true)), ((!((((decide ((coef.getD i 0) < 0)) || (decide ((coef.getD i 0) > 1099511627776))) || ((l.getD i 0) == 0)) || (decide ((l.getD i 0) ≥ next)))) = true → Fit (0 - next)), ((!((((decide ((coef.getD i 0) < 0)) || (decide ((coef.getD i 0) > 1099511627776))) || ((l.getD i 0) == 0)) || (decide ((l.getD i 0) ≥ next)))) = true → ((!((((decide ((coef.getD i 0) < 0)) || (decide ((coef.getD i 0) > 1099511627776))) || ((l.getD i 0) == 0)) || (decide ((l.getD i 0) ≥ next)))) = true)), ((!((((decide ((coef.getD i 0) < 0)) || (decide ((coef.getD i 0) > 1099511627776))) || ((l.getD i 0) == 0)) || (decide ((l.getD i 0) ≥ next)))) = true → ((!((((decide ((coef.getD i 0) < 0)) || (decide ((coef.getD i 0) > 1099511627776))) || ((l.getD i 0) == 0)) || (decide ((l.getD i 0) ≥ next)))) = true)), (((((decide ((coef.getD i 0) < 0)) || (decide ((coef.getD i 0) > 1099511627776))) || ((l.getD i 0) == 0)) || (decide ((l.getD i 0) ≥ next))) = false → (!((((decide ((coef.getD i 0) < 0)) || (decide ((coef.getD i 0) > 1099511627776))) || ((l.getD i 0) == 0)) || (decide ((l.getD i 0) ≥ next)))) = true)] ?_ (Zi (b := ((((decide ((coef.getD i 0) < 0)) || (decide ((coef.getD i 0) > 1099511627776))) || ((l.getD i 0) == 0)) || (decide ((l.getD i 0) ≥ next))) || (decide ((l.getD i 0) ≤ (0 - next)))) (fun h2 => ?_) fun h2 => ?_)))))
     ·
      refine ap ?_ (ap ?_ (ap ?_ (ap ?_ (ap ?_ (ap ?_ (ap (by exact q1v) (ap ?_ (ap ?_ (ap ?_ (ap ?_ (ap ?_ (ap (by exact q1v) (ap ?_ (ap ?_ (ap ?_ (ap ?_ (ap ?_ (ap ?_ (ap (by exact q1v) (ap ?_ (ap ?_ (ap ?_ (ap ?_ (ap ?_ (ap ?_ (ap ?_ (ap ?_ (ap (by exact q1v) az)))))))))))))))))))))))))))) <;>
       first | omega | exact id
     ·
      try simp only [Bool.or_eq_true, Bool.or_eq_false_iff, Bool.and_eq_true, Bool.and_eq_false_iff, Bool.not_eq_true', Bool.not_eq_false', decide_eq_true_eq, decide_eq_false_iff_not, bne_iff_ne, bne_eq_false_iff_eq, beq_iff_eq, beq_eq_false_iff_ne] at h2
      have hR : q2b coef l next = .err 1 := x7i (i := i) (by omega) (by omega) (x6u (by omega))
      exact Sz hcx [] [6, 7, 8, 9] [75, 0, 1, 2, 10] [] (Zr (Fk (Fr (Fr (Fk (Fr (Fp 6 (.ints []) (Fw 7 700 22 (.intss []) (Fn [(700, .to 0)] [6, 7, 8, 9] (Rv hcx (congrArg AV.tup (q0c (congrArg AV.ints (show [] = (q2a (q2b coef l next)) from (by rw [hR]; rfl))) (q0c rfl (q0c (congrArg AV.int (show 0 = (j4g (q2b coef l next)) from (by rw [hR]; rfl))) (q0c (congrArg AV.int (show 1 = (q5a (q2b coef l next)) from (by rw [hR]; rfl))) rfl))))) [true] (q0r (congrArg some (congrArg (fun x => q0d.row 22 (.intss x)) (show [] = (z6f (q2b coef l next)) from (by rw [hR]; rfl)))) rfl)))))))))))
     ·
      try simp only [Bool.or_eq_true, Bool.or_eq_false_iff, Bool.and_eq_true, Bool.and_eq_false_iff, Bool.not_eq_true', Bool.not_eq_false', decide_eq_true_eq, decide_eq_false_iff_not, bne_iff_ne, bne_eq_false_iff_eq, beq_iff_eq, beq_eq_false_iff_ne] at h2
      have hoi : q8e next (coef.getD i 0, l.getD i 0) = true := j1p.2 (by omega)
      refine Zk (Fb (Ft (Tq hcx [] [10] [75] [] [Fit ((i : Int) + 1)] ?_ (Lr (i + 1) ?_ ?_ (Ex 10 (congrArg AV.int (show ((i : Int) + 1) = ((i + 1) : Int) from (by first | rfl | omega | (simp; done)))) Eb) Hb))))
      ·
       refine ap ?_ az
       omega
      ·
       exact ⟨by omega, fun j hj => (Nat.lt_succ_iff_lt_or_eq.1 hj).elim (hok j) (fun e => e ▸ hoi)⟩
      ·
       show l.length - (i + 1) < l.length - i
       omega
    ·
     have hall : (coef.zip l).all (q8e next) = true := k2q (by omega) (fun j hj => hok j (by omega))
     have hgo : ¬ (next < 1 ∨ 65537 < next ∨ coef.length ≠ l.length) := by omega
     refine Ze (Fe (Fe (Fs (Ft (Zs (Sz hcx [] [78] [37, 10] [] (Zj (p := ((l.length : Int) > 4096)) (fun h3 => ?_) fun h3 => ?_)))))))
     ·
      exfalso; omega
     ·
      refine Zk (Ft (Sz hcx [(1002, .to 681)] [11] [78, 2] [] (Zs (Sz hcx [] [12] [] [] (Zb (Zv 681 0 10 22 (.intss []) (Zv 681 1 11 22 (.intss []) (Zn [(10, .to 10), (11, .to 11), (681, .to 681)] [0, 1, 11, 12] (Lp (X := Nat) (fun x0 => x0 ≤ l.length) (fun x0 => ([(0, .ints coef), (1, .ints l), (11, .loc 681 0), (12, .int (x0 : Int))], [(10, .row 22 (.intss (fdL (fdA coef l x0)))), (11, .row 22 (.intss [])), (681, .box [.row 10, .row 11, .int next])])) (fun x0 => l.length - x0) (0) ?_ (Ex 12 (congrArg AV.int (show 0 = (0 : Int) from (by first | rfl | omega | (simp; done)))) Eb) Hb fun i2 hI => ?_)))))))))
      ·
       show 0 ≤ l.length
       omega
      ·
       replace hI : i2 ≤ l.length := hI
       have hoc : i2 < l.length → 0 ≤ coef.getD i2 0 ∧ coef.getD i2 0 ≤ 1099511627776 := fun h => by have := j1p.1 (hok i2 (by omega)); omega
       refine Zs (Sz hcx [] [85] [] [] (Zj (p := ((i2 : Int) < (l.length : Int))) (fun h4 => ?_) fun h4 => ?_))
       ·
        refine Zk (Ft (Zs (Zb (Sz hcx [] [13] [85] [] (Zb (Lp (X := Nat) (fun x0 => x0 ≤ 64) (fun x0 => ([(0, .ints coef), (1, .ints l), (11, .loc 681 0), (12, .int (i2 : Int)), (13, .int (x0 : Int))], [(10, .row 22 (.intss (fdL (feedTo (coef.getD i2 0).toNat (l.getD i2 0) (fdA coef l i2) x0)))), (11, .row 22 (.intss [])), (681, .box [.row 10, .row 11, .int next])])) (fun x0 => 64 - x0) (0) ?_ (Ex 13 (congrArg AV.int (show 0 = (0 : Int) from (by first | rfl | omega | (simp; done)))) Eb) Hb fun k hI => ?_))))))
        ·
         show 0 ≤ 64
         omega
        ·
         replace hI : k ≤ 64 := hI
         have hfl := x0x coef l (coef.getD i2 0).toNat (l.getD i2 0) (i := i2) (k := k) (by omega) (by omega)
         have hcc := hoc (by omega)
         refine Zs (Sq hcx [] [95] [] [] [((0 : Int) ≤ (i2 : Int) ∧ (i2 : Int) < (coef.length : Int)), inK .u64 (k : Int), ((0 : Int) ≤ (k : Int) ∧ (k : Int) ≤ 64)] ?_ (Zj (p := (((coef.getD i2 0) / 2 ^ (k : Int).toNat) > 0)) (fun h5 => ?_) fun h5 => ?_))
         ·
          refine ap ?_ (ap (by exact ⟨by omega, by omega⟩) (ap ?_ az)) <;>
           omega
         ·
          have hk41 := k3b (by omega) h5
          refine Zk (Ft (Zs (Zb (Sq hcx [] [106] [95] [] [((0 : Int) ≤ (i2 : Int) ∧ (i2 : Int) < (coef.length : Int)), inK .u64 (k : Int), ((0 : Int) ≤ (k : Int) ∧ (k : Int) ≤ 64)] ?_ (Zi (b := (q4t ((coef.getD i2 0) / 2 ^ (k : Int).toNat) 1) == 1) (fun h6 => ?_) fun h6 => ?_)))))
          ·
           refine ap ?_ (ap (by exact ⟨by omega, by omega⟩) (ap ?_ az)) <;>
            omega
          ·
           have hbt : (coef.getD i2 0).toNat.testBit k = true := (k5r (by omega) k).symm.trans h6
           refine Tq hcx [(1006, .to 10), (11, .to 11), (681, .to 681)] [] [106] [10] [((0 : Int) ≤ (i2 : Int) ∧ (i2 : Int) < (l.length : Int)), (0 ≤ (k : Int) ∧ (k : Int) ≤ 1000000 ∧ (fdL (feedTo (coef.getD i2 0).toNat (l.getD i2 0) (fdA coef l i2) k)).length ≤ 1000000 ∧ ∀ r ∈ (fdL (feedTo (coef.getD i2 0).toNat (l.getD i2 0) (fdA coef l i2) k)), r.length ≤ 1000000)] ?_ (Fb (Ft (Tq hcx [] [13] [] [] [Fit ((k : Int) + 1)] ?_ (Lr (k + 1) ?_ ?_ (Ex 13 (congrArg AV.int (show ((k : Int) + 1) = ((k + 1) : Int) from (by first | rfl | omega | (simp; done)))) Eb) (Hx 10 (congrArg (fun x => q0d.row 22 (.intss x)) (show (z5w (fdL (feedTo (coef.getD i2 0).toNat (l.getD i2 0) (fdA coef l i2) k)) (k : Int).toNat (l.getD i2 0)) = (fdL (feedTo (coef.getD i2 0).toNat (l.getD i2 0) (fdA coef l i2) (k + 1))) from (by first | exact x5r (y9n coef l i2 _ _ k) hbt | exact k5h hbt))) (Hx 11 (congrArg (fun x => q0d.row 22 (.intss x)) (show ([] : List (List Int)) = [] from (by first | rfl | (simp; done)))) Hb))))))
           ·
            refine ap ?_ (ap (by exact ⟨by omega, by omega, by have := hfl.1; omega, hfl.2⟩) az)
            omega
           ·
            refine ap ?_ az
            omega
           ·
            show (k + 1) ≤ 64
            omega
           ·
            show 64 - (k + 1) < 64 - k
            omega
          ·
           have hbt : (coef.getD i2 0).toNat.testBit k = false := (k5r (by omega) k).symm.trans h6
           refine Zk (Fb (Ft (Tq hcx [] [13] [106] [] [Fit ((k : Int) + 1)] ?_ (Lr (k + 1) ?_ ?_ (Ex 13 (congrArg AV.int (show ((k : Int) + 1) = ((k + 1) : Int) from (by first | rfl | omega | (simp; done)))) Eb) (Hx 10 (congrArg (fun x => q0d.row 22 (.intss x)) (show (fdL (feedTo (coef.getD i2 0).toNat (l.getD i2 0) (fdA coef l i2) k)) = (fdL (feedTo (coef.getD i2 0).toNat (l.getD i2 0) (fdA coef l i2) (k + 1))) from (by first | exact x5r (y9n coef l i2 _ _ k) hbt | exact k5h hbt))) Hb)))))
           ·
            refine ap ?_ az
            omega
           ·
            show (k + 1) ≤ 64
            omega
           ·
            show 64 - (k + 1) < 64 - k
            omega
         ·
          refine Ze (Fe (Fe (Fs (Fb (Ft (Tq hcx [] [12] [95, 13] [] [Fit ((i2 : Int) + 1)] ?_ (Lr (i2 + 1) ?_ ?_ (Ex 12 (congrArg AV.int (show ((i2 : Int) + 1) = ((i2 + 1) : Int) from (by first | rfl | omega | (simp; done)))) Eb) (Hx 10 (congrArg (fun x => q0d.row 22 (.intss x)) (show (fdL (feedTo (coef.getD i2 0).toNat (l.getD i2 0) (fdA coef l i2) k)) = (fdL (fdA coef l (i2 + 1))) from (by rw [x3h (by omega) (by omega), y6x (hoc (by omega)).1 (by omega) (by assumption)]))) Hb))))))))
          ·
           refine ap ?_ az
           omega
          ·
           show (i2 + 1) ≤ l.length
           omega
          ·
           show l.length - (i2 + 1) < l.length - i2
           omega
       ·
        refine Ze (Fe (Fe (Fs (Ft (Sz hcx [] [14] [85, 0, 1, 12] [] (Zs (Sz hcx [] [15] [] [] (Zb (Zw 14 12 3 (.ints []) (Zn [(10, .to 10), (11, .to 11), (12, .to 12), (681, .to 681)] [11, 14, 15] (Lp (X := Nat × Nat × Go.Proofs.YtkkapbnopmmmjaaGreatDoor.Ps × List Int) (fun x0 => RS coef l next x0.1 x0.2.1 x0.2.2.1 x0.2.2.2) (fun x0 => ([(11, .loc 681 0), (14, .row 12), (15, .int (x0.2.1 : Int))], [(10, .row 22 (.intss (psL x0.2.2.1))), (11, .row 22 (.intss x0.2.2.1.cs)), (12, .row 3 (.ints x0.2.2.2)), (681, .box [.row 10, .row 11, .int x0.2.2.1.nx])])) (fun x0 => x0.1) (q8a, 0, (st0 coef l next), []) ?_ (Ex 15 (congrArg AV.int (show 0 = (0 : Int) from (by first | rfl | omega | (simp; done)))) Eb) (Hx 10 (congrArg (fun x => q0d.row 22 (.intss x)) (show (fdL (fdA coef l i2)) = (psL (st0 coef l next)) from (by exact x9x (by omega) (by omega) (by omega) next))) (Hx 681 (o := .box [.row 10, .row 11, .int next]) (o' := .box [.row 10, .row 11, .int ((st0 coef l next).nx)]) (congrArg q0d.box (q0c rfl (q0c rfl (q0c (congrArg AV.int (show next = (st0 coef l next).nx from (by rfl))) rfl)))) Hb)) fun ⟨fu, kk, st, ob⟩ hI => ?_)))))))))))
        ·
         try dsimp only
         exact RS.start (by omega) (by omega) hall (by omega)
        ·
         try dsimp only at hI
         have hRS := hI
         have hol : ob.length = kk := hRS.2.2.2.2.1
         have hk4 := hRS.2.2.1.top
         have hk5 := hRS.2.2.1.hi
         have hk6 := hRS.2.2.2.1
         have hk7 := hRS.2.2.1.lo
         refine Zs (Sz hcx [] [120] [] [] (Zj (p := ((kk : Int) < ((psL st).length : Int))) (fun h7 => ?_) fun h7 => ?_))
         ·
          rw [q6r] at h7
          have hkt : (kk : Int) < st.top := by omega
          refine Zk (Ft (Zs (Zb (Zs (Zb (Lp (X := Nat × Go.Proofs.YtkkapbnopmmmjaaGreatDoor.Ps) (fun x0 => x0.1 ≤ fu ∧ RS coef l next x0.1 kk x0.2 ob ∧ (kk : Int) < x0.2.top) (fun x0 => ([(11, .loc 681 0), (14, .row 12), (15, .int (kk : Int))], [(10, .row 22 (.intss (psL x0.2))), (11, .row 22 (.intss x0.2.cs)), (12, .row 3 (.ints ob)), (681, .box [.row 10, .row 11, .int x0.2.nx])])) (fun x0 => x0.1) (fu, st) ?_ Eb Hb fun ⟨fi, si⟩ hI => ?_))))))
          ·
           try dsimp only
           exact ⟨Nat.le_refl _, hRS, hkt⟩
          ·
           try dsimp only at hI
           obtain ⟨hfi, hSI, hsk⟩ := hI
           have hgl := q6r si
           have hsk2 : kk < (psL si).length := by rw [hgl]; omega
           refine Zs (Sq hcx [] [131] [] [] [((0 : Int) ≤ (kk : Int) ∧ (kk : Int) < ((psL si).length : Int)), (kk < (psL si).length)] ?_ (Zj (p := ((((psL si).getD kk []).length : Int) > 1)) (fun h8 => ?_) fun h8 => ?_))
           ·
            refine ap ?_ (ap ?_ az) <;>
             omega
           ·
            rw [q2x hsk] at h8
            have hl2 : 1 < (si.rows kk).length := by omega
            have hrw := hSI.rows hsk
            have hsm := hSI.some hl2
            have hset := congrArg (fun z => (psL si).set kk z) (z2s (si.rows kk))
            have htk := z8t (si.rows kk)
            have hlo := hSI.2.2.1.lo
            have hnx := hSI.2.2.1.nx
            have hhi := hSI.2.2.1.hi
            have hcl := hSI.2.2.1.cl
            have htp := hSI.2.2.1.top
            have hrl := hSI.2.2.1.len kk
            refine Zk (Ft (Zb (Sq hcx [] [16] [131] [] [((0 : Int) ≤ (kk : Int) ∧ (kk : Int) < ((psL si).length : Int)), (kk < (psL si).length)] ?_ (Sq hcx [(1010, .frz)] [17] [] [] [((0 : Int) ≤ (kk : Int) ∧ (kk : Int) < ((psL si).length : Int)), (kk < (psL si).length), ((0 : Int) ≤ (min 3 (((psL si).getD kk []).length : Int)) ∧ (min 3 (((psL si).getD kk []).length : Int)) ≤ (((psL si).getD kk []).length : Int)), ((([] : List Int).length + ((((psL si).getD kk []).take ((min 3 (((psL si).getD kk []).length : Int)).toNat)).drop 0).length) * 8 ≤ 140737488355328)] ?_ (Sd hcx hmx [0, 1, 3, 7, 0, 0, 0, 64, 192, 448, 0, 1984, 4032, 0, 16320, 32736, 65535, 131071] [(10, .to 10)] [] [16] [] [((0 : Int) ≤ (kk : Int) ∧ (kk : Int) < ((psL si).length : Int)), (kk < (psL si).length), ((0 : Int) ≤ (min 3 (((psL si).getD kk []).length : Int)) ∧ (min 3 (((psL si).getD kk []).length : Int)) ≤ (((psL si).getD kk []).length : Int)), ((([] : List Int).length + ((((psL si).getD kk []).take (((psL si).getD kk []).length)).drop ((min 3 (((psL si).getD kk []).length : Int)).toNat)).length) * 8 ≤ 140737488355328), ((0 : Int) ≤ (kk : Int) ∧ (kk : Int) < ((psL si).length : Int)), (kk < (psL si).length)] ?_ (Sd hcx hmx [0, 1, 3, 7, 0, 16, 48, 112, 240, 15, 1023] [] [18, 19] [] [] [Fit (si.nx + 1)] ?_ (Sq hcx [(681, .to 681)] [] [] [] [Fit (si.nx + 2)] ?_ (Zs (Sz hcx [] [190] [] [] (Zj (p := ((si.nx + 2) > 65537)) (fun h9 => ?_) fun h9 => ?_))))))))))
            ·
             refine ap ?_ (ap ?_ az) <;>
              omega
            ·
             refine ap ?_ (ap ?_ (ap ?_ (ap ?_ az))) <;>
              first | omega | (simp only [q2x hsk, q6r, List.length_cons, List.length_nil, List.length_append, List.length_take, List.length_drop]; omega)
            ·
             refine ap ?_ (ap ?_ (ap ?_ (ap ?_ (ap ?_ (ap ?_ az))))) <;>
              first | omega | (simp only [q2x hsk, q6r, List.length_cons, List.length_nil, List.length_append, List.length_take, List.length_drop]; omega)
            ·
             refine ap ?_ az
             omega
            ·
             refine ap ?_ az
             omega
            ·
             have hR := hSI.full hsk hl2 (by omega) hgo hall (by omega)
             exact Sz hcx [] [6, 7, 8, 9] [190, 18, 19, 17, 11, 14, 15] [681, 10, 11, 12] (Zr (Fr (Fk (Fr (Fk (Fr (Fk (Fr (Fr (Fk (Fr (Fp 6 (.ints []) (Fw 7 700 22 (.intss []) (Fn [(700, .to 0)] [6, 7, 8, 9] (Rv hcx (congrArg AV.tup (q0c (congrArg AV.ints (show [] = (q2a (q2b coef l next)) from (by rw [hR]; rfl))) (q0c rfl (q0c (congrArg AV.int (show 0 = (j4g (q2b coef l next)) from (by rw [hR]; rfl))) (q0c (congrArg AV.int (show 2 = (q5a (q2b coef l next)) from (by rw [hR]; rfl))) rfl))))) [true] (q0r (congrArg some (congrArg (fun x => q0d.row 22 (.intss x)) (show [] = (z6f (q2b coef l next)) from (by rw [hR]; rfl)))) rfl))))))))))))))))
            ·
             have hSN := hSI.adder hsk hl2 (by omega)
             refine Zk (Ft (Sq hcx [(1003, .to 10), (11, .to 11), (681, .to 681)] [] [190] [10] [(0 ≤ (kk : Int) ∧ (kk : Int) ≤ 1000000 ∧ ((psL si).set kk ([] ++ ((((psL si).getD kk []).take (((psL si).getD kk []).length)).drop ((min 3 (((psL si).getD kk []).length : Int)).toNat)))).length ≤ 1000000 ∧ ∀ r ∈ ((psL si).set kk ([] ++ ((((psL si).getD kk []).take (((psL si).getD kk []).length)).drop ((min 3 (((psL si).getD kk []).length : Int)).toNat)))), r.length ≤ 1000000)] ?_ (Sq hcx [(1004, .to 10), (11, .to 11), (681, .to 681)] [] [] [10] [Fit ((kk : Int) + 1), (0 ≤ ((kk : Int) + 1) ∧ ((kk : Int) + 1) ≤ 1000000 ∧ (z5w ((psL si).set kk ([] ++ ((((psL si).getD kk []).take (((psL si).getD kk []).length)).drop ((min 3 (((psL si).getD kk []).length : Int)).toNat)))) (kk : Int).toNat si.nx).length ≤ 1000000 ∧ ∀ r ∈ (z5w ((psL si).set kk ([] ++ ((((psL si).getD kk []).take (((psL si).getD kk []).length)).drop ((min 3 (((psL si).getD kk []).length : Int)).toNat)))) (kk : Int).toNat si.nx), r.length ≤ 1000000)] ?_ (Tq hcx [(10, .to 10), (1004, .to 11), (681, .to 681)] [] [18, 19, 17] [11] [((([] ++ ((((psL si).getD kk []).take ((min 3 (((psL si).getD kk []).length : Int)).toNat)).drop 0)).length = 2 ∨ ([] ++ ((((psL si).getD kk []).take ((min 3 (((psL si).getD kk []).length : Int)).toNat)).drop 0)).length = 3) ∧ (∀ x ∈ ([] ++ ((((psL si).getD kk []).take ((min 3 (((psL si).getD kk []).length : Int)).toNat)).drop 0)), -100000 ≤ x ∧ x ≤ 100000) ∧ -100000 ≤ si.nx ∧ si.nx ≤ 100000 ∧ -100000 ≤ (si.nx + 1) ∧ (si.nx + 1) ≤ 100000 ∧ si.cs.length ≤ 100000000)] ?_ (Fb (Fn [(10, .to 10), (11, .to 11), (12, .to 12), (681, .to 681)] [11, 14, 15] (Lr ((fi - 1), (j8e (kk : Int) si)) ?_ ?_ Eb (Hx 10 (congrArg (fun x => q0d.row 22 (.intss x)) (show (z5w (z5w ((psL si).set kk ([] ++ ((((psL si).getD kk []).take (((psL si).getD kk []).length)).drop ((min 3 (((psL si).getD kk []).length : Int)).toNat)))) (kk : Int).toNat si.nx) ((kk : Int) + 1).toNat (si.nx + 1)) = (psL (j8e (kk : Int) si)) from (by rw [q2x hsk, z2s]; exact x3x hSI.2.2.2.2.2 hsk))) (Hx 11 (congrArg (fun x => q0d.row 22 (.intss x)) (show (si.cs ++ j2s ([] ++ ((((psL si).getD kk []).take ((min 3 (((psL si).getD kk []).length : Int)).toNat)).drop 0)) si.nx (si.nx + 1)) = (j8e (kk : Int) si).cs from (by rw [q2x hsk, z8t]; rfl))) (Hx 681 (o := .box [.row 10, .row 11, .int (si.nx + 2)]) (o' := .box [.row 10, .row 11, .int ((j8e (kk : Int) si).nx)]) (congrArg q0d.box (q0c rfl (q0c rfl (q0c (congrArg AV.int (show (si.nx + 2) = (j8e (kk : Int) si).nx from (by rfl))) rfl)))) Hb))))))))))
             ·
              refine ap ?_ az
              rw [q2x hsk, z2s]; exact ⟨by omega, by omega, hrw.1⟩
             ·
              refine ap ?_ (ap (by rw [q2x hsk, z2s]; exact ⟨by omega, by omega, hrw.2⟩) az)
              omega
             ·
              refine ap ?_ az
              rw [q2x hsk, z8t]; exact ⟨hsm.1, hsm.2, by omega, by omega, by omega, by omega, by omega⟩
             ·
              try dsimp only
              exact ⟨by omega, hSN.1, hSN.2⟩
             ·
              show (fi - 1) < fi
              have := hSI.fuel; obtain ⟨f9, hf9⟩ := this; omega
           ·
            rw [q2x hsk] at h8
            have hl2 : ¬ 1 < (si.rows kk).length := by omega
            refine Ze (Fe (Fe (Fs (Ft (Sz hcx [] [20] [131] [] (Zs (Sq hcx [] [213] [] [] [((0 : Int) ≤ (kk : Int) ∧ (kk : Int) < ((psL si).length : Int)), (kk < (psL si).length)] ?_ (Zu (a := (((psL si).getD kk []).length : Int)) (b := 1) (fun h10 => ?_) fun h10 => ?_))))))))
            ·
             refine ap ?_ (ap ?_ az) <;>
              omega
            ·
             rw [q2x hsk] at h10
             refine Tq hcx [] [20] [213] [] [((0 : Int) ≤ (kk : Int) ∧ (kk : Int) < ((psL si).length : Int)), (kk < (psL si).length), ((0 : Int) ≤ 0 ∧ 0 < (((psL si).getD kk []).length : Int))] ?_ (Ft (Tq hcx [(1003, .to 12)] [14] [20] [12] [((ob.length + [(((psL si).getD kk []).getD 0 0)].length) * 8 ≤ 140737488355328)] ?_ (Fb (Ft (Tq hcx [] [15] [] [] [Fit ((kk : Int) + 1)] ?_ (Fn [(10, .to 10), (11, .to 11), (12, .to 12), (681, .to 681)] [11, 14, 15] (Lr ((fi - 1), (kk + 1), si, (ob ++ [(si.rows kk).headD 0])) ?_ ?_ (Ex 15 (congrArg AV.int (show ((kk : Int) + 1) = ((kk + 1) : Int) from (by first | rfl | omega | (simp; done)))) Eb) (Hx 12 (congrArg (fun x => q0d.row 3 (.ints x)) (show (ob ++ [(((psL si).getD kk []).getD 0 0)]) = (ob ++ [(si.rows kk).headD 0]) from (by first | (rw [q2x hsk]; exact hd1 (by omega)) | exact hd0 hl2 (by omega)))) Hb))))))))
             ·
              refine ap ?_ (ap ?_ (ap ?_ az)) <;>
               first | omega | (simp only [q2x hsk, q6r, List.length_cons, List.length_nil, List.length_append, List.length_take, List.length_drop]; omega)
             ·
              refine ap ?_ az
              (simp only [List.length_cons, List.length_nil, List.length_append, List.length_map, List.length_set, List.length_replicate]; omega)
             ·
              refine ap ?_ az
              omega
             ·
              try dsimp only
              exact hSI.next hsk hl2
             ·
              show (fi - 1) < fu
              have := hSI.fuel; obtain ⟨f9, hf9⟩ := this; omega
            ·
             rw [q2x hsk] at h10
             refine Zk (Ft (Tq hcx [(1003, .to 12)] [14] [213, 20] [12] [((ob.length + [0].length) * 8 ≤ 140737488355328)] ?_ (Fb (Ft (Tq hcx [] [15] [] [] [Fit ((kk : Int) + 1)] ?_ (Fn [(10, .to 10), (11, .to 11), (12, .to 12), (681, .to 681)] [11, 14, 15] (Lr ((fi - 1), (kk + 1), si, (ob ++ [(si.rows kk).headD 0])) ?_ ?_ (Ex 15 (congrArg AV.int (show ((kk : Int) + 1) = ((kk + 1) : Int) from (by first | rfl | omega | (simp; done)))) Eb) (Hx 12 (congrArg (fun x => q0d.row 3 (.ints x)) (show (ob ++ [0]) = (ob ++ [(si.rows kk).headD 0]) from (by first | (rw [q2x hsk]; exact hd1 (by omega)) | exact hd0 hl2 (by omega)))) Hb))))))))
             ·
              refine ap ?_ az
              (simp only [List.length_cons, List.length_nil, List.length_append, List.length_map, List.length_set, List.length_replicate]; omega)
             ·
              refine ap ?_ az
              omega
             ·
              try dsimp only
              exact hSI.next hsk hl2
             ·
              show (fi - 1) < fu
              have := hSI.fuel; obtain ⟨f9, hf9⟩ := this; omega
         ·
          rw [q6r] at h7
          have hkt : ¬ (kk : Int) < st.top := by have := hRS.2.2.1.top0; omega
          have hR := hRS.done hkt hgo hall (by omega)
          exact Ze (Fe (Fe (Fs (Ft (Sd hcx hmx [0, 0, 2, 6, 14, 0, 32, 96, 224, 1, 543, 2047, 4095] [] [6, 7, 8, 9] [120, 11, 14, 15] [10, 681] [] az (Zr (Fn [(11, .to 0), (12, .frz)] [6, 7, 8, 9] (Rv hcx (congrArg AV.tup (q0c (congrArg AV.ints (show ob = (q2a (q2b coef l next)) from (by rw [hR]; rfl))) (q0c rfl (q0c (congrArg AV.int (show st.nx = (j4g (q2b coef l next)) from (by rw [hR]; rfl))) (q0c (congrArg AV.int (show 0 = (q5a (q2b coef l next)) from (by rw [hR]; rfl))) rfl))))) [true] (q0r (congrArg some (congrArg (fun x => q0d.row 22 (.intss x)) (show st.cs = (z6f (q2b coef l next)) from (by rw [hR]; rfl)))) rfl)))))))))
 ·
  cases hσ
def z3h : Cx := ⟨k1i, [], false⟩
theorem z6s : q1g Tryz.prog z3h := q1b z5t trivial
def z1b : CtF
 | [.im (.ls (.ints bits)), .im (.val (.int .i64 k))], [] => some (bits.length ≤ maxLen, .tup [.intss ((Cn.q0q bits k).1), .int ((Cn.q0q bits k).2)], [])
 | _, _ => none
theorem z6t : q0o Tryz.prog 46 z1b := by
 refine Sw (cx := z3h) Tryz.f46 Tryz.func46 ?_
 intro wW wO wβ G0 args os p r outs hσ hp
 have hcx := z6s
 unfold z1b at hσ
 split at hσ
 ·
  rename_i bits k
  cases hσ
  refine ⟨by kernel_rfl, ?_⟩
  have hm1 := hp
  unfold maxLen at hm1
  refine Sz hcx [] [] [] [] (Zs (Sq hcx [] [16] [] [] [((!(decide (k < 0))) = true → ((!(decide (k < 0))) = true)), ((decide (k < 0)) = false → (!(decide (k < 0))) = true)] ?_ (Zi (b := (decide (k < 0)) || (decide (k > 4503599627370496))) (fun h0 => ?_) fun h0 => ?_)))
  ·
   refine ap ?_ (ap (by exact q1v) az)
   exact id
  ·
   have hr := x9i (bits := bits) h0
   exact Sz hcx [] [4, 5] [16, 0, 1] [] (Zr (Fr (Fp 4 (.intss []) (Rv hcx (congrArg AV.tup (q0c (congrArg AV.intss (show [] = (Cn.q0q bits k).1 from (by first | (rw [hr]; done) | (rw [hr, q6q hk.2 (show n = 60 by omega)]; done)))) (q0c (congrArg AV.int (show 1 = (Cn.q0q bits k).2 from (by first | (rw [hr]; done) | (rw [hr, q6q hk.2 (show n = 60 by omega)]; done)))) rfl))) [] rfl))))
  ·
   have hk := k6v h0
   refine Zk (Ft (Zs (Sz hcx [] [6] [16] [] (Zb (Lp (X := Nat) (fun x0 => x0 ≤ bits.length ∧ ∀ j, j < x0 → (decide (bits.getD j 0 < -65536) || decide (bits.getD j 0 > 65536)) = false) (fun x0 => ([(0, .ints bits), (1, .int k), (6, .int (x0 : Int))], [])) (fun x0 => bits.length - x0) (0) ?_ (Ex 6 (congrArg AV.int (show 0 = (0 : Int) from (by first | rfl | omega | (simp; done)))) Eb) Hb fun i hI => ?_)))))
   ·
    exact ⟨Nat.zero_le _, fun j hj => by omega⟩
   ·
    try dsimp only at hI
    obtain ⟨hi1, hok⟩ := hI
    refine Zs (Sz hcx [] [20] [] [] (Zj (p := ((i : Int) < (bits.length : Int))) (fun h1 => ?_) fun h1 => ?_))
    ·
     refine Zk (Ft (Zs (Zb (Sq hcx [] [34] [20] [] [((0 : Int) ≤ (i : Int) ∧ (i : Int) < (bits.length : Int)), ((!(decide ((bits.getD i 0) < (-65536)))) = true → ((!(decide ((bits.getD i 0) < (-65536)))) = true)), ((!(decide ((bits.getD i 0) < (-65536)))) = true → ((!(decide ((bits.getD i 0) < (-65536)))) = true)), ((!(decide ((bits.getD i 0) < (-65536)))) = true → ((0 : Int) ≤ (i : Int) ∧ (i : Int) < (bits.length : Int))), ((!(decide ((bits.getD i 0) < (-65536)))) = true → ((!(decide ((bits.getD i 0) < (-65536)))) = true)), ((!(decide ((bits.getD i 0) < (-65536)))) = true → ((!(decide ((bits.getD i 0) < (-65536)))) = true)), ((decide ((bits.getD i 0) < (-65536))) = false → (!(decide ((bits.getD i 0) < (-65536)))) = true)] ?_ (Zi (b := (decide ((bits.getD i 0) < (-65536))) || (decide ((bits.getD i 0) > 65536))) (fun h2 => ?_) fun h2 => ?_)))))
     ·
      refine ap ?_ (ap ?_ (ap ?_ (ap ?_ (ap ?_ (ap ?_ (ap (by exact q1v) az)))))) <;>
       first | omega | exact id
     ·
      have hr := x8l (k := k) (by omega) h2
      exact Sz hcx [] [4, 5] [34, 0, 1, 6] [] (Zr (Fk (Fr (Fr (Fk (Fr (Fp 4 (.intss []) (Rv hcx (congrArg AV.tup (q0c (congrArg AV.intss (show [] = (Cn.q0q bits k).1 from (by first | (rw [hr]; done) | (rw [hr, q6q hk.2 (show n = 60 by omega)]; done)))) (q0c (congrArg AV.int (show 1 = (Cn.q0q bits k).2 from (by first | (rw [hr]; done) | (rw [hr, q6q hk.2 (show n = 60 by omega)]; done)))) rfl))) [] rfl))))))))
     ·
      have hq := h2
      refine Zk (Fb (Ft (Tq hcx [] [6] [34] [] [Fit ((i : Int) + 1)] ?_ (Lr (i + 1) ?_ ?_ (Ex 6 (congrArg AV.int (show ((i : Int) + 1) = ((i + 1) : Int) from (by first | rfl | omega | (simp; done)))) Eb) Hb))))
      ·
       refine ap ?_ az
       omega
      ·
       exact ⟨by omega, fun j hj => by rcases (by omega : j < i ∨ j = i) with h | rfl; exact hok j h; exact hq⟩
      ·
       show bits.length - (i + 1) < bits.length - i
       omega
    ·
     refine Ze (Fe (Fe (Fs (Ft (Zs (Sz hcx [] [37] [20, 6] [] (Zj (p := ((bits.length : Int) > 60)) (fun h3 => ?_) fun h3 => ?_)))))))
     ·
      have hr := x9v (k := k) hk (j8x hok (by omega)) (by have := h3; omega)
      exact Sz hcx [] [4, 5] [37, 0, 1] [] (Zr (Fr (Fp 4 (.intss []) (Rv hcx (congrArg AV.tup (q0c (congrArg AV.intss (show [] = (Cn.q0q bits k).1 from (by first | (rw [hr]; done) | (rw [hr, q6q hk.2 (show n = 60 by omega)]; done)))) (q0c (congrArg AV.int (show 2 = (Cn.q0q bits k).2 from (by first | (rw [hr]; done) | (rw [hr, q6q hk.2 (show n = 60 by omega)]; done)))) rfl))) [] rfl))))
     ·
      have h37_ : bits.length ≤ 60 := by have := h3; omega
      have hr := k4j hk (j8x hok (by omega)) h37_
      refine Zk (Ft (Sz hcx [] [7] [37] [] (Zs (Sz hcx [] [8] [] [] (Zb (Zw 7 701 22 (.intss []) (Lp (X := Nat) (fun x0 => x0 ≤ 60) (fun x0 => ([(0, .ints bits), (1, .int k), (7, .row 701), (8, .int (x0 : Int))], [(701, .row 22 (.intss (q0w bits k.toNat x0)))])) (fun x0 => 60 - x0) (0) ?_ (Ex 8 (congrArg AV.int (show 0 = (0 : Int) from (by first | rfl | omega | (simp; done)))) Eb) Hb fun n hI => ?_)))))))
      ·
       show 0 ≤ 60
       omega
      ·
       replace hI : n ≤ 60 := hI
       have hll := q8j bits k.toNat n
       refine Zs (Sz hcx [] [39] [] [] (Zj (p := ((n : Int) < 60)) (fun h4 => ?_) fun h4 => ?_))
       ·
        refine Zk (Ft (Zs (Zb (Zs (Sq hcx [] [47] [39] [] [inK .u64 (n : Int), ((0 : Int) ≤ (n : Int) ∧ (n : Int) ≤ 64)] ?_ (Zi (b := (q4t (k / 2 ^ (n : Int).toNat) 1) == 0) (fun h5 => ?_) fun h5 => ?_))))))
        ·
         refine ap ?_ (ap ?_ az) <;>
          first | omega | (constructor <;> omega)
        ·
         have hbt : k.toNat.testBit n = false := k3g hk.1 h5
         refine Ze (Fe (Fs (Ft (Tq hcx [] [8] [47] [] [Fit ((n : Int) + 1)] ?_ (Lr (n + 1) ?_ ?_ (Ex 8 (congrArg AV.int (show ((n : Int) + 1) = ((n + 1) : Int) from (by first | rfl | omega | (simp; done)))) Eb) (Hx 701 (congrArg (fun x => q0d.row 22 (.intss x)) (show (q0w bits k.toNat n) = (q0w bits k.toNat (n + 1)) from (by first | exact j1e hbt | exact j8c hbt (by omega)))) Hb))))))
         ·
          refine ap ?_ az
          omega
         ·
          show (n + 1) ≤ 60
          omega
         ·
          show 60 - (n + 1) < 60 - n
          omega
        ·
         have hbt : k.toNat.testBit n = true := k1n hk.1 h5
         refine Zk (Ft (Sz hcx [] [9] [47] [] (Zs (Sq hcx [] [58] [] [] [((decide ((n : Int) < (bits.length : Int))) = true → ((decide ((n : Int) < (bits.length : Int))) = true)), ((decide ((n : Int) < (bits.length : Int))) = true → ((decide ((n : Int) < (bits.length : Int))) = true)), ((decide ((n : Int) < (bits.length : Int))) = true → ((0 : Int) ≤ (n : Int) ∧ (n : Int) < (bits.length : Int))), ((decide ((n : Int) < (bits.length : Int))) = true → ((decide ((n : Int) < (bits.length : Int))) = true)), ((decide ((n : Int) < (bits.length : Int))) = true → ((decide ((n : Int) < (bits.length : Int))) = true)), ((decide ((n : Int) < (bits.length : Int))) = true → (decide ((n : Int) < (bits.length : Int))) = true)] ?_ (Zi (b := (decide ((n : Int) < (bits.length : Int))) && ((bits.getD n 0) != 0)) (fun h6 => ?_) fun h6 => ?_)))))
         ·
          refine ap ?_ (ap ?_ (ap ?_ (ap ?_ (ap ?_ (ap (by exact id) az))))) <;>
           first | exact id | (intro h; simp at h; omega)
         ·
          have h58_ := k6z (k := k) h6
          have h58b := k1w h6
          refine Tq hcx [(1006, .to 265)] [9] [58] [] [((0 : Int) ≤ (n : Int) ∧ (n : Int) < (bits.length : Int)), ([(bits.getD n 0)].length * 8 ≤ 140737488355328)] ?_ (Ft (Zs (Sq hcx [] [10] [] [] [Fit ((n : Int) + 1)] ?_ (Zb (Zn [(701, .to 701), (265, .to 702)] [0, 1, 7, 8, 9, 10] (Lp (X := Nat) (fun x0 => x0 ≤ max (n + 1) bits.length ∧ n + 1 ≤ x0) (fun x0 => ([(0, .ints bits), (1, .int k), (7, .row 701), (8, .int (n : Int)), (9, .row 702), (10, .int (x0 : Int))], [(701, .row 22 (.intss (q0w bits k.toNat n))), (702, .row 3 (.ints (q4h bits k.toNat n x0)))])) (fun x0 => max (n + 1) bits.length - x0) ((n + 1)) ?_ (Ex 10 (congrArg AV.int (show ((n : Int) + 1) = ((n + 1) : Int) from (by first | rfl | omega | (simp; done)))) Eb) (Hx 702 (congrArg (fun x => q0d.row 3 (.ints x)) (show [(bits.getD n 0)] = (q4h bits k.toNat n (n + 1)) from (by first | exact x6n h58_ | exact x4w h58_))) Hb) fun j hI => ?_))))))
          ·
           refine ap ?_ (ap ?_ az) <;>
            first | omega | (simp only [List.length_cons, List.length_nil, List.length_append, List.length_map, List.length_set, List.length_replicate]; omega)
          ·
           refine ap ?_ az
           omega
          ·
           exact ⟨by omega, by omega⟩
          ·
           try dsimp only at hI
           obtain ⟨hj1, hj2⟩ := hI
           have hcl := z2x bits k.toNat n j
           refine Zs (Sz hcx [] [71] [] [] (Zj (p := ((j : Int) < (bits.length : Int))) (fun h7 => ?_) fun h7 => ?_))
           ·
            refine Zk (Ft (Zs (Zb (Sq hcx [] [86] [71] [] [inK .u64 (j : Int), ((0 : Int) ≤ (j : Int) ∧ (j : Int) ≤ 64), (((q4t (k / 2 ^ (j : Int).toNat) 1) == 0) = true → (((q4t (k / 2 ^ (j : Int).toNat) 1) == 0) = true)), (((q4t (k / 2 ^ (j : Int).toNat) 1) == 0) = true → (((q4t (k / 2 ^ (j : Int).toNat) 1) == 0) = true)), (((q4t (k / 2 ^ (j : Int).toNat) 1) == 0) = true → ((0 : Int) ≤ (j : Int) ∧ (j : Int) < (bits.length : Int))), (((q4t (k / 2 ^ (j : Int).toNat) 1) == 0) = true → (((q4t (k / 2 ^ (j : Int).toNat) 1) == 0) = true)), (((q4t (k / 2 ^ (j : Int).toNat) 1) == 0) = true → (((q4t (k / 2 ^ (j : Int).toNat) 1) == 0) = true)), (((q4t (k / 2 ^ (j : Int).toNat) 1) == 0) = true → ((q4t (k / 2 ^ (j : Int).toNat) 1) == 0) = true)] ?_ (Zi (b := ((q4t (k / 2 ^ (j : Int).toNat) 1) == 0) && ((bits.getD j 0) != 0)) (fun h8 => ?_) fun h8 => ?_)))))
            ·
             refine ap ?_ (ap ?_ (ap ?_ (ap ?_ (ap ?_ (ap ?_ (ap ?_ (ap (by exact id) az))))))) <;>
              first | omega | exact id | (constructor <;> omega)
            ·
             have h86_ := k1q hk.1 h8
             refine Tq hcx [(1006, .to 702)] [9] [86] [702] [((0 : Int) ≤ (j : Int) ∧ (j : Int) < (bits.length : Int)), (((q4h bits k.toNat n j).length + [(bits.getD j 0)].length) * 8 ≤ 140737488355328)] ?_ (Fb (Ft (Tq hcx [] [10] [] [] [Fit ((j : Int) + 1)] ?_ (Fn [(701, .to 701), (702, .to 702)] [0, 1, 7, 8, 9, 10] (Lr (j + 1) ?_ ?_ (Ex 10 (congrArg AV.int (show ((j : Int) + 1) = ((j + 1) : Int) from (by first | rfl | omega | (simp; done)))) Eb) (Hx 702 (congrArg (fun x => q0d.row 3 (.ints x)) (show ((q4h bits k.toNat n j) ++ [(bits.getD j 0)]) = (q4h bits k.toNat n (j + 1)) from (by first | exact y1m h86_ (by omega) | exact y2c h86_ (by omega)))) Hb))))))
             ·
              refine ap ?_ (ap ?_ az) <;>
               first | omega | (simp only [List.length_cons, List.length_nil, List.length_append, List.length_map, List.length_set, List.length_replicate]; omega)
             ·
              refine ap ?_ az
              omega
             ·
              exact ⟨by omega, by omega⟩
             ·
              try dsimp only
              omega
            ·
             have h86_ := x5g hk.1 h8
             refine Zk (Fb (Ft (Tq hcx [] [10] [86] [] [Fit ((j : Int) + 1)] ?_ (Lr (j + 1) ?_ ?_ (Ex 10 (congrArg AV.int (show ((j : Int) + 1) = ((j + 1) : Int) from (by first | rfl | omega | (simp; done)))) Eb) (Hx 702 (congrArg (fun x => q0d.row 3 (.ints x)) (show (q4h bits k.toNat n j) = (q4h bits k.toNat n (j + 1)) from (by first | exact y1m h86_ (by omega) | exact y2c h86_ (by omega)))) Hb)))))
             ·
              refine ap ?_ az
              omega
             ·
              exact ⟨by omega, by omega⟩
             ·
              try dsimp only
              omega
           ·
            refine Ze (Fe (Fe (Fs (Ft (Tq hcx [(1003, .to 701)] [7] [71, 9, 10] [701, 702] [(((q0w bits k.toNat n).length + [(q4h bits k.toNat n j)].length) * 24 ≤ 140737488355328)] ?_ (Fb (Ft (Tq hcx [] [8] [] [] [Fit ((n : Int) + 1)] ?_ (Lr (n + 1) ?_ ?_ (Ex 8 (congrArg AV.int (show ((n : Int) + 1) = ((n + 1) : Int) from (by first | rfl | omega | (simp; done)))) Eb) (Hx 701 (congrArg (fun x => q0d.row 22 (.intss x)) (show ((q0w bits k.toNat n) ++ [(q4h bits k.toNat n j)]) = (q0w bits k.toNat (n + 1)) from (by first | exact j1e hbt | exact j8c hbt (by omega)))) Hb))))))))))
            ·
             refine ap ?_ az
             (simp only [List.length_cons, List.length_nil, List.length_append, List.length_map, List.length_set, List.length_replicate]; omega)
            ·
             refine ap ?_ az
             omega
            ·
             show (n + 1) ≤ 60
             omega
            ·
             show 60 - (n + 1) < 60 - n
             omega
         ·
          have h58_ := k1x (k := k) h6
          refine Zk (Ft (Zs (Sq hcx [] [10] [58] [] [Fit ((n : Int) + 1)] ?_ (Zb (Zw 9 702 3 (.ints []) (Zn [(701, .to 701), (702, .to 702)] [0, 1, 7, 8, 9, 10] (Lp (X := Nat) (fun x0 => x0 ≤ max (n + 1) bits.length ∧ n + 1 ≤ x0) (fun x0 => ([(0, .ints bits), (1, .int k), (7, .row 701), (8, .int (n : Int)), (9, .row 702), (10, .int (x0 : Int))], [(701, .row 22 (.intss (q0w bits k.toNat n))), (702, .row 3 (.ints (q4h bits k.toNat n x0)))])) (fun x0 => max (n + 1) bits.length - x0) ((n + 1)) ?_ (Ex 10 (congrArg AV.int (show ((n : Int) + 1) = ((n + 1) : Int) from (by first | rfl | omega | (simp; done)))) Eb) (Hx 702 (congrArg (fun x => q0d.row 3 (.ints x)) (show [] = (q4h bits k.toNat n (n + 1)) from (by first | exact x6n h58_ | exact x4w h58_))) Hb) fun j hI => ?_)))))))
          ·
           refine ap ?_ az
           omega
          ·
           exact ⟨by omega, by omega⟩
          ·
           try dsimp only at hI
           obtain ⟨hj1, hj2⟩ := hI
           have hcl := z2x bits k.toNat n j
           refine Zs (Sz hcx [] [71] [] [] (Zj (p := ((j : Int) < (bits.length : Int))) (fun h9 => ?_) fun h9 => ?_))
           ·
            refine Zk (Ft (Zs (Zb (Sq hcx [] [86] [71] [] [inK .u64 (j : Int), ((0 : Int) ≤ (j : Int) ∧ (j : Int) ≤ 64), (((q4t (k / 2 ^ (j : Int).toNat) 1) == 0) = true → (((q4t (k / 2 ^ (j : Int).toNat) 1) == 0) = true)), (((q4t (k / 2 ^ (j : Int).toNat) 1) == 0) = true → (((q4t (k / 2 ^ (j : Int).toNat) 1) == 0) = true)), (((q4t (k / 2 ^ (j : Int).toNat) 1) == 0) = true → ((0 : Int) ≤ (j : Int) ∧ (j : Int) < (bits.length : Int))), (((q4t (k / 2 ^ (j : Int).toNat) 1) == 0) = true → (((q4t (k / 2 ^ (j : Int).toNat) 1) == 0) = true)), (((q4t (k / 2 ^ (j : Int).toNat) 1) == 0) = true → (((q4t (k / 2 ^ (j : Int).toNat) 1) == 0) = true)), (((q4t (k / 2 ^ (j : Int).toNat) 1) == 0) = true → ((q4t (k / 2 ^ (j : Int).toNat) 1) == 0) = true)] ?_ (Zi (b := ((q4t (k / 2 ^ (j : Int).toNat) 1) == 0) && ((bits.getD j 0) != 0)) (fun h10 => ?_) fun h10 => ?_)))))
            ·
             refine ap ?_ (ap ?_ (ap ?_ (ap ?_ (ap ?_ (ap ?_ (ap ?_ (ap (by exact id) az))))))) <;>
              first | omega | exact id | (constructor <;> omega)
            ·
             have h86_ := k1q hk.1 h10
             refine Tq hcx [(1006, .to 702)] [9] [86] [702] [((0 : Int) ≤ (j : Int) ∧ (j : Int) < (bits.length : Int)), (((q4h bits k.toNat n j).length + [(bits.getD j 0)].length) * 8 ≤ 140737488355328)] ?_ (Fb (Ft (Tq hcx [] [10] [] [] [Fit ((j : Int) + 1)] ?_ (Fn [(701, .to 701), (702, .to 702)] [0, 1, 7, 8, 9, 10] (Lr (j + 1) ?_ ?_ (Ex 10 (congrArg AV.int (show ((j : Int) + 1) = ((j + 1) : Int) from (by first | rfl | omega | (simp; done)))) Eb) (Hx 702 (congrArg (fun x => q0d.row 3 (.ints x)) (show ((q4h bits k.toNat n j) ++ [(bits.getD j 0)]) = (q4h bits k.toNat n (j + 1)) from (by first | exact y1m h86_ (by omega) | exact y2c h86_ (by omega)))) Hb))))))
             ·
              refine ap ?_ (ap ?_ az) <;>
               first | omega | (simp only [List.length_cons, List.length_nil, List.length_append, List.length_map, List.length_set, List.length_replicate]; omega)
             ·
              refine ap ?_ az
              omega
             ·
              exact ⟨by omega, by omega⟩
             ·
              try dsimp only
              omega
            ·
             have h86_ := x5g hk.1 h10
             refine Zk (Fb (Ft (Tq hcx [] [10] [86] [] [Fit ((j : Int) + 1)] ?_ (Lr (j + 1) ?_ ?_ (Ex 10 (congrArg AV.int (show ((j : Int) + 1) = ((j + 1) : Int) from (by first | rfl | omega | (simp; done)))) Eb) (Hx 702 (congrArg (fun x => q0d.row 3 (.ints x)) (show (q4h bits k.toNat n j) = (q4h bits k.toNat n (j + 1)) from (by first | exact y1m h86_ (by omega) | exact y2c h86_ (by omega)))) Hb)))))
             ·
              refine ap ?_ az
              omega
             ·
              exact ⟨by omega, by omega⟩
             ·
              try dsimp only
              omega
           ·
            refine Ze (Fe (Fe (Fs (Ft (Tq hcx [(1003, .to 701)] [7] [71, 9, 10] [701, 702] [(((q0w bits k.toNat n).length + [(q4h bits k.toNat n j)].length) * 24 ≤ 140737488355328)] ?_ (Fb (Ft (Tq hcx [] [8] [] [] [Fit ((n : Int) + 1)] ?_ (Lr (n + 1) ?_ ?_ (Ex 8 (congrArg AV.int (show ((n : Int) + 1) = ((n + 1) : Int) from (by first | rfl | omega | (simp; done)))) Eb) (Hx 701 (congrArg (fun x => q0d.row 22 (.intss x)) (show ((q0w bits k.toNat n) ++ [(q4h bits k.toNat n j)]) = (q0w bits k.toNat (n + 1)) from (by first | exact j1e hbt | exact j8c hbt (by omega)))) Hb))))))))))
            ·
             refine ap ?_ az
             (simp only [List.length_cons, List.length_nil, List.length_append, List.length_map, List.length_set, List.length_replicate]; omega)
            ·
             refine ap ?_ az
             omega
            ·
             show (n + 1) ≤ 60
             omega
            ·
             show 60 - (n + 1) < 60 - n
             omega
       ·
        exact Ze (Fe (Fe (Fs (Ft (Sz hcx [] [4, 5] [39, 0, 1, 7, 8] [] (Zr (Fn [(701, .frz)] [4, 5] (Rv hcx (congrArg AV.tup (q0c (congrArg AV.intss (show (q0w bits k.toNat n) = (Cn.q0q bits k).1 from (by first | (rw [hr]; done) | (rw [hr, q6q hk.2 (show n = 60 by omega)]; done)))) (q0c (congrArg AV.int (show 0 = (Cn.q0q bits k).2 from (by first | (rw [hr]; done) | (rw [hr, q6q hk.2 (show n = 60 by omega)]; done)))) rfl))) [] rfl))))))))
 ·
  cases hσ
end Go.Proofs.YtkkapbnopmmmjaaGreatDoor.En
