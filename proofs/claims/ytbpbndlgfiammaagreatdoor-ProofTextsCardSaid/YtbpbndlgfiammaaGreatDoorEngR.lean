/- A reader of regions over abstract values: a range over a function. Plain lemmas; no condition beyond their own hypotheses. -/
import Derived.Test.YtbpbndlgfiammaaGreatDoorEngB
set_option linter.unusedSimpArgs false
set_option linter.unusedVariables false
set_option linter.unnecessarySimpa false
namespace Go.Proofs.YtbpbndlgfiammaaGreatDoor.En
open Go Go.RowKit

theorem mapO_id (o : AObj) : mapO id o = o := by cases o <;> simp [mapO, mapRL_id]
/-- blocks laid between two worlds join Z -/
def grew (Z : Nat → Prop) (W W' : World) (b : Nat) : Prop := Z b ∨ (W.heap.size ≤ b ∧ b < W'.heap.size)
/-- WHAT AN ITERATOR PROMISES: it calls yield at xs 0, xs 1, .. in this order, till all have come or a round says 'no more'; between two rounds it writes blocks of its own alone (Z); a round leaves those and what KR tells -/
def SeqX (P : Program) (gf : Nat) (lb : Array Value) (KR : World → World → Prop) (N : Nat) (xs : Nat → Array Value) (w : World) : Prop :=
  ∀ (l : Nat) (J Jx : Nat → (Nat → Prop) → World → Prop) (Z : Nat → Prop) (W : World), KR w W →
    (∀ i Z W W', J i Z W → Kp Z W W' → J i (grew Z W W') W') → (∀ i Z W W', Jx i Z W → Kp Z W W' → Jx i (grew Z W W') W') →
    (∀ i Z W1, i < N → J i Z W1 → YieldAt (FR none) 2 P l (xs i) W1 fun e W' =>
      ((e = .returned (.bool true) ∧ J (i + 1) Z W') ∨ (e = .returned (.bool false) ∧ Jx (i + 1) Z W')) ∧ KR W1 W' ∧ (∀ b, Z b → W'.heap[b]? = W1.heap[b]?) ∧ W1.heap.size ≤ W'.heap.size) →
    J 0 Z W → Calls P gf (#[.func (.yield l) #[] #[]] ++ lb) W fun e W' => (∃ v, e = .returned v) ∧ ((∃ Z, J N Z W') ∨ ∃ i Z, Jx i Z W')
/-- memory that the iterator reads lies in G -/
def KRG (G : Nat → Prop) (A B : World) : Prop := ∀ b, G b → B.heap[b]? = A.heap[b]?
/-- an iterator's contract in the reader's words: its captures, what it asks, how many elements, which -/
def ItF := List AV → Option (Prop × Nat × (Nat → List AV))
def SeqSound (P : Program) (gf : Nat) (σ : ItF) : Prop :=
  (∀ args W, (callFunc gf args).run P W = .ok (.enter gf args) W) ∧
  ∀ W G caps vs p N el, (∀ b, G b → b < W.heap.size) → GlOk ⟨W, G, fun _ => undef, fun _ => False⟩ → σ caps = some (p, N, el) → p → DenL ⟨W, G, fun _ => undef, fun _ => False⟩ caps vs →
    ∃ xs : Nat → Array Value, (∀ i, i < N → DenL ⟨W, G, fun _ => undef, fun _ => False⟩ (el i) (xs i).toList) ∧ SeqX P gf vs.toArray (KRG G) N xs W

/-- slots set -/
def putPs (E : Env) : List Nat → List AV → Env
  | p :: ps, x :: xs => putPs ((p, x) :: E) ps xs
  | _, _ => E
theorem putPs_den {g : Gh} {n : Nat} : ∀ {ps : List Nat} {el : List AV} {vs : List Value} {E : Env} {t : Array Value}, ps.all (fun p => Nat.blt p n) = true → t.size = n → el.length = ps.length → DenL g el vs → (∀ i, Den g (envOf E i) (t.getD i undef)) →
    (∀ i, Den g (envOf (putPs E ps el) i) (((ps.zip vs).foldl (fun t (x : Nat × Value) => t.setIfInBounds x.1 x.2) t).getD i undef)) ∧ ((ps.zip vs).foldl (fun t (x : Nat × Value) => t.setIfInBounds x.1 x.2) t).size = n
  | [], [], vs, E, t, _, ht, _, _, h => by simp only [putPs, List.zip_nil_left, List.foldl_nil]; exact ⟨h, ht⟩
  | [], _ :: _, _, _, _, _, _, hl, _, _ => by simp at hl
  | _ :: _, [], _, _, _, _, _, hl, _, _ => by simp at hl
  | p :: ps, x :: el, vs, E, t, hp, ht, hl, hd, h => by
    simp only [DenL] at hd
    obtain ⟨v, vs', rfl, h1, h2⟩ := hd
    simp only [List.all_cons, Bool.and_eq_true] at hp
    have hpn : p < t.size := by rw [ht]; have := Nat.le_of_ble_eq_true hp.1; omega
    simp only [List.zip_cons_cons, List.foldl_cons, putPs]
    refine putPs_den hp.2 (by simpa using ht) (by simpa using hl) h2 fun i => ?_
    show Den g (match look i ((p, x) :: E) with | some x => x | none => .any) _
    unfold look
    by_cases e : p = i
    · subst e
      rw [beqT]
      simp only [cond_true]
      rw [Array.getD_eq_getD_getElem?, Array.getElem?_setIfInBounds_self, if_pos hpn]
      exact h1
    · rw [beqF e]
      simp only [cond_false]
      rw [Array.getD_eq_getD_getElem?, Array.getElem?_setIfInBounds_ne e, ← Array.getD_eq_getD_getElem?]
      exact h i
/-- names m .. M - 1 lie in H, name rn does not, nor does an object speak of it -/
def hasAll (H : Hp) (m : Nat) : Nat → Bool
  | 0 => true
  | k + 1 => (look (m + k) H).isSome && hasAll H m k
def fixedOK (m M rn : Nat) (H : Hp) : Bool := hasAll H m (M - m) && !memN rn (H.map (·.1)) && H.all fun x => !memN rn x.2.refs
theorem hasAll_get {H : Hp} {m : Nat} : ∀ {k : Nat}, hasAll H m k = true → ∀ r, m ≤ r → r < m + k → (look r H).isSome = true
  | 0, _, r, h1, h2 => by omega
  | k + 1, h, r, h1, h2 => by
    simp only [hasAll, Bool.and_eq_true] at h
    rcases Nat.lt_or_ge r (m + k) with h3 | h3
    · exact hasAll_get h.2 r h1 h3
    · rw [show r = m + k by omega]; exact h.1
theorem look_none {H : Hp} {r : Nat} (h : memN r (H.map (·.1)) = false) : look r H = none := by
  cases hl : look r H with
  | none => rfl
  | some o =>
    have : memN r (H.map (·.1)) = true := memN_iff.2 (List.mem_map_of_mem (look_mem hl))
    rw [this] at h
    cases h
/-- memory between two rounds: foreign blocks are nobody's here -/
structure StJ (k : Ct) (g0 : Gh) (M : Nat) (H : Hp) (Z : Nat → Prop) (g : Gh) (W : World) : Prop where
  w : g.W = W
  sz : g0.W.heap.size ≤ W.heap.size
  keep : ∀ b, g0.G b → W.heap[b]? = g0.W.heap[b]? ∧ g.G b
  fix : ∀ r, r < M → g.U r ∧ g.β r = g0.β r
  bd : ∀ r, g.U r → r < 1000 ∧ (r < M ∨ (look r H).isSome = true)
  ok : MOk k.w0 k.G0 g (fun r => look r H)
  far : ∀ b, Z b → (g0.W.heap.size ≤ b ∧ b < W.heap.size) ∧ ¬ g.G b ∧ ∀ r o, look r H = some o → blkOf (g.β r) ≠ some b
theorem StJ.imp {k : Ct} {g0 g : Gh} {M : Nat} {H : Hp} {Z Z' : Nat → Prop} {W : World} (h : StJ k g0 M H Z g W) (hz : ∀ b, Z' b → Z b) : StJ k g0 M H Z' g W := { h with far := fun b hb => h.far b (hz b hb) }
theorem StJ.step {k : Ct} {g0 g : Gh} {M : Nat} {H : Hp} {Z : Nat → Prop} {W W' : World} (h : StJ k g0 M H Z g W) (h0 : k.w0.w.heap.size ≤ g0.W.heap.size) (hk : Kp Z W W') : ∃ g', StJ k g0 M H (grew Z W W') g' W' := by
  obtain ⟨rfl, h6, h1, h2, h3, h4, h5⟩ := h
  let g' : Gh := ⟨W', g.G, g.β, g.U⟩
  have hkG : ∀ b, g.G b → W'.heap[b]? = g.W.heap[b]? := fun b hb => hk.block b (h4.gb b hb).1 fun hz => (h5 b hz).2.1 hb
  have hle : g.le g' := ⟨hkG, fun _ hb => hb, fun _ hr => ⟨hr, rfl⟩⟩
  refine ⟨g', rfl, Nat.le_trans h6 hk.size, fun b hb => ⟨(hkG b (h1 b hb).2).trans (h1 b hb).1, (h1 b hb).2⟩, h2, h3, ⟨fun r o hr => ?_, h4.sep, h4.own, fun b hb => ⟨Nat.lt_of_lt_of_le (h4.gb b hb).1 hk.size, (h4.gb b hb).2⟩, ?_, h4.anc_up hle⟩, fun b hb => ?_⟩
  · obtain ⟨hu, ho⟩ := h4.ok r o hr
    exact ⟨hu, ho.up hle fun b hb => hk.block b (ho.lt hb) fun hz => (h5 b hz).2.2 r o hr hb⟩
  · refine ⟨hk.os.trans h4.bel.os, hk.tape.trans h4.bel.tape, hk.output.trans h4.bel.output, Nat.le_trans h4.bel.size hk.size, fun b hb hno => ?_⟩
    refine (hk.block b (Nat.lt_of_lt_of_le hb h4.bel.size) fun hz => ?_).trans (h4.bel.block b hb hno)
    have := (h5 b hz).1.1
    omega
  · rcases hb with hb | hb
    · obtain ⟨p1, p2, p3⟩ := h5 b hb
      exact ⟨⟨p1.1, Nat.lt_of_lt_of_le p1.2 hk.size⟩, p2, p3⟩
    · refine ⟨⟨Nat.le_trans h6 hb.1, hb.2⟩, fun hg => ?_, fun r o hr hbk => ?_⟩
      · have := (h4.gb b hg).1; omega
      · have := (h4.ok r o hr).2.lt hbk; omega
/-- an object's record set anew -/
theorem MOk.put {w0 : Base} {G0 : Nat → Prop} {g : Gh} {Hf : Nat → Option AObj} {r b : Nat} {o : Obj} (o' : Obj) (h : MOk w0 G0 g Hf) (hr : Hf r = some (.other b o)) :
    g.le ⟨g.W.putObj b o', g.G, g.β, g.U⟩ ∧ MOk w0 G0 ⟨g.W.putObj b o', g.G, g.β, g.U⟩ (upd Hf r (some (.other b o'))) := by
  obtain ⟨hle, hm⟩ := h.take o' hr
  obtain ⟨hv, hw⟩ := (h.ok r _ hr).2
  have hupd : ∀ x o, upd Hf r (some (.other b o')) x = some o → (x = r ∧ o = .other b o') ∨ (x ≠ r ∧ Hf x = some o) := by
    intro x o hx
    unfold upd at hx
    by_cases e' : x = r
    · subst e'; rw [beqT] at hx; cases hx; exact .inl ⟨rfl, rfl⟩
    · rw [beqF e'] at hx; exact .inr ⟨e', hx⟩
  have hold : ∀ x o, upd Hf r (some (.other b o')) x = some o → ∃ p, Hf x = some p := fun x o hx => by
    rcases hupd x o hx with ⟨rfl, _⟩ | ⟨_, hx⟩
    · exact ⟨_, hr⟩
    · exact ⟨_, hx⟩
  refine ⟨hle, fun x o hx => ?_, fun x x' o o' b hx hx' => ?_, fun x o b hx => ?_, hm.gb, hm.bel, hm.anc⟩
  · rcases hupd x o hx with ⟨rfl, rfl⟩ | ⟨hne, hx⟩
    · exact ⟨(h.ok _ _ hr).1, hv, World.putObj_heap_same (Array.getElem?_eq_some_iff.1 hw).1⟩
    · have : upd Hf r none x = some o := by unfold upd; rw [beqF hne]; exact hx
      exact hm.ok x o this
  · obtain ⟨p, hp⟩ := hold x o hx
    obtain ⟨p', hp'⟩ := hold x' o' hx'
    exact h.sep x x' p p' b hp hp'
  · obtain ⟨p, hp⟩ := hold x o hx
    exact h.own x p b hp
theorem look_cons {α : Type} {r : Nat} {x : α} {l : List (Nat × α)} (i : Nat) : look i ((r, x) :: l) = if i = r then some x else look i l := by
  show (bif Nat.beq r i then some x else look i l) = _
  by_cases e : i = r
  · subst e; rw [beqT, if_pos rfl]; rfl
  · rw [beqF (Ne.symm e), if_neg e]; rfl
theorem Sim.put {k : Ct} {E : Env} {H : Hp} {a : Act} {W : World} {r b : Nat} {o : Obj} (o' : Obj) (h : Sim k E ((r, .other b o) :: H) a W) : Sim k E ((r, .other b o') :: H) a (W.putObj b o') := by
  obtain ⟨h1, h2, g, rfl, h4, h5, h6⟩ := h
  have hr : (stOf E ((r, .other b o) :: H)).heap r = some (.other b o) := by show look r _ = _; rw [look_cons, if_pos rfl]
  obtain ⟨hle, hm⟩ := h5.put o' hr
  refine ⟨h1, h2, _, rfl, fun x hx => ?_, ?_, fun i => Den.mono hle _ _ (h6 i)⟩
  · obtain ⟨p1, p2⟩ := h4 x hx
    refine ⟨p1, p2.imp id fun h => ?_⟩
    rw [look_cons] at h ⊢
    split
    · rfl
    · rename_i hne; rw [if_neg hne] at h; exact h
  · have e : upd (stOf E ((r, .other b o) :: H)).heap r (some (.other b o')) = (stOf E ((r, .other b o') :: H)).heap := by
      funext x
      show upd (fun x => look x ((r, .other b o) :: H)) r (some (.other b o')) x = look x ((r, .other b o') :: H)
      unfold upd
      simp only [look_cons]
      by_cases e : x = r
      · subst e; simp [beqT]
      · simp [beqF e, e]
    rw [e] at hm
    exact hm
theorem Sim.other {k : Ct} {E : Env} {H : Hp} {a : Act} {W : World} {r b : Nat} {o : Obj} (h : Sim k E ((r, .other b o) :: H) a W) : W.heap[b]? = some o := by
  obtain ⟨_, _, g, rfl, _, h5, _⟩ := h
  have hr : (stOf E ((r, .other b o) :: H)).heap r = some (.other b o) := by show look r _ = _; rw [look_cons, if_pos rfl]
  exact (h5.ok r _ hr).2.2
/-- where a round is walked -/
def kR (k : Ct) (M : Nat) (Wr : World) (Or : Nat → Prop) (βr : Nat → Value) (Gr : Nat → Prop) (l : Nat) : Ct := ⟨k.P, k.cx, ⟨Wr, Or, M, βr, []⟩, Gr, k.n, some l⟩
def β1 (g : Gh) (rn l : Nat) (r : Nat) : Value := if r = rn then .pointer (some ⟨l, 0, none⟩) else g.β r
def Or1 (g : Gh) (H : Hp) (rn l : Nat) (b : Nat) : Prop := b = l ∨ ∃ r o, look r H = some o ∧ blkOf (g.β r) = some b
def g1 (g : Gh) (rn l : Nat) : Gh := ⟨g.W, g.G, β1 g rn l, fun r => g.U r ∨ r = rn⟩
theorem fixed_un {m M rn : Nat} {H : Hp} (h : fixedOK m M rn H = true) : (∀ r, m ≤ r → r < M → (look r H).isSome = true) ∧ look rn H = none ∧ ∀ r o, look r H = some o → rn ∉ o.refs := by
  simp only [fixedOK, Bool.and_eq_true, Bool.not_eq_true'] at h
  refine ⟨fun r h1 h2 => hasAll_get h.1.1 r h1 (by omega), look_none h.1.2, fun r o hr hin => ?_⟩
  have := (List.all_eq_true.1 h.2) _ (look_mem hr)
  simp only [Bool.not_eq_true'] at this
  rw [memN_iff.2 hin] at this
  cases this
section
variable {k : Ct} {g0 g : Gh} {M rn l : Nat} {H H1 : Hp} {Z : Nat → Prop} {W W3 : World}
theorem StJ.enter (h : StJ k g0 M H Z g W) (hl : Z l) {o0 : Obj} (hw : W.heap[l]? = some o0) (hfx : fixedOK k.w0.m M rn H = true) (hM : M ≤ rn) (hrn : rn < 1000) (hmM : k.w0.m ≤ M) :
    g.le (g1 g rn l) ∧ MOk ⟨W, Or1 g H rn l, M, β1 g rn l, []⟩ g.G (g1 g rn l) (fun r => look r ((rn, .other l o0) :: H)) ∧ ∀ r, (g1 g rn l).U r → r < 1000 ∧ (r < M ∨ (look r ((rn, .other l o0) :: H)).isSome = true) := by
  obtain ⟨rfl, h6, h1, h2, h3, h4, h5⟩ := h
  obtain ⟨f1, f2, f3⟩ := fixed_un hfx
  have hun : ¬ g.U rn := fun hu => by
    rcases (h3 rn hu).2 with h | h
    · omega
    · rw [f2] at h; cases h
  have hb1 : ∀ r, r ≠ rn → β1 g rn l r = g.β r := fun r hr => if_neg hr
  have hle : g.le (g1 g rn l) := ⟨fun _ _ => rfl, fun _ hb => hb, fun r hr => ⟨.inl hr, hb1 r (fun e => hun (e ▸ hr))⟩⟩
  have hlk : ∀ r o, look r ((rn, AObj.other l o0) :: H) = some o → (r = rn ∧ o = .other l o0) ∨ (r ≠ rn ∧ look r H = some o) := by
    intro r o hr
    rw [look_cons] at hr
    split at hr
    · rename_i e; cases hr; exact .inl ⟨e, rfl⟩
    · rename_i e; exact .inr ⟨e, hr⟩
  obtain ⟨z1, z2, z3⟩ := h5 l hl
  have hβrn : β1 g rn l rn = .pointer (some ⟨l, 0, none⟩) := if_pos rfl
  refine ⟨hle, ⟨fun r o hr => ?_, fun r r' o o' b hr hr' hb hb' => ?_, fun r o b hr hb => ?_, fun b hb => ⟨(h4.gb b hb).1, .inl hb⟩, Kp.refl _ _, fun r hr => ⟨.inl (h2 r hr).1, rfl⟩, h4.anc.2.up hle⟩, fun r hr => ?_⟩
  · rcases hlk r o hr with ⟨rfl, rfl⟩ | ⟨hne, hr⟩
    · exact ⟨.inr rfl, hβrn, hw⟩
    · obtain ⟨hu, ho⟩ := h4.ok r o hr
      refine ⟨.inl hu, ?_⟩
      show ObjOk _ (β1 g rn l r) o
      rw [hb1 r hne]
      exact ho.up hle fun _ _ => rfl
  · rcases hlk r o hr with ⟨rfl, rfl⟩ | ⟨hne, hrx⟩ <;> rcases hlk r' o' hr' with ⟨rfl, rfl⟩ | ⟨hne', hrx'⟩
    · rfl
    · change blkOf (β1 g _ l _) = _ at hb hb'
      rw [hβrn] at hb
      rw [hb1 _ hne'] at hb'
      cases hb
      exact absurd hb' (z3 r' o' hrx')
    · change blkOf (β1 g _ l _) = _ at hb hb'
      rw [hβrn] at hb'
      rw [hb1 _ hne] at hb
      cases hb'
      exact absurd hb (z3 r o hrx)
    · change blkOf (β1 g _ l _) = _ at hb hb'
      rw [hb1 _ hne] at hb
      rw [hb1 _ hne'] at hb'
      exact h4.sep r r' o o' b hrx hrx' hb hb'
  · change blkOf (β1 g _ l _) = _ at hb
    rcases hlk r o hr with ⟨rfl, rfl⟩ | ⟨hne, hr⟩
    · rw [hβrn] at hb
      cases hb
      exact ⟨z2, .inr (.inl rfl)⟩
    · rw [hb1 _ hne] at hb
      exact ⟨(h4.own r o b hr hb).1, .inr (.inr ⟨r, o, hr, hb⟩)⟩
  · rcases hr with hr | rfl
    · obtain ⟨p1, p2⟩ := h3 r hr
      refine ⟨p1, p2.imp id fun h => ?_⟩
      rw [look_cons]
      split
      · rfl
      · exact h
    · exact ⟨hrn, .inr (by rw [look_cons, if_pos rfl]; rfl)⟩
theorem StJ.back (h : StJ k g0 M H Z g W) (hl : Z l) (hfx : fixedOK k.w0.m M rn H = true) (hM : M ≤ rn) (hmM : k.w0.m ≤ M) (h0 : k.w0.w.heap.size ≤ g0.W.heap.size) {E1 : Env} {a : Act} {o : Obj} (o' : Obj)
    (hS : Sim (kR k M W (Or1 g H rn l) (β1 g rn l) g.G l) E1 ((rn, .other l o) :: H1) a W3) (hfx1 : fixedOK k.w0.m M rn H1 = true) :
    (∃ g4, StJ k g0 M H1 Z g4 (W3.putObj l o')) ∧ KRG g0.G W (W3.putObj l o') ∧ (∀ b, Z b → b ≠ l → (W3.putObj l o').heap[b]? = W.heap[b]?) ∧ W3.heap[l]? = some o ∧ W.heap.size ≤ W3.heap.size := by
  have hwl := hS.other
  obtain ⟨_, _, g3, rfl, b3, m3, _⟩ := hS
  obtain ⟨rfl, h6, h1, h2, h3, h4, h5⟩ := h
  obtain ⟨_, f2, _⟩ := fixed_un hfx
  obtain ⟨e1, e2, e3⟩ := fixed_un hfx1
  obtain ⟨z1, z2, z3⟩ := h5 l hl
  have hlk1 : ∀ r o', look r H1 = some o' → r ≠ rn ∧ (stOf E1 ((rn, .other l o) :: H1)).heap r = some o' := by
    intro r o' hr
    have hne : r ≠ rn := fun e => by rw [e, e2] at hr; cases hr
    refine ⟨hne, ?_⟩
    show look r ((rn, .other l o) :: H1) = some o'
    rw [look_cons, if_neg hne]
    exact hr
  have hrn3 : (stOf E1 ((rn, .other l o) :: H1)).heap rn = some (.other l o) := by show look rn _ = _; rw [look_cons, if_pos rfl]
  have hbrn : g3.β rn = .pointer (some ⟨l, 0, none⟩) := (m3.ok rn _ hrn3).2.1
  have hoG : ∀ b, Or1 g H rn l b → ¬ g.G b := by
    rintro b (rfl | ⟨r, o, hr, hb⟩)
    · exact z2
    · exact (h4.own r o b hr hb).1
  have homine : ∀ b, Or1 g H rn l b → k.w0.mine b := by
    rintro b (rfl | ⟨r, o, hr, hb⟩)
    · exact .inl (Nat.le_trans h0 z1.1)
    · exact (h4.own r o b hr hb).2
  have hmine : ∀ b, (⟨g.W, Or1 g H rn l, M, β1 g rn l, []⟩ : Base).mine b → k.w0.mine b := by
    rintro b (hb | hb)
    · exact .inl (Nat.le_trans h4.bel.size hb)
    · exact homine b hb
  have hbel3 : Kp (Or1 g H rn l) g.W g3.W := m3.bel
  have hsame : ∀ b, b < g.W.heap.size → ¬ Or1 g H rn l b → (g3.W.putObj l o').heap[b]? = g.W.heap[b]? := fun b hb hno =>
    (World.putObj_heap_other (fun e => hno (.inl e))).trans (hbel3.block b hb hno)
  have hGs : ∀ b, g.G b → (g3.W.putObj l o').heap[b]? = g.W.heap[b]? := fun b hb => hsame b (h4.gb b hb).1 (fun ho => hoG b ho hb)
  have hlG3 : ¬ g3.G l := (m3.own rn _ l hrn3 (by rw [hbrn]; rfl)).1
  let gU : Gh := ⟨g3.W, g3.G, g3.β, fun r => g3.U r ∧ r ≠ rn⟩
  let g4 : Gh := ⟨g3.W.putObj l o', fun b => g3.G b ∨ g.G b, g3.β, fun r => g3.U r ∧ r ≠ rn⟩
  have hle4 : gU.le g4 := ⟨fun b hb => World.putObj_heap_other (fun e => hlG3 (e ▸ hb)), fun _ hb => .inl hb, fun _ hr => ⟨hr, rfl⟩⟩
  have hleg : ∀ r, r < M → g3.β r = g.β r ∧ g3.U r := fun r hr => by
    obtain ⟨q1, q2⟩ := m3.anc.1 r hr
    refine ⟨q2.trans ?_, q1⟩
    exact if_neg (by omega)
  have hZs : ∀ b, Z b → b ≠ l → b < g.W.heap.size ∧ ¬ Or1 g H rn l b := fun b hb hne => by
    obtain ⟨p1, p2, p3⟩ := h5 b hb
    refine ⟨p1.2, ?_⟩
    rintro (e | ⟨r, o, hr, hbk⟩)
    · exact hne e
    · exact p3 r o hr hbk
  have hsz : (g3.W.putObj l o').heap.size = g3.W.heap.size := by simp
  refine ⟨⟨g4, rfl, ?_, fun b hb => ⟨(hGs b (h1 b hb).2).trans (h1 b hb).1, .inr (h1 b hb).2⟩, fun r hr => ⟨⟨(hleg r hr).2, by omega⟩, (hleg r hr).1.trans (h2 r hr).2⟩, fun r hr => ?_, ⟨fun r o hr => ?_, fun r r' o o' b hr hr' => m3.sep r r' o o' b (hlk1 r o hr).2 (hlk1 r' o' hr').2, fun r o b hr hb => ?_, fun b hb => ?_, ?_, fun r hr => ?_, fun kk xs hk => ?_⟩, fun b hb => ?_⟩, ?_, fun b hb hne => hsame b (hZs b hb hne).1 (hZs b hb hne).2, hwl, hbel3.size⟩
  · rw [hsz]; exact Nat.le_trans h6 hbel3.size
  · obtain ⟨p1, p2⟩ := b3 r hr.1
    refine ⟨p1, p2.imp id fun h => ?_⟩
    rw [look_cons, if_neg hr.2] at h
    exact h
  · obtain ⟨hne, hr3⟩ := hlk1 r o hr
    obtain ⟨hu, ho⟩ := m3.ok r o hr3
    refine ⟨⟨hu, hne⟩, ?_⟩
    have hmap := ho.map (g := g3) (g' := gU) (f := id) rfl rfl fun x hx hxu => ⟨⟨hxu, fun e => e3 r o hr (e ▸ hx)⟩, rfl⟩
    rw [mapO_id] at hmap
    exact hmap.up hle4 fun b hb => World.putObj_heap_other fun e => hne (m3.sep r rn o _ l hr3 hrn3 (e ▸ hb) (by rw [hbrn]; rfl))
  · obtain ⟨hne, hr3⟩ := hlk1 r o hr
    obtain ⟨q1, q2⟩ := m3.own r o b hr3 hb
    refine ⟨fun hg => ?_, hmine b q2⟩
    rcases hg with hg | hg
    · exact q1 hg
    · rcases q2 with q2 | q2
      · have := (h4.gb b hg).1
        exact absurd (show g.W.heap.size ≤ b from q2) (by omega)
      · exact hoG b q2 hg
  · rw [hsz]
    rcases hb with hb | hb
    · obtain ⟨q1, q2⟩ := m3.gb b hb
      refine ⟨q1, ?_⟩
      rcases q2 with q2 | q2
      · exact (h4.gb b q2).2
      · exact .inr (hmine b q2)
    · exact ⟨Nat.lt_of_lt_of_le (h4.gb b hb).1 hbel3.size, (h4.gb b hb).2⟩
  · refine ⟨hbel3.os.trans h4.bel.os, hbel3.tape.trans h4.bel.tape, hbel3.output.trans h4.bel.output, by rw [hsz]; exact Nat.le_trans h4.bel.size hbel3.size, fun b hb hno => ?_⟩
    refine (hsame b (Nat.lt_of_lt_of_le hb h4.bel.size) fun ho => ?_).trans (h4.bel.block b hb hno)
    rcases homine b ho with h | h
    · exact absurd hb (Nat.not_lt.2 h)
    · exact hno h
  · obtain ⟨q1, q2⟩ := hleg r (by omega)
    exact ⟨⟨q2, by omega⟩, q1.trans (h4.anc.1 r hr).2⟩
  · obtain ⟨q1, q2⟩ := h4.anc.2 kk xs hk
    exact ⟨.inr q1, q2.keep (hGs kk q1)⟩
  · obtain ⟨p1, p2, p3⟩ := h5 b hb
    refine ⟨⟨p1.1, by rw [hsz]; exact Nat.lt_of_lt_of_le p1.2 hbel3.size⟩, ?_, fun r o hr hbk => ?_⟩
    · rintro (hg | hg)
      · by_cases hbl : b = l
        · exact hlG3 (hbl ▸ hg)
        · rcases (m3.gb b hg).2 with q | q | q
          · exact p2 q
          · exact absurd (show g.W.heap.size ≤ b from q) (by omega)
          · exact (hZs b hb hbl).2 q
      · exact p2 hg
    · obtain ⟨hne, hr3⟩ := hlk1 r o hr
      by_cases hbl : b = l
      · subst hbl
        exact hne (m3.sep r rn o _ b hr3 hrn3 hbk (by rw [hbrn]; rfl))
      · rcases (m3.own r o b hr3 hbk).2 with q | q
        · exact absurd (show g.W.heap.size ≤ b from q) (by omega)
        · exact (hZs b hb hbl).2 q
  · exact fun b hb => hGs b (h1 b hb).2
end
/-- how the assignment to the loop's variables ends -/
def RA (kr : Ct) (E : Env) (H : Hp) : Exit → Act → World → Prop
  | .normal, a, W => Sim kr E H a W
  | _, _, _ => False
/-- how a round ends -/
def RQ {X : Type} (k : Ct) (M rn : Nat) (I : Nat → X → Prop) (HL : Nat → X → Hp) (C : Exit → Hp → Prop) (i l : Nat) (r1 : Loop) (kr : Ct) : Exit → Act → World → Prop
  | .normal, a, W => ∃ y, I (i + 1) y ∧ Sim kr [] ((rn, .other l (.loop r1)) :: HL (i + 1) y) a W
  | .exit id, a, W => ∃ H1, C (.exit id) H1 ∧ fixedOK k.w0.m M rn H1 = true ∧ Sim kr [] ((rn, .other l (.loop r1)) :: H1) a W
  | .ret, a, W => ∃ H1, C .ret H1 ∧ fixedOK k.w0.m M rn H1 = true ∧ Sim kr [] ((rn, .other l (.loop r1)) :: H1) a W
  | _, _, _ => False
def exitCode : Exit → Option Code
  | .ret => some .ret
  | .exit id => some (.exit id)
  | _ => none
theorem foldl_zip (ps : Array Nat) (xs : Array Value) (t : Array Value) : (ps.zip xs).foldl (fun tmps (x : Nat × Value) => tmps.setIfInBounds x.1 x.2) t = (ps.toList.zip xs.toList).foldl (fun tmps (x : Nat × Value) => tmps.setIfInBounds x.1 x.2) t := by
  rw [← Array.foldl_toList, Array.toList_zip]
section
variable {X : Type} {k : Ct} {E : Env} {ps : Array Nat} {assign body : Code} {N M rn : Nat} {el : Nat → List AV} (I : Nat → X → Prop) (HL : Nat → X → Hp) (EA : Nat → X → Env) (HA : Nat → X → Hp) (C : Exit → Hp → Prop)
theorem refs_lt {E : Env} {M : Nat} (h : (E.all fun x => x.2.refs.all fun r => Nat.blt r M) = true) (i : Nat) : ∀ r ∈ (envOf E i).refs, r < M := by
  intro r hr
  unfold envOf at hr
  cases hl : look i E with
  | none => rw [hl] at hr; simp [AV.refs] at hr
  | some x =>
    rw [hl] at hr
    have := (List.all_eq_true.1 ((List.all_eq_true.1 h) _ (look_mem hl))) r hr
    have := Nat.le_of_ble_eq_true this
    omega
/-- slots that speak of names below M alone -/
theorem env_up {g0 g : Gh} {E : Env} {M : Nat} {t : Array Value} (hE : (E.all fun x => x.2.refs.all fun r => Nat.blt r M) = true) (henv : ∀ i, Den g0 (envOf E i) (t.getD i undef)) (hk : ∀ b, g0.G b → g.W.heap[b]? = g0.W.heap[b]? ∧ g.G b) (hf : ∀ r, r < M → g.U r ∧ g.β r = g0.β r) :
    ∀ i, Den g (envOf E i) (t.getD i undef) := fun i => by
  let gm : Gh := ⟨g0.W, g0.G, g0.β, fun r => g0.U r ∧ r < M⟩
  have h1 := Den.map (f := id) (g := g0) (g' := gm) rfl rfl _ _ (fun r hr hu => ⟨⟨hu, refs_lt hE i r hr⟩, rfl⟩) (henv i)
  rw [mapR_id] at h1
  exact Den.mono (g := gm) (g' := g) ⟨fun b hb => (hk b hb).1, fun b hb => (hk b hb).2, fun r hr => hf r hr.2⟩ _ _ h1
theorem range_core (hM : M ≤ rn) (hrn : rn < 1000) (hmM : k.w0.m ≤ M) (hE : (E.all fun x => x.2.refs.all fun r => Nat.blt r M) = true) (hpn : (ps.toList.all fun p => Nat.blt p k.n) = true)
    (hel : ∀ i, i < N → (el i).length = ps.size) (hfx : ∀ i x, I i x → fixedOK k.w0.m M rn (HL i x) = true)
    (hA : ∀ Wr Or βr Gr l r0 i x, i < N → I i x → Tri (kR k M Wr Or βr Gr l) (putPs E ps.toList (el i)) ((rn, .other l (.loop r0)) :: HL i x) assign (RA (kR k M Wr Or βr Gr l) (EA i x) ((rn, .other l (.loop r0)) :: HA i x)))
    (hB : ∀ Wr Or βr Gr l r1 i x, i < N → I i x → Tri (kR k M Wr Or βr Gr l) (EA i x) ((rn, .other l (.loop r1)) :: HA i x) body (RQ k M rn I HL C i l r1 (kR k M Wr Or βr Gr l)))
    {g0 : Gh} (h0 : k.w0.w.heap.size ≤ g0.W.heap.size) {a : Act} (ha : a.tmps.size = k.n) (henv : ∀ i, Den g0 (envOf E i) (a.tmps.getD i undef))
    {gf : Nat} {lb : Array Value} {xs : Nat → Array Value} (hseq : SeqX k.P gf lb (KRG g0.G) N xs g0.W) (hxs : ∀ i, i < N → DenL ⟨g0.W, g0.G, fun _ => undef, fun _ => False⟩ (el i) (xs i).toList)
    (S : Nat → Prop) {W1 : World} {l : Nat} {fn D : Nat} (rec : LoopState → Option Code → Loop) (hrec : rec = fun st pe => { state := st, pending := pe, fn, tmps := a.tmps, params := ps, assign, body, defers := D })
    (hl1 : W1.heap[l]? = some (.loop (rec .ready none))) (hJ0 : ∃ x g, I 0 x ∧ StJ k g0 M (HL 0 x) (fun b => b = l ∨ S b) g W1) (hSl : ¬ S l) :
    Calls k.P gf (#[.func (.yield l) #[] #[]] ++ lb) W1 fun e W' => (∃ v, e = .returned v) ∧
      ((∃ x g, I N x ∧ StJ k g0 M (HL N x) (fun b => b = l ∨ S b) g W' ∧ W'.heap[l]? = some (.loop (rec .ready none)) ∧ ∀ b, S b → W'.heap[b]? = W1.heap[b]?) ∨
       (∃ e' c H1 g, exitCode e' = some c ∧ C e' H1 ∧ fixedOK k.w0.m M rn H1 = true ∧ StJ k g0 M H1 (fun b => b = l ∨ S b) g W' ∧ W'.heap[l]? = some (.loop (rec .done (some c))) ∧ ∀ b, S b → W'.heap[b]? = W1.heap[b]?)) := by
  let Zl : (Nat → Prop) → Nat → Prop := fun Z b => Z b ∨ b = l ∨ S b
  let Rest : (Nat → Prop) → World → Loop → Prop := fun Z W r => W.heap[l]? = some (.loop r) ∧ ¬ Z l ∧ ∀ b, S b → ¬ Z b ∧ W.heap[b]? = W1.heap[b]?
  have hlt1 : l < W1.heap.size := (Array.getElem?_eq_some_iff.1 hl1).1
  have hSW : ∀ b, S b → b < W1.heap.size := fun b hb => by obtain ⟨x, g, _, hst⟩ := hJ0; exact (hst.far b (.inr hb)).1.2
  have rest_step : ∀ Z W W' r, W1.heap.size ≤ W.heap.size → Rest Z W r → Kp Z W W' → Rest (grew Z W W') W' r := by
    rintro Z W W' r hsz ⟨h1, h2, h3⟩ hk
    refine ⟨(hk.block l (by omega) h2).trans h1, ?_, fun b hb => ⟨?_, (hk.block b (by have := hSW b hb; omega) (h3 b hb).1).trans (h3 b hb).2⟩⟩
    · rintro (h | h)
      · exact h2 h
      · omega
    · rintro (h | h)
      · exact (h3 b hb).1 h
      · have := hSW b hb; omega
  have st_step : ∀ (H : Hp) Z W W' g, StJ k g0 M H (Zl Z) g W → Kp Z W W' → ∃ g', StJ k g0 M H (Zl (grew Z W W')) g' W' := by
    intro H Z W W' g hst hk
    obtain ⟨g', hst'⟩ := hst.step (W' := W') h0 ⟨hk.os, hk.tape, hk.output, hk.size, fun b hb hno => hk.block b hb fun hz => hno (.inl hz)⟩
    refine ⟨g', hst'.imp fun b hb => ?_⟩
    rcases hb with (hb | hb) | hb
    · exact .inl (.inl hb)
    · exact .inr hb
    · exact .inl (.inr hb)
  refine Calls.mono (hseq l (fun i Z W => (∃ x g, I i x ∧ StJ k g0 M (HL i x) (Zl Z) g W) ∧ W1.heap.size ≤ W.heap.size ∧ Rest Z W (rec .ready none))
    (fun _ Z W => ∃ e' c H1 g, exitCode e' = some c ∧ C e' H1 ∧ fixedOK k.w0.m M rn H1 = true ∧ StJ k g0 M H1 (Zl Z) g W ∧ W1.heap.size ≤ W.heap.size ∧ Rest Z W (rec .done (some c))) (fun _ => False) W1 ?_ ?_ ?_ ?_ ?_) ?_
  · intro b hb
    obtain ⟨x, g, _, hst⟩ := hJ0
    exact (hst.keep b hb).1
  · rintro i Z W W' ⟨⟨x, g, hI, hst⟩, hsz, hr⟩ hk
    obtain ⟨g', hst'⟩ := st_step _ Z W W' g hst hk
    exact ⟨⟨x, g', hI, hst'⟩, Nat.le_trans hsz hk.size, rest_step Z W W' _ hsz hr hk⟩
  · rintro i Z W W' ⟨e', c, H1, g, hc, hC, hf, hst, hsz, hr⟩ hk
    obtain ⟨g', hst'⟩ := st_step _ Z W W' g hst hk
    exact ⟨e', c, H1, g', hc, hC, hf, hst', Nat.le_trans hsz hk.size, rest_step Z W W' _ hsz hr hk⟩
  · rintro i Z W hi ⟨⟨x, g, hI, hst⟩, hsz, hl, hzl, hSb⟩
    have hlen : (xs i).size = ps.size := by have := (hxs i hi).length; rw [hel i hi] at this; simpa using this
    have hy := run_yield (P := k.P) (args := xs i) hl (by rw [hrec]; exact hlen)
    rw [hrec] at hy
    have hfi := hfx i x hI
    obtain ⟨hle, hm1, hU1⟩ := hst.enter (l := l) (.inr (.inl rfl)) hl hfi hM hrn hmM
    obtain ⟨hg1, hk1, hf1⟩ : (g1 g rn l).W = W ∧ (∀ b, g0.G b → (g1 g rn l).W.heap[b]? = g0.W.heap[b]? ∧ (g1 g rn l).G b) ∧ ∀ r, r < M → (g1 g rn l).U r ∧ (g1 g rn l).β r = g0.β r :=
      ⟨hst.w, fun b hb => by obtain ⟨q1, q2⟩ := hst.keep b hb; exact ⟨by show g.W.heap[b]? = _; rw [hst.w]; exact q1, q2⟩, fun r hr => ⟨.inl (hst.fix r hr).1, (if_neg (by omega)).trans (hst.fix r hr).2⟩⟩
    have hdx : DenL (g1 g rn l) (el i) (xs i).toList := DenL.mono (g := ⟨g0.W, g0.G, fun _ => undef, fun _ => False⟩) (g' := g1 g rn l) ⟨fun b hb => (hk1 b hb).1, fun b hb => (hk1 b hb).2, fun r hr => False.elim hr⟩ _ _ (hxs i hi)
    obtain ⟨hset, hsize⟩ := putPs_den (g := g1 g rn l) (n := k.n) (E := E) (t := a.tmps) hpn ha (by simpa using hel i hi) hdx (env_up hE henv hk1 hf1)
    refine ⟨fn, _, assign, body, hy, roundIn_of_wpIn (F := FR none) trivial ?_⟩
    have hs0 : Sim (kR k M W (Or1 g (HL i x) rn l) (β1 g rn l) g.G l) (putPs E ps.toList (el i)) ((rn, .other l (.loop (rec .ready none))) :: HL i x) { tmps := (ps.zip (xs i)).foldl (fun tmps (x : Nat × Value) => tmps.setIfInBounds x.1 x.2) a.tmps, defers := [] } W :=
      ⟨by rw [foldl_zip]; exact hsize, rfl, g1 g rn l, hg1, hU1, hm1, fun j => by rw [foldl_zip]; exact hset j⟩
    refine wpIn_fr (wpIn_mono (hA W _ _ _ l _ i x hi hI _ _ hs0) ?_)
    rintro e a2 W2 hq
    cases e with
    | normal =>
      have hq : Sim _ _ _ a2 W2 := hq
      refine ⟨_, run_beginRound hq.other (by rw [hrec]), ?_⟩
      refine wpIn_fr (wpIn_mono (hB W _ _ _ l _ i x hi hI _ _ (hq.put _)) ?_)
      rintro e a3 W3 hp
      cases e with
      | normal =>
        obtain ⟨y, hIy, hS3⟩ := hp
        obtain ⟨⟨g4, hst4⟩, hkr, hzs, hw3, hs3⟩ := hst.back (l := l) (.inr (.inl rfl)) hfi hM hmM h0 (.loop (rec .ready none)) hS3 (hfx _ y hIy)
        have hend := run_endRound (P := k.P) none hw3
        rw [hrec] at hend hst4 hkr hzs
        refine ⟨_, _, hend, .inl ⟨rfl, ⟨y, g4, hIy, hst4⟩, by simpa using Nat.le_trans hsz hs3, ?_, hzl, fun b hb => ⟨(hSb b hb).1, (hzs b (.inr (.inr hb)) (fun e => hSl (e ▸ hb))).trans (hSb b hb).2⟩⟩, hkr, fun b hb => hzs b (.inl hb) (fun e => hzl (e ▸ hb)), by simpa using hs3⟩
        rw [hrec]
        exact World.putObj_heap_same (Array.getElem?_eq_some_iff.1 hw3).1
      | ret =>
        obtain ⟨H1, hC, hf1', hS3⟩ := hp
        obtain ⟨⟨g4, hst4⟩, hkr, hzs, hw3, hs3⟩ := hst.back (l := l) (.inr (.inl rfl)) hfi hM hmM h0 (.loop (rec .done (some .ret))) hS3 hf1'
        have hend := run_endRound (P := k.P) (some .ret) hw3
        rw [hrec] at hend hst4 hkr hzs
        refine ⟨_, _, hend, .inr ⟨rfl, .ret, .ret, H1, g4, rfl, hC, hf1', hst4, by simpa using Nat.le_trans hsz hs3, ?_, hzl, fun b hb => ⟨(hSb b hb).1, (hzs b (.inr (.inr hb)) (fun e => hSl (e ▸ hb))).trans (hSb b hb).2⟩⟩, hkr, fun b hb => hzs b (.inl hb) (fun e => hzl (e ▸ hb)), by simpa using hs3⟩
        rw [hrec]
        exact World.putObj_heap_same (Array.getElem?_eq_some_iff.1 hw3).1
      | exit id =>
        obtain ⟨H1, hC, hf1', hS3⟩ := hp
        obtain ⟨⟨g4, hst4⟩, hkr, hzs, hw3, hs3⟩ := hst.back (l := l) (.inr (.inl rfl)) hfi hM hmM h0 (.loop (rec .done (some (.exit id)))) hS3 hf1'
        have hend := run_endRound (P := k.P) (some (.exit id)) hw3
        rw [hrec] at hend hst4 hkr hzs
        refine ⟨_, _, hend, .inr ⟨rfl, .exit id, .exit id, H1, g4, rfl, hC, hf1', hst4, by simpa using Nat.le_trans hsz hs3, ?_, hzl, fun b hb => ⟨(hSb b hb).1, (hzs b (.inr (.inr hb)) (fun e => hSl (e ▸ hb))).trans (hSb b hb).2⟩⟩, hkr, fun b hb => hzs b (.inl hb) (fun e => hzl (e ▸ hb)), by simpa using hs3⟩
        rw [hrec]
        exact World.putObj_heap_same (Array.getElem?_eq_some_iff.1 hw3).1
      | _ => exact hp.elim
    | _ => exact (hq : False).elim
  · obtain ⟨x, g, hI, hst⟩ := hJ0
    exact ⟨⟨x, g, hI, hst.imp fun b hb => hb.elim False.elim id⟩, Nat.le_refl _, hl1, id, fun b _ => ⟨id, rfl⟩⟩
  · rintro e W' ⟨hv, h⟩
    refine ⟨hv, ?_⟩
    rcases h with ⟨Z, ⟨x, g, hI, hst⟩, _, h1, _, h3⟩ | ⟨i, Z, e', c, H1, g, hc, hC, hf, hst, _, h1, _, h3⟩
    · exact .inl ⟨x, g, hI, hst.imp fun b hb => .inr hb, h1, fun b hb => (h3 b hb).2⟩
    · exact .inr ⟨e', c, H1, g, hc, hC, hf, hst.imp fun b hb => .inr hb, h1, fun b hb => (h3 b hb).2⟩
end
/-- an object joins -/
theorem MOk.add {w0 : Base} {G0 : Nat → Prop} {g : Gh} {Hf : Nat → Option AObj} {rn b : Nat} {o0 : Obj} (h : MOk w0 G0 g Hf) (hn : Hf rn = none) (hU : ¬ g.U rn) (hb : ¬ g.G b) (hfar : ∀ r o, Hf r = some o → blkOf (g.β r) ≠ some b)
    (hw : g.W.heap[b]? = some o0) (hmine : w0.mine b) (hm : w0.m ≤ rn) : g.le (g1 g rn b) ∧ MOk w0 G0 (g1 g rn b) (upd Hf rn (some (.other b o0))) := by
  have hb1 : ∀ r, r ≠ rn → β1 g rn b r = g.β r := fun r hr => if_neg hr
  have hle : g.le (g1 g rn b) := ⟨fun _ _ => rfl, fun _ hb => hb, fun r hr => ⟨.inl hr, hb1 r (fun e => hU (e ▸ hr))⟩⟩
  have hlk : ∀ r o, upd Hf rn (some (.other b o0)) r = some o → (r = rn ∧ o = .other b o0) ∨ (r ≠ rn ∧ Hf r = some o) := by
    intro r o hr
    unfold upd at hr
    by_cases e : r = rn
    · subst e; rw [beqT] at hr; cases hr; exact .inl ⟨rfl, rfl⟩
    · rw [beqF e] at hr; exact .inr ⟨e, hr⟩
  have hβrn : β1 g rn b rn = .pointer (some ⟨b, 0, none⟩) := if_pos rfl
  refine ⟨hle, ⟨fun r o hr => ?_, fun r r' o o' k hr hr' hk hk' => ?_, fun r o k hr hk => ?_, h.gb, h.bel, fun r hr => ⟨.inl (h.anc.1 r hr).1, (hb1 r (by omega)).trans (h.anc.1 r hr).2⟩, h.anc.2.up hle⟩⟩
  · rcases hlk r o hr with ⟨rfl, rfl⟩ | ⟨hne, hr⟩
    · exact ⟨.inr rfl, hβrn, hw⟩
    · obtain ⟨hu, ho⟩ := h.ok r o hr
      refine ⟨.inl hu, ?_⟩
      show ObjOk _ (β1 g rn b r) o
      rw [hb1 r hne]
      exact ho.up hle fun _ _ => rfl
  · change blkOf (β1 g rn b _) = _ at hk hk'
    rcases hlk r o hr with ⟨e1, rfl⟩ | ⟨hne, hrx⟩ <;> rcases hlk r' o' hr' with ⟨e2, rfl⟩ | ⟨hne', hrx'⟩
    · exact e1.trans e2.symm
    · rw [e1, hβrn] at hk
      rw [hb1 _ hne'] at hk'
      cases hk
      exact absurd hk' (hfar r' o' hrx')
    · rw [e2, hβrn] at hk'
      rw [hb1 _ hne] at hk
      cases hk'
      exact absurd hk (hfar r o hrx)
    · rw [hb1 _ hne] at hk
      rw [hb1 _ hne'] at hk'
      exact h.sep r r' o o' k hrx hrx' hk hk'
  · change blkOf (β1 g rn b _) = _ at hk
    rcases hlk r o hr with ⟨e1, rfl⟩ | ⟨hne, hr⟩
    · rw [e1, hβrn] at hk
      cases hk
      exact ⟨hb, hmine⟩
    · rw [hb1 _ hne] at hk
      exact h.own r o k hr hk
/-- behind the loop -/
def Ct.mark (k : Ct) (D : Nat) : Ct := { k with w0 := { k.w0 with ds := mkD D :: k.w0.ds } }
theorem StJ.leave {k : Ct} {g0 g : Gh} {M : Nat} {H : Hp} {Z : Nat → Prop} {W : World} {l : Nat} (h : StJ k g0 M H Z g W) (h0 : k.w0.w.heap.size ≤ g0.W.heap.size) (hl : Z l) (o' : Obj) : ∃ g', StJ k g0 M H Z g' (W.putObj l o') := by
  obtain ⟨g', h'⟩ := h.step (W' := W.putObj l o') h0 ⟨rfl, rfl, rfl, by simp, fun b _ hno => World.putObj_heap_other fun e => hno (e ▸ hl)⟩
  exact ⟨g', h'.imp fun b hb => .inl hb⟩
theorem StJ.bdm {k : Ct} {g0 g : Gh} {M rn : Nat} {H : Hp} {Z : Nat → Prop} {W : World} (h : StJ k g0 M H Z g W) (hfx : fixedOK k.w0.m M rn H = true) : ∀ r, g.U r → r < 1000 ∧ (r < k.w0.m ∨ (look r H).isSome = true) := fun r hr => by
  obtain ⟨p1, p2⟩ := h.bd r hr
  refine ⟨p1, ?_⟩
  rcases p2 with p2 | p2
  · rcases Nat.lt_or_ge r k.w0.m with h1 | h1
    · exact .inl h1
    · exact .inr ((fixed_un hfx).1 r h1 p2)
  · exact .inr p2
theorem StJ.sim {k : Ct} {g0 g : Gh} {E : Env} {M rn : Nat} {H : Hp} {Z : Nat → Prop} {W : World} {a : Act} (h : StJ k g0 M H Z g W) (hfx : fixedOK k.w0.m M rn H = true) (hE : (E.all fun x => x.2.refs.all fun r => Nat.blt r M) = true) (ha : a.tmps.size = k.n) (hd : a.defers = k.w0.ds)
    (henv : ∀ i, Den g0 (envOf E i) (a.tmps.getD i undef)) : Sim k E H a W :=
  ⟨ha, hd, g, h.w, h.bdm hfx, h.ok, env_up hE henv (fun b hb => ⟨by rw [h.w]; exact (h.keep b hb).1, (h.keep b hb).2⟩) h.fix⟩
theorem StJ.simD {k : Ct} {g0 g : Gh} {E : Env} {M rn dn D : Nat} {H : Hp} {Z : Nat → Prop} {W : World} {a : Act} (h : StJ k g0 M H Z g W) (hfx : fixedOK k.w0.m M rn H = true) (hE : (E.all fun x => x.2.refs.all fun r => Nat.blt r M) = true) (ha : a.tmps.size = k.n) (hd : a.defers = k.w0.ds)
    (henv : ∀ i, Den g0 (envOf E i) (a.tmps.getD i undef)) (h0 : k.w0.w.heap.size ≤ g0.W.heap.size) (hmM : k.w0.m ≤ M) (hM : M ≤ dn) (hdn : dn < 1000) (hlk : look dn H = none) (hD : Z D) (hw : W.heap[D]? = some dfr) :
    Sim (k.mark D) E ((dn, .other D dfr) :: H) { a with defers := mkD D :: a.defers } W := by
  have hf := h.far D hD
  have hbd := h.bdm hfx
  obtain ⟨hle, hm⟩ := MOk.add (rn := dn) (b := D) (o0 := dfr) h.ok hlk (fun hu => by
    rcases (h.bd dn hu).2 with q | q
    · omega
    · rw [hlk] at q; cases q) hf.2.1 hf.2.2 (by rw [h.w]; exact hw) (.inl (Nat.le_trans h0 hf.1.1)) (by omega)
  have e : upd (fun r => look r H) dn (some (.other D dfr)) = (stOf E ((dn, .other D dfr) :: H)).heap := by
    funext x
    show upd (fun r => look r H) dn (some (.other D dfr)) x = look x ((dn, .other D dfr) :: H)
    rw [look_cons]
    unfold upd
    by_cases e : x = dn
    · subst e; simp [beqT]
    · simp [beqF e, e]
  rw [e] at hm
  refine ⟨ha, by show mkD D :: a.defers = mkD D :: k.w0.ds; rw [hd], g1 g dn D, h.w, fun r hr => ?_, ⟨hm.ok, hm.sep, hm.own, hm.gb, hm.bel, hm.anc⟩, fun i => Den.mono hle _ _ (env_up hE henv (fun b hb => ⟨by rw [h.w]; exact (h.keep b hb).1, (h.keep b hb).2⟩) h.fix i)⟩
  rcases hr with hr | rfl
  · obtain ⟨p1, p2⟩ := hbd r hr
    refine ⟨p1, p2.imp id fun q => ?_⟩
    rw [look_cons]
    split
    · rfl
    · exact q
  · exact ⟨hdn, .inr (by rw [look_cons, if_pos rfl]; rfl)⟩
theorem fr_depth {r : Option Nat} {n : Nat} : (FR r).depth.isSome = true → 1 ≤ n := fun h => by cases h
/-- what is asked of names and slots at a loop -/
def rangeOK (m n M rn dn : Nat) (ps : List Nat) (E : Env) : Bool :=
  Nat.ble m M && (Nat.ble M rn && (Nat.blt rn 1000 && (Nat.ble M dn && (Nat.blt dn 1000 && ((E.all fun x => x.2.refs.all fun r => Nat.blt r M) && ps.all fun p => Nat.blt p n)))))
theorem rangeOK_un {m n M rn dn : Nat} {ps : List Nat} {E : Env} (h : rangeOK m n M rn dn ps E = true) : m ≤ M ∧ M ≤ rn ∧ rn < 1000 ∧ M ≤ dn ∧ dn < 1000 ∧ (E.all fun x => x.2.refs.all fun r => Nat.blt r M) = true ∧ (ps.all fun p => Nat.blt p n) = true := by
  simp only [rangeOK, Bool.and_eq_true] at h
  obtain ⟨h1, h2, h3, h4, h5, h6, h7⟩ := h
  exact ⟨Nat.le_of_ble_eq_true h1, Nat.le_of_ble_eq_true h2, Nat.le_of_ble_eq_true h3, Nat.le_of_ble_eq_true h4, Nat.le_of_ble_eq_true h5, h6, h7⟩
section
variable {X : Type} {k : Ct} {E : Env} {H : Hp} {Q : Exit → Act → World → Prop} {gop : Operand} {ps : Array Nat} {assign body : Code} {gf : Nat} {caps : List AV} {σ : ItF} {p : Prop} {N : Nat} {el : Nat → List AV}
/-- A RANGE OVER A FUNCTION -/
theorem tri_range (hrnd : k.rnd = none) (hs : SeqSound k.P gf σ) (hg : (stOf E H).ev gop = .clo gf caps) (hσ : σ caps = some (p, N, el)) (hpure : pureL caps = true) (hp : p) (M rn dn : Nat) (hok : rangeOK k.w0.m k.n M rn dn ps.toList E = true)
    (I : Nat → X → Prop) (HL : Nat → X → Hp) (EA : Nat → X → Env) (HA : Nat → X → Hp) (x0 : X) (hI0 : I 0 x0) (hH : H = HL 0 x0) (hel : ∀ i, i < N → (el i).length = ps.size) (hfx : ∀ i x, I i x → fixedOK k.w0.m M rn (HL i x) = true) (hdn : ∀ x, I N x → look dn (HL N x) = none)
    (hA : ∀ Wr Or βr Gr l r0 i x, i < N → I i x → Tri (kR k M Wr Or βr Gr l) (putPs E ps.toList (el i)) ((rn, .other l (.loop r0)) :: HL i x) assign (RA (kR k M Wr Or βr Gr l) (EA i x) ((rn, .other l (.loop r0)) :: HA i x)))
    (hB : ∀ Wr Or βr Gr l r1 i x, i < N → I i x → Tri (kR k M Wr Or βr Gr l) (EA i x) ((rn, .other l (.loop r1)) :: HA i x) body (RQ k M rn I HL (fun e H1 => look dn H1 = none ∧ ∀ D, Fin (k.mark D) E ((dn, .other D dfr) :: H1) Q e) i l r1 (kR k M Wr Or βr Gr l)))
    (hdone : ∀ D x, I N x → Fin (k.mark D) E ((dn, .other D dfr) :: HL N x) Q .normal) : Tri k E H (.rangeFunc gop ps assign body) Q := by
  intro a W hsim
  obtain ⟨hmM, hM, hrn, hMd, hdn1, hE, hpn⟩ := rangeOK_un hok
  obtain ⟨ha, hdf, g, rfl, hU, hm, henv⟩ := hsim
  have h0 : k.w0.w.heap.size ≤ g.W.heap.size := hm.bel.size
  have hgv := den_ev hm.anc.2 henv gop
  rw [hg] at hgv
  simp only [Den] at hgv
  obtain ⟨vs, hgop, hdv⟩ := hgv
  obtain ⟨xs, hxs, hseq⟩ := hs.2 g.W g.G caps vs p N el (fun b hb => (hm.gb b hb).1) (fun kk ys hk => hm.anc.2 kk ys hk) hσ hp (DenL.pure (g := g) (g' := ⟨g.W, g.G, fun _ => undef, fun _ => False⟩) rfl rfl _ _ hpure hdv)
  show Code.wpIn (FR k.rnd) 3 k.P _ Q a g.W
  rw [hrnd]
  refine wpIn_rangeFunc ?_
  intro fn _
  obtain ⟨rec, hrec⟩ : ∃ rec : LoopState → Option Code → Loop, rec = fun st pe => { state := st, pending := pe, fn, tmps := a.tmps, params := ps, assign, body, defers := g.W.heap.size } := ⟨_, rfl⟩
  obtain ⟨W1, hW1⟩ : ∃ W1, (g.W.alloc (.deferred (some []))).alloc (.loop (rec .ready none)) = W1 := ⟨_, rfl⟩
  have hL1 : W1.heap[g.W.heap.size + 1]? = some (.loop (rec .ready none)) := by
    rw [← hW1]; have := World.alloc_heap_new (g.W.alloc (.deferred (some []))) (.loop (rec .ready none)); rwa [World.size_alloc] at this
  have hK1 : W1.heap[g.W.heap.size]? = some dfr := by
    rw [← hW1]; exact (Below.heap_alloc _ _ _ (by simp)).trans (World.alloc_heap_new g.W _)
  have hk1 : Kp (fun _ => False) g.W W1 := by rw [← hW1]; exact ((Kp.refl _ _).alloc _).alloc _
  have hst0 : StJ k g M (HL 0 x0) (fun _ => False) g g.W := by
    refine ⟨rfl, Nat.le_refl _, fun b hb => ⟨rfl, hb⟩, fun r hr => ⟨?_, rfl⟩, fun r hr => ?_, ?_, fun b hb => hb.elim⟩
    · rcases Nat.lt_or_ge r k.w0.m with h1 | h1
      · exact (hm.anc.1 r h1).1
      · have := (fixed_un (hfx 0 x0 hI0)).1 r h1 hr
        cases hl : look r (HL 0 x0) with
        | none => rw [hl] at this; cases this
        | some o => exact (hm.ok r o (by show look r H = some o; rw [hH]; exact hl)).1
    · obtain ⟨q1, q2⟩ := hU r hr
      exact ⟨q1, q2.imp (fun h => by omega) (fun h => by rw [← hH]; exact h)⟩
    · rw [← hH]; exact hm
  obtain ⟨gs, hst1⟩ := hst0.step h0 hk1
  have hsz1 : W1.heap.size = g.W.heap.size + 2 := by rw [← hW1]; simp
  have hcore := range_core (k := k) (E := E) (ps := ps) I HL EA HA (fun e H1 => look dn H1 = none ∧ ∀ D, Fin (k.mark D) E ((dn, .other D dfr) :: H1) Q e) hM hrn hmM hE hpn hel hfx hA hB h0 ha henv hseq hxs (fun b => b = g.W.heap.size) rec hrec hL1
    ⟨x0, gs, hI0, hst1.imp fun b hb => .inr (by rcases hb with rfl | rfl <;> omega)⟩ (by omega)
  refine ⟨g.W.heap.size + 1, [mkD g.W.heap.size], W1, { target := .fn (.func gf) vs.toArray, args := #[.func (.yield (g.W.heap.size + 1)) #[] #[]] }, W1, gf,
    #[.func (.yield (g.W.heap.size + 1)) #[] #[]] ++ vs.toArray, W1, ?_, ?_, fun _ _ => trivial, ?_, fr_depth, ?_⟩
  · rw [← hW1, hrec]; exact run_enterLoop_outer _ _ _ _ _
  · simp only [resolve, hgop]
    simp [go_sem]
  · simp [invoke, go_sem, hs.1]
  · refine callsIn_fr.2 (Calls.mono hcore ?_)
    rintro e W' ⟨⟨v, rfl⟩, h⟩
    have hds : ∀ W4 : World, ({ a with defers := [mkD g.W.heap.size] ++ a.defers } : Act) = { a with defers := mkD g.W.heap.size :: a.defers } := fun _ => rfl
    rcases h with ⟨x, g', hI, hst, hl, hS⟩ | ⟨e', c, H1, g', hc, ⟨hlk, hfin⟩, hf1, hst, hl, hS⟩
    · have hend := run_endLoop (P := k.P) hl (by rw [hrec]; simp)
      obtain ⟨g2, hst2⟩ := hst.leave h0 (l := g.W.heap.size + 1) (.inl rfl) (.loop { rec .ready none with state := .exhausted })
      rw [hrec] at hend
      refine ⟨none, _, hend, hdone g.W.heap.size x hI _ _ ?_⟩
      rw [hrec] at hst2
      exact hst2.simD (hfx N x hI) hE ha hdf henv h0 hmM hMd hdn1 (hdn x hI) (.inr rfl) ((World.putObj_heap_other (by omega)).trans ((hS _ rfl).trans hK1))
    · have hend := run_endLoop (P := k.P) hl (by rw [hrec]; simp)
      obtain ⟨g2, hst2⟩ := hst.leave h0 (l := g.W.heap.size + 1) (.inl rfl) (.loop { rec .done (some c) with state := .exhausted })
      rw [hrec] at hend hst2
      have hs4 := hst2.simD (E := E) (a := a) hf1 hE ha hdf henv h0 hmM hMd hdn1 hlk (D := g.W.heap.size) (.inr rfl) ((World.putObj_heap_other (by omega)).trans ((hS _ rfl).trans hK1))
      refine ⟨some c, _, hend, ?_⟩
      have hq := hfin g.W.heap.size _ _ hs4
      cases e' with
      | ret => cases hc; exact wpIn_ret hq
      | exit id => cases hc; exact wpIn_exit hq
      | _ => cases hc
/-- .. in a round of loop l0 -/
theorem tri_rangeN (n0 l0 : Nat) (r00 : Loop) (hrnd : k.rnd = some l0) (hl0 : look n0 H = some (.other l0 (.loop r00))) (hs : SeqSound k.P gf σ) (hg : (stOf E H).ev gop = .clo gf caps) (hσ : σ caps = some (p, N, el)) (hpure : pureL caps = true) (hp : p) (M rn : Nat) (hok : rangeOK k.w0.m k.n M rn rn ps.toList E = true)
    (I : Nat → X → Prop) (HL : Nat → X → Hp) (EA : Nat → X → Env) (HA : Nat → X → Hp) (x0 : X) (hI0 : I 0 x0) (hH : H = HL 0 x0) (hel : ∀ i, i < N → (el i).length = ps.size) (hfx : ∀ i x, I i x → fixedOK k.w0.m M rn (HL i x) = true)
    (hA : ∀ Wr Or βr Gr l r0 i x, i < N → I i x → Tri (kR k M Wr Or βr Gr l) (putPs E ps.toList (el i)) ((rn, .other l (.loop r0)) :: HL i x) assign (RA (kR k M Wr Or βr Gr l) (EA i x) ((rn, .other l (.loop r0)) :: HA i x)))
    (hB : ∀ Wr Or βr Gr l r1 i x, i < N → I i x → Tri (kR k M Wr Or βr Gr l) (EA i x) ((rn, .other l (.loop r1)) :: HA i x) body (RQ k M rn I HL (fun e H1 => Fin k E H1 Q e) i l r1 (kR k M Wr Or βr Gr l)))
    (hdone : ∀ x, I N x → Fin k E (HL N x) Q .normal) : Tri k E H (.rangeFunc gop ps assign body) Q := by
  intro a W hsim
  obtain ⟨hmM, hM, hrn, _, _, hE, hpn⟩ := rangeOK_un hok
  obtain ⟨ha, hdf, g, rfl, hU, hm, henv⟩ := hsim
  have h0 : k.w0.w.heap.size ≤ g.W.heap.size := hm.bel.size
  have hgv := den_ev hm.anc.2 henv gop
  rw [hg] at hgv
  simp only [Den] at hgv
  obtain ⟨vs, hgop, hdv⟩ := hgv
  obtain ⟨xs, hxs, hseq⟩ := hs.2 g.W g.G caps vs p N el (fun b hb => (hm.gb b hb).1) (fun kk ys hk => hm.anc.2 kk ys hk) hσ hp (DenL.pure (g := g) (g' := ⟨g.W, g.G, fun _ => undef, fun _ => False⟩) rfl rfl _ _ hpure hdv)
  have hl00 : g.W.heap[l0]? = some (.loop r00) := (hm.ok n0 _ hl0).2.2
  show Code.wpIn (FR k.rnd) 3 k.P _ Q a g.W
  rw [hrnd]
  refine wpIn_rangeFunc ?_
  intro fn _
  obtain ⟨rec, hrec⟩ : ∃ rec : LoopState → Option Code → Loop, rec = fun st pe => { state := st, pending := pe, fn, tmps := a.tmps, params := ps, assign, body, defers := r00.defers } := ⟨_, rfl⟩
  obtain ⟨W1, hW1⟩ : ∃ W1, g.W.alloc (.loop (rec .ready none)) = W1 := ⟨_, rfl⟩
  have hL1 : W1.heap[g.W.heap.size]? = some (.loop (rec .ready none)) := by rw [← hW1]; exact World.alloc_heap_new g.W _
  have hk1 : Kp (fun _ => False) g.W W1 := by rw [← hW1]; exact (Kp.refl _ _).alloc _
  have hst0 : StJ k g M (HL 0 x0) (fun _ => False) g g.W := by
    refine ⟨rfl, Nat.le_refl _, fun b hb => ⟨rfl, hb⟩, fun r hr => ⟨?_, rfl⟩, fun r hr => ?_, ?_, fun b hb => hb.elim⟩
    · rcases Nat.lt_or_ge r k.w0.m with h1 | h1
      · exact (hm.anc.1 r h1).1
      · have := (fixed_un (hfx 0 x0 hI0)).1 r h1 hr
        cases hl : look r (HL 0 x0) with
        | none => rw [hl] at this; cases this
        | some o => exact (hm.ok r o (by show look r H = some o; rw [hH]; exact hl)).1
    · obtain ⟨q1, q2⟩ := hU r hr
      exact ⟨q1, q2.imp (fun h => by omega) (fun h => by rw [← hH]; exact h)⟩
    · rw [← hH]; exact hm
  obtain ⟨gs, hst1⟩ := hst0.step h0 hk1
  have hsz1 : W1.heap.size = g.W.heap.size + 1 := by rw [← hW1]; simp
  have hcore := range_core (k := k) (E := E) (ps := ps) I HL EA HA (fun e H1 => Fin k E H1 Q e) hM hrn hmM hE hpn hel hfx hA hB h0 ha henv hseq hxs (fun _ => False) rec hrec hL1
    ⟨x0, gs, hI0, hst1.imp fun b hb => .inr (hb.elim (fun e => by omega) False.elim)⟩ id
  refine ⟨g.W.heap.size, [], W1, { target := .fn (.func gf) vs.toArray, args := #[.func (.yield g.W.heap.size) #[] #[]] }, W1, gf,
    #[.func (.yield g.W.heap.size) #[] #[]] ++ vs.toArray, W1, ?_, ?_, fun _ _ => trivial, ?_, fr_depth, ?_⟩
  · rw [← hW1, hrec]; exact run_enterLoop_inner hl00 _ _ _ _ _
  · simp only [resolve, hgop]
    simp [go_sem]
  · simp [invoke, go_sem, hs.1]
  · refine callsIn_fr.2 (Calls.mono hcore ?_)
    rintro e W' ⟨⟨v, rfl⟩, h⟩
    rcases h with ⟨x, g', hI, hst, hl, _⟩ | ⟨e', c, H1, g', hc, hfin, hf1, hst, hl, _⟩
    · have hend := run_endLoop (P := k.P) hl (by rw [hrec]; simp)
      obtain ⟨g2, hst2⟩ := hst.leave h0 (l := g.W.heap.size) (.inl rfl) (.loop { rec .ready none with state := .exhausted })
      rw [hrec] at hend hst2
      exact ⟨none, _, hend, hdone x hI _ _ (hst2.sim (hfx N x hI) hE ha hdf henv)⟩
    · have hend := run_endLoop (P := k.P) hl (by rw [hrec]; simp)
      obtain ⟨g2, hst2⟩ := hst.leave h0 (l := g.W.heap.size) (.inl rfl) (.loop { rec .done (some c) with state := .exhausted })
      rw [hrec] at hend hst2
      have hq := hfin _ _ (hst2.sim (E := E) (a := a) hf1 hE ha hdf henv)
      refine ⟨some c, _, hend, ?_⟩
      rw [← hrnd]
      cases e' with
      | ret => cases hc; exact wpIn_ret hq
      | exit id => cases hc; exact wpIn_exit hq
      | _ => cases hc
end
theorem subE_nil (E : Env) : subE E [] := rfl
theorem fin_assign {kr : Ct} {E EA : Env} {H HA : Hp} (hE : subE E EA) (hH : H = HA) : Fin kr E H (RA kr EA HA) .normal := fun a W hs => by
  show Sim kr EA HA a W
  rw [← hH]
  exact hs.sub hE
section
variable {X : Type} {k kr : Ct} {M rn i l : Nat} {I : Nat → X → Prop} {HL : Nat → X → Hp} {C : Exit → Hp → Prop} {r1 : Loop} {E : Env} {H : Hp}
theorem fin_rnext (y : X) (hI : I (i + 1) y) (hH : H = (rn, .other l (.loop r1)) :: HL (i + 1) y) : Fin kr E H (RQ k M rn I HL C i l r1 kr) .normal := fun a W hs =>
  ⟨y, hI, by rw [← hH]; exact hs.sub (subE_nil E)⟩
theorem fin_rexit {id : Nat} (H1 : Hp) (hH : H = (rn, .other l (.loop r1)) :: H1) (hf : fixedOK k.w0.m M rn H1 = true) (hC : C (.exit id) H1) : Fin kr E H (RQ k M rn I HL C i l r1 kr) (.exit id) := fun a W hs =>
  ⟨H1, hC, hf, by rw [← hH]; exact hs.sub (subE_nil E)⟩
theorem fin_rret (H1 : Hp) (hH : H = (rn, .other l (.loop r1)) :: H1) (hf : fixedOK k.w0.m M rn H1 = true) (hC : C .ret H1) : Fin kr E H (RQ k M rn I HL C i l r1 kr) .ret := fun a W hs =>
  ⟨H1, hC, hf, by rw [← hH]; exact hs.sub (subE_nil E)⟩
end
theorem MOk.base {w0 : Base} {d : List Deferred} {G0 : Nat → Prop} {g : Gh} {H : Nat → Option AObj} : MOk { w0 with ds := d } G0 g H ↔ MOk w0 G0 g H :=
  ⟨fun h => ⟨h.ok, h.sep, h.own, h.gb, h.bel, h.anc⟩, fun h => ⟨h.ok, h.sep, h.own, h.gb, h.bel, h.anc⟩⟩
theorem Post_base (w0 : Base) (d : List Deferred) (G0 : Nat → Prop) (r : AV) (outs : List (Option AObj)) : Post { w0 with ds := d } G0 r outs = Post w0 G0 r outs := by
  funext e W'
  unfold Post
  simp only [MOk.base]
/-- the return behind a range over a function, which has left a deferred mark -/
theorem fin_retM {k : Ct} {E : Env} {H : Hp} {fn : Func} {avs : List AV} {r : AV} {outs : List (Option AObj)} {w0 : Base} (d : List Deferred) (hw : k.w0 = { w0 with ds := d }) (ms : List (Nat × Nat)) (hds : k.w0.ds = ms.map fun x => mkD x.2) (hnd : nodup (ms.map (·.1)) = true) (hmk : MarksAt H ms) (hcx : CxOk k.P k.cx)
    (h : resA k.cx E (dropN (ms.map (·.1)) H) fn.results.toList = some avs) (hr : packA avs = r) (mask : List Bool) (ho : outsOf (dropN (ms.map (·.1)) H) 0 mask = outs) : Fin k E H (bodyPostM (FR none) 3 k.P fn (Post w0 k.G0 r outs)) .ret := by
  rw [← Post_base w0 d, ← hw]
  exact fin_ret ms hds hnd hmk hcx h hr mask ho
theorem fin_endM {k : Ct} {E : Env} {H : Hp} {fn : Func} {avs : List AV} {r : AV} {outs : List (Option AObj)} {w0 : Base} (d : List Deferred) (hw : k.w0 = { w0 with ds := d }) (ms : List (Nat × Nat)) (hds : k.w0.ds = ms.map fun x => mkD x.2) (hnd : nodup (ms.map (·.1)) = true) (hmk : MarksAt H ms) (hcx : CxOk k.P k.cx)
    (h : resA k.cx E (dropN (ms.map (·.1)) H) fn.results.toList = some avs) (hr : packA avs = r) (mask : List Bool) (ho : outsOf (dropN (ms.map (·.1)) H) 0 mask = outs) : Fin k E H (bodyPostM (FR none) 3 k.P fn (Post w0 k.G0 r outs)) .normal :=
  fun a W hs => fin_retM d hw ms hds hnd hmk hcx h hr mask ho a W hs
end Go.Proofs.YtbpbndlgfiammaaGreatDoor.En
