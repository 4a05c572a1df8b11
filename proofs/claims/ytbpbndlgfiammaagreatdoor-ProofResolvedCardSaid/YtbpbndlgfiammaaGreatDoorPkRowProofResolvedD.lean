/- Lemmas and contracts for the row. -/
import Derived.Test.YtbpbndlgfiammaaGreatDoorPkRowProofResolvedC
import Derived.ScopeJumps
import Derived.Test.YtbpbndlgfiammaaGreatDoorPkRowProofResolvedA
import Derived.Shelf.GgClosure.Gives
import Derived.Shelf.SlicesE.Delete
import Derived.Shelf.SortM.Plain
import Derived.Shelf.SortM.SortNone
import Derived.Shelf.SlicesG.CompactI
import Derived.Ground.SlgmProg
import Derived.Ground.SlgnProg
import Derived.Test.YtbpbndlgfiammaaGreatDoorProg
import Derived.Lib.Hide
import Derived.Lib.RowBridge
import Derived.Shelf.SlIter.Collect
set_option linter.unusedVariables false
set_option linter.unusedSimpArgs false
set_option linter.unnecessarySimpa false
namespace Go.Proofs.YtbpbndlgfiammaaGreatDoor.En
open Go Go.RowKit
theorem wpIn_jump {X : Type} {F : Fence} {n : Nat} {P : Program} {Q : Exit → Act → World → Prop} {a : Act} {w : World} {c rest : Code} (l : Nat) (J : X → Act → World → Prop) (μ : X → Nat) (hf : findLabel c l = some rest)
    (first : c.wpIn F n P (Exit.jump l (fun a w => ∃ x, J x a w) Q) a w)
    (pass : ∀ x a w, J x a w → rest.wpIn F n P (Exit.jump l (fun a' w' => ∃ y, μ y < μ x ∧ J y a' w') Q) a w) : (Code.scope c).wpIn F n P Q a w := by
  intro b kk cs hro hb hr
  have hg : gotoIn l (.inScope c :: kk) = some (.code rest :: .inScope c :: kk) := by simp [gotoIn, hf]
  have hx : ∀ id, exitTo id (.inScope c :: kk) = exitTo id kk := fun id => by simp [exitTo]
  have key : ∀ m x a w, μ x = m → J x a w → ∃ e a' w', Q e a' w' ∧ ArrivesIn (Machine.fenced P F) P (lone (b.atR a (.code rest :: .inScope c :: kk)) cs w) b kk cs e a' w' := by
    intro m
    induction m using Nat.strongRecOn with
    | _ m ih =>
      intro x a w hn hJ
      obtain ⟨e, a₁, w₁, hq, harr⟩ := pass x a w hJ b (.inScope c :: kk) cs hro hb hr
      cases e with
      | normal => exact ⟨.normal, a₁, w₁, hq, StepsIn.trans harr (.one (fenced_calm hb hr rfl) stepR_inScope)⟩
      | exit id => exact ⟨.exit id, a₁, w₁, hq, fun k' hk => harr.1 k' (by rw [hx]; exact hk), fun hr' hk => let ⟨k₁, h1, h2⟩ := harr.2 hr' (by rw [hx]; exact hk); ⟨k₁, h1, h2⟩⟩
      | goto l' =>
        obtain ⟨rfl, y, hlt, hJ'⟩ := hq
        obtain ⟨e₂, a₂, w₂, hq₂, harr₂⟩ := ih _ (by omega) y a₁ w₁ rfl hJ'
        exact ⟨e₂, a₂, w₂, hq₂, .of_steps (harr.1 _ hg) harr₂⟩
      | ret => exact ⟨_, a₁, w₁, hq, harr⟩
      | panic ch => exact ⟨_, a₁, w₁, hq, harr⟩
      | outgrown => exact ⟨_, a₁, w₁, hq, harr⟩
  have h0 : (lone (b.atR a (.code (.scope c) :: kk)) cs w).fenced P F := fenced_calm hb hr rfl
  obtain ⟨e, a₁, w₁, hq, harr⟩ := first b (.inScope c :: kk) cs hro hb hr
  cases e with
  | normal => exact ⟨.normal, a₁, w₁, hq, .head h0 stepR_scope (StepsIn.trans harr (.one (fenced_calm hb hr rfl) stepR_inScope))⟩
  | exit id => exact ⟨.exit id, a₁, w₁, hq, fun k' hk => .head h0 stepR_scope (harr.1 k' (by rw [hx]; exact hk)), fun hr' hk => let ⟨k₁, h1, h2⟩ := harr.2 hr' (by rw [hx]; exact hk); ⟨k₁, h1, .head h0 stepR_scope h2⟩⟩
  | goto l' =>
    obtain ⟨rfl, x, hJ'⟩ := hq
    obtain ⟨e₂, a₂, w₂, hq₂, harr₂⟩ := key _ x a₁ w₁ rfl hJ'
    exact ⟨e₂, a₂, w₂, hq₂, .of_steps (.head h0 stepR_scope (harr.1 _ hg)) harr₂⟩
  | ret => exact ⟨_, a₁, w₁, hq, .of_steps (.one h0 stepR_scope) harr⟩
  | panic ch => exact ⟨_, a₁, w₁, hq, .of_steps (.one h0 stepR_scope) harr⟩
  | outgrown => exact ⟨_, a₁, w₁, hq, .of_steps (.one h0 stepR_scope) harr⟩
section
variable {k : Ct} {E : Env} {H : Hp} {Q : Exit → Act → World → Prop}
def JumpQ {X : Type} (k : Ct) (l : Nat) (I : X → Prop) (EL : X → Env) (HL : X → Hp) (Q : Exit → Act → World → Prop) : Exit → Act → World → Prop := Exit.jump l (fun a W => ∃ x, I x ∧ Sim k (EL x) (HL x) a W) Q
def JumpB {X : Type} (k : Ct) (l : Nat) (I : X → Prop) (EL : X → Env) (HL : X → Hp) (μ : X → Nat) (x : X) (Q : Exit → Act → World → Prop) : Exit → Act → World → Prop := Exit.jump l (fun a W => ∃ y, μ y < μ x ∧ I y ∧ Sim k (EL y) (HL y) a W) Q
theorem tri_goto {l : Nat} (h : Fin k E H Q (.goto l)) : Tri k E H (.goto l) Q := fun a W hs => wpIn_goto (h a W hs)
theorem fin_then_goto {l : Nat} {N : Act → World → Prop} (h : Fin k E H Q (.goto l)) : Fin k E H (Exit.then N Q) (.goto l) := h
theorem fin_block_goto {l id : Nat} (h : Fin k E H Q (.goto l)) : Fin k E H (Exit.inBlock id Q) (.goto l) := h
theorem tri_jump {X : Type} (l : Nat) (I : X → Prop) (EL : X → Env) (HL : X → Hp) (μ : X → Nat) {c x : Code} (hf : findLabel c l = some (.seq .skip x))
    (first : (∀ z, I z → Tri k (EL z) (HL z) x (JumpQ k l I EL HL Q)) → Tri k E H c (JumpQ k l I EL HL Q))
    (pass : ∀ z, I z → Tri k (EL z) (HL z) x (JumpB k l I EL HL μ z Q)) : Tri k E H (.scope c) Q := fun a W hs => by
  refine wpIn_jump (X := X) l (fun z a W => I z ∧ Sim k (EL z) (HL z) a W) μ hf ?_ ?_
  · refine first (fun z hz a W hs => ?_) a W hs
    refine wpIn_mono (pass z hz a W hs) fun e a' W' hq => ?_
    cases e with
    | goto l' => obtain ⟨h1, y, _, h3⟩ := hq; exact ⟨h1, y, h3⟩
    | _ => exact hq
  · rintro z a W ⟨hz, hs⟩
    exact wpIn_seq (wpIn_skip (pass z hz a W hs))
theorem tri_enter {X : Type} {l : Nat} {I : X → Prop} {EL : X → Env} {HL : X → Hp} {x : Code} (z : X) (h : ∀ z, I z → Tri k (EL z) (HL z) x (JumpQ k l I EL HL Q)) (hI : I z) (hE : subE E (EL z)) (hH : H = HL z) : Tri k E H (.seq (.label l) x) (JumpQ k l I EL HL Q) := by
  refine tri_seq (tri_label fun a W hs => ?_)
  exact h z hI a W (by rw [← hH]; exact hs.sub hE)
theorem fin_jump {X : Type} {l : Nat} {I : X → Prop} {EL : X → Env} {HL : X → Hp} {μ : X → Nat} {x : X} (y : X) (hI : I y) (hμ : μ y < μ x) (hE : subE E (EL y)) (hH : H = HL y) : Fin k E H (JumpB k l I EL HL μ x Q) (.goto l) :=
  fun a W hs => ⟨rfl, y, hμ, hI, by rw [← hH]; exact hs.sub hE⟩
theorem fin_jumpQ_ret {X : Type} {l : Nat} {I : X → Prop} {EL : X → Env} {HL : X → Hp} (h : Fin k E H Q .ret) : Fin k E H (JumpQ k l I EL HL Q) .ret := h
theorem fin_jumpB_ret {X : Type} {l : Nat} {I : X → Prop} {EL : X → Env} {HL : X → Hp} {μ : X → Nat} {x : X} (h : Fin k E H Q .ret) : Fin k E H (JumpB k l I EL HL μ x Q) .ret := h
end
end Go.Proofs.YtbpbndlgfiammaaGreatDoor.En
namespace Go.Proofs.YtbpbndlgfiammaaGreatDoor.Cn
open Go
def mayP (x n : Int) : Bool := x != 0 && decide (-n ≤ x) && decide (x ≤ n)
def litV (a : List Bool) (x : Int) : Bool := mayP x 65536 && ((decide (x.natAbs < a.length) && a.getD x.natAbs false) == decide (0 < x))
def badL (N : Int) (l : List Int) : Bool := l.any fun x => !mayP x N
def chkV (N : Int) (cs : List (List Int)) : Int := if N < 0 ∨ 65536 < N then 1 else if cs.any (badL N) = true then 1 else if 65536 < cs.length then 2 else 0
def idxF {α : Type} (p : α → Bool) : List α → Int
  | [] => -1
  | x :: l => if p x then 0 else if idxF p l < 0 then -1 else idxF p l + 1
section
variable {α : Type} {p : α → Bool}
theorem idxF_no : ∀ {l : List α}, (∀ x ∈ l, p x = false) → idxF p l = -1
  | [], _ => rfl
  | x :: l, h => by
    unfold idxF
    rw [h x List.mem_cons_self, idxF_no (l := l) (fun y hy => h y (List.mem_cons_of_mem _ hy))]
    rfl
theorem idxF_yes {d : α} : ∀ {l : List α} {k : Nat}, k < l.length → (∀ j, j < k → p (l.getD j d) = false) → p (l.getD k d) = true → idxF p l = k
  | [], k, h, _, _ => by simp at h
  | x :: l, 0, _, _, h => by
    simp at h
    unfold idxF
    rw [if_pos h]; rfl
  | x :: l, k + 1, hk, hj, h => by
    have h0 := hj 0 (by omega)
    simp at h0
    have ih := idxF_yes (l := l) (k := k) (d := d) (by simpa using hk) (fun j hjk => by have := hj (j + 1) (by omega); simpa using this) (by simpa using h)
    unfold idxF
    rw [h0, ih]
    simp
    omega
theorem idxF_bd : ∀ (l : List α), -1 ≤ idxF p l ∧ idxF p l < l.length ∨ idxF p l = -1
  | [] => .inr rfl
  | x :: l => by
    unfold idxF
    split
    · left; simp
    · rcases idxF_bd l with h | h
      · split
        · right; rfl
        · left; simp; omega
      · right; rw [if_pos (by omega)]
theorem idxF_any : ∀ (l : List α), decide (0 ≤ idxF p l) = l.any p
  | [] => rfl
  | x :: l => by
    have ih := idxF_any l
    unfold idxF
    rw [List.any_cons]
    cases hx : p x with
    | true => simp
    | false =>
      simp only [Bool.false_or, Bool.false_eq_true, if_false]
      rw [← ih]
      split
      · rename_i h; simp; omega
      · rename_i h; simp; omega
theorem any_no {l : List α} {d : α} (h : ∀ j, j < l.length → p (l.getD j d) = false) : l.any p = false := by
  rw [List.any_eq_false]
  intro x hx
  obtain ⟨j, hj, rfl⟩ := List.mem_iff_getElem.1 hx
  have := h j hj
  rw [List.getD_eq_getElem?_getD, List.getElem?_eq_getElem hj] at this
  simpa using this
theorem all_mem {l : List α} {d : α} (h : ∀ j, j < l.length → p (l.getD j d) = false) : ∀ x ∈ l, p x = false := by
  intro x hx
  obtain ⟨j, hj, rfl⟩ := List.mem_iff_getElem.1 hx
  have := h j hj
  rw [List.getD_eq_getElem?_getD, List.getElem?_eq_getElem hj] at this
  simpa using this
theorem any_yes {l : List α} {d : α} {k : Nat} (hk : k < l.length) (h : p (l.getD k d) = true) : l.any p = true := by
  rw [List.any_eq_true]
  refine ⟨l.getD k d, ?_, h⟩
  rw [List.getD_eq_getElem?_getD, List.getElem?_eq_getElem hk]
  exact List.getElem_mem hk
theorem falseSucc {f : Nat → Bool} {k : Nat} (h : ∀ j, j < k → f j = false) (hk : f k = false) : ∀ j, j < k + 1 → f j = false := fun j hj => by
  rcases Nat.lt_succ_iff_lt_or_eq.1 hj with h1 | rfl
  · exact h j h1
  · exact hk
theorem getD_memL {l : List α} {d : α} {k : Nat} (hk : k < l.length) : l.getD k d ∈ l := by
  rw [List.getD_eq_getElem?_getD, List.getElem?_eq_getElem hk]; exact List.getElem_mem hk
theorem take_sD {l : List α} {d : α} {k : Nat} (hk : k < l.length) : l.take (k + 1) = l.take k ++ [l.getD k d] := by
  rw [List.take_succ_eq_append_getElem hk, List.getD_eq_getElem?_getD, List.getElem?_eq_getElem hk]; rfl
end
theorem mayP_iff {x n : Int} : mayP x n = true ↔ x ≠ 0 ∧ -n ≤ x ∧ x ≤ n := by
  unfold mayP; simp [Bool.and_eq_true, bne_iff_ne, and_assoc]
theorem litV_no {a : List Bool} {x : Int} (h : mayP x 65536 = false) : litV a x = false := by unfold litV; rw [h]; rfl
theorem litV_yes {a : List Bool} {x : Int} (h : mayP x 65536 = true) : litV a x = ((decide ((x.natAbs : Int) < (a.length : Int)) && a.getD ((x.natAbs : Int)).toNat false) == decide (x > 0)) := by
  unfold litV; rw [h]
  simp [Int.ofNat_lt]
theorem chk_arg {N : Int} {cs : List (List Int)} (h : N < 0 ∨ 65536 < N) : chkV N cs = 1 := if_pos h
theorem chk_bad {N : Int} {cs : List (List Int)} (h : ¬ (N < 0 ∨ 65536 < N)) {k : Nat} (hk : k < cs.length) (hb : badL N (cs.getD k []) = true) : chkV N cs = 1 := by
  unfold chkV; rw [if_neg h, if_pos (any_yes hk hb)]
theorem chk_ok {N : Int} {cs : List (List Int)} (h : ¬ (N < 0 ∨ 65536 < N)) (hb : ∀ j, j < cs.length → badL N (cs.getD j []) = false) : chkV N cs = if 65536 < cs.length then 2 else 0 := by
  unfold chkV; rw [if_neg h, if_neg (by rw [any_no hb]; simp)]
theorem chkV_0 {N : Int} {cs : List (List Int)} : chkV N cs = 0 ↔ (0 ≤ N ∧ N ≤ 65536) ∧ (∀ l ∈ cs, ∀ x ∈ l, mayP x N = true) ∧ cs.length ≤ 65536 := by
  unfold chkV
  by_cases h1 : N < 0 ∨ 65536 < N
  · rw [if_pos h1]
    constructor
    · intro h; cases h
    · rintro ⟨h, _⟩; omega
  · rw [if_neg h1]
    by_cases h2 : cs.any (badL N) = true
    · rw [if_pos h2]
      constructor
      · intro h; cases h
      · rintro ⟨_, h, _⟩
        obtain ⟨l, hl, hb⟩ := List.any_eq_true.1 h2
        obtain ⟨x, hx, hn⟩ := List.any_eq_true.1 hb
        rw [h l hl x hx] at hn
        cases hn
    · rw [if_neg h2]
      have hall : ∀ l ∈ cs, ∀ x ∈ l, mayP x N = true := by
        intro l hl x hx
        cases hm : mayP x N with
        | true => rfl
        | false => exact absurd (List.any_eq_true.2 ⟨l, hl, List.any_eq_true.2 ⟨x, hx, by rw [hm]; rfl⟩⟩) h2
      split
      · constructor
        · intro h; cases h
        · rintro ⟨_, _, h⟩; omega
      · exact ⟨fun _ => ⟨by omega, hall, by omega⟩, fun _ => rfl⟩
end Go.Proofs.YtbpbndlgfiammaaGreatDoor.Cn
namespace Go.Proofs.YtbpbndlgfiammaaGreatDoor.Cn
open Go
def opn (t : Int → Bool) (l : List Int) : List Int := l.filter fun x => mayP x 65536 && !t (-x)
def lookV (t : Int → Bool) (l : List Int) : Int × Bool := match opn t l with
  | [] => (0, true)
  | y :: m => if (y :: m).any t = true then (0, false) else if m.all (fun x => x == y) = true then (y, false) else (0, false)
def addT (t : Int → Bool) (y : Int) : Int → Bool := fun z => t z || z == y
inductive Rup (c : List (List Int)) : (Int → Bool) → Prop
  | conf (t : Int → Bool) (l : List Int) : l ∈ c → (lookV t l).2 = true → Rup c t
  | unit (t : Int → Bool) (l : List Int) : l ∈ c → (lookV t l).1 ≠ 0 → Rup c (addT t (lookV t l).1) → Rup c t
theorem opn_mem {t : Int → Bool} {l : List Int} {x : Int} : x ∈ opn t l ↔ x ∈ l ∧ mayP x 65536 = true ∧ t (-x) = false := by
  unfold opn; rw [List.mem_filter]; simp
theorem look_conf {t : Int → Bool} {l : List Int} : (lookV t l).2 = true ↔ ∀ x ∈ l, mayP x 65536 = true → t (-x) = true := by
  unfold lookV
  cases ho : opn t l with
  | nil =>
    refine ⟨fun _ x hx hm => ?_, fun _ => rfl⟩
    cases ht : t (-x) with
    | true => rfl
    | false => have := opn_mem.2 ⟨hx, hm, ht⟩; rw [ho] at this; cases this
  | cons y m =>
    have hy : y ∈ opn t l := by rw [ho]; exact List.mem_cons_self
    obtain ⟨h1, h2, h3⟩ := opn_mem.1 hy
    constructor
    · intro h
      exfalso
      simp only at h
      split at h
      · cases h
      · split at h <;> cases h
    · intro h
      have := h y h1 h2
      rw [h3] at this; cases this
theorem may_ne {x n : Int} (h : mayP x n = true) : x ≠ 0 := (mayP_iff.1 h).1
def UnitV (t : Int → Bool) (l : List Int) (y : Int) : Prop := (y ∈ l ∧ mayP y 65536 = true ∧ t (-y) = false ∧ t y = false) ∧ ∀ x ∈ l, mayP x 65536 = true → t (-x) = true ∨ x = y
theorem look_unit {t : Int → Bool} {l : List Int} (h : (lookV t l).1 ≠ 0) : UnitV t l (lookV t l).1 := by
  unfold lookV at h ⊢
  cases ho : opn t l with
  | nil => rw [ho] at h; exact absurd rfl h
  | cons y m =>
    rw [ho] at h
    have hy : y ∈ opn t l := by rw [ho]; exact List.mem_cons_self
    obtain ⟨h1, h2, h3⟩ := opn_mem.1 hy
    by_cases ha : (y :: m).any t = true
    · simp only [ha, if_true] at h; exact absurd rfl h
    · by_cases hb : m.all (fun x => x == y) = true
      · simp only [ha, hb, if_true, if_false]
        have ha' : ∀ x ∈ y :: m, t x = false := fun x hx => by
          cases ht : t x with
          | false => rfl
          | true => exact absurd (List.any_eq_true.2 ⟨x, hx, ht⟩) ha
        refine ⟨⟨h1, h2, h3, ha' y List.mem_cons_self⟩, fun x hx hm => ?_⟩
        cases ht : t (-x) with
        | true => exact .inl rfl
        | false =>
          have hx2 := opn_mem.2 ⟨hx, hm, ht⟩
          rw [ho] at hx2
          rcases List.mem_cons.1 hx2 with e | e
          · exact .inr e
          · exact .inr (by simpa using (List.all_eq_true.1 hb) x e)
      · simp only [ha, hb, if_false] at h; exact absurd rfl h
theorem unit_look {t : Int → Bool} {l : List Int} {y : Int} (h : UnitV t l y) : lookV t l = (y, false) := by
  obtain ⟨⟨h1, h2, h3, h4⟩, h5⟩ := h
  have hy : y ∈ opn t l := opn_mem.2 ⟨h1, h2, h3⟩
  have hall : ∀ x ∈ opn t l, x = y := fun x hx => by
    obtain ⟨q1, q2, q3⟩ := opn_mem.1 hx
    rcases h5 x q1 q2 with h | h
    · rw [q3] at h; cases h
    · exact h
  unfold lookV
  cases ho : opn t l with
  | nil => rw [ho] at hy; cases hy
  | cons z m =>
    rw [ho] at hall
    have hz : z = y := hall z List.mem_cons_self
    subst hz
    have ha : ¬ (z :: m).any t = true := fun h => by
      obtain ⟨x, hx, ht⟩ := List.any_eq_true.1 h
      rw [hall x hx, h4] at ht; cases ht
    have hb : m.all (fun x => x == z) = true := List.all_eq_true.2 fun x hx => by simpa using hall x (List.mem_cons_of_mem _ hx)
    show (if (z :: m).any t = true then ((0 : Int), false) else if m.all (fun x => x == z) = true then (z, false) else (0, false)) = (z, false)
    rw [if_neg ha, if_pos hb]
theorem look_cases (t : Int → Bool) (l : List Int) : (lookV t l).2 = true ∨ (lookV t l).1 ≠ 0 ∨ lookV t l = (0, false) := by
  cases h2 : (lookV t l).2 with
  | true => exact .inl rfl
  | false =>
    by_cases h1 : (lookV t l).1 = 0
    · exact .inr (.inr (by rw [← h1, ← h2]))
    · exact .inr (.inl h1)
theorem Rup.mono {c : List (List Int)} {t : Int → Bool} (h : Rup c t) : ∀ {c' : List (List Int)} {t' : Int → Bool}, (∀ l ∈ c, ∃ l' ∈ c', ∀ x, x ∈ l ↔ x ∈ l') → (∀ z, t z = true → t' z = true) → Rup c' t' := by
  induction h with
  | conf t l hl hc =>
    intro c' t' hcc ht
    obtain ⟨l', hl', he⟩ := hcc l hl
    exact .conf t' l' hl' (look_conf.2 fun x hx hm => ht _ (look_conf.1 hc x ((he x).2 hx) hm))
  | unit t l hl hy _ ih =>
    intro c' t' hcc ht
    obtain ⟨l', hl', he⟩ := hcc l hl
    obtain ⟨⟨h1, h2, h3, h4⟩, h5⟩ := look_unit hy
    generalize (lookV t l).1 = y at *
    cases hny : t' (-y) with
    | true =>
      refine .conf t' l' hl' (look_conf.2 fun x hx hm => ?_)
      rcases h5 x ((he x).2 hx) hm with h | h
      · exact ht _ h
      · rw [h]; exact hny
    | false =>
      cases hty : t' y with
      | true =>
        refine ih hcc fun z hz => ?_
        simp only [addT, Bool.or_eq_true, beq_iff_eq] at hz
        rcases hz with hz | hz
        · exact ht z hz
        · rw [hz]; exact hty
      | false =>
        have hu : UnitV t' l' y := ⟨⟨(he y).1 h1, h2, hny, hty⟩, fun x hx hm => by
          rcases h5 x ((he x).2 hx) hm with h | h
          · exact .inl (ht _ h)
          · exact .inr h⟩
        have hl := unit_look hu
        refine .unit t' l' hl' (by rw [hl]; exact may_ne h2) (ih hcc fun z hz => ?_)
        rw [hl]
        simp only [addT, Bool.or_eq_true, beq_iff_eq] at hz ⊢
        rcases hz with hz | hz
        · exact .inl (ht z hz)
        · exact .inr hz
theorem Rup.mono_t {c : List (List Int)} {t t' : Int → Bool} (h : Rup c t) (ht : ∀ z, t z = true → t' z = true) : Rup c t' := h.mono (fun l hl => ⟨l, hl, fun _ => Iff.rfl⟩) ht
theorem rup_closed {c : List (List Int)} {t : Int → Bool} (h : ∀ l ∈ c, lookV t l = (0, false)) : ¬ Rup c t := fun hr => by
  cases hr with
  | conf _ l hl hc => rw [h l hl] at hc; cases hc
  | unit _ l hl hy _ => rw [h l hl] at hy; exact hy rfl
def negT (l : List Int) : Int → Bool := fun z => l.any fun x => mayP x 65536 && z == -x
def contra (l : List Int) : Bool := l.any fun x => mayP x 65536 && l.contains (-x)
theorem negT_iff {l : List Int} {z : Int} : negT l z = true ↔ mayP z 65536 = true ∧ -z ∈ l := by
  unfold negT
  rw [List.any_eq_true]
  constructor
  · rintro ⟨x, hx, h⟩
    simp only [Bool.and_eq_true, beq_iff_eq] at h
    obtain ⟨h1, rfl⟩ := h
    rw [mayP_iff] at h1 ⊢
    exact ⟨⟨by omega, by omega, by omega⟩, by rw [Int.neg_neg]; exact hx⟩
  · rintro ⟨h1, h2⟩
    refine ⟨-z, h2, ?_⟩
    simp only [Bool.and_eq_true, beq_iff_eq, Int.neg_neg, and_true]
    rw [mayP_iff] at h1 ⊢
    exact ⟨by omega, by omega, by omega⟩
theorem may_neg {x n : Int} : mayP (-x) n = mayP x n := by
  rw [Bool.eq_iff_iff, mayP_iff, mayP_iff]; constructor <;> rintro ⟨h1, h2, h3⟩ <;> exact ⟨by omega, by omega, by omega⟩
theorem contra_iff {l : List Int} : contra l = true ↔ ∃ x ∈ l, mayP x 65536 = true ∧ -x ∈ l := by
  unfold contra; rw [List.any_eq_true]; simp
def Cons (t : Int → Bool) : Prop := ∀ z, t z = true → t (-z) = false
theorem cons_neg {l : List Int} (h : contra l = false) : Cons (negT l) := fun z hz => by
  cases h2 : negT l (-z) with
  | false => rfl
  | true =>
    have h3 := (negT_iff.1 hz)
    have h4 := (negT_iff.1 h2).2
    rw [Int.neg_neg] at h4
    have := contra_iff.2 ⟨z, h4, h3.1, h3.2⟩
    rw [h] at this; cases this
theorem cons_add {t : Int → Bool} {l : List Int} {y : Int} (h : Cons t) (hu : UnitV t l y) : Cons (addT t y) := fun z hz => by
  obtain ⟨⟨_, h2, h3, h4⟩, _⟩ := hu
  have hy := may_ne h2
  simp only [addT, Bool.or_eq_true, beq_iff_eq] at hz
  simp only [addT, Bool.or_eq_false_iff, beq_eq_false_iff_ne]
  rcases hz with hz | hz
  · refine ⟨h z hz, fun e => ?_⟩
    rw [show z = -y by omega, h3] at hz; cases hz
  · subst hz; exact ⟨h3, by omega⟩
def propV : Nat → List (List Int) → (Int → Bool) → Option Bool
  | 0, _, _ => none
  | n + 1, c, t => if c.any (fun l => (lookV t l).2) = true then some true else match c.find? (fun l => (lookV t l).1 != 0) with
    | none => some false
    | some l => propV n c (addT t (lookV t l).1)
theorem prop_rup : ∀ {n : Nat} {c : List (List Int)} {t : Int → Bool} {b : Bool}, propV n c t = some b → (Rup c t ↔ b = true)
  | 0, _, _, _, h => by cases h
  | n + 1, c, t, b, h => by
    unfold propV at h
    split at h
    · rename_i ha
      cases h
      obtain ⟨l, hl, hc⟩ := List.any_eq_true.1 ha
      exact ⟨fun _ => rfl, fun _ => .conf t l hl hc⟩
    · rename_i ha
      split at h
      · rename_i hf
        cases h
        refine ⟨fun hr => absurd hr (rup_closed fun l hl => ?_), fun h => by cases h⟩
        rcases look_cases t l with h | h | h
        · exact absurd (List.any_eq_true.2 ⟨l, hl, h⟩) ha
        · exact absurd (bne_iff_ne.2 h) (by simpa using (List.find?_eq_none.1 hf) l hl)
        · exact h
      · rename_i l hf
        have hl := List.mem_of_find?_eq_some hf
        have hy : (lookV t l).1 ≠ 0 := bne_iff_ne.1 (List.find?_some (p := fun l => (lookV t l).1 != 0) hf)
        rw [← prop_rup h]
        exact ⟨fun hr => hr.mono_t fun z hz => by simp [addT, hz], fun hr => .unit t l hl hy hr⟩
def satB (t : Int → Bool) (l : List Int) : Bool := l.any fun y => mayP y 65536 && t y
theorem cnt_lt {α : Type} {p q : α → Bool} : ∀ {c : List α}, (∀ x ∈ c, q x = true → p x = true) → (∃ x ∈ c, p x = true ∧ q x = false) → c.countP q < c.countP p
  | [], _, h => by obtain ⟨x, hx, _⟩ := h; cases hx
  | y :: c, hqp, h => by
    have hle : c.countP q ≤ c.countP p := List.countP_mono_left fun x hx h => hqp x (List.mem_cons_of_mem _ hx) h
    rw [List.countP_cons, List.countP_cons]
    obtain ⟨x, hx, h1, h2⟩ := h
    rcases List.mem_cons.1 hx with rfl | hx
    · rw [h1, h2]; simp; omega
    · have := cnt_lt (c := c) (fun x hx h => hqp x (List.mem_cons_of_mem _ hx) h) ⟨x, hx, h1, h2⟩
      have h3 := hqp y List.mem_cons_self
      cases hq : q y <;> cases hp : p y <;> simp_all <;> omega
theorem prop_some : ∀ {n : Nat} {c : List (List Int)} {t : Int → Bool}, Cons t → c.countP (fun l => !satB t l) < n → ∃ b, propV n c t = some b
  | 0, _, _, _, h => absurd h (Nat.not_lt_zero _)
  | n + 1, c, t, hc, h => by
    unfold propV
    split
    · exact ⟨_, rfl⟩
    · split
      · exact ⟨_, rfl⟩
      · rename_i l hf
        have hl := List.mem_of_find?_eq_some hf
        have hy : (lookV t l).1 ≠ 0 := bne_iff_ne.1 (List.find?_some (p := fun l => (lookV t l).1 != 0) hf)
        have hu := look_unit hy
        generalize (lookV t l).1 = y at *
        refine prop_some (cons_add hc hu) (Nat.lt_of_lt_of_le (cnt_lt (fun x _ hx => ?_) ⟨l, hl, ?_, ?_⟩) (Nat.le_of_lt_succ h))
        · simp only [Bool.not_eq_true', satB, List.any_eq_false] at hx ⊢
          intro z hz hzt
          refine hx z hz ?_
          simp only [Bool.and_eq_true] at hzt ⊢
          exact ⟨hzt.1, by simp [addT, hzt.2]⟩
        · simp only [Bool.not_eq_true', satB, List.any_eq_false]
          intro z hz hzt
          simp only [Bool.and_eq_true] at hzt
          rcases hu.2 z hz hzt.1 with h1 | h1
          · rw [hc z hzt.2] at h1; cases h1
          · rw [h1, hu.1.2.2.2] at hzt; cases hzt.2
        · simp only [Bool.not_eq_false', satB, List.any_eq_true]
          exact ⟨y, hu.1.1, by simp [hu.1.2.1, addT]⟩
def flwV (c : List (List Int)) (l : List Int) : Bool := contra l || (propV (c.length + 1) c (negT l) == some true)
theorem prop_neg {c : List (List Int)} {l : List Int} (h : contra l = false) : ∃ b, propV (c.length + 1) c (negT l) = some b := prop_some (cons_neg h) (Nat.lt_succ_of_le List.countP_le_length)
theorem flw_c {c : List (List Int)} {l : List Int} (h : contra l = true) : flwV c l = true := by unfold flwV; rw [h]; rfl
theorem flw_t {c : List (List Int)} {l : List Int} (h : Rup c (negT l)) : flwV c l = true := by
  cases hc : contra l with
  | true => exact flw_c hc
  | false =>
    obtain ⟨b, hb⟩ := prop_neg (c := c) hc
    unfold flwV
    rw [hb, (prop_rup hb).1 h]
    simp
theorem flw_f {c : List (List Int)} {l : List Int} (h : contra l = false) (hr : ¬ Rup c (negT l)) : flwV c l = false := by
  obtain ⟨b, hb⟩ := prop_neg (c := c) h
  unfold flwV
  rw [h, hb]
  cases b with
  | true => exact absurd ((prop_rup hb).2 rfl) hr
  | false => rfl
theorem look_sat {t : Int → Bool} {l : List Int} (hc : Cons t) {y : Int} (hy : y ∈ l) (hm : mayP y 65536 = true) (ht : t y = true) : lookV t l = (0, false) := by
  rcases look_cases t l with h | h | h
  · have := look_conf.1 h y hy hm
    rw [hc y ht] at this; cases this
  · obtain ⟨⟨h1, h2, h3, h4⟩, h5⟩ := look_unit h
    rcases h5 y hy hm with h6 | h6
    · rw [hc y ht] at h6; cases h6
    · rw [← h6, ht] at h4; cases h4
  · exact h
end Go.Proofs.YtbpbndlgfiammaaGreatDoor.Cn
namespace Go.Proofs.YtbpbndlgfiammaaGreatDoor.Cn
open Go
theorem ntT {e : Bool} (h : (!e) = true) : e = false := by cases e <;> simp_all
theorem ntF {e : Bool} (h : (!e) = false) : e = true := by cases e <;> simp_all
def hasK (ks : List Int) : Int → Bool := fun z => ks.contains z
theorem has_add (ks : List Int) (y : Int) : hasK (addK ks y) = addT (hasK ks) y := funext fun z => addK_contains ks y z
def stepO (t : Int → Bool) (s : List Int × Int) (x : Int) : List Int × Int := bif mayP x 65536 && !t (-x) then (addK s.1 x, x) else s
def lkS (t : Int → Bool) (l : List Int) : List Int × Int := l.foldl (stepO t) ([], 0)
theorem lk_next {t : Int → Bool} {l : List Int} {i : Nat} (h : i < l.length) : lkS t (l.take (i + 1)) = stepO t (lkS t (l.take i)) (l.getD i 0) := by
  unfold lkS; rw [take_sD (d := 0) h, List.foldl_append]; rfl
theorem lk_skip {t : Int → Bool} {l : List Int} {i : Nat} (h : i < l.length) (hs : ((!(mayP (l.getD i 0) 65536)) || t (-(l.getD i 0))) = true) : lkS t (l.take (i + 1)) = lkS t (l.take i) := by
  rw [lk_next h]; unfold stepO
  have : (mayP (l.getD i 0) 65536 && !t (-(l.getD i 0))) = false := by
    cases h1 : mayP (l.getD i 0) 65536 <;> cases h2 : t (-(l.getD i 0)) <;> simp_all
  rw [this]; rfl
theorem lk_add {t : Int → Bool} {l : List Int} {i : Nat} (h : i < l.length) (hs : ((!(mayP (l.getD i 0) 65536)) || t (-(l.getD i 0))) = false) : lkS t (l.take (i + 1)) = (addK (lkS t (l.take i)).1 (l.getD i 0), l.getD i 0) := by
  rw [lk_next h]; unfold stepO
  have : (mayP (l.getD i 0) 65536 && !t (-(l.getD i 0))) = true := by
    cases h1 : mayP (l.getD i 0) 65536 <;> cases h2 : t (-(l.getD i 0)) <;> simp_all
  rw [this]; rfl
theorem lk_len (t : Int → Bool) : ∀ (l : List Int) (s : List Int × Int), (l.foldl (stepO t) s).1.length ≤ s.1.length + l.length
  | [], s => by simp
  | x :: l, s => by
    rw [List.foldl_cons]
    have h1 := lk_len t l (stepO t s x)
    have h2 : (stepO t s x).1.length ≤ s.1.length + 1 := by
      unfold stepO
      cases (mayP x 65536 && !t (-x)) with
      | true => exact addK_len _ _
      | false => exact Nat.le_succ _
    simp only [List.length_cons]; omega
theorem lkS_len (t : Int → Bool) (l : List Int) (i : Nat) : (lkS t (l.take i)).1.length ≤ l.length := by
  have := lk_len t (l.take i) ([], 0)
  have h2 : (l.take i).length ≤ l.length := by rw [List.length_take]; omega
  unfold lkS; simp only [List.length_nil] at this; omega
theorem lk_mem (t : Int → Bool) : ∀ (l : List Int) (s : List Int × Int), (∀ x, x ∈ (l.foldl (stepO t) s).1 ↔ x ∈ s.1 ∨ x ∈ opn t l) ∧ ((l.foldl (stepO t) s).2 = s.2 ∧ opn t l = [] ∨ (l.foldl (stepO t) s).2 ∈ opn t l)
  | [], s => ⟨fun x => by simp [opn], .inl ⟨rfl, rfl⟩⟩
  | y :: l, s => by
    rw [List.foldl_cons]
    obtain ⟨h1, h2⟩ := lk_mem t l (stepO t s y)
    have ho : opn t (y :: l) = if (mayP y 65536 && !t (-y)) = true then y :: opn t l else opn t l := by unfold opn; rw [List.filter_cons]
    cases hb : (mayP y 65536 && !t (-y)) with
    | true =>
      have hs : stepO t s y = (addK s.1 y, y) := by unfold stepO; rw [hb]; rfl
      rw [hs] at h1 h2 ⊢
      rw [ho, if_pos hb]
      refine ⟨fun x => ?_, ?_⟩
      · rw [h1 x, addK_mem, List.mem_cons, or_assoc]
      · rcases h2 with ⟨h2, _⟩ | h2
        · right; rw [h2]; exact List.mem_cons_self
        · right; exact List.mem_cons_of_mem _ h2
    | false =>
      have hs : stepO t s y = s := by unfold stepO; rw [hb]; rfl
      rw [hs] at h1 h2 ⊢
      rw [ho, if_neg (by rw [hb]; simp)]
      exact ⟨h1, h2⟩
theorem addK_nd {ks : List Int} {k : Int} (h : ks.Nodup) : (addK ks k).Nodup := by
  unfold addK
  cases hk : ks.contains k with
  | true => exact h
  | false =>
    have hk' : k ∉ ks := fun e => by rw [List.contains_iff_mem.2 e] at hk; cases hk
    show (ks ++ [k]).Nodup
    rw [List.nodup_append]
    exact ⟨h, by simp, fun x hx y hy => by rw [List.mem_singleton.1 hy]; exact fun e => hk' (e ▸ hx)⟩
theorem lk_nd (t : Int → Bool) : ∀ (l : List Int) (s : List Int × Int), s.1.Nodup → (l.foldl (stepO t) s).1.Nodup
  | [], s, h => h
  | x :: l, s, h => by
    rw [List.foldl_cons]
    refine lk_nd t l _ ?_
    unfold stepO
    cases (mayP x 65536 && !t (-x)) with
    | true => exact addK_nd h
    | false => exact h
def noT (t : Int → Bool) (l : List Int) : Prop := ∀ x ∈ opn t l, t x = false
theorem noT_skip {t : Int → Bool} {l : List Int} {i : Nat} (h : i < l.length) (hs : ((!(mayP (l.getD i 0) 65536)) || t (-(l.getD i 0))) = true) (hn : noT t (l.take i)) : noT t (l.take (i + 1)) := fun x hx => by
  obtain ⟨h1, h2, h3⟩ := opn_mem.1 hx
  rw [take_sD (d := 0) h] at h1
  rcases List.mem_append.1 h1 with h1 | h1
  · exact hn x (opn_mem.2 ⟨h1, h2, h3⟩)
  · rw [List.mem_singleton.1 h1] at h2 h3; rw [h2, h3] at hs; cases hs
theorem noT_add {t : Int → Bool} {l : List Int} {i : Nat} (h : i < l.length) (hs : t (l.getD i 0) = false) (hn : noT t (l.take i)) : noT t (l.take (i + 1)) := fun x hx => by
  obtain ⟨h1, h2, h3⟩ := opn_mem.1 hx
  rw [take_sD (d := 0) h] at h1
  rcases List.mem_append.1 h1 with h1 | h1
  · exact hn x (opn_mem.2 ⟨h1, h2, h3⟩)
  · rw [List.mem_singleton.1 h1]; exact hs
theorem noT_0 (t : Int → Bool) (l : List Int) : noT t (l.take 0) := fun x hx => by simp [opn] at hx
theorem look_true {t : Int → Bool} {l : List Int} {i : Nat} (h : i < l.length) (hs : ((!(mayP (l.getD i 0) 65536)) || t (-(l.getD i 0))) = false) (ht : t (l.getD i 0) = true) : lookV t l = (0, false) := by
  have hm : mayP (l.getD i 0) 65536 = true ∧ t (-(l.getD i 0)) = false := by
    cases h1 : mayP (l.getD i 0) 65536 <;> cases h2 : t (-(l.getD i 0)) <;> simp_all
  have hx : l.getD i 0 ∈ opn t l := opn_mem.2 ⟨getD_memL h, hm.1, hm.2⟩
  unfold lookV
  cases ho : opn t l with
  | nil => rw [ho] at hx; cases hx
  | cons y m =>
    show (if (y :: m).any t = true then ((0 : Int), false) else _) = _
    rw [if_pos (List.any_eq_true.2 ⟨_, by rw [← ho]; exact hx, ht⟩)]
section
variable {t : Int → Bool} {l : List Int} {i : Nat} (hi : i = l.length) (hn : noT t (l.take i))
include hi hn
theorem look_0 (h : ((lkS t (l.take i)).1.length : Int) = 0) : lookV t l = (0, true) := by
  subst hi
  rw [List.take_length] at hn h
  have hm := (lk_mem t l ([], 0)).1
  have h0 : (lkS t l).1 = [] := List.eq_nil_of_length_eq_zero (by omega)
  unfold lkS at h0
  unfold lookV
  cases ho : opn t l with
  | nil => rfl
  | cons y m =>
    have := (hm y).2 (.inr (by rw [ho]; exact List.mem_cons_self))
    rw [h0] at this; cases this
theorem look_1 (h : ((lkS t (l.take i)).1.length : Int) = 1) : lookV t l = ((lkS t (l.take i)).2, false) := by
  subst hi
  rw [List.take_length] at hn h ⊢
  obtain ⟨hm, h2⟩ := lk_mem t l ([], 0)
  have hl : (lkS t l).1.length = 1 := by omega
  obtain ⟨z, hz⟩ := List.length_eq_one_iff.1 hl
  have hz' : (l.foldl (stepO t) ([], 0)).1 = [z] := hz
  have hall : ∀ x ∈ opn t l, x = z := fun x hx => by
    have := (hm x).2 (.inr hx)
    rw [hz'] at this
    exact List.mem_singleton.1 this
  have hzo : z ∈ opn t l := by
    have := (hm z).1 (by rw [hz']; exact List.mem_singleton.2 rfl)
    rcases this with h | h
    · cases h
    · exact h
  have h3 : (lkS t l).2 = z := by
    rcases h2 with ⟨_, h2⟩ | h2
    · rw [h2] at hzo; cases hzo
    · exact hall _ h2
  rw [h3]
  obtain ⟨q1, q2, q3⟩ := opn_mem.1 hzo
  refine unit_look ⟨⟨q1, q2, q3, hn z hzo⟩, fun x hx hmx => ?_⟩
  cases ht : t (-x) with
  | true => exact .inl rfl
  | false => exact .inr (hall x (opn_mem.2 ⟨hx, hmx, ht⟩))
theorem look_2 (h0 : ¬ ((lkS t (l.take i)).1.length : Int) = 0) (h1 : ¬ ((lkS t (l.take i)).1.length : Int) = 1) : lookV t l = (0, false) := by
  subst hi
  rw [List.take_length] at hn h0 h1
  obtain ⟨hm, _⟩ := lk_mem t l ([], 0)
  have hnd : (lkS t l).1.Nodup := lk_nd t l ([], 0) List.nodup_nil
  have hex : ∃ a b, a ∈ (lkS t l).1 ∧ b ∈ (lkS t l).1 ∧ a ≠ b := by
    match hq : (lkS t l).1, hnd with
    | [], _ => rw [hq] at h0; exact absurd rfl h0
    | [a], _ => rw [hq] at h1; exact absurd rfl h1
    | a :: b :: m, hnd =>
      refine ⟨a, b, by simp, by simp, fun e => ?_⟩
      have := (List.nodup_cons.1 hnd).1
      exact this (by rw [e]; exact List.mem_cons_self)
  obtain ⟨a, b, ha, hb, hab⟩ := hex
  have hao : a ∈ opn t l := ((hm a).1 ha).elim (fun h => by cases h) id
  have hbo : b ∈ opn t l := ((hm b).1 hb).elim (fun h => by cases h) id
  rcases look_cases t l with h | h | h
  · obtain ⟨q1, q2, q3⟩ := opn_mem.1 hao
    have := look_conf.1 h a q1 q2
    rw [q3] at this; cases this
  · obtain ⟨_, h5⟩ := look_unit h
    obtain ⟨q1, q2, q3⟩ := opn_mem.1 hao
    obtain ⟨r1, r2, r3⟩ := opn_mem.1 hbo
    have e1 := h5 a q1 q2
    have e2 := h5 b r1 r2
    rw [q3] at e1
    rw [r3] at e2
    exact absurd ((e1.resolve_left (by simp)).trans (e2.resolve_left (by simp)).symm) hab
  · exact h
end
def iniK (l : List Int) : List Int := l.foldl (fun ks x => bif mayP x 65536 then addK ks (-x) else ks) []
theorem ini_next {l : List Int} {i : Nat} (h : i < l.length) : iniK (l.take (i + 1)) = bif mayP (l.getD i 0) 65536 then addK (iniK (l.take i)) (-(l.getD i 0)) else iniK (l.take i) := by
  unfold iniK; rw [take_sD (d := 0) h, List.foldl_append]; rfl
theorem ini_skip {l : List Int} {i : Nat} (h : i < l.length) (hm : mayP (l.getD i 0) 65536 = false) : iniK (l.take (i + 1)) = iniK (l.take i) := by rw [ini_next h, hm]; rfl
theorem ini_add {l : List Int} {i : Nat} (h : i < l.length) (hm : mayP (l.getD i 0) 65536 = true) : iniK (l.take (i + 1)) = addK (iniK (l.take i)) (-(l.getD i 0)) := by rw [ini_next h, hm]; rfl
theorem ini_has : ∀ l : List Int, hasK (iniK l) = negT l := fun l => by
  have key : ∀ (l ks : List Int) (z : Int), (l.foldl (fun ks x => bif mayP x 65536 then addK ks (-x) else ks) ks).contains z = (ks.contains z || negT l z) := by
    intro l
    induction l with
    | nil => intro ks z; simp [negT]
    | cons x l ih =>
      intro ks z
      rw [List.foldl_cons, ih]
      have hn : negT (x :: l) z = ((mayP x 65536 && z == -x) || negT l z) := by simp [negT]
      rw [hn]
      cases mayP x 65536 with
      | true => simp only [cond_true, addK_contains, Bool.true_and, Bool.or_assoc]
      | false => simp
  funext z
  have := key l [] z
  unfold hasK iniK
  rw [this]; simp
theorem contra_hit {l : List Int} {i : Nat} (h : i < l.length) (hm : mayP (l.getD i 0) 65536 = true) (hc : (addK (iniK (l.take i)) (-(l.getD i 0))).contains (l.getD i 0) = true) : contra l = true := by
  rw [addK_contains] at hc
  have h0 := may_ne hm
  have h1 : (iniK (l.take i)).contains (l.getD i 0) = true := by
    cases h2 : (iniK (l.take i)).contains (l.getD i 0) with
    | true => rfl
    | false => rw [h2] at hc; simp only [Bool.false_or, beq_iff_eq] at hc; omega
  have h2 : negT (l.take i) (l.getD i 0) = true := by rw [← ini_has]; exact h1
  obtain ⟨_, h3⟩ := negT_iff.1 h2
  exact contra_iff.2 ⟨l.getD i 0, getD_memL h, hm, List.mem_of_mem_take h3⟩
theorem contra_skip {l : List Int} {i : Nat} (h : i < l.length) (hm : mayP (l.getD i 0) 65536 = false) (hc : contra (l.take i) = false) : contra (l.take (i + 1)) = false := by
  cases h2 : contra (l.take (i + 1)) with
  | false => rfl
  | true =>
    obtain ⟨x, h3, h4, h5⟩ := contra_iff.1 h2
    rw [take_sD (d := 0) h] at h3 h5
    have hne : ∀ y, mayP y 65536 = true → y ∈ l.take i ++ [l.getD i 0] → y ∈ l.take i := fun y hy hm2 => by
      rcases List.mem_append.1 hm2 with q | q
      · exact q
      · rw [List.mem_singleton.1 q, hm] at hy; cases hy
    have := contra_iff.2 ⟨x, hne x h4 h3, h4, hne (-x) (by rw [may_neg]; exact h4) h5⟩
    rw [this] at hc; cases hc
theorem contra_add {l : List Int} {i : Nat} (h : i < l.length) (hm : mayP (l.getD i 0) 65536 = true) (hq : (addK (iniK (l.take i)) (-(l.getD i 0))).contains (l.getD i 0) = false) (hc : contra (l.take i) = false) : contra (l.take (i + 1)) = false := by
  cases h2 : contra (l.take (i + 1)) with
  | false => rfl
  | true =>
    obtain ⟨x, h3, h4, h5⟩ := contra_iff.1 h2
    rw [take_sD (d := 0) h] at h3 h5
    rw [addK_contains, Bool.or_eq_false_iff] at hq
    have hno : negT (l.take i) (l.getD i 0) = false := by rw [← ini_has]; exact hq.1
    have hno' : ∀ y, y ∈ l.take i → y ≠ -(l.getD i 0) := fun y hy e => by
      have := negT_iff.2 ⟨hm, by rw [← e]; exact hy⟩
      rw [hno] at this; cases this
    exfalso
    have h0 := may_ne hm
    rcases List.mem_append.1 h3 with q | q <;> rcases List.mem_append.1 h5 with r | r
    · have := contra_iff.2 ⟨x, q, h4, r⟩
      rw [this] at hc; cases hc
    · have := List.mem_singleton.1 r
      exact hno' x q (by omega)
    · have := List.mem_singleton.1 q
      exact hno' (-x) r (by omega)
    · have := List.mem_singleton.1 q
      have := List.mem_singleton.1 r
      omega
def StepI (c : List (List Int)) (l : List Int) (lf : List (List Int)) (ks : List Int) : Prop :=
  lf.length ≤ c.length ∧ (∀ x ∈ lf, x ∈ c) ∧ Cons (hasK ks) ∧ (∀ z, negT l z = true → hasK ks z = true) ∧ (∀ x ∈ c, x ∈ lf ∨ ∃ y ∈ x, mayP y 65536 = true ∧ hasK ks y = true) ∧ (Rup c (hasK ks) → Rup c (negT l))
theorem step_init {c : List (List Int)} {l : List Int} (h : contra l = false) : StepI c l c (iniK l) := by
  have e := ini_has l
  exact ⟨Nat.le_refl _, fun _ h => h, by rw [e]; exact cons_neg h, fun z hz => by rw [e]; exact hz, fun x hx => .inl hx, fun hr => by rw [e] at hr; exact hr⟩
theorem mem_del {lf : List (List Int)} {i : Nat} {x : List Int} (hi : i < lf.length) (hx : x ∈ lf) : x ∈ lf.take i ++ lf.drop (i + 1) ∨ x = lf.getD i [] := by
  have e : lf = lf.take i ++ lf.getD i [] :: lf.drop (i + 1) := by
    rw [List.getD_eq_getElem?_getD, List.getElem?_eq_getElem hi]
    simp
  rw [e] at hx
  rcases List.mem_append.1 hx with h | h
  · exact .inl (List.mem_append_left _ h)
  · rcases List.mem_cons.1 h with h | h
    · exact .inr h
    · exact .inl (List.mem_append_right _ h)
theorem step_next {c : List (List Int)} {l : List Int} {lf : List (List Int)} {ks : List Int} {i : Nat} (h : StepI c l lf ks) (hi : i < lf.length) (hy : (lookV (hasK ks) (lf.getD i [])).1 ≠ 0) : StepI c l (lf.take i ++ lf.drop (i + 1)) (addK ks (lookV (hasK ks) (lf.getD i [])).1) := by
  obtain ⟨h1, h2, h3, h4, h5, h6⟩ := h
  have hu := look_unit hy
  have hmem : lf.getD i [] ∈ c := h2 _ (getD_memL hi)
  refine ⟨by simp; omega, fun x hx => ?_, ?_, fun z hz => ?_, fun x hx => ?_, fun hr => ?_⟩
  · rcases List.mem_append.1 hx with q | q
    · exact h2 x (List.mem_of_mem_take q)
    · exact h2 x (List.mem_of_mem_drop q)
  · rw [has_add]; exact cons_add h3 hu
  · rw [has_add]; simp [addT, h4 z hz]
  · rcases h5 x hx with q | ⟨y, q1, q2, q3⟩
    · rcases mem_del hi q with q | q
      · exact .inl q
      · refine .inr ⟨_, by rw [q]; exact hu.1.1, hu.1.2.1, ?_⟩
        rw [has_add]; simp [addT]
    · exact .inr ⟨y, q1, q2, by rw [has_add]; simp [addT, q3]⟩
  · rw [has_add] at hr
    exact h6 (.unit _ _ hmem hy hr)
theorem step_true {c : List (List Int)} {l : List Int} {lf : List (List Int)} {ks : List Int} {i : Nat} (h : StepI c l lf ks) (hi : i < lf.length) (hq : (lookV (hasK ks) (lf.getD i [])).2 = true) : flwV c l = true :=
  flw_t (h.2.2.2.2.2 (.conf _ _ (h.2.1 _ (getD_memL hi)) hq))
theorem step_false {c : List (List Int)} {l : List Int} {lf : List (List Int)} {ks : List Int} (h : StepI c l lf ks) (hc : contra l = false) (hq : ∀ j, j < lf.length → lookV (hasK ks) (lf.getD j []) = (0, false)) : flwV c l = false := by
  obtain ⟨h1, h2, h3, h4, h5, h6⟩ := h
  refine flw_f hc fun hr => rup_closed (fun x hx => ?_) (hr.mono_t h4)
  rcases h5 x hx with q | ⟨y, q1, q2, q3⟩
  · obtain ⟨j, hj, rfl⟩ := List.mem_iff_getElem.1 q
    have := hq j hj
    rwa [List.getD_eq_getElem?_getD, List.getElem?_eq_getElem hj] at this
  · exact look_sat h3 q1 q2 q3
theorem look_next {ks : List Int} {lf : List (List Int)} {i : Nat} (hok : ∀ j, j < i → lookV (hasK ks) (lf.getD j []) = (0, false)) (h2 : (lookV (hasK ks) (lf.getD i [])).2 = false) (h1 : (lookV (hasK ks) (lf.getD i [])).1 = 0) : ∀ j, j < i + 1 → lookV (hasK ks) (lf.getD j []) = (0, false) := fun j hj => by
  rcases Nat.lt_succ_iff_lt_or_eq.1 hj with h | rfl
  · exact hok j h
  · rw [← h1, ← h2]
theorem mayN {x : Int} (h : (!(!(mayP x 65536))) = true) : -9223372036854775808 ≤ -x ∧ -x ≤ 9223372036854775807 := by
  rw [Bool.not_not, mayP_iff] at h; omega
end Go.Proofs.YtbpbndlgfiammaaGreatDoor.Cn
namespace Go.Proofs.YtbpbndlgfiammaaGreatDoor.Cn
open Go
def alikeB (a b : List Int) : Bool := a.all (fun x => b.contains x) && b.all fun x => a.contains x
theorem alike_iff {a b : List Int} : alikeB a b = true ↔ ∀ x, x ∈ a ↔ x ∈ b := by
  unfold alikeB
  simp only [Bool.and_eq_true, List.all_eq_true, List.contains_iff_mem]
  exact ⟨fun h x => ⟨h.1 x, h.2 x⟩, fun h => ⟨fun x hx => (h x).1 hx, fun x hx => (h x).2 hx⟩⟩
def lineOk (x : Int × List Int) : Bool := decide (1 ≤ x.1) && decide (x.1 ≤ 3) && x.2.all fun y => mayP y 65536
def frmV (p : List (Int × List Int)) : Int := if 65536 < p.length then 2 else if p.all lineOk = true then 0 else 1
def coreOk (N : Int) (core : List Int) : Bool := (List.range core.length).all fun i => mayP (core.getD i 0) N && (!(core.take i).contains (core.getD i 0) && !(core.take i).contains (-(core.getD i 0)))
def runC (L : List (List Int)) : List (List Int) → List (Int × List Int) → Option (List (List Int))
  | cs, [] => some cs
  | cs, x :: p =>
    if x.1 = 1 then (if L.any (fun y => alikeB y x.2) = true then runC L (cs ++ [x.2]) p else none)
    else if x.1 = 2 then (if flwV cs x.2 = true then runC L (cs ++ [x.2]) p else none)
    else if 0 ≤ idxF (fun y => alikeB y x.2) cs then runC L (cs.eraseIdx (idxF (fun y => alikeB y x.2) cs).toNat) p else none
def endC (core : List Int) : Option (List (List Int)) → Int
  | none => 250
  | some cs => if flwV cs (core.map fun x => -x) = true then 0 else 250
def chkC (N : Int) (L : List (List Int)) (p : List (Int × List Int)) (core : List Int) : Int :=
  if chkV N L ≠ 0 then chkV N L else if frmV p ≠ 0 then frmV p else if coreOk N core = false then 1 else endC core (runC L [] p)
theorem run_app {L : List (List Int)} : ∀ {p q : List (Int × List Int)} {cs : List (List Int)}, runC L cs (p ++ q) = (runC L cs p).bind fun ds => runC L ds q
  | [], q, cs => rfl
  | x :: p, q, cs => by
    rw [List.cons_append, runC, runC]
    split
    · split
      · exact run_app
      · rfl
    · split
      · split
        · exact run_app
        · rfl
      · split
        · exact run_app
        · rfl
theorem frm_ok {p : List (Int × List Int)} : frmV p = 0 ↔ p.length ≤ 65536 ∧ p.all lineOk = true := by
  unfold frmV
  by_cases h1 : 65536 < p.length
  · rw [if_pos h1]; exact ⟨fun h => by omega, fun h => by omega⟩
  · rw [if_neg h1]
    by_cases h2 : p.all lineOk = true
    · rw [if_pos h2]; exact ⟨fun _ => ⟨by omega, h2⟩, fun _ => rfl⟩
    · rw [if_neg h2]; exact ⟨fun h => by omega, fun h => absurd h.2 h2⟩
theorem not_any_all {α : Type} {p : α → Bool} (l : List α) : (!(l.any fun x => !p x)) = l.all p := by
  induction l with
  | nil => rfl
  | cons x l ih => rw [List.any_cons, List.all_cons, ← ih]; cases p x <;> simp
theorem right_is (k : Int) (l : List Int) : (((decide (k ≥ 1)) && (decide (k ≤ 3))) && (!(l.any (fun x => !(mayP x 65536))))) = lineOk (k, l) := by
  unfold lineOk; rw [not_any_all]
theorem frm_2 {p : List (Int × List Int)} (h : (p.length : Int) > 65536) : frmV p = 2 := by unfold frmV; rw [if_pos (by omega)]
theorem frm_1 {p : List (Int × List Int)} (h : ¬ (p.length : Int) > 65536) (hq : (p.any fun x => !(lineOk x)) = true) : frmV p = 1 := by
  unfold frmV; rw [if_neg (by omega), ← not_any_all, hq]; rfl
theorem frm_0 {p : List (Int × List Int)} (h : ¬ (p.length : Int) > 65536) (hq : (p.any fun x => !(lineOk x)) = false) : frmV p = 0 := by
  unfold frmV; rw [if_neg (by omega), ← not_any_all, hq]; rfl
end Go.Proofs.YtbpbndlgfiammaaGreatDoor.Cn
namespace Go.Proofs.YtbpbndlgfiammaaGreatDoor.En
open Go Go.RowKit
def g0 (W : World) (G : Nat → Prop) : Gh := ⟨W, G, fun _ => undef, fun _ => False⟩
theorem rep_of_rd {α : Type} {enc : α → Value} {W : World} {G : Nat → Prop} {A : Option Addr} {xs : List α} {l : LD} {c : Nat} (h : Rd enc G W A xs) (hm : xs.length ≤ maxLen) (hl : l.len = xs.length) (hst : l.st = 1) (hcap : xs.length ≤ c)
    (hc : ∀ i (hi : i < xs.length), l.cell i 0 = .val (enc xs[i])) : Rep W G (.ls l) (.slice A xs.length c) := by
  rcases Nat.eq_zero_or_pos xs.length with h0 | h0
  · rw [h0]; exact .nil l A c (by omega)
  · obtain ⟨b, off, rfl, hb, hcell⟩ := h h0
    rw [← hl]
    refine .ls l b off c (fun i _ => if hi : i < xs.length then enc xs[i] else undef) (by omega) (by omega) hb (fun i j hi hj => ?_) (fun i j hi hj => ?_)
    · have hj0 : j = 0 := by omega
      subst hj0
      rw [hst, Nat.mul_one, Nat.add_zero, dif_pos (by omega : i < xs.length)]
      exact hcell i (by omega)
    · have hj0 : j = 0 := by omega
      subst hj0
      rw [dif_pos (by omega : i < xs.length), hc i (by omega)]
      exact .val _
theorem Sound.calls {P : Program} {f : Nat} {σ : CtF} (h : Sound P f σ) {W : World} (hgl : GlOk (g0 W (· < W.heap.size))) {args : List AV} {vs : List Value} {p : Prop} {r : AV} (hσ : σ args [] = some (p, r, [])) (hp : p) (hd : DenL (g0 W (· < W.heap.size)) args vs) :
    Calls P f vs.toArray W (fun e w' => ∃ u, e = .returned u ∧ Below W.heap.size W w' ∧ ∃ g' : Gh, g'.W = w' ∧ (∀ b, g'.G b → b < w'.heap.size) ∧ Den g' r u) := by
  have hnl : ∀ b, ¬ lentTo (g0 W (· < W.heap.size)) [] b := by rintro b ⟨i, hi, _⟩; simp at hi
  refine Calls.mono (h.2 (g0 W (· < W.heap.size)) args [] vs p r [] hσ hp ⟨fun r o h => by simp [objsH] at h, fun r r' o o' b h => by simp [objsH] at h, fun r o b h => by simp [objsH] at h, fun b hb => ⟨hb, .inl hb⟩, Kp.refl _ _, fun i hi => by simp at hi, hgl⟩ (fun r hr => False.elim hr) hd) fun e w' he => ?_
  obtain ⟨u, g', rfl, rfl, _, hm, hdu⟩ := he
  exact ⟨u, rfl, ⟨hm.bel.os, hm.bel.tape, hm.bel.output, hm.bel.size, fun k hk => hm.bel.block k hk (hnl k)⟩, g', rfl, fun b hb => (hm.gb b hb).1, hdu⟩
theorem lawCalls {P : Program} {f : Nat} {σ : CtF} {W : World} (hgl : GlOk (g0 W (· < W.heap.size))) (h : Sound P f σ) {args : List AV} {vs : List Value} {p : Prop} (hσ : σ args [] = some (p, .bool true, [])) (hp : p) (hd : DenL (g0 W (· < W.heap.size)) args vs) :
    Calls P f vs.toArray W (fun e w' => e = .returned (.bool true) ∧ Below W.heap.size W w') := by
  refine Calls.mono (h.calls hgl hσ hp hd) fun e w' he => ?_
  obtain ⟨u, rfl, hb, g', _, _, hd⟩ := he
  rw [den_val hd]
  exact ⟨rfl, hb⟩
theorem den_ints {W : World} {A : Option Addr} {xs : List Int} {c : Nat} (h : Rd I64 (· < W.heap.size) W A xs) (hm : xs.length ≤ maxLen) (hcap : xs.length ≤ c) : Den (g0 W (· < W.heap.size)) (.ints xs) (.slice A xs.length c) := by
  simp only [Den]
  exact rep_of_rd h hm rfl rfl hcap fun i hi => by simp [LD.cell, List.getD, List.getElem?_eq_getElem hi, I64]
end Go.Proofs.YtbpbndlgfiammaaGreatDoor.En
namespace Go.Proofs.YtbpbndlgfiammaaGreatDoor.En
open Go Go.RowKit
def encL : LD → List Value
  | .ints xs => xs.map I64
  | .bools xs => xs.map Value.bool
  | _ => []
def isFlat1 : LD → Bool
  | .ints _ => true
  | .bools _ => true
  | _ => false
theorem encL_len {l : LD} (h : isFlat1 l = true) : (encL l).length = l.len ∧ l.st = 1 := by
  cases l <;> simp [isFlat1] at h <;> simp [encL, LD.len, LD.st]
theorem encL_cell {l : LD} (h : isFlat1 l = true) {W : World} {G : Nat → Prop} {i : Nat} (hi : i < l.len) : Rep W G (l.cell i 0) ((encL l).getD i undef) := by
  cases l <;> simp [isFlat1] at h
  · rename_i xs
    simp only [LD.len] at hi
    have : (encL (.ints xs)).getD i undef = I64 (xs.getD i 0) := by simp [encL, List.getD, List.getElem?_eq_getElem hi]
    rw [this]; exact .val _
  · rename_i xs
    simp only [LD.len] at hi
    have : (encL (.bools xs)).getD i undef = .bool (xs.getD i false) := by simp [encL, List.getD, List.getElem?_eq_getElem hi]
    rw [this]; exact .val _
theorem encL_of {l : LD} (h : isFlat1 l = true) {W : World} {G : Nat → Prop} {xs : List Value} (hl : xs.length = l.len) (hc : ∀ i, i < l.len → Rep W G (l.cell i 0) (xs.getD i undef)) : xs = encL l := by
  have hn := (encL_len h).1
  apply List.ext_getElem (by rw [hl, hn])
  intro i h1 h2
  have hi : i < l.len := by omega
  have hr := hc i hi
  have e1 : xs.getD i undef = xs[i] := by simp [List.getD, List.getElem?_eq_getElem h1]
  rw [e1] at hr
  cases l <;> simp [isFlat1] at h
  · rename_i ys
    have hr' : xs[i] = I64 (ys.getD i 0) := den_val (g := ⟨W, G, fun _ => undef, fun _ => False⟩) (by simp only [Den]; exact hr)
    simp only [LD.len] at hi
    rw [hr']; simp [encL, List.getD, List.getElem?_eq_getElem hi]
  · rename_i ys
    have hr' : xs[i] = .bool (ys.getD i false) := den_val (g := ⟨W, G, fun _ => undef, fun _ => False⟩) (by simp only [Den]; exact hr)
    simp only [LD.len] at hi
    rw [hr']; simp [encL, List.getD, List.getElem?_eq_getElem hi]
theorem sound_row {P : Program} {f e : Nat} {σ : CtF} (hen : ∀ args W, (callFunc f args).run P W = .ok (.enter f args) W)
    (h : ∀ args os p r outs, σ args os = some (p, r, outs) → ∃ avs l l', args = .row 0 :: avs ∧ os = [.row e l] ∧ r = .row 1 ∧ outs = [none, some (.row e l')] ∧ pureL avs = true ∧ isFlat1 l = true ∧ isFlat1 l' = true ∧
      (p → l'.len ≤ maxLen ∧ ∀ (W : World) (G : Nat → Prop) (v : Value) (vs : List Value), (∀ b, G b → b < W.heap.size) → (∀ b, v.ownBlock = some b → ¬ G b) → GlOk (g0 W G) → Own W e v (encL l) → l.len ≤ maxLen → DenL (g0 W G) avs vs →
        Calls P f (v :: vs).toArray W fun e' W' => ∃ v', e' = .returned v' ∧ Own W' e v' (encL l') ∧ W.grownBy W' v.ownBlock ∧ ∀ b, v'.ownBlock = some b → v.ownBlock = some b ∨ b = W.heap.size)) : Sound P f σ := by
  refine ⟨hen, fun g args os vs p r outs hσ hp hm hU hd => ?_⟩
  obtain ⟨avs, l, l', rfl, rfl, rfl, rfl, hpu, hf, hf', hcall⟩ := h args os p r outs hσ
  obtain ⟨hmx', hcall⟩ := hcall hp
  simp only [DenL] at hd
  obtain ⟨v, vs', rfl, hd0, hd1⟩ := hd
  simp only [Den] at hd0
  obtain ⟨hu0, hv, _⟩ := hd0
  obtain ⟨_, xs, ho, hmx, hc⟩ := hm.ok 0 (.row e l) rfl
  obtain ⟨hn, hst⟩ := encL_len hf
  rw [hst] at ho
  obtain ⟨ho1, hxl⟩ := ho.one
  have hxs : xs = encL l := encL_of hf hxl fun i hi => by have := hc i 0 hi (by omega); rwa [hst, Nat.mul_one, Nat.add_zero] at this
  rw [← hv, hxs] at ho1
  have hblk : blkOf v = v.ownBlock := own_blk ho1
  have hnU : ¬ g.U 1 := fun hu => by have := hU 1 hu; simp at this
  refine Calls.mono (hcall g.W g.G v vs' (fun b hb => (hm.gb b hb).1) (fun b hb => (hm.own 0 _ b rfl (by rw [← hv, hblk]; exact hb)).1) (fun kk ys hk => hm.anc.2 kk ys hk) ho1 hmx (DenL.pure (g := g) (g' := g0 g.W g.G) rfl rfl _ _ hpu hd1)) fun e' W' he => ?_
  obtain ⟨v', rfl, ho', hg, hb'⟩ := he
  obtain ⟨hn', hst'⟩ := encL_len hf'
  have hgood := good_row (nm := 1) (e := e) (l := l') (v := v') (xs := encL l') (W' := W') (ob := v.ownBlock) (H' := outsH [none, some (.row e l')]) hm hnU hg (fun b hb => hm.own 0 _ b rfl (by rw [← hv, hblk]; exact hb)) (fun x o hx => ?_)
    (by rw [hst']; exact .of_one ho' hn') hmx' (fun i j hi hj => by
      rw [hst'] at hj ⊢
      have : j = 0 := by omega
      subst this
      rw [Nat.mul_one, Nat.add_zero]
      exact encL_cell hf' hi) (fun b hb => by rw [own_blk ho'] at hb; exact hb' b hb)
  · obtain ⟨g', h1, h2, _, h4, h5⟩ := hgood
    exact ⟨v', g', rfl, h1, h2, h4, h5⟩
  · match x, hx with
    | 1, hx => left; simp [outsH] at hx; exact ⟨rfl, hx.symm⟩
    | 0, hx => simp [outsH] at hx
    | n + 2, hx => simp [outsH] at hx
theorem sound_inrow {P : Program} {f e : Nat} {σ : CtF} (hen : ∀ args W, (callFunc f args).run P W = .ok (.enter f args) W)
    (h : ∀ args os p r outs, σ args os = some (p, r, outs) → ∃ avs l l' R, args = .row 0 :: avs ∧ os = [.row e l] ∧ r = .tup [] ∧ outs = [some (.row e l')] ∧ pureL avs = true ∧ isFlat1 l = true ∧ isFlat1 l' = true ∧ R = Value.tuple #[] ∧
      (p → l'.len ≤ maxLen ∧ l'.len = l.len ∧ ∀ (W : World) (G : Nat → Prop) (v : Value) (vs : List Value), (∀ b, G b → b < W.heap.size) → (∀ b, v.ownBlock = some b → ¬ G b) → GlOk (g0 W G) → Own W e v (encL l) → l.len ≤ maxLen → DenL (g0 W G) avs vs →
        Calls P f (v :: vs).toArray W fun e' W' => e' = .returned R ∧ Own W' e v (encL l') ∧ Kp (fun b => v.ownBlock = some b) W W')) : Sound P f σ := by
  refine ⟨hen, fun g args os vs p r outs hσ hp hm hU hd => ?_⟩
  obtain ⟨avs, l, l', R, rfl, rfl, rfl, rfl, hpu, hf, hf', rfl, hcall⟩ := h args os p r outs hσ
  obtain ⟨hmx', hll, hcall⟩ := hcall hp
  simp only [DenL] at hd
  obtain ⟨v, vs', rfl, hd0, hd1⟩ := hd
  simp only [Den] at hd0
  obtain ⟨hu0, hv, _⟩ := hd0
  obtain ⟨_, xs, ho, hmx, hc⟩ := hm.ok 0 (.row e l) rfl
  obtain ⟨hn, hst⟩ := encL_len hf
  rw [hst] at ho
  obtain ⟨ho1, hxl⟩ := ho.one
  have hxs : xs = encL l := encL_of hf hxl fun i hi => by have := hc i 0 hi (by omega); rwa [hst, Nat.mul_one, Nat.add_zero] at this
  rw [← hv, hxs] at ho1
  have hblk : blkOf v = v.ownBlock := own_blk ho1
  have hnG : ∀ b, v.ownBlock = some b → ¬ g.G b := fun b hb => (hm.own 0 _ b rfl (by rw [← hv, hblk]; exact hb)).1
  refine Calls.mono (hcall g.W g.G v vs' (fun b hb => (hm.gb b hb).1) hnG (fun kk ys hk => hm.anc.2 kk ys hk) ho1 hmx (DenL.pure (g := g) (g' := g0 g.W g.G) rfl rfl _ _ hpu hd1)) fun e' W' he => ?_
  obtain ⟨rfl, ho', hk⟩ := he
  obtain ⟨hn', hst'⟩ := encL_len hf'
  let g' : Gh := ⟨W', g.G, g.β, g.U⟩
  have hle : g.le g' := ⟨fun b hb => hk.block b (hm.gb b hb).1 (fun h => hnG b h hb), fun _ hb => hb, fun _ hr => ⟨hr, rfl⟩⟩
  have hlk : ∀ x o, outsH [some (.row e l')] x = some o → x = 0 ∧ o = .row e l' := by
    intro x o hx
    match x, hx with
    | 0, hx => simp [outsH] at hx; exact ⟨rfl, hx.symm⟩
    | n + 1, hx => simp [outsH] at hx
  refine ⟨_, g', rfl, rfl, hle, ⟨fun x o hx => ?_, fun x x' o o' b hx hx' _ _ => (hlk x o hx).1.trans (hlk x' o' hx').1.symm, fun x o b hx hb => ?_, fun b hb => ⟨Nat.lt_of_lt_of_le (hm.gb b hb).1 hk.size, (hm.gb b hb).2⟩, ⟨hk.os, hk.tape, hk.output, hk.size, fun b hb hno => hk.block b hb fun h => hno ⟨0, by simp, by rw [← hv, hblk]; exact h⟩⟩, hm.anc_up hle⟩, ?_⟩
  · obtain ⟨rfl, rfl⟩ := hlk x o hx
    refine ⟨hu0, ?_⟩
    show ObjOk g' (g.β 0) (.row e l')
    rw [← hv]
    exact ⟨encL l', by rw [hst']; exact .of_one ho' hn', hmx', fun i j hi hj => by
      rw [hst'] at hj ⊢
      have : j = 0 := by omega
      subst this
      rw [Nat.mul_one, Nat.add_zero]
      exact encL_cell hf' hi⟩
  · obtain ⟨rfl, rfl⟩ := hlk x o hx
    exact hm.own 0 _ b rfl hb
  · simp only [Den]; exact ⟨[], rfl, by simp [DenL]⟩
theorem sound_new {P : Program} {f e : Nat} {σ : CtF} (hen : ∀ args W, (callFunc f args).run P W = .ok (.enter f args) W)
    (h : ∀ args os p r outs, σ args os = some (p, r, outs) → ∃ l', os = [] ∧ r = .row 0 ∧ outs = [some (.row e l')] ∧ isFlat1 l' = true ∧
      (p → l'.len ≤ maxLen ∧ ∀ (W : World) (G : Nat → Prop) (vs : List Value), (∀ b, G b → b < W.heap.size) → GlOk (g0 W G) → DenL (g0 W G) args vs →
        Calls P f vs.toArray W fun e' W' => ∃ v', e' = .returned v' ∧ Own W' e v' (encL l') ∧ Below W.heap.size W W' ∧ ∀ b, v'.ownBlock = some b → W.heap.size ≤ b)) : Sound P f σ := by
  refine ⟨hen, fun g args os vs p r outs hσ hp hm hU hd => ?_⟩
  obtain ⟨l', rfl, rfl, rfl, hf', hcall⟩ := h args os p r outs hσ
  obtain ⟨hmx', hcall⟩ := hcall hp
  have hU' : ∀ r, ¬ g.U r := fun r hr => absurd (hU r hr) (by simp)
  have hd' : DenL (g0 g.W g.G) args vs := by
    have := DenL.map (f := id) (g := g) (g' := g0 g.W g.G) rfl rfl args vs (fun r _ hu => absurd hu (hU' r)) hd
    rwa [mapRL_id] at this
  refine Calls.mono (hcall g.W g.G vs (fun b hb => (hm.gb b hb).1) (fun kk ys hk => hm.anc.2 kk ys hk) hd') fun e' W' he => ?_
  obtain ⟨v', rfl, ho', hb, hnew⟩ := he
  obtain ⟨hn', hst'⟩ := encL_len hf'
  let g' : Gh := ⟨W', g.G, fun r => if r = 0 then v' else g.β r, fun r => g.U r ∨ r = 0⟩
  have hle : g.le g' := ⟨fun b hg => hb.block b (hm.gb b hg).1, fun _ hb => hb, fun r hr => absurd hr (hU' r)⟩
  have hlk : ∀ x o, outsH [some (.row e l')] x = some o → x = 0 ∧ o = .row e l' := by
    intro x o hx
    match x, hx with
    | 0, hx => simp [outsH] at hx; exact ⟨rfl, hx.symm⟩
    | n + 1, hx => simp [outsH] at hx
  have hb0 : g'.β 0 = v' := by show (if (0 : Nat) = 0 then v' else g.β 0) = v'; rw [if_pos rfl]
  obtain ⟨A, cap, hform, _⟩ := ho'.form
  refine ⟨v', g', rfl, rfl, hle, ⟨fun x o hx => ?_, fun x x' o o' b hx hx' _ _ => (hlk x o hx).1.trans (hlk x' o' hx').1.symm, fun x o b hx hbk => ?_, fun b hg => ⟨Nat.lt_of_lt_of_le (hm.gb b hg).1 hb.size, (hm.gb b hg).2⟩, ⟨hb.os, hb.tape, hb.output, hb.size, fun b hlt _ => hb.block b hlt⟩, fun r hr => absurd hr (by simp), hm.anc.2.up hle⟩, ?_⟩
  · obtain ⟨rfl, rfl⟩ := hlk x o hx
    refine ⟨.inr rfl, ?_⟩
    rw [hb0]
    exact ⟨encL l', by rw [hst']; exact .of_one ho' hn', hmx', fun i j hi hj => by
      rw [hst'] at hj ⊢
      have : j = 0 := by omega
      subst this
      rw [Nat.mul_one, Nat.add_zero]
      exact encL_cell hf' hi⟩
  · obtain ⟨rfl, rfl⟩ := hlk x o hx
    rw [hb0, own_blk ho'] at hbk
    have := hnew b hbk
    exact ⟨fun hg => by have := (hm.gb b hg).1; omega, .inl this⟩
  · simp only [Den]
    exact ⟨.inr rfl, hb0.symm, .inl ⟨A, _, cap, hform⟩⟩
end Go.Proofs.YtbpbndlgfiammaaGreatDoor.En
namespace Go.Proofs.YtbpbndlgfiammaaGreatDoor
open Go Go.RowKit Go.Sort
section
variable {α : Type} [Inhabited α] {enc : α → Value} {w : World} {e g off n cap : Nat} {xs ys : List α}
theorem Own.cur {v : Value} {us : List Value} (h : Own w e v us) (hv : v = .slice (some ⟨g, off, none⟩) n cap) (he : e ≠ 5 := by decide) : ∃ cur, w.heap[g]? = some (.cells cur e (0, 0)) ∧ us.length ≤ cap ∧ cap ≤ maxLen ∧ off + cap ≤ cur.size ∧ us.length = n ∧ ∀ j (h : j < us.length), cur[off + j]? = some us[j] := by
  rcases h with ⟨rfl, _⟩ | ⟨g', off', cap', cur, rfl, h1, h2, h3, h4, h5⟩
  · cases hv
  · injection hv with ha hn hc
    injection ha with ha
    injection ha with hb ho
    subst hb ho hc
    exact ⟨cur, h1.plain he, h2, h3, h4, hn, h5⟩
theorem own_holds (ho : Own w e (.slice (some ⟨g, off, none⟩) n cap) (xs.map enc)) (he : e ≠ 5 := by decide) : Holds enc w g off xs.toArray := fun j hj => by
  obtain ⟨cur, h1, h2, h3, h4, hn, h5⟩ := ho.cur rfl he
  have hj' : j < xs.length := by simpa using hj
  refine ⟨?_, by simp [World.frozen?, h1]⟩
  rw [cell_of_row w g _ cur e (0, 0) h1, h5 j (by simpa using hj')]
  simp [getElem!_pos xs.toArray j hj]
theorem sort_kp (q : Nat) (d : Array α) (os : Array Obj) : Kp (fun b => b = g) w (sortWorld enc w g off q d os) := by
  have hs : (w.heap.modify g (onCells (putCells enc off d))).size = w.heap.size := by simp
  refine ⟨rfl, rfl, rfl, ?_, fun k hk hn => ?_⟩
  · show w.heap.size ≤ ((w.heap.modify g (onCells (putCells enc off d))) ++ os).size
    rw [Array.size_append, hs]; omega
  · show ((w.heap.modify g (onCells (putCells enc off d))) ++ os)[k]? = _
    rw [Array.getElem?_append_left (by rw [hs]; exact hk), Array.getElem?_modify, if_neg (fun h => hn h.symm)]
theorem sort_own (ho : Own w e (.slice (some ⟨g, off, none⟩) n cap) (xs.map enc)) (q : Nat) (os : Array Obj) (hl : ys.length = xs.length) {m : Nat} (hm : m ≤ ys.length) (he : e ≠ 5 := by decide) :
    Own (sortWorld enc w g off q ys.toArray os) e (.slice (some ⟨g, off, none⟩) m cap) ((ys.take m).map enc) := by
  obtain ⟨cur, h1, h2, h3, h4, hn, h5⟩ := ho.cur rfl he
  have hg : g < w.heap.size := (Array.getElem?_eq_some_iff.1 h1).1
  have hs : (w.heap.modify g (onCells (putCells enc off ys.toArray))).size = w.heap.size := by simp
  rw [List.length_map] at h2
  refine .inr ⟨g, off, cap, putCells enc off ys.toArray cur, by simp [Nat.min_eq_left hm], ?_, by simp; omega, h3, by simpa [putCells] using h4, fun j hj => ?_⟩
  · refine .mk0 ?_
    show ((w.heap.modify g (onCells (putCells enc off ys.toArray))) ++ os)[g]? = _
    rw [Array.getElem?_append_left (by rw [hs]; exact hg), Array.getElem?_modify, if_pos rfl, h1]
    rfl
  · have hj' : j < m ∧ j < ys.length := by simp only [List.length_map, List.length_take] at hj; omega
    have hjc : off + j < cur.size := by omega
    simp only [putCells, Array.getElem?_mapIdx, Array.getElem?_eq_getElem hjc, Option.map_some]
    rw [if_pos ⟨by omega, by simp; omega⟩, show off + j - off = j by omega]
    simp [hj'.2]
end
end Go.Proofs.YtbpbndlgfiammaaGreatDoor
namespace Go.Proofs
open Go.Shelf
def Tryz.shDelL_ren : Go.Shelf.Ren := ⟨fun | 45 => 39 | n => n, fun | 22 => 22 | 23 => 23 | 3 => 3 | 4 => 4 | 0 => 0 | n => n, fun | n => n⟩
theorem Tryz.shDelL : Go.Proofs.SlLaysE.n45 Tryz.prog Tryz.shDelL_ren := {
  mixed := by kernel_rfl
  f45 := ⟨Tryz.f39.name, by decide, Tryz.func39.trans (congrArg some (by kernel_rfl))⟩
  t0 := Tryz.underlying0
  a0 := Tryz.isAgg0
  z0 := Tryz.sizeOf0
  v0 := Tryz.zeroValue0
  t3 := Tryz.underlying3
  a3 := Tryz.isAgg3
  z3 := Tryz.sizeOf3
  v3 := Tryz.zeroValue3
  t4 := Tryz.underlying4
  a4 := Tryz.isAgg4
  z4 := Tryz.sizeOf4
  v4 := Tryz.zeroValue4
  t22 := Tryz.underlying22
  a22 := Tryz.isAgg22
  z22 := Tryz.sizeOf22
  v22 := Tryz.zeroValue22
  a23 := Tryz.isAgg23
  z23 := Tryz.sizeOf23 }
def Tryz.shSort_ren : Go.Shelf.Ren := ⟨fun | 5 => 129 | 8 => 123 | 7 => 159 | 19 => 156 | 20 => 157 | 10 => 177 | 11 => 178 | 12 => 179 | 13 => 180 | 14 => 181 | 15 => 182 | 16 => 183 | 17 => 184 | 18 => 185 | 30 => 192 | 31 => 173 | 32 => 174 | 33 => 193 | 34 => 194 | 35 => 124 | 40 => 195 | n => n, fun | 23 => 23 | 25 => 3 | 3 => 3 | 32 => 133 | 22 => 23 | 0 => 0 | 44 => 143 | 46 => 128 | 4 => 4 | 36 => 157 | 35 => 156 | 41 => 68 | 5 => 5 | 9 => 9 | 53 => 178 | 57 => 182 | 63 => 195 | 64 => 196 | n => n, fun | n => n⟩
theorem Tryz.shSort : Go.Proofs.SlLaysM.n5 Tryz.prog Tryz.shSort_ren := {
  mixed := by kernel_rfl
  f5 := ⟨Tryz.f129.name, by decide, Tryz.func129.trans (congrArg some (by kernel_rfl))⟩
  f7 := ⟨Tryz.f159.name, by decide, Tryz.func159.trans (congrArg some (by kernel_rfl))⟩
  f8 := Tryz.func123.trans (congrArg some (by kernel_rfl))
  f10 := ⟨Tryz.f177.name, by decide, Tryz.func177.trans (congrArg some (by kernel_rfl))⟩
  f11 := ⟨Tryz.f178.name, by decide, Tryz.func178.trans (congrArg some (by kernel_rfl))⟩
  f12 := ⟨Tryz.f179.name, by decide, Tryz.func179.trans (congrArg some (by kernel_rfl))⟩
  f13 := ⟨Tryz.f180.name, by decide, Tryz.func180.trans (congrArg some (by kernel_rfl))⟩
  f14 := ⟨Tryz.f181.name, by decide, Tryz.func181.trans (congrArg some (by kernel_rfl))⟩
  f15 := ⟨Tryz.f182.name, by decide, Tryz.func182.trans (congrArg some (by kernel_rfl))⟩
  f16 := ⟨Tryz.f183.name, by decide, Tryz.func183.trans (congrArg some (by kernel_rfl))⟩
  f17 := ⟨Tryz.f184.name, by decide, Tryz.func184.trans (congrArg some (by kernel_rfl))⟩
  f18 := ⟨Tryz.f185.name, by decide, Tryz.func185.trans (congrArg some (by kernel_rfl))⟩
  f19 := Tryz.func156.trans (congrArg some (by kernel_rfl))
  f20 := Tryz.func157.trans (congrArg some (by kernel_rfl))
  f30 := ⟨Tryz.f192.name, by decide, Tryz.func192.trans (congrArg some (by kernel_rfl))⟩
  f31 := Tryz.func173.trans (congrArg some (by kernel_rfl))
  f32 := Tryz.func174.trans (congrArg some (by kernel_rfl))
  f33 := ⟨Tryz.f193.name, by decide, Tryz.func193.trans (congrArg some (by kernel_rfl))⟩
  f34 := ⟨Tryz.f194.name, by decide, Tryz.func194.trans (congrArg some (by kernel_rfl))⟩
  f35 := ⟨Tryz.f124.name, by decide, Tryz.func124.trans (congrArg some (by kernel_rfl))⟩
  f40 := ⟨Tryz.f195.name, by decide, Tryz.func195.trans (congrArg some (by kernel_rfl))⟩
  t0 := Tryz.underlying0
  a0 := Tryz.isAgg0
  z0 := Tryz.sizeOf0
  v0 := Tryz.zeroValue0
  t3 := Tryz.underlying3
  a3 := Tryz.isAgg3
  z3 := Tryz.sizeOf3
  v3 := Tryz.zeroValue3
  t4 := Tryz.underlying4
  a4 := Tryz.isAgg4
  z4 := Tryz.sizeOf4
  v4 := Tryz.zeroValue4
  t5 := Tryz.underlying5
  a5 := Tryz.isAgg5
  z5 := Tryz.sizeOf5
  v5 := Tryz.zeroValue5
  t9 := Tryz.underlying9
  a9 := Tryz.isAgg9
  z9 := Tryz.sizeOf9
  v9 := Tryz.zeroValue9
  t22 := Tryz.underlying23
  a22 := Tryz.isAgg23
  z22 := Tryz.sizeOf23
  v22 := Tryz.zeroValue23
  t23 := Tryz.underlying23
  a23 := Tryz.isAgg23
  z23 := Tryz.sizeOf23
  v23 := Tryz.zeroValue23
  t25 := Tryz.underlying3
  a25 := Tryz.isAgg3
  z25 := Tryz.sizeOf3
  v25 := Tryz.zeroValue3
  t32 := Tryz.underlying133
  a32 := Tryz.isAgg133
  z32 := Tryz.sizeOf133
  v32 := Tryz.zeroValue133
  t35 := Tryz.underlying156
  a35 := Tryz.isAgg156
  z35 := Tryz.sizeOf156
  v35 := Tryz.zeroValue156
  t36 := Tryz.underlying157
  a36 := Tryz.isAgg157
  z36 := Tryz.sizeOf157
  v36 := Tryz.zeroValue157
  t41 := Tryz.underlying68
  a41 := Tryz.isAgg68
  z41 := Tryz.sizeOf68
  v41 := Tryz.zeroValue68
  t44 := Tryz.underlying143
  a44 := Tryz.isAgg143
  z44 := Tryz.sizeOf143
  v44 := Tryz.zeroValue143
  t46 := Tryz.underlying128
  a46 := Tryz.isAgg128
  z46 := Tryz.sizeOf128
  v46 := Tryz.zeroValue128
  t53 := Tryz.underlying178
  a53 := Tryz.isAgg178
  z53 := Tryz.sizeOf178
  v53 := Tryz.zeroValue178
  t57 := Tryz.underlying182
  a57 := Tryz.isAgg182
  z57 := Tryz.sizeOf182
  v57 := Tryz.zeroValue182
  t63 := Tryz.underlying195
  a63 := Tryz.isAgg195
  z63 := Tryz.sizeOf195
  v63 := Tryz.zeroValue195
  t64 := Tryz.underlying196
  a64 := Tryz.isAgg196
  z64 := Tryz.sizeOf196
  v64 := Tryz.zeroValue196 }
def Tryz.shCompact_ren : Go.Shelf.Ren := ⟨fun | 43 => 99 | n => n, fun | 22 => 23 | 23 => 3 | 3 => 3 | 4 => 4 | 0 => 0 | n => n, fun | n => n⟩
theorem Tryz.shCompact : Go.Proofs.SlLaysN.n43 Tryz.prog Tryz.shCompact_ren := {
  mixed := by kernel_rfl
  f43 := ⟨Tryz.f99.name, by decide, Tryz.func99.trans (congrArg some (by kernel_rfl))⟩
  t0 := Tryz.underlying0
  a0 := Tryz.isAgg0
  z0 := Tryz.sizeOf0
  v0 := Tryz.zeroValue0
  t3 := Tryz.underlying3
  a3 := Tryz.isAgg3
  z3 := Tryz.sizeOf3
  v3 := Tryz.zeroValue3
  t4 := Tryz.underlying4
  a4 := Tryz.isAgg4
  z4 := Tryz.sizeOf4
  v4 := Tryz.zeroValue4
  t22 := Tryz.underlying23
  a22 := Tryz.isAgg23
  z22 := Tryz.sizeOf23
  v22 := Tryz.zeroValue23
  t23 := Tryz.underlying3
  a23 := Tryz.isAgg3
  z23 := Tryz.sizeOf3
  v23 := Tryz.zeroValue3
  i23 := by kernel_rfl }
end Go.Proofs
namespace Go.Proofs.YtbpbndlgfiammaaGreatDoor.En
open Go Go.RowKit Go.Sort Go.Shelf
theorem sound_rowR {P : Program} {f e : Nat} {σ : CtF} (hen : ∀ args W, (callFunc f args).run P W = .ok (.enter f args) W)
    (h : ∀ args os p r outs, σ args os = some (p, r, outs) → ∃ avs l l', args = .row 0 :: avs ∧ os = [.row e l] ∧ r = .row 1 ∧ outs = [none, some (.row e l')] ∧ pureL avs = true ∧ l.st = 1 ∧ l'.st = 1 ∧
      (p → l'.len ≤ maxLen ∧ ∀ (W : World) (G : Nat → Prop) (v : Value) (vs us : List Value), (∀ b, G b → b < W.heap.size) → (∀ b, v.ownBlock = some b → ¬ G b) → GlOk (g0 W G) → Own W e v us → us.length = l.len → (∀ i, i < l.len → Rep W G (l.cell i 0) (us.getD i undef)) → l.len ≤ maxLen → DenL (g0 W G) avs vs →
        Calls P f (v :: vs).toArray W fun e' W' => ∃ v' us', e' = .returned v' ∧ Own W' e v' us' ∧ us'.length = l'.len ∧ (∀ i, i < l'.len → Rep W G (l'.cell i 0) (us'.getD i undef)) ∧ W.grownBy W' v.ownBlock ∧ ∀ b, v'.ownBlock = some b → v.ownBlock = some b ∨ W.heap.size ≤ b)) : Sound P f σ := by
  refine ⟨hen, fun g args os vs p r outs hσ hp hm hU hd => ?_⟩
  obtain ⟨avs, l, l', rfl, rfl, rfl, rfl, hpu, hst, hst', hcall⟩ := h args os p r outs hσ
  obtain ⟨hmx', hcall⟩ := hcall hp
  simp only [DenL] at hd
  obtain ⟨v, vs', rfl, hd0, hd1⟩ := hd
  simp only [Den] at hd0
  obtain ⟨hu0, hv, _⟩ := hd0
  obtain ⟨_, xs, ho, hmx, hc⟩ := hm.ok 0 (.row e l) rfl
  rw [hst] at ho
  obtain ⟨ho1, hxl⟩ := ho.one
  rw [← hv] at ho1
  have hblk : blkOf v = v.ownBlock := own_blk ho1
  have hnU : ¬ g.U 1 := fun hu => by have := hU 1 hu; simp at this
  refine Calls.mono (hcall g.W g.G v vs' xs (fun b hb => (hm.gb b hb).1) (fun b hb => (hm.own 0 _ b rfl (by rw [← hv, hblk]; exact hb)).1) (fun kk ys hk => hm.anc.2 kk ys hk) ho1 hxl (fun i hi => by have := hc i 0 hi (by omega); rwa [hst, Nat.mul_one, Nat.add_zero] at this) hmx (DenL.pure (g := g) (g' := g0 g.W g.G) rfl rfl _ _ hpu hd1)) fun e' W' he => ?_
  obtain ⟨v', us', rfl, ho', hn', hc', hg, hb'⟩ := he
  have hgood := good_rowL (nm := 1) (e := e) (l := l') (v := v') (xs := us') (W' := W') (ob := v.ownBlock) (H' := outsH [none, some (.row e l')]) hm hnU hg (fun b hb => hm.own 0 _ b rfl (by rw [← hv, hblk]; exact hb)) (fun x o hx => ?_)
    (by rw [hst']; exact .of_one ho' hn') hmx' (fun i j hi hj => by
      rw [hst'] at hj ⊢
      have : j = 0 := by omega
      subst this
      rw [Nat.mul_one, Nat.add_zero]
      exact hc' i hi) (fun b hb => by rw [own_blk ho'] at hb; exact hb' b hb)
  · obtain ⟨g', h1, h2, _, h4, h5⟩ := hgood
    exact ⟨v', g', rfl, h1, h2, h4, h5⟩
  · match x, hx with
    | 1, hx => left; simp [outsH] at hx; exact ⟨rfl, hx.symm⟩
    | 0, hx => simp [outsH] at hx
    | n + 2, hx => simp [outsH] at hx
theorem sound_newR {P : Program} {f e : Nat} {σ : CtF} (hen : ∀ args W, (callFunc f args).run P W = .ok (.enter f args) W)
    (h : ∀ args os p r outs, σ args os = some (p, r, outs) → ∃ l', os = [] ∧ r = .row 0 ∧ outs = [some (.row e l')] ∧ l'.st = 1 ∧
      (p → l'.len ≤ maxLen ∧ ∀ (W : World) (G : Nat → Prop) (vs : List Value), (∀ b, G b → b < W.heap.size) → GlOk (g0 W G) → DenL (g0 W G) args vs →
        Calls P f vs.toArray W fun e' W' => ∃ v' us', e' = .returned v' ∧ Own W' e v' us' ∧ us'.length = l'.len ∧ (∀ i, i < l'.len → Rep W G (l'.cell i 0) (us'.getD i undef)) ∧ Below W.heap.size W W' ∧ ∀ b, v'.ownBlock = some b → W.heap.size ≤ b)) : Sound P f σ := by
  refine ⟨hen, fun g args os vs p r outs hσ hp hm hU hd => ?_⟩
  obtain ⟨l', rfl, rfl, rfl, hst', hcall⟩ := h args os p r outs hσ
  obtain ⟨hmx', hcall⟩ := hcall hp
  have hU' : ∀ r, ¬ g.U r := fun r hr => absurd (hU r hr) (by simp)
  have hd' : DenL (g0 g.W g.G) args vs := by
    have := DenL.map (f := id) (g := g) (g' := g0 g.W g.G) rfl rfl args vs (fun r _ hu => absurd hu (hU' r)) hd
    rwa [mapRL_id] at this
  refine Calls.mono (hcall g.W g.G vs (fun b hb => (hm.gb b hb).1) (fun kk ys hk => hm.anc.2 kk ys hk) hd') fun e' W' he => ?_
  obtain ⟨v', us', rfl, ho', hn', hc', hb, hnew⟩ := he
  let g' : Gh := ⟨W', g.G, fun r => if r = 0 then v' else g.β r, fun r => g.U r ∨ r = 0⟩
  have hle : g.le g' := ⟨fun b hg => hb.block b (hm.gb b hg).1, fun _ hb => hb, fun r hr => absurd hr (hU' r)⟩
  have hlk : ∀ x o, outsH [some (.row e l')] x = some o → x = 0 ∧ o = .row e l' := by
    intro x o hx
    match x, hx with
    | 0, hx => simp [outsH] at hx; exact ⟨rfl, hx.symm⟩
    | n + 1, hx => simp [outsH] at hx
  have hb0 : g'.β 0 = v' := by show (if (0 : Nat) = 0 then v' else g.β 0) = v'; rw [if_pos rfl]
  obtain ⟨A, cap, hform, _⟩ := ho'.form
  refine ⟨v', g', rfl, rfl, hle, ⟨fun x o hx => ?_, fun x x' o o' b hx hx' _ _ => (hlk x o hx).1.trans (hlk x' o' hx').1.symm, fun x o b hx hbk => ?_, fun b hg => ⟨Nat.lt_of_lt_of_le (hm.gb b hg).1 hb.size, (hm.gb b hg).2⟩, ⟨hb.os, hb.tape, hb.output, hb.size, fun b hlt _ => hb.block b hlt⟩, fun r hr => absurd hr (by simp), hm.anc.2.up hle⟩, ?_⟩
  · obtain ⟨rfl, rfl⟩ := hlk x o hx
    refine ⟨.inr rfl, ?_⟩
    rw [hb0]
    exact ⟨us', by rw [hst']; exact .of_one ho' hn', hmx', fun i j hi hj => by
      rw [hst'] at hj ⊢
      have : j = 0 := by omega
      subst this
      rw [Nat.mul_one, Nat.add_zero]
      exact hle.rep (hc' i hi)⟩
  · obtain ⟨rfl, rfl⟩ := hlk x o hx
    rw [hb0, own_blk ho'] at hbk
    have := hnew b hbk
    exact ⟨fun hg => by have := (hm.gb b hg).1; omega, .inl this⟩
  · simp only [Den]
    exact ⟨.inr rfl, hb0.symm, .inl ⟨A, _, cap, hform⟩⟩
theorem info_ints : (Tryz.prog.info? 23).map (fun i => (i.zero, i.size, i.bytes)) = some (some (.slice none 0 0), 1, 24) := by kernel_rfl
theorem info_ofL {ty sz by_ : Nat} {z : Value} (h : (Tryz.prog.info? ty).map (fun i => (i.zero, i.size, i.bytes)) = some (some z, sz, by_)) : ∃ i, Tryz.prog.info? ty = some i ∧ i.zero = some z ∧ i.size = sz ∧ i.bytes = by_ := by
  cases h' : Tryz.prog.info? ty with
  | none => rw [h'] at h; cases h
  | some i => rw [h'] at h; injection h with h; injection h with h1 h2; injection h2 with h2 h3; exact ⟨i, rfl, h1, h2, h3⟩
def NewRowL (e : Nat) (w : World) (us : List Value) (en : Ending) (w' : World) : Prop :=
  ∃ A cap, en = .returned (.slice A us.length cap) ∧ Own w' e (.slice A us.length cap) us ∧ Below w.heap.size w w' ∧ ∀ g, (Value.slice A us.length cap).ownBlock = some g → w.heap.size ≤ g
set_option maxHeartbeats 400000 in
theorem cloneL_nil (c : Nat) (w : World) : Calls Tryz.prog 37 #[.slice none 0 c] w fun e w' => NewRowL 23 w [] e w' := by
  have hnil := Lib.run_eql_slice_nil (P := Tryz.prog)
  go_enter Tryz.func37, Tryz.ntmps37
  go_wp2
  go_ret
  exact ⟨none, 0, rfl, Own.nil _ _, Below.refl _ _, fun g h => by simp [Value.ownBlock] at h⟩
set_option maxHeartbeats 400000 in
theorem cloneL_some (ad : Addr) (c : Nat) (us : List Value) (n : Nat) (hn : us.length = n) (w : World) (h : ∀ j u, us[j]? = some u → w.cell? (ad.add j) = some u) (h1 : ∀ u ∈ us, u.oneCell' = true) (hl : n ≤ 1000000000000) :
    Calls Tryz.prog 37 #[.slice (some ad) n c] w fun e w' => NewRowL 23 w us e w' := by
  obtain ⟨i0, hi, hz0, hz1, hz2⟩ := info_ofL info_ints
  have hnil := Lib.run_eql_slice_nil (P := Tryz.prog)
  have HI := Lib.hid (And.intro hi (And.intro hz0 (And.intro hz1 hz2)))
  have hcells : SrcAt (w.alloc (.cells #[] 23)) (some ad) us := .inr ⟨ad, rfl, fun j u hu => by
    have h2 := h j u hu
    rw [World.cell?_alloc_lt w _ _ (World.block_lt_of_cell? w _ h2)]
    exact h2⟩
  have HC := Lib.hid hcells
  have HN := Lib.hid hn
  have H1 := Lib.hid h1
  clear hi hz0 hz1 hz2 h hcells hn h1
  go_enter Tryz.func37, Tryz.ntmps37
  go_wp2_with (at_builtin; refine wpList_appendR _ rfl (.tmp 5) (.tmp 6) 22 rfl 23 i0 (.slice none 0 0) 24 Tryz.underlying22 HI.out.1 HI.out.2.1 HI.out.2.2.1 HI.out.2.2.2 rfl _ [] 0 rfl rfl (Own.empty w _) (some ad) c us n HN.out rfl HC.out H1.out (by unfold maxLen; omega) (by omega) ?_)
  intro A cap w1 h1 h2 h3
  have H1 := Lib.hid h1
  have H2 := Lib.hid h2
  have H3 := Lib.hid h3
  clear h1 h2 h3
  go_wp2
  go_ret
  have HN' := HN.out
  subst HN'
  refine ⟨A, cap, rfl, H1.out, ?_, ?_⟩
  · exact (((Kp.refl (fun _ => False) w).alloc _).grown H2.out (fun g e hg => by simp [Value.ownBlock] at e; omega)).none_below
  · intro g hg
    rcases H3.out g hg with e | e
    · simp [Value.ownBlock] at e; omega
    · omega
theorem intss_one {W : World} {G : Nat → Prop} {xs : List (List Int)} {i : Nat} {u : Value} (h : Rep W G ((LD.intss xs).cell i 0) u) : u.oneCell' = true := cell_one (l := .intss xs) (i := i) (j := 0) h
def sCloneL : CtF := fun args os => match args, os with
  | [.im (.ls (.intss xs))], [] => some (xs.length ≤ 1000000000000, .row 0, [some (.row 23 (.intss xs))])
  | _, _ => none
theorem sCloneL_sound : Sound Tryz.prog 37 sCloneL := by
  refine sound_newR (e := 23) (run_enters Tryz.func37 (by kernel_rfl) rfl) fun args os p r outs h => ?_
  unfold sCloneL at h
  split at h
  · rename_i xs
    injection h with h
    injection h with h1 h
    injection h with h2 h3
    subst h1 h2 h3
    refine ⟨.intss xs, rfl, rfl, rfl, rfl, fun hp => ⟨by show xs.length ≤ maxLen; unfold maxLen; omega, fun W G vs hG _ hd => ?_⟩⟩
    simp only [DenL] at hd
    obtain ⟨v, vs', rfl, hd0, hd1⟩ := hd
    subst hd1
    have hr : Rep W G (.ls (.intss xs)) v := hd0
    rcases hr.cases_ls with ⟨h0, A, c, rfl⟩ | ⟨b, off, c, u, rfl, h1, h2, h3, h4, h5⟩
    · have h0' : xs = [] := List.eq_nil_of_length_eq_zero h0
      subst h0'
      cases A with
      | none =>
        refine (cloneL_nil c W).mono ?_
        rintro e' W' ⟨A', cap, rfl, q1, q2, q3⟩
        exact ⟨_, [], rfl, q1, rfl, fun i hi => absurd hi (Nat.not_lt_zero i), q2, q3⟩
      | some ad =>
        refine (cloneL_some ad c [] 0 rfl W (fun j u hu => by simp at hu) (fun u hu => by simp at hu) (by omega)).mono ?_
        rintro e' W' ⟨A', cap, rfl, q1, q2, q3⟩
        exact ⟨_, [], rfl, q1, rfl, fun i hi => absurd hi (Nat.not_lt_zero i), q2, q3⟩
    · have hst : (LD.intss xs).st = 1 := rfl
      have hlen : (LD.intss xs).len = xs.length := rfl
      let us := (List.range xs.length).map fun i => u i 0
      have hul : us.length = xs.length := by simp [us]
      have hug : ∀ i, i < xs.length → us[i]? = some (u i 0) := fun i hi => by simp [us, hi]
      have hrep : ∀ i, i < xs.length → Rep W G ((LD.intss xs).cell i 0) (us.getD i undef) := fun i hi => by
        rw [List.getD_eq_getElem?_getD, hug i hi]
        exact h5 i 0 hi (by rw [hst]; omega)
      refine (cloneL_some ⟨b, off, none⟩ c us xs.length hul W (fun j y hj => ?_) (fun y hy => ?_) hp).mono ?_
      · have hj1 : j < xs.length := by rw [← hul]; exact (List.getElem?_eq_some_iff.1 hj).1
        rw [hug j hj1] at hj
        cases hj
        have := h4 j 0 hj1 (by rw [hst]; omega)
        rw [hst, Nat.mul_one, Nat.add_zero] at this
        rw [add_mk]
        exact this
      · obtain ⟨i, hi, rfl⟩ := List.mem_iff_getElem.1 hy
        have hi' : i < xs.length := by rw [← hul]; exact hi
        have := hrep i hi'
        rw [List.getD_eq_getElem?_getD, List.getElem?_eq_getElem hi] at this
        exact intss_one this
      · rintro e' W' ⟨A', cap, rfl, q1, q2, q3⟩
        exact ⟨_, us, rfl, q1, hul, hrep, q2, q3⟩
  · cases h
abbrev OneV := { v : Value // v.oneCell' = true }
instance : Inhabited OneV := ⟨⟨.slice none 0 0, rfl⟩⟩
def encO (x : OneV) : Value := x.1
theorem oneO : OneCell encO := fun x => x.2
def sDelL : CtF := fun args os => match args, os with
  | [.row 0, .im (.val (.int .i64 i)), .im (.val (.int .i64 j))], [.row 23 (.intss xs)] => some (0 ≤ i ∧ i < j ∧ j ≤ xs.length ∧ xs.length ≤ 1000000000000, .row 1, [none, some (.row 23 (.intss (xs.take i.toNat ++ xs.drop j.toNat)))])
  | _, _ => none
theorem sDelL_sound : Sound Tryz.prog 39 sDelL := by
  refine sound_rowR (e := 23) (run_enters Tryz.func39 (by kernel_rfl) rfl) fun args os p r outs h => ?_
  unfold sDelL at h
  split at h
  · rename_i i j xs
    injection h with h
    injection h with h1 h
    injection h with h2 h3
    subst h1 h2 h3
    refine ⟨_, .intss xs, .intss (xs.take i.toNat ++ xs.drop j.toNat), rfl, rfl, rfl, rfl, rfl, rfl, rfl, fun hp => ⟨?_, fun W G v vs us hG hn _ ho hul hrep hmx hd => ?_⟩⟩
    · show (xs.take i.toNat ++ xs.drop j.toNat).length ≤ maxLen
      simp only [List.length_append, List.length_take, List.length_drop]
      unfold maxLen; omega
    · obtain ⟨hp1, hp2, hp3, hp4⟩ := hp
      obtain ⟨u1, u2, rfl, d1, d2⟩ := denL2 hd
      rw [den_val d1, den_val d2]
      have hul' : us.length = xs.length := hul
      have hone : ∀ u ∈ us, u.oneCell' = true := fun y hy => by
        obtain ⟨k, hk, rfl⟩ := List.mem_iff_getElem.1 hy
        have := hrep k (by show k < xs.length; omega)
        rw [List.getD_eq_getElem?_getD, List.getElem?_eq_getElem hk] at this
        exact intss_one this
      obtain ⟨A, cap, hform, _⟩ := ho.form
      subst hform
      obtain ⟨g, off, rfl⟩ := ho.addr (by omega)
      obtain ⟨cur, k1, k2, k3, k4, _⟩ := ho.cur rfl
      let ds : List OneV := us.pmap Subtype.mk hone
      have hds : ds.map encO = us := by simp [ds, encO, List.map_pmap]
      have hdl : ds.length = us.length := by simp [ds]
      have hol : Own W 23 (.slice (some ⟨g, off, none⟩) us.length cap) (ds.map encO) := by rw [hds]; exact ho
      obtain ⟨i0, hi, hz0, hz1, hz2⟩ := info_ofL info_ints
      have h := AnyE.slices_Delete Tryz.shDelL encO oneO ⟨.slice none 0 0, rfl⟩ (fun w => Tryz.zeroValue23 w) i0 hi hz1 g off cap i.toNat j.toNat ds.toArray W (own_holds hol) (by simp [hdl]; omega) (by unfold maxLen at k3; omega) (by omega) (by simp [hdl]; omega)
      simp only [List.size_toArray, hdl] at h
      rw [show ((i.toNat : Nat) : Int) = i by omega, show ((j.toNat : Nat) : Int) = j by omega] at h
      refine Calls.mono h ?_
      rintro e' w' ⟨rfl, q, rfl⟩
      have hps : ∀ d : Array OneV, putRow encO (Sort.ahead W q) g off d = sortWorld encO W g off q d #[] := fun d => by unfold sortWorld; rw [grow_empty]
      rw [hps]
      have hml : (ds.take i.toNat ++ ds.drop j.toNat).length = us.length - (j.toNat - i.toNat) := by simp only [List.length_append, List.length_take, List.length_drop]; omega
      have h5 := sort_own hol q #[] (ys := ds.take i.toNat ++ ds.drop j.toNat ++ List.replicate (j.toNat - i.toNat) ⟨.slice none 0 0, rfl⟩) (by simp only [List.length_append, List.length_take, List.length_drop, List.length_replicate]; omega) (m := us.length - (j.toNat - i.toNat)) (by simp only [List.length_append, List.length_take, List.length_drop, List.length_replicate]; omega)
      rw [List.take_left' hml] at h5
      have h6 : (ds.take i.toNat ++ ds.drop j.toNat).map encO = us.take i.toNat ++ us.drop j.toNat := by rw [List.map_append, List.map_take, List.map_drop, hds]
      rw [h6] at h5
      refine ⟨_, us.take i.toNat ++ us.drop j.toNat, rfl, h5, ?_, fun k hk => ?_, ?_, fun b hb => .inl hb⟩
      · show (us.take i.toNat ++ us.drop j.toNat).length = (xs.take i.toNat ++ xs.drop j.toNat).length
        simp only [List.length_append, List.length_take, List.length_drop]; omega
      · have hk' : k < (xs.take i.toNat ++ xs.drop j.toNat).length := hk
        simp only [List.length_append, List.length_take, List.length_drop] at hk'
        show Rep W G (.ls (.ints ((xs.take i.toNat ++ xs.drop j.toNat).getD k []))) _
        have hcell : ∀ k', k' < xs.length → Rep W G (.ls (.ints (xs.getD k' []))) (us.getD k' undef) := fun k' hk' => hrep k' hk'
        by_cases hki : k < i.toNat
        · have e1 : (xs.take i.toNat ++ xs.drop j.toNat).getD k [] = xs.getD k [] := by
            rw [List.getD_eq_getElem?_getD, List.getElem?_append_left (by simp; omega), List.getElem?_take_of_lt hki, ← List.getD_eq_getElem?_getD]
          have e2 : (us.take i.toNat ++ us.drop j.toNat).getD k undef = us.getD k undef := by
            rw [List.getD_eq_getElem?_getD, List.getElem?_append_left (by simp; omega), List.getElem?_take_of_lt hki, ← List.getD_eq_getElem?_getD]
          rw [e1, e2]
          exact hcell k (by omega)
        · have l1 : (xs.take i.toNat).length = i.toNat := by rw [List.length_take]; omega
          have l2 : (us.take i.toNat).length = i.toNat := by rw [List.length_take]; omega
          have e1 : (xs.take i.toNat ++ xs.drop j.toNat).getD k [] = xs.getD (j.toNat + (k - i.toNat)) [] := by
            rw [List.getD_eq_getElem?_getD, List.getElem?_append_right (by omega), l1, List.getElem?_drop, ← List.getD_eq_getElem?_getD]
          have e2 : (us.take i.toNat ++ us.drop j.toNat).getD k undef = us.getD (j.toNat + (k - i.toNat)) undef := by
            rw [List.getD_eq_getElem?_getD, List.getElem?_append_right (by omega), l2, List.getElem?_drop, ← List.getD_eq_getElem?_getD]
          rw [e1, e2]
          exact hcell _ (by omega)
      · have hk := sort_kp (enc := encO) (w := W) (g := g) (off := off) q (ds.take i.toNat ++ ds.drop j.toNat ++ List.replicate (j.toNat - i.toNat) (⟨.slice none 0 0, rfl⟩ : OneV)).toArray #[]
        exact ⟨hk.os, hk.tape, hk.output, hk.size, fun b hb hn => hk.block b hb (fun e => hn (by rw [e]; rfl))⟩
  · cases h
end Go.Proofs.YtbpbndlgfiammaaGreatDoor.En
namespace Go.Proofs.YtbpbndlgfiammaaGreatDoor.Cn
open Go
def sortI (xs : List Int) : List Int := xs.mergeSort fun x y => decide (x ≤ y)
def setI (xs : List Int) : List Int := Lib.compact (sortI xs)
theorem sortI_mem {xs : List Int} {x : Int} : x ∈ sortI xs ↔ x ∈ xs := by unfold sortI; exact List.mem_mergeSort
theorem sortI_len (xs : List Int) : (sortI xs).length = xs.length := by unfold sortI; exact List.length_mergeSort _
theorem sortI_pw (xs : List Int) : (sortI xs).Pairwise fun x y => x ≤ y := by
  have h := List.pairwise_mergeSort (le := fun x y : Int => decide (x ≤ y)) (fun a b c => by simp only [decide_eq_true_eq]; omega) (fun a b => by simp only [Bool.or_eq_true, decide_eq_true_eq]; omega) xs
  exact h.imp fun h => of_decide_eq_true h
theorem compact_inc (xs : List Int) (hs : xs.Pairwise fun x y => x ≤ y) : (∀ x, x ∈ Lib.compact xs ↔ x ∈ xs) ∧ (Lib.compact xs).Pairwise fun x y => x < y := by
  have key : ∀ m, m ≤ xs.length → (∀ x, x ∈ Lib.compactUpTo xs.toArray m ↔ x ∈ xs.take m) ∧ (Lib.compactUpTo xs.toArray m).Pairwise fun x y => x < y := by
    intro m
    induction m with
    | zero => intro _; simp [Lib.compactUpTo]
    | succ m ih =>
      intro hm
      obtain ⟨h1, h2⟩ := ih (by omega)
      have hlt : m < xs.length := by omega
      have eg : xs.toArray[m]! = xs[m] := by rw [getElem!_pos xs.toArray m (by simpa using hlt)]; simp
      rw [Lib.compactUpTo_succ, eg, List.take_succ_eq_append_getElem hlt]
      have hle : ∀ y ∈ xs.take m, y ≤ xs[m] := by
        intro y hy
        obtain ⟨j, hj, rfl⟩ := List.mem_iff_getElem.1 hy
        rw [List.length_take] at hj
        rw [List.getElem_take]
        exact List.pairwise_iff_getElem.1 hs j m (by omega) hlt (by omega)
      cases hk : Lib.keeps xs.toArray m with
      | true =>
        rw [if_pos rfl]
        refine ⟨fun x => by simp only [List.mem_append, h1 x], List.pairwise_append.2 ⟨h2, List.pairwise_singleton _ _, fun y hy z hz => ?_⟩⟩
        rw [List.mem_singleton] at hz
        subst hz
        have hy' := (h1 y).1 hy
        have hle' := hle y hy'
        rcases Int.lt_or_le y xs[m] with h | h
        · exact h
        · have e : y = xs[m] := by omega
          subst e
          exfalso
          simp only [Lib.keeps, decide_eq_true_eq] at hk
          rcases hk with h0 | hne
          · subst h0; simp at hy'
          · by_cases hm0 : m = 0
            · subst hm0; simp at hy'
            apply hne
            have e1 : xs.toArray[m - 1]! = xs[m - 1] := by rw [getElem!_pos xs.toArray (m - 1) (by simp; omega)]; simp
            rw [eg, e1]
            have hp : xs[m - 1] ≤ xs[m] := List.pairwise_iff_getElem.1 hs (m - 1) m (by omega) hlt (by omega)
            obtain ⟨j, hj, hj2⟩ := List.mem_iff_getElem.1 hy'
            rw [List.length_take] at hj
            rw [List.getElem_take] at hj2
            by_cases hjm : j = m - 1
            · subst hjm; exact hj2.symm
            · have h4 : xs[j] ≤ xs[m - 1] := List.pairwise_iff_getElem.1 hs j (m - 1) (by omega) (by omega) (by omega)
              omega
      | false =>
        rw [if_neg (by simp)]
        refine ⟨fun x => ?_, by simpa using h2⟩
        simp only [List.append_nil, List.mem_append, List.mem_singleton, h1 x]
        constructor
        · exact .inl
        · rintro (h | rfl)
          · exact h
          · simp only [Lib.keeps, decide_eq_false_iff_not, not_or, Decidable.not_not] at hk
            obtain ⟨hm0, he⟩ := hk
            have e1 : xs.toArray[m - 1]! = xs[m - 1] := by rw [getElem!_pos xs.toArray (m - 1) (by simp; omega)]; simp
            rw [eg, e1] at he
            rw [he]
            exact List.mem_iff_getElem.2 ⟨m - 1, by rw [List.length_take]; omega, by rw [List.getElem_take]⟩
  have := key xs.length (Nat.le_refl _)
  rw [List.take_length] at this
  exact this
theorem setI_mem {xs : List Int} {x : Int} : x ∈ setI xs ↔ x ∈ xs := by unfold setI; rw [(compact_inc _ (sortI_pw xs)).1, sortI_mem]
theorem setI_inc (xs : List Int) : (setI xs).Pairwise fun x y => x < y := (compact_inc _ (sortI_pw xs)).2
theorem setI_len (xs : List Int) : (setI xs).length ≤ xs.length := by unfold setI; exact Nat.le_trans (Lib.compact_length_le _) (by rw [sortI_len]; exact Nat.le_refl _)
theorem inc_ext : ∀ {a b : List Int}, a.Pairwise (fun x y => x < y) → b.Pairwise (fun x y => x < y) → (∀ x, x ∈ a ↔ x ∈ b) → a = b
  | [], [], _, _, _ => rfl
  | [], y :: b, _, _, h => absurd ((h y).2 (by simp)) (by simp)
  | x :: a, [], _, _, h => absurd ((h x).1 (by simp)) (by simp)
  | x :: a, y :: b, ha, hb, h => by
    have ha1 : ∀ {z}, z ∈ a → x < z := fun h => List.rel_of_pairwise_cons ha h
    have hb1 : ∀ {z}, z ∈ b → y < z := fun h => List.rel_of_pairwise_cons hb h
    have e : x = y := by
      have h1 := (h x).1 (by simp)
      have h2 := (h y).2 (by simp)
      rcases List.mem_cons.1 h1 with e | h1
      · exact e
      · rcases List.mem_cons.1 h2 with e | h2
        · exact e.symm
        · have := hb1 h1; have := ha1 h2; omega
    subst e
    rw [inc_ext ha.of_cons hb.of_cons fun z => ?_]
    have hz := h z
    simp only [List.mem_cons] at hz
    constructor
    · intro h1
      rcases hz.1 (.inr h1) with e | h2
      · have := ha1 h1; omega
      · exact h2
    · intro h1
      rcases hz.2 (.inr h1) with e | h2
      · have := hb1 h1; omega
      · exact h2
theorem setI_alike (a b : List Int) : (setI a == setI b) = alikeB a b := by
  rw [Bool.eq_iff_iff, beq_iff_eq, alike_iff]
  refine ⟨fun h x => by rw [← setI_mem, ← setI_mem (xs := b), h], fun h => inc_ext (setI_inc _) (setI_inc _) fun x => by rw [setI_mem, setI_mem]; exact h x⟩
theorem eq_len {a b : List Int} (h : (a.length : Int) ≠ b.length) : (a == b) = false := by
  rw [beq_eq_false_iff_ne]; rintro rfl; exact h rfl
theorem eq_no {a b : List Int} {k : Nat} (hk : k < a.length) (h : a.getD k 0 ≠ b.getD k 0) : (a == b) = false := by
  rw [beq_eq_false_iff_ne]; rintro rfl; exact h rfl
theorem eq_yes {a b : List Int} (hl : (a.length : Int) = b.length) (h : ∀ j, j < a.length → a.getD j 0 = b.getD j 0) : (a == b) = true := by
  rw [beq_iff_eq]
  refine List.ext_getElem (by omega) fun j h1 h2 => ?_
  have := h j h1
  rwa [List.getD_eq_getElem?_getD, List.getD_eq_getElem?_getD, List.getElem?_eq_getElem h1, List.getElem?_eq_getElem h2] at this
theorem any_alike (L : List (List Int)) (l : List Int) : (L.any fun x => setI x == setI l) = L.any fun y => alikeB y l := by simp only [setI_alike]
theorem idx_alike (L : List (List Int)) (l : List Int) : idxF (fun x => setI x == setI l) L = idxF (fun y => alikeB y l) L := by simp only [setI_alike]
def dropC (cs : List (List Int)) (l : List Int) : List (List Int) := if 0 ≤ idxF (fun y => alikeB y l) cs then cs.eraseIdx (idxF (fun y => alikeB y l) cs).toNat else cs
theorem idx_lt {α : Type} {p : α → Bool} {l : List α} (h : idxF p l ≥ 0) : idxF p l < l.length := by
  rcases idxF_bd (p := p) l with h1 | h1
  · exact h1.2
  · omega
theorem drop_yes {cs : List (List Int)} {l : List Int} (h : idxF (fun x => setI x == setI l) cs ≥ 0) : cs.take (idxF (fun x => setI x == setI l) cs).toNat ++ cs.drop (idxF (fun x => setI x == setI l) cs + 1).toNat = dropC cs l := by
  rw [idx_alike] at h ⊢
  unfold dropC
  rw [if_pos (by omega), List.eraseIdx_eq_take_drop_succ, show (idxF (fun y => alikeB y l) cs + 1).toNat = (idxF (fun y => alikeB y l) cs).toNat + 1 by omega]
theorem drop_no {cs : List (List Int)} {l : List Int} (h : ¬ idxF (fun x => setI x == setI l) cs ≥ 0) : cs = dropC cs l := by
  rw [idx_alike] at h
  unfold dropC
  rw [if_neg (by omega)]
def nextC (cs : List (List Int)) (x : Int × List Int) : List (List Int) := if x.1 = 3 then dropC cs x.2 else cs ++ [x.2]
def okC (L cs : List (List Int)) (x : Int × List Int) : Bool := if x.1 = 1 then L.any fun y => alikeB y x.2 else if x.1 = 2 then flwV cs x.2 else decide (0 ≤ idxF (fun y => alikeB y x.2) cs)
theorem run_cons (L cs : List (List Int)) (x : Int × List Int) (p : List (Int × List Int)) (h1 : 1 ≤ x.1) (h3 : x.1 ≤ 3) : runC L cs (x :: p) = if okC L cs x = true then runC L (nextC cs x) p else none := by
  unfold okC nextC
  rw [runC]
  by_cases e1 : x.1 = 1
  · rw [if_pos e1, if_pos e1, if_neg (show ¬ x.1 = 3 by omega)]
  · rw [if_neg e1, if_neg e1]
    by_cases e2 : x.1 = 2
    · rw [if_pos e2, if_pos e2, if_neg (show ¬ x.1 = 3 by omega)]
    · rw [if_neg e2, if_neg e2, if_pos (show x.1 = 3 by omega)]
      by_cases e : 0 ≤ idxF (fun y => alikeB y x.2) cs
      · rw [if_pos e, if_pos (decide_eq_true e)]; unfold dropC; rw [if_pos e]
      · rw [if_neg e, if_neg (by rw [decide_eq_false e]; simp)]
theorem run_next {L cs : List (List Int)} {p : List (Int × List Int)} {i : Nat} (hi : i < p.length) (hr : runC L [] (p.take i) = some cs) (h1 : 1 ≤ (p.getD i (0, [])).1) (h3 : (p.getD i (0, [])).1 ≤ 3) (hq : okC L cs (p.getD i (0, [])) = true) : runC L [] (p.take (i + 1)) = some (nextC cs (p.getD i (0, []))) := by
  rw [take_sD (d := (0, [])) hi, run_app, hr]
  show runC L cs [_] = _
  rw [run_cons _ _ _ _ h1 h3, if_pos hq]; rfl
theorem run_stop {L cs : List (List Int)} {p : List (Int × List Int)} {i : Nat} (hi : i < p.length) (hr : runC L [] (p.take i) = some cs) (h1 : 1 ≤ (p.getD i (0, [])).1) (h3 : (p.getD i (0, [])).1 ≤ 3) (hq : okC L cs (p.getD i (0, [])) = false) : runC L [] p = none := by
  have e : p = p.take i ++ p.getD i (0, []) :: p.drop (i + 1) := by
    rw [List.getD_eq_getElem?_getD, List.getElem?_eq_getElem hi]; simp
  rw [e, run_app, hr]
  show runC L cs (_ :: _) = _
  rw [run_cons _ _ _ _ h1 h3, if_neg (by rw [hq]; simp)]
theorem line_kind {p : List (Int × List Int)} (h : frmV p = 0) {i : Nat} (hi : i < p.length) : 1 ≤ (p.getD i (0, [])).1 ∧ (p.getD i (0, [])).1 ≤ 3 := by
  have h2 := List.all_eq_true.1 (frm_ok.1 h).2 _ (getD_memL (d := (0, [])) hi)
  unfold lineOk at h2
  simp only [Bool.and_eq_true, decide_eq_true_eq] at h2
  exact h2.1
theorem line_three {p : List (Int × List Int)} (h : frmV p = 0) {i : Nat} (hi : i < p.length) : (p.getD i (0, [])).1 = 1 ∨ (p.getD i (0, [])).1 = 2 ∨ (p.getD i (0, [])).1 = 3 := by
  have := line_kind h hi; omega
theorem next_len (cs : List (List Int)) (x : Int × List Int) : (nextC cs x).length ≤ cs.length + 1 := by
  unfold nextC dropC
  split
  · split
    · have := List.length_eraseIdx_le cs (idxF (fun y => alikeB y x.2) cs).toNat; omega
    · omega
  · simp
theorem next_mem {cs : List (List Int)} {x : Int × List Int} {l : List Int} (h : l ∈ nextC cs x) : l ∈ cs ∨ l = x.2 := by
  unfold nextC dropC at h
  split at h
  · split at h
    · exact .inl (List.mem_of_mem_eraseIdx h)
    · exact .inl h
  · rcases List.mem_append.1 h with h | h
    · exact .inl h
    · exact .inr (List.mem_singleton.1 h)
theorem next_1 {cs : List (List Int)} {x : Int × List Int} (h : x.1 ≠ 3) : cs ++ [x.2] = nextC cs x := by unfold nextC; rw [if_neg h]
theorem next_3 {cs : List (List Int)} {x : Int × List Int} (h : x.1 = 3) : dropC cs x.2 = nextC cs x := by unfold nextC; rw [if_pos h]
theorem ok_1 {L cs : List (List Int)} {x : Int × List Int} (h : x.1 = 1) : okC L cs x = L.any fun y => alikeB y x.2 := by unfold okC; rw [if_pos h]
theorem ok_2 {L cs : List (List Int)} {x : Int × List Int} (h : x.1 = 2) : okC L cs x = flwV cs x.2 := by unfold okC; rw [if_neg (by omega), if_pos h]
theorem ok_3 {L cs : List (List Int)} {x : Int × List Int} (h : x.1 = 3) : okC L cs x = decide (0 ≤ idxF (fun y => alikeB y x.2) cs) := by unfold okC; rw [if_neg (by omega), if_neg (by omega)]
def coreAt (N : Int) (core : List Int) (i : Nat) : Bool := mayP (core.getD i 0) N && (!(core.take i).contains (core.getD i 0) && !(core.take i).contains (-(core.getD i 0)))
theorem core_is (N : Int) (core : List Int) : coreOk N core = (List.range core.length).all (coreAt N core) := rfl
theorem core_yes {N : Int} {core : List Int} {n : Nat} (hn : n = core.length) (h : ∀ j, j < n → coreAt N core j = true) : coreOk N core = true := by
  rw [core_is, List.all_eq_true]; intro j hj; exact h j (by rw [List.mem_range] at hj; omega)
theorem core_no {N : Int} {core : List Int} {i : Nat} (hi : i < core.length) (h : coreAt N core i = false) : coreOk N core = false := by
  rw [core_is, List.all_eq_false]; exact ⟨i, List.mem_range.2 hi, by rw [h]; simp⟩
theorem core_at {N : Int} {core : List Int} {i : Nat} : (((((core.getD i 0 == 0) || decide (core.getD i 0 > N)) || decide (core.getD i 0 < -N)) || ((core.take i).drop 0).contains (core.getD i 0)) || ((core.take i).drop 0).contains (-(core.getD i 0))) = !coreAt N core i := by
  unfold coreAt mayP
  rw [List.drop_zero, Bool.eq_iff_iff]
  simp only [Bool.or_eq_true, Bool.not_eq_true', Bool.and_eq_false_iff, decide_eq_true_eq, decide_eq_false_iff_not, beq_iff_eq, bne_eq_false_iff_eq, Bool.not_eq_false']
  constructor
  · rintro ((((h | h) | h) | h) | h)
    · exact .inl (.inl (.inl h))
    · exact .inl (.inr (by omega))
    · exact .inl (.inl (.inr (by omega)))
    · exact .inr (.inl h)
    · exact .inr (.inr h)
  · rintro (((h | h) | h) | (h | h))
    · exact .inl (.inl (.inl (.inl h)))
    · exact .inl (.inl (.inr (by omega)))
    · exact .inl (.inl (.inl (.inr (by omega))))
    · exact .inl (.inr h)
    · exact .inr h
theorem core_fit {x N : Int} (h0 : 0 ≤ N) (hN : N ≤ 65536) {b : Bool} (h : (!((((x == 0) || decide (x > N)) || decide (x < -N)) || b)) = true) : -9223372036854775808 ≤ -x ∧ -x ≤ 9223372036854775807 := by
  simp only [Bool.not_eq_true', Bool.or_eq_false_iff, decide_eq_false_iff_not] at h
  omega
theorem core_bd {N : Int} {core : List Int} {i : Nat} (h0 : 0 ≤ N) (hN : N ≤ 65536) (h : coreAt N core i = true) : -65536 ≤ core.getD i 0 ∧ core.getD i 0 ≤ 65536 := by
  unfold coreAt at h
  simp only [Bool.and_eq_true] at h
  have := mayP_iff.1 h.1
  omega
theorem core_next {core : List Int} {i : Nat} (hi : i < core.length) : (core.take i).map (fun x => -x) ++ [-(core.getD i 0)] = (core.take (i + 1)).map fun x => -x := by
  rw [take_sD (d := 0) hi, List.map_append]; rfl
theorem chk_e1 {N : Int} {L : List (List Int)} {p : List (Int × List Int)} {core : List Int} (h : chkV N L ≠ 0) : chkC N L p core = chkV N L := by unfold chkC; rw [if_pos h]
theorem chk_e2 {N : Int} {L : List (List Int)} {p : List (Int × List Int)} {core : List Int} (h1 : chkV N L = 0) (h : frmV p ≠ 0) : chkC N L p core = frmV p := by unfold chkC; rw [if_neg (by omega), if_pos h]
theorem chk_e3 {N : Int} {L : List (List Int)} {p : List (Int × List Int)} {core : List Int} (h1 : chkV N L = 0) (h2 : frmV p = 0) (h : coreOk N core = false) : chkC N L p core = 1 := by unfold chkC; rw [if_neg (by omega), if_neg (by omega), if_pos h]
theorem chk_e4 {N : Int} {L : List (List Int)} {p : List (Int × List Int)} {core : List Int} (h1 : chkV N L = 0) (h2 : frmV p = 0) (h3 : coreOk N core = true) : chkC N L p core = endC core (runC L [] p) := by unfold chkC; rw [if_neg (by omega), if_neg (by omega), if_neg (by rw [h3]; simp)]
end Go.Proofs.YtbpbndlgfiammaaGreatDoor.Cn
namespace Go.Proofs.YtbpbndlgfiammaaGreatDoor
open Go Go.RowKit Go.Sort Go.Shelf
open Cn (sortI)
def Turned (e : Nat) (w : World) (v : Value) (us : List Value) (w' : World) (v' : Value) : Prop := Own w' e v' us ∧ w.grownBy w' v.ownBlock ∧ ∀ b, v'.ownBlock = some b → v.ownBlock = some b
theorem kp_grown {w w' : World} {g : Nat} (h : Kp (fun b => b = g) w w') : w.grownBy w' (some g) := ⟨h.os, h.tape, h.output, h.size, fun k hk hn => h.block k hk (fun e => hn (by rw [e]))⟩
theorem grown_refl (w : World) (r : Option Nat) : w.grownBy w r := ⟨rfl, rfl, rfl, Nat.le_refl _, fun _ _ _ => rfl⟩
theorem put_sort {α : Type} [Inhabited α] (enc : α → Value) (w : World) (blk off q : Nat) (d : Array α) : putRow enc (Sort.ahead w q) blk off d = sortWorld enc w blk off q d #[] := by unfold sortWorld; rw [grow_empty]
theorem compact_own {v : Value} {xs : List Int} {w : World} (ho : Own w 3 v (xs.map I64)) (hl : xs.length ≤ maxLen) :
    Calls Tryz.prog 99 #[v] w fun e w' => ∃ v', e = .returned v' ∧ Turned 3 w v ((Lib.compact xs).map I64) w' v' := by
  obtain ⟨A, cap, hform, _⟩ := ho.form
  rw [List.length_map] at hform
  subst hform
  by_cases h0 : xs.length = 0
  · obtain rfl := List.eq_nil_of_length_eq_zero h0
    refine (AnyG.slices_Compact_int_empty Tryz.shCompact A cap w).mono ?_
    rintro e w' ⟨rfl, rfl⟩
    exact ⟨_, rfl, ho, grown_refl _ _, fun _ h => h⟩
  · obtain ⟨g, off, rfl⟩ := ho.addr (by omega)
    obtain ⟨cur, h1, h2, h3, h4, _⟩ := ho.cur rfl
    rw [List.length_map] at h2
    refine (AnyG.slices_Compact_int Tryz.shCompact g off cap xs w (own_holds ho) (by unfold maxLen at hl; omega) h2).mono ?_
    rintro e w' ⟨rfl, q, rfl⟩
    have hfl : (Lib.compact xs).length ≤ xs.length := Lib.compact_length_le xs
    rw [put_sort]
    refine ⟨_, rfl, ?_, kp_grown (sort_kp _ _ _), fun b h => h⟩
    have := sort_own ho q #[] (ys := Lib.compact xs ++ List.replicate (xs.length - (Lib.compact xs).length) 0) (by simp; omega) (m := (Lib.compact xs).length) (by simp)
    rw [List.take_left'] at this
    · exact this
    · rfl
theorem sorti_own {v : Value} {xs : List Int} {w : World} (ho : Own w 3 v (xs.map I64)) (hl : xs.length ≤ 1000000000000) :
    Calls Tryz.prog 129 #[v] w fun e w' => e = .returned (.tuple #[]) ∧ Own w' 3 v ((sortI xs).map I64) ∧ Kp (fun b => v.ownBlock = some b) w w' := by
  obtain ⟨A, cap, hform, _⟩ := ho.form
  rw [List.length_map] at hform
  subst hform
  by_cases h0 : xs.length = 0
  · obtain rfl := List.eq_nil_of_length_eq_zero h0
    refine (AnyM.slices_Sort_int_none (P := Tryz.prog) (ρ := Tryz.shSort_ren) Tryz.shSort A cap w).mono ?_
    rintro e w' ⟨rfl, rfl⟩
    exact ⟨rfl, by simpa [sortI] using ho, Kp.refl _ _⟩
  · obtain ⟨g, off, rfl⟩ := ho.addr (by omega)
    have hlt : g < w.heap.size := ho.lt rfl
    refine Calls.mono (AnyM.slices_Sort_int Tryz.shSort g off cap xs w (own_holds ho) hlt (by omega)) ?_
    rintro e w' ⟨rfl, n, os, rfl⟩
    refine ⟨rfl, ?_, (sort_kp _ _ _).mono fun k _ h => by subst h; rfl⟩
    have h2 := sort_own ho n os (ys := sortI xs) (by simp [sortI]) (m := xs.length) (by simp [sortI])
    rw [List.take_of_length_le (by simp [sortI])] at h2
    exact h2
end Go.Proofs.YtbpbndlgfiammaaGreatDoor
namespace Go.Proofs.YtbpbndlgfiammaaGreatDoor.En
open Go Go.RowKit
open Cn (sortI)
def sSortI : CtF := fun args os => match args, os with
  | [.row 0], [.row 3 (.ints xs)] => some (xs.length ≤ 1000000000000, .tup [], [some (.row 3 (.ints (sortI xs)))])
  | _, _ => none
def sCompact : CtF := fun args os => match args, os with
  | [.row 0], [.row 3 (.ints xs)] => some (xs.length ≤ 1000000000000, .row 1, [none, some (.row 3 (.ints (Lib.compact xs)))])
  | _, _ => none
theorem turned_out {w : World} {v : Value} {us : List Value} {e : Ending} {w' : World} (h : ∃ v', e = .returned v' ∧ Turned 3 w v us w' v') :
    ∃ v', e = .returned v' ∧ Own w' 3 v' us ∧ w.grownBy w' v.ownBlock ∧ ∀ b, v'.ownBlock = some b → v.ownBlock = some b ∨ b = w.heap.size := by
  obtain ⟨v', h1, h2, h3, h4⟩ := h
  exact ⟨v', h1, h2, h3, fun b hb => .inl (h4 b hb)⟩
theorem sCompact_sound : Sound Tryz.prog 99 sCompact := by
  refine sound_row (e := 3) (run_enters Tryz.func99 (by kernel_rfl) rfl) fun args os p r outs h => ?_
  unfold sCompact at h
  split at h
  · rename_i xs
    injection h with h
    injection h with h1 h
    injection h with h2 h3
    subst h1 h2 h3
    refine ⟨_, .ints xs, _, rfl, rfl, rfl, rfl, rfl, rfl, rfl, fun hp => ⟨?_, fun W G v vs hG hn _ ho hl hd => ?_⟩⟩
    · have := Lib.compact_length_le xs
      show (Lib.compact xs).length ≤ maxLen
      unfold maxLen; omega
    · simp only [DenL] at hd
      subst hd
      exact (compact_own ho hl).mono fun e' W' h => turned_out h
  · cases h
theorem sSortI_sound : Sound Tryz.prog 129 sSortI := by
  refine sound_inrow (e := 3) (run_enters Tryz.func129 (by kernel_rfl) rfl) fun args os p r outs h => ?_
  unfold sSortI at h
  split at h
  · rename_i xs
    injection h with h
    injection h with h1 h
    injection h with h2 h3
    subst h1 h2 h3
    refine ⟨_, .ints xs, _, _, rfl, rfl, rfl, rfl, rfl, rfl, rfl, rfl, fun hp => ⟨?_, ?_, fun W G v vs hG hn _ ho hl hd => ?_⟩⟩
    · show (sortI xs).length ≤ maxLen
      simp only [sortI, List.length_mergeSort]
      unfold maxLen; omega
    · show (sortI xs).length = xs.length
      simp only [sortI, List.length_mergeSort]
    · simp only [DenL] at hd
      subst hd
      exact sorti_own ho hp
  · cases h
end Go.Proofs.YtbpbndlgfiammaaGreatDoor.En
namespace Go.Proofs.YtbpbndlgfiammaaGreatDoor.En
open Go Go.RowKit
theorem Sound.callsG {P : Program} {f : Nat} {σ : CtF} (h : Sound P f σ) {W : World} {G : Nat → Prop} (hG : ∀ b, G b → b < W.heap.size) (hgl : GlOk (g0 W G)) {args : List AV} {vs : List Value} {p : Prop} {r : AV} (hσ : σ args [] = some (p, r, [])) (hp : p) (hd : DenL (g0 W G) args vs) :
    Calls P f vs.toArray W (fun e w' => ∃ u, e = .returned u ∧ Below W.heap.size W w' ∧ ∃ g' : Gh, g'.W = w' ∧ (∀ b, g'.G b → b < w'.heap.size) ∧ Den g' r u) := by
  have hnl : ∀ b, ¬ lentTo (g0 W G) [] b := by rintro b ⟨i, hi, _⟩; simp at hi
  refine Calls.mono (h.2 (g0 W G) args [] vs p r [] hσ hp ⟨fun r o h => by simp [objsH] at h, fun r r' o o' b h => by simp [objsH] at h, fun r o b h => by simp [objsH] at h, fun b hb => ⟨hG b hb, .inl hb⟩, Kp.refl _ _, fun i hi => by simp at hi, hgl⟩ (fun r hr => False.elim hr) hd) fun e w' he => ?_
  obtain ⟨u, g', rfl, rfl, _, hm, hdu⟩ := he
  exact ⟨u, rfl, ⟨hm.bel.os, hm.bel.tape, hm.bel.output, hm.bel.size, fun k hk => hm.bel.block k hk (hnl k)⟩, g', rfl, fun b hb => (hm.gb b hb).1, hdu⟩
theorem krg_le {G : Nat → Prop} {W W' : World} (h : KRG G W W') : (g0 W G).le (g0 W' G) := ⟨h, fun _ hb => hb, fun _ hr => ⟨hr, rfl⟩⟩
theorem krg_lt {G : Nat → Prop} {W W' : World} (hG : ∀ b, G b → b < W.heap.size) (h : KRG G W W') : ∀ b, G b → b < W'.heap.size := fun b hb => by
  have h1 := h b hb
  rw [Array.getElem?_eq_getElem (hG b hb)] at h1
  exact (Array.getElem?_eq_some_iff.1 h1).1
theorem krg_tr {G : Nat → Prop} {A B C : World} (h : KRG G A B) (h' : KRG G B C) : KRG G A C := fun b hb => (h' b hb).trans (h b hb)
theorem krg_below {G : Nat → Prop} {A B C : World} {n : Nat} (h : KRG G A B) (hG : ∀ b, G b → b < n) (h' : Below n B C) : KRG G A C := fun b hb => (h'.block b (hG b hb)).trans (h b hb)
theorem kp_no {A B : World} (h : Below A.heap.size A B) (Z : Nat → Prop) : Kp Z A B := ⟨h.os, h.tape, h.output, h.size, fun b hb _ => h.block b hb⟩
end Go.Proofs.YtbpbndlgfiammaaGreatDoor.En
namespace Go.Proofs.YtbpbndlgfiammaaGreatDoor.En
open Go Go.RowKit
def values_it : ItF
  | [.pto [.ls (.ints l)]] => some (l.length ≤ maxLen, l.length, fun i => [.int (l.getD i 0)])
  | _ => none
set_option maxRecDepth 100000 in
set_option maxHeartbeats 1000000 in
theorem values_x {G : Nat → Prop} {W : World} (hG : ∀ b, G b → b < W.heap.size) (vv : Nat → Value) (n : Nat) (A : Option Addr) (cp p1 o1 : Nat)
    (h1 : W.cell? ⟨p1, o1, none⟩ = some (.slice A n cp)) (g1 : G p1)
    (hA : ∀ k, k < n → ∃ b off, A = some ⟨b, off, none⟩ ∧ G b ∧ W.cell? ⟨b, off + k, none⟩ = some (vv k))
    (hl : n ≤ maxLen) :
    SeqX Tryz.prog 130 #[.pointer (some ⟨p1, o1, none⟩)] (KRG G) n (fun j => #[vv j]) W := by
  intro l J Jx Z W1 hKR hJs hJxs hY h0
  unfold maxLen at hl
  have HC1 := Lib.hid (fun (W' : World) (h : KRG G W W') => (World.cell?_of_block (a := ⟨p1, o1, none⟩) (h p1 g1)).trans h1)
  have HA := Lib.hid (fun k (hk : k < n) (W' : World) (h : KRG G W W') => by
    obtain ⟨b, off, e, hb, hc⟩ := hA k hk
    exact (⟨b, off, e, (World.cell?_of_block (a := ⟨b, off + k, none⟩) (h b hb)).trans hc⟩ : ∃ b off, A = some ⟨b, off, none⟩ ∧ W'.cell? ⟨b, off + k, none⟩ = some (vv k)))
  have HJ := Lib.hid hJs
  have HY := Lib.hid hY
  have HG := Lib.hid hG
  have HK := Lib.hid hKR
  have H0 := Lib.hid h0
  clear h1 hA hJs hY hG hJxs h0 hKR
  refine callsIn_fr.1 (callsIn_of_wp (F := FR none) (n := 3) Tryz.func130 rfl trivial ?_ rfl)
  simp only [Tryz.ntmps130, List.size_toArray, List.length_cons, List.length_nil, Nat.reduceAdd, Nat.reduceSub, Array.replicate_succ, Array.replicate_zero, List.push_toArray, List.append_toArray, List.nil_append, List.cons_append]
  have hro : (FR none).round = none := rfl
  have hc1 := HC1.out W1 HK.out
  gi_wp2_with fail
  clear hc1
  gi_loopw [4, 7] (fun _ kv wr => ∃ (k : Nat) (Z : Nat → Prop), kv = .int .i64 k ∧ k ≤ n ∧ KRG G W wr ∧ J k Z wr) (fun _ kv _ => n - (intOf kv).toNat)
  case atStart => exact ⟨0, Z, rfl, Nat.zero_le _, HK.out, H0.out⟩
  case round =>
    obtain ⟨k, Z2, rfl, hk, hkr, hj⟩ := hrel
    have HKR := Lib.hid hkr
    have HJ2 := Lib.hid hj
    clear hkr hj
    by_cases hlt : k < n
    · obtain ⟨b, off, rfl, hcell⟩ := HA.out k hlt wr HKR.out
      have hyy := HY.out _ _ wr hlt HJ2.out
      obtain ⟨fn, tmps, assign, body, hy, hR⟩ := hyy
      gi_wp2_with fail
      refine hR.mono ?_
      rintro e w4 ⟨⟨rfl, hj4⟩ | ⟨rfl, hjx⟩, hk4, hz4, hs4⟩
      · have HK4 := Lib.hid (krg_tr HKR.out hk4)
        have HJ5 := Lib.hid hj4
        clear hj4 hk4 hz4 hs4 hcell
        gi_wp2_with fail
        go_roundw
        case rel => exact ⟨k + 1, _, rfl, hlt, HK4.out, HJ5.out⟩
        case measure => simp [intOf]; omega
      · have HJX := Lib.hid hjx
        clear hjx hk4 hz4 hs4 hcell
        gi_wp2_with fail
        refine bodyPost_ret (results_none rfl _ _ _) rfl ?_
        exact ⟨⟨_, rfl⟩, .inr ⟨_, _, HJX.out⟩⟩
    · obtain rfl : k = n := by omega
      gi_wp2_with fail
      go_end0
      exact ⟨⟨_, rfl⟩, .inl ⟨Z2, HJ2.out⟩⟩
theorem values_seq : SeqSound Tryz.prog 130 values_it := by
  refine ⟨run_enters Tryz.func130 (by kernel_rfl) rfl, fun W G caps vs p N el hG hgl hσ hp hd => ?_⟩
  unfold values_it at hσ
  split at hσ
  · rename_i c
    injection hσ with hσ
    injection hσ with h1 h2
    injection h2 with h2 h3
    subst h1 h2 h3
    simp only [DenL, Den] at hd
    obtain ⟨v1, vs1, rfl, ⟨p1, o1, rfl, g1, hc1⟩, rfl⟩ := hd
    obtain ⟨u1, hu1, hr1⟩ := hc1 0 (.ls (.ints c)) rfl
    have key : ∃ (A : Option Addr) (cp : Nat) (vv : Nat → Value), u1 = .slice A c.length cp ∧ (∀ k, k < c.length → ∃ b off, A = some ⟨b, off, none⟩ ∧ G b ∧ W.cell? ⟨b, off + k, none⟩ = some (vv k)) ∧ ∀ k, k < c.length → Den (g0 W G) (.int (c.getD k 0)) (vv k) := by
      rcases hr1.cases_ls with ⟨h0, A, cp, rfl⟩ | ⟨b, off, cp, u, rfl, _, _, hb, hcell, hrep⟩
      · have h0' : c.length = 0 := h0
        exact ⟨A, cp, fun _ => undef, by rw [h0'], fun k hk => by omega, fun k hk => by omega⟩
      · refine ⟨_, cp, fun i => u i 0, rfl, fun k hk => ⟨b, off, rfl, hb, ?_⟩, fun k hk => ?_⟩
        · have h1 : W.cell? ⟨b, off + k * 1 + 0, none⟩ = some (u k 0) := hcell k 0 hk Nat.one_pos
          rwa [Nat.mul_one, Nat.add_zero] at h1
        · simp only [Den]; exact hrep k 0 hk Nat.one_pos
    obtain ⟨A, cp, vv, rfl, hA, hv⟩ := key
    refine ⟨fun j => #[vv j], fun i hi => ?_, ?_⟩
    · simp only [DenL]
      exact ⟨_, _, rfl, hv i hi, rfl⟩
    · exact values_x hG vv c.length A cp p1 o1 hu1 g1 hA hp
  · cases hσ
end Go.Proofs.YtbpbndlgfiammaaGreatDoor.En
namespace Go.Proofs.YtbpbndlgfiammaaGreatDoor.En
open Go Go.RowKit
def tyCnf : List (Nat × TD) := [(3, ⟨1, false, [.int .i64 0], [], none, 8, false, 1, 1⟩),
  (4, ⟨1, false, [.bool false], [], none, 1, true, 0, 2⟩),
  (22, ⟨1, false, [.slice none 0 0], [], some 23, 24, false, 0, 0⟩),
  (23, ⟨1, false, [.slice none 0 0], [], some 3, 24, false, 0, 3⟩),
  (28, ⟨2, true, [.int .i64 0, .slice none 0 0], [(0, 3), (1, 22)], none, 32, false, 0, 6⟩),
  (31, ⟨1, false, [.int .i64 0], [], none, 8, false, 1, 1⟩),
  (45, ⟨1, false, [.slice none 0 0], [], some 4, 24, false, 0, 0⟩),
  (66, ⟨1, false, [.nilFunc], [], none, 8, false, 0, 0⟩),
  (75, ⟨1, false, [.nilFunc], [], none, 8, false, 0, 0⟩),
  (88, ⟨1, false, [.int .i64 0], [], none, 8, false, 1, 1⟩)]
theorem tyCnf_ok : AllTy Tryz.prog tyCnf := ⟨⟨by kernel_rfl, by kernel_rfl, by kernel_rfl⟩, ⟨by kernel_rfl, by kernel_rfl, by kernel_rfl⟩, ⟨by kernel_rfl, by kernel_rfl, by kernel_rfl⟩, ⟨by kernel_rfl, by kernel_rfl, by kernel_rfl⟩, ⟨by kernel_rfl, by kernel_rfl, by kernel_rfl⟩, ⟨by kernel_rfl, by kernel_rfl, by kernel_rfl⟩, ⟨by kernel_rfl, by kernel_rfl, by kernel_rfl⟩, ⟨by kernel_rfl, by kernel_rfl, by kernel_rfl⟩, ⟨by kernel_rfl, by kernel_rfl, by kernel_rfl⟩, ⟨by kernel_rfl, by kernel_rfl, by kernel_rfl⟩, trivial⟩
def cx_cMay : Cx := ⟨tyCnf, [], false⟩
theorem cx_cMay_ok : CxOk Tryz.prog cx_cMay := cx_ok tyCnf_ok trivial
def cMay_σ : CtF
  | [.im (.val (.int .i64 l)), .im (.val (.int .i64 n))], [] => some (0 ≤ n ∧ n ≤ 65536, .bool (Cn.mayP l n), [])
  | _, _ => none
theorem cMay_sound : Sound Tryz.prog 63 cMay_σ := by
 refine Sw (cx := cx_cMay) Tryz.f63 Tryz.func63 ?_
 intro wW wO wβ G0 args os p r outs hσ hp
 have hcx := cx_cMay_ok
 unfold cMay_σ at hσ
 split at hσ
 ·
  rename_i l n
  cases hσ
  refine ⟨by kernel_rfl, ?_⟩
  obtain ⟨hn0, hn1⟩ := hp
  refine Sz hcx [] [] [] [] (Sq hcx [] [4] [0, 1] [] [((l != 0) = true → ((l != 0) = true)), ((l != 0) = true → Fit (-n)), ((l != 0) = true → ((l != 0) = true)), ((l != 0) = true → ((l != 0) = true)), ((l != 0) = true → (l != 0) = true), (((l != 0) && (decide ((-n) ≤ l))) = true → (((l != 0) && (decide ((-n) ≤ l))) = true)), (((l != 0) && (decide ((-n) ≤ l))) = true → (((l != 0) && (decide ((-n) ≤ l))) = true)), (((l != 0) && (decide ((-n) ≤ l))) = true → ((l != 0) && (decide ((-n) ≤ l))) = true)] ?_ (Zr (Ru hcx [])))
  ·
   refine ap ?_ (ap ?_ (ap ?_ (ap ?_ (ap (by exact id) (ap ?_ (ap ?_ (ap (by exact id) az))))))) <;>
    first | omega | exact id | exact vcNot | exact vcG | exact vcH | (intro _; omega) | exact (fun _ h => h) | (intro h; simp at h; omega) | (simp only [List.length_cons, List.length_nil, List.length_append, List.length_map, List.length_set, List.length_replicate]; omega) | (intro h; simp [h]; done) | (intro _; constructor <;> omega)
 ·
  cases hσ
def cx_cOf : Cx := ⟨tyCnf, [], false⟩
theorem cx_cOf_ok : CxOk Tryz.prog cx_cOf := cx_ok tyCnf_ok trivial
def cOf_σ : CtF
  | [.im (.val (.int .i64 l))], [] => some (-9223372036854775807 ≤ l ∧ l ≤ 9223372036854775807, .int (l.natAbs : Int), [])
  | _, _ => none
theorem cOf_sound : Sound Tryz.prog 93 cOf_σ := by
 refine Sw (cx := cx_cOf) Tryz.f93 Tryz.func93 ?_
 intro wW wO wβ G0 args os p r outs hσ hp
 have hcx := cx_cOf_ok
 unfold cOf_σ at hσ
 split at hσ
 ·
  rename_i l
  cases hσ
  refine ⟨by kernel_rfl, ?_⟩
  obtain ⟨hn0, hn1⟩ := hp
  refine Sz hcx [] [] [] [] (Sq hcx [] [2] [0] [] [Fit (-l)] ?_ (Zr (Rv hcx (congrArg AV.int (show (max l (-l)) = (l.natAbs : Int) from (by omega))) [] rfl)))
  ·
   refine ap ?_ az
   first | omega | exact id | exact vcNot | exact vcG | exact vcH | (intro _; omega) | exact (fun _ h => h) | (intro h; simp at h; omega) | (simp only [List.length_cons, List.length_nil, List.length_append, List.length_map, List.length_set, List.length_replicate]; omega) | (intro h; simp [h]; done) | (constructor <;> omega)
 ·
  cases hσ
def cx_cTrue : Cx := ⟨tyCnf, [(63, cMay_σ), (93, cOf_σ)], false⟩
theorem cx_cTrue_ok : CxOk Tryz.prog cx_cTrue := cx_ok tyCnf_ok ⟨cMay_sound, cOf_sound, trivial⟩
def cTrue_σ : CtF
  | [.im (.val (.int .i64 l)), .im (.ls (.bools a))], [] => some (a.length ≤ maxLen, .bool (Cn.litV a l), [])
  | _, _ => none
theorem cTrue_sound : Sound Tryz.prog 65 cTrue_σ := by
 refine Sw (cx := cx_cTrue) Tryz.f65 Tryz.func65 ?_
 intro wW wO wβ G0 args os p r outs hσ hp
 have hcx := cx_cTrue_ok
 unfold cTrue_σ at hσ
 split at hσ
 ·
  rename_i l a
  cases hσ
  refine ⟨by kernel_rfl, ?_⟩
  unfold maxLen at hp
  refine Sz hcx [] [] [] [] (Zs (Sq hcx [] [8] [] [] [(0 ≤ (65536 : Int) ∧ (65536 : Int) ≤ 65536)] ?_ (Zi (b := !(Cn.mayP l (65536 : Int))) (fun h0 => ?_) fun h0 => ?_)))
  ·
   refine ap ?_ az
   first | omega | exact id | exact vcNot | exact vcG | exact vcH | (intro _; omega) | exact (fun _ h => h) | (intro h; simp at h; omega) | (simp only [List.length_cons, List.length_nil, List.length_append, List.length_map, List.length_set, List.length_replicate]; omega) | (intro h; simp [h]; done) | (constructor <;> omega) | trivial
  ·
   replace h0 := (notB_t h0)
   exact Sz hcx [] [4] [8, 0, 1] [] (Zr (Fr (Rv hcx (congrArg AV.bool (show false = (Cn.litV a l) from (by exact (Cn.litV_no h0).symm))) [] rfl)))
  ·
   replace h0 := (notB_f h0)
   have hmb := Cn.mayP_iff.1 h0
   refine Zk (Ft (Sq hcx [] [5] [8] [] [(-9223372036854775807 ≤ l ∧ l ≤ 9223372036854775807)] ?_ (Sq hcx [] [4] [5, 0, 1] [] [((decide ((l.natAbs : Int) < (a.length : Int))) = true → ((decide ((l.natAbs : Int) < (a.length : Int))) = true)), ((decide ((l.natAbs : Int) < (a.length : Int))) = true → ((decide ((l.natAbs : Int) < (a.length : Int))) = true)), ((decide ((l.natAbs : Int) < (a.length : Int))) = true → ((0 : Int) ≤ (l.natAbs : Int) ∧ (l.natAbs : Int) < (a.length : Int))), ((decide ((l.natAbs : Int) < (a.length : Int))) = true → ((decide ((l.natAbs : Int) < (a.length : Int))) = true)), ((decide ((l.natAbs : Int) < (a.length : Int))) = true → (decide ((l.natAbs : Int) < (a.length : Int))) = true)] ?_ (Zr (Rv hcx (congrArg AV.bool (show (((decide ((l.natAbs : Int) < (a.length : Int))) && (a.getD ((l.natAbs : Int).toNat) false)) == (decide (l > 0))) = (Cn.litV a l) from (by exact (Cn.litV_yes h0).symm))) [] rfl)))))
   ·
    refine ap ?_ az
    first | omega | exact id | exact vcNot | exact vcG | exact vcH | (intro _; omega) | exact (fun _ h => h) | (intro h; simp at h; omega) | (simp only [List.length_cons, List.length_nil, List.length_append, List.length_map, List.length_set, List.length_replicate]; omega) | (intro h; simp [h]; done) | (constructor <;> omega) | trivial
   ·
    refine ap ?_ (ap ?_ (ap ?_ (ap ?_ (ap (by exact id) az)))) <;>
     first | omega | exact id | exact vcNot | exact vcG | exact vcH | (intro _; omega) | exact (fun _ h => h) | (intro h; simp at h; omega) | (simp only [List.length_cons, List.length_nil, List.length_append, List.length_map, List.length_set, List.length_replicate]; omega) | (intro h; simp [h]; done) | (constructor <;> omega) | trivial
 ·
  cases hσ
def cx_cHolds1 : Cx := ⟨tyCnf, [(65, (coeF [.id, .ld (.bools [])] cTrue_σ))], false⟩
theorem cx_cHolds1_ok : CxOk Tryz.prog cx_cHolds1 := cx_ok tyCnf_ok ⟨(cTrue_sound.coe [.id, .ld (.bools [])] rfl), trivial⟩
def cHolds1_σ : CtF
  | [.im (.val (.int .i64 x)), .pto [.ls (.bools a)]], [] => some (a.length ≤ maxLen, .bool (Cn.litV a x), [])
  | _, _ => none
theorem cHolds1_sound : Sound Tryz.prog 64 cHolds1_σ := by
 refine Sw (cx := cx_cHolds1) Tryz.f64 Tryz.func64 ?_
 intro wW wO wβ G0 args os p r outs hσ hp
 have hcx := cx_cHolds1_ok
 unfold cHolds1_σ at hσ
 split at hσ
 ·
  rename_i x a
  cases hσ
  refine ⟨by kernel_rfl, ?_⟩
  exact Sz hcx [] [] [] [] (Sq hcx [] [3] [0, 1] [] [(a.length ≤ maxLen)] (ap (by exact hp) az) (Zr (Ru hcx [])))
 ·
  cases hσ
def cx_ixHolds : Cx := ⟨tyCnf, [(64, cHolds1_σ)], false⟩
theorem cx_ixHolds_ok : CxOk Tryz.prog cx_ixHolds := cx_ok tyCnf_ok ⟨cHolds1_sound, trivial⟩
def ixHolds_σ : CtF
  | [.im (.ls (.ints s)), .clo 64 [.pto [.ls (.bools a)]]], [] => some (s.length ≤ maxLen ∧ a.length ≤ maxLen, .int (Cn.idxF (fun x => Cn.litV a x) s), [])
  | _, _ => none
theorem ixHolds_sound : Sound Tryz.prog 92 ixHolds_σ := by
 refine Sw (cx := cx_ixHolds) Tryz.f92 Tryz.func92 ?_
 intro wW wO wβ G0 args os p r outs hσ hp
 have hcx := cx_ixHolds_ok
 unfold ixHolds_σ at hσ
 split at hσ
 ·
  rename_i s a
  cases hσ
  refine ⟨by kernel_rfl, ?_⟩
  obtain ⟨hm1, hpr⟩ := hp
  unfold maxLen at hm1
  refine Sz hcx [] [] [] [] (Zs (Sz hcx [] [7, 8] [] [] (Zb (Lp (X := Nat) (fun x0 => x0 ≤ s.length ∧ ∀ j, j < x0 → (Cn.litV a (s.getD j 0)) = false) (fun x0 => ([(0, .ints s), (1, .clo 64 [.pto [.ls (.bools a)]]), (7, .int (s.length : Int)), (8, .int (x0 : Int))], [])) (fun x0 => s.length - x0) (0) ?_ (Ex 8 (congrArg AV.int (show 0 = (0 : Int) from (by first | rfl | omega | (simp; done)))) Eb) Hb fun k hI => ?_))))
  ·
   exact ⟨Nat.zero_le _, fun j hj => by omega⟩
  ·
   try dsimp only at hI
   obtain ⟨hk, hok⟩ := hI
   refine Sz hcx [] [9] [] [] (Zs (Zj (p := ((k : Int) < (s.length : Int))) (fun h0 => ?_) fun h0 => ?_))
   ·
    refine Zk (Ft (Zs (Zb (Sz hcx [] [5] [9] [] (Sq hcx [] [16] [] [] [((0 : Int) ≤ (k : Int) ∧ (k : Int) < (s.length : Int)), (a.length ≤ maxLen)] ?_ (Zi (b := Cn.litV a (s.getD k 0)) (fun h1 => ?_) fun h1 => ?_))))))
    ·
     refine ap ?_ (ap ?_ az) <;>
      first | omega | exact id | exact vcNot | exact vcG | exact vcH | (intro _; omega) | exact (fun _ h => h) | (intro h; simp at h; omega) | (simp only [List.length_cons, List.length_nil, List.length_append, List.length_map, List.length_set, List.length_replicate]; omega) | (intro h; simp [h]; done) | exact hpr | trivial
    ·
     have hq := h1
     exact Sz hcx [] [4] [16, 5, 0, 1, 7, 8] [] (Zr (Fk (Fr (Fr (Fk (Fr (Rv hcx (congrArg AV.int (show (k : Int) = (Cn.idxF (fun x => Cn.litV a x) s) from (by exact (Cn.idxF_yes (p := (fun x => Cn.litV a x)) (by omega) hok hq).symm))) [] rfl)))))))
    ·
     have hq := h1
     refine Zk (Fb (Ft (Tq hcx [] [8] [16, 5] [] [Fit ((k : Int) + 1)] ?_ (Lr (k + 1) ?_ ?_ (Ex 8 (congrArg AV.int (show ((k : Int) + 1) = ((k + 1) : Int) from (by first | rfl | omega | (simp; done)))) Eb) Hb))))
     ·
      refine ap ?_ az
      first | omega | exact id | exact vcNot | exact vcG | exact vcH | (intro _; omega) | exact (fun _ h => h) | (intro h; simp at h; omega) | (simp only [List.length_cons, List.length_nil, List.length_append, List.length_map, List.length_set, List.length_replicate]; omega) | (intro h; simp [h]; done) | exact hpr | trivial
     ·
      exact ⟨by omega, Cn.falseSucc hok hq⟩
     ·
      show s.length - (k + 1) < s.length - k
      omega
   ·
    exact Ze (Fe (Fe (Fs (Ft (Sz hcx [] [4] [9, 0, 1, 7, 8] [] (Zr (Rv hcx (congrArg AV.int (show (-1) = (Cn.idxF (fun x => Cn.litV a x) s) from (by exact (Cn.idxF_no (p := (fun x => Cn.litV a x)) (Cn.all_mem (d := 0) (fun j hj => hok j (by omega)))).symm))) [] rfl)))))))
 ·
  cases hσ
def cx_ctHolds : Cx := ⟨tyCnf, [(92, (coeF [.ld (.ints []), .id] ixHolds_σ))], false⟩
theorem cx_ctHolds_ok : CxOk Tryz.prog cx_ctHolds := cx_ok tyCnf_ok ⟨(ixHolds_sound.coe [.ld (.ints []), .id] rfl), trivial⟩
def ctHolds_σ : CtF
  | [.im (.ls (.ints s)), .clo 64 [.pto [.ls (.bools a)]]], [] => some (s.length ≤ maxLen ∧ a.length ≤ maxLen, .bool (s.any (fun x => Cn.litV a x)), [])
  | _, _ => none
theorem ctHolds_sound : Sound Tryz.prog 61 ctHolds_σ := by
 refine Sw (cx := cx_ctHolds) Tryz.f61 Tryz.func61 ?_
 intro wW wO wβ G0 args os p r outs hσ hp
 have hcx := cx_ctHolds_ok
 unfold ctHolds_σ at hσ
 split at hσ
 ·
  rename_i s a
  cases hσ
  refine ⟨by kernel_rfl, ?_⟩
  refine Sz hcx [] [] [] [] (Sq hcx [] [4] [0, 1] [] [(s.length ≤ maxLen ∧ a.length ≤ maxLen)] ?_ (Zr (Rv hcx (congrArg AV.bool (show (decide ((Cn.idxF (fun x => Cn.litV a x) s) ≥ 0)) = (s.any (fun x => Cn.litV a x)) from (by exact Cn.idxF_any (p := (fun x => Cn.litV a x)) s))) [] rfl)))
  ·
   refine ap ?_ az
   first | exact hp | (intro h; exact h) | omega
 ·
  cases hσ
def cx_cCheck1 : Cx := ⟨tyCnf, [(63, cMay_σ)], false⟩
theorem cx_cCheck1_ok : CxOk Tryz.prog cx_cCheck1 := cx_ok tyCnf_ok ⟨cMay_sound, trivial⟩
def cCheck1_σ : CtF
  | [.im (.val (.int .i64 x)), .pto [.val (.int .i64 N), .ls (.intss L)]], [] => some (0 ≤ N ∧ N ≤ 65536, .bool (!(Cn.mayP x N)), [])
  | _, _ => none
theorem cCheck1_sound : Sound Tryz.prog 62 cCheck1_σ := by
 refine Sw (cx := cx_cCheck1) Tryz.f62 Tryz.func62 ?_
 intro wW wO wβ G0 args os p r outs hσ hp
 have hcx := cx_cCheck1_ok
 unfold cCheck1_σ at hσ
 split at hσ
 ·
  rename_i x N L
  cases hσ
  refine ⟨by kernel_rfl, ?_⟩
  exact Sz hcx [] [] [] [] (Sq hcx [] [3] [0, 1] [] [(0 ≤ N ∧ N ≤ 65536)] (ap (by exact hp) az) (Zr (Ru hcx [])))
 ·
  cases hσ
def cx_ixCheck : Cx := ⟨tyCnf, [(62, cCheck1_σ)], false⟩
theorem cx_ixCheck_ok : CxOk Tryz.prog cx_ixCheck := cx_ok tyCnf_ok ⟨cCheck1_sound, trivial⟩
def ixCheck_σ : CtF
  | [.im (.ls (.ints s)), .clo 62 [.pto [.val (.int .i64 N), .ls (.intss L)]]], [] => some (s.length ≤ maxLen ∧ 0 ≤ N ∧ N ≤ 65536, .int (Cn.idxF (fun x => !(Cn.mayP x N)) s), [])
  | _, _ => none
theorem ixCheck_sound : Sound Tryz.prog 92 ixCheck_σ := by
 refine Sw (cx := cx_ixCheck) Tryz.f92 Tryz.func92 ?_
 intro wW wO wβ G0 args os p r outs hσ hp
 have hcx := cx_ixCheck_ok
 unfold ixCheck_σ at hσ
 split at hσ
 ·
  rename_i s N L
  cases hσ
  refine ⟨by kernel_rfl, ?_⟩
  obtain ⟨hm1, hpr⟩ := hp
  unfold maxLen at hm1
  refine Sz hcx [] [] [] [] (Zs (Sz hcx [] [7, 8] [] [] (Zb (Lp (X := Nat) (fun x0 => x0 ≤ s.length ∧ ∀ j, j < x0 → (!(Cn.mayP (s.getD j 0) N)) = false) (fun x0 => ([(0, .ints s), (1, .clo 62 [.pto [.int N, .ls (.intss L)]]), (7, .int (s.length : Int)), (8, .int (x0 : Int))], [])) (fun x0 => s.length - x0) (0) ?_ (Ex 8 (congrArg AV.int (show 0 = (0 : Int) from (by first | rfl | omega | (simp; done)))) Eb) Hb fun k hI => ?_))))
  ·
   exact ⟨Nat.zero_le _, fun j hj => by omega⟩
  ·
   try dsimp only at hI
   obtain ⟨hk, hok⟩ := hI
   refine Sz hcx [] [9] [] [] (Zs (Zj (p := ((k : Int) < (s.length : Int))) (fun h0 => ?_) fun h0 => ?_))
   ·
    refine Zk (Ft (Zs (Zb (Sz hcx [] [5] [9] [] (Sq hcx [] [16] [] [] [((0 : Int) ≤ (k : Int) ∧ (k : Int) < (s.length : Int)), (0 ≤ N ∧ N ≤ 65536)] ?_ (Zi (b := !(Cn.mayP (s.getD k 0) N)) (fun h1 => ?_) fun h1 => ?_))))))
    ·
     refine ap ?_ (ap ?_ az) <;>
      first | omega | exact id | exact vcNot | exact vcG | exact vcH | (intro _; omega) | exact (fun _ h => h) | (intro h; simp at h; omega) | (simp only [List.length_cons, List.length_nil, List.length_append, List.length_map, List.length_set, List.length_replicate]; omega) | (intro h; simp [h]; done) | exact hpr | trivial
    ·
     have hq := h1
     exact Sz hcx [] [4] [16, 5, 0, 1, 7, 8] [] (Zr (Fk (Fr (Fr (Fk (Fr (Rv hcx (congrArg AV.int (show (k : Int) = (Cn.idxF (fun x => !(Cn.mayP x N)) s) from (by exact (Cn.idxF_yes (p := (fun x => !(Cn.mayP x N))) (by omega) hok hq).symm))) [] rfl)))))))
    ·
     have hq := h1
     refine Zk (Fb (Ft (Tq hcx [] [8] [16, 5] [] [Fit ((k : Int) + 1)] ?_ (Lr (k + 1) ?_ ?_ (Ex 8 (congrArg AV.int (show ((k : Int) + 1) = ((k + 1) : Int) from (by first | rfl | omega | (simp; done)))) Eb) Hb))))
     ·
      refine ap ?_ az
      first | omega | exact id | exact vcNot | exact vcG | exact vcH | (intro _; omega) | exact (fun _ h => h) | (intro h; simp at h; omega) | (simp only [List.length_cons, List.length_nil, List.length_append, List.length_map, List.length_set, List.length_replicate]; omega) | (intro h; simp [h]; done) | exact hpr | trivial
     ·
      exact ⟨by omega, Cn.falseSucc hok hq⟩
     ·
      show s.length - (k + 1) < s.length - k
      omega
   ·
    exact Ze (Fe (Fe (Fs (Ft (Sz hcx [] [4] [9, 0, 1, 7, 8] [] (Zr (Rv hcx (congrArg AV.int (show (-1) = (Cn.idxF (fun x => !(Cn.mayP x N)) s) from (by exact (Cn.idxF_no (p := (fun x => !(Cn.mayP x N))) (Cn.all_mem (d := 0) (fun j hj => hok j (by omega)))).symm))) [] rfl)))))))
 ·
  cases hσ
def cx_ctCheck : Cx := ⟨tyCnf, [(92, (orF (coeF [.ld (.ints []), .id] ixHolds_σ) (coeF [.ld (.ints []), .id] ixCheck_σ)))], false⟩
theorem cx_ctCheck_ok : CxOk Tryz.prog cx_ctCheck := cx_ok tyCnf_ok ⟨((ixHolds_sound.coe [.ld (.ints []), .id] rfl).or (ixCheck_sound.coe [.ld (.ints []), .id] rfl)), trivial⟩
def ctCheck_σ : CtF
  | [.im (.ls (.ints s)), .clo 62 [.pto [.val (.int .i64 N), .ls (.intss L)]]], [] => some (s.length ≤ maxLen ∧ 0 ≤ N ∧ N ≤ 65536, .bool (s.any (fun x => !(Cn.mayP x N))), [])
  | _, _ => none
theorem ctCheck_sound : Sound Tryz.prog 61 ctCheck_σ := by
 refine Sw (cx := cx_ctCheck) Tryz.f61 Tryz.func61 ?_
 intro wW wO wβ G0 args os p r outs hσ hp
 have hcx := cx_ctCheck_ok
 unfold ctCheck_σ at hσ
 split at hσ
 ·
  rename_i s N L
  cases hσ
  refine ⟨by kernel_rfl, ?_⟩
  refine Sz hcx [] [] [] [] (Sq hcx [] [4] [0, 1] [] [(s.length ≤ maxLen ∧ 0 ≤ N ∧ N ≤ 65536)] ?_ (Zr (Rv hcx (congrArg AV.bool (show (decide ((Cn.idxF (fun x => !(Cn.mayP x N)) s) ≥ 0)) = (s.any (fun x => !(Cn.mayP x N))) from (by exact Cn.idxF_any (p := (fun x => !(Cn.mayP x N))) s))) [] rfl)))
  ·
   refine ap ?_ az
   first | exact hp | (intro h; exact h) | omega
 ·
  cases hσ
def cx_cCheck : Cx := ⟨tyCnf, [(61, (orF (coeF [.ld (.ints []), .id] ctHolds_σ) (coeF [.ld (.ints []), .id] ctCheck_σ)))], false⟩
theorem cx_cCheck_ok : CxOk Tryz.prog cx_cCheck := cx_ok tyCnf_ok ⟨((ctHolds_sound.coe [.ld (.ints []), .id] rfl).or (ctCheck_sound.coe [.ld (.ints []), .id] rfl)), trivial⟩
def cCheck_σ : CtF
  | [.agg [.im (.val (.int .i64 N)), .im (.ls (.intss L))]], [] => some (L.length ≤ maxLen ∧ ∀ l ∈ L, l.length ≤ maxLen, .int (Cn.chkV N L), [])
  | _, _ => none
theorem cCheck_sound : Sound Tryz.prog 27 cCheck_σ := by
 refine Sw (cx := cx_cCheck) Tryz.f27 Tryz.func27 ?_
 intro wW wO wβ G0 args os p r outs hσ hp
 have hcx := cx_cCheck_ok
 unfold cCheck_σ at hσ
 split at hσ
 ·
  rename_i N L
  cases hσ
  refine ⟨by kernel_rfl, ?_⟩
  obtain ⟨hm1, hm2⟩ := hp
  unfold maxLen at hm1
  refine Sz hcx [(1000, .frz)] [1] [0] [] (Zs (Sq hcx [] [12] [] [] [((!(decide (N < 0))) = true → ((!(decide (N < 0))) = true)), ((!(decide (N < 0))) = true → ((!(decide (N < 0))) = true)), ((decide (N < 0)) = false → (!(decide (N < 0))) = true)] ?_ (Zi (b := (decide (N < 0)) || (decide (N > 65536))) (fun h0 => ?_) fun h0 => ?_)))
  ·
   refine ap ?_ (ap ?_ (ap (by exact vcNot) az)) <;>
    first | omega | exact id | exact vcNot | exact vcG | exact vcH | (intro _; omega) | exact (fun _ h => h) | (intro h; simp at h; omega) | (simp only [List.length_cons, List.length_nil, List.length_append, List.length_map, List.length_set, List.length_replicate]; omega) | (intro h; simp [h]; done) | exact ⟨hm2 _ (Cn.getD_memL (by omega)), by omega, by omega⟩
  ·
   try simp only [Bool.or_eq_true, Bool.or_eq_false_iff, Bool.and_eq_true, Bool.and_eq_false_iff, Bool.not_eq_true', Bool.not_eq_false', decide_eq_true_eq, decide_eq_false_iff_not, bne_iff_ne, bne_eq_false_iff_eq, beq_iff_eq, beq_eq_false_iff_ne] at h0
   exact Sz hcx [] [2] [12, 1] [] (Zr (Fr (Rv hcx (congrArg AV.int (show 1 = (Cn.chkV N L) from (by exact (Cn.chk_arg (by omega)).symm))) [] rfl)))
  ·
   try simp only [Bool.or_eq_true, Bool.or_eq_false_iff, Bool.and_eq_true, Bool.and_eq_false_iff, Bool.not_eq_true', Bool.not_eq_false', decide_eq_true_eq, decide_eq_false_iff_not, bne_iff_ne, bne_eq_false_iff_eq, beq_iff_eq, beq_eq_false_iff_ne] at h0
   have hN : ¬ (N < 0 ∨ 65536 < N) := by omega
   refine Zk (Ft (Zs (Sz hcx [] [14, 15, 16] [12] [] (Zb (Lp (X := Nat) (fun x0 => x0 ≤ L.length ∧ ∀ j, j < x0 → Cn.badL N (L.getD j []) = false) (fun x0 => ([(1, .pto [.int N, .ls (.intss L)]), (14, .intss L), (15, .int (L.length : Int)), (16, .int (x0 : Int))], [])) (fun x0 => L.length - x0) (0) ?_ (Ex 16 (congrArg AV.int (show 0 = (0 : Int) from (by first | rfl | omega | (simp; done)))) Eb) Hb fun k hI => ?_)))))
   ·
    exact ⟨Nat.zero_le _, fun j hj => by omega⟩
   ·
    try dsimp only at hI
    obtain ⟨hk, hok⟩ := hI
    refine Sz hcx [] [17] [] [] (Zs (Zj (p := ((k : Int) < (L.length : Int))) (fun h1 => ?_) fun h1 => ?_))
    ·
     refine Zk (Ft (Zs (Zb (Sq hcx [] [4] [17] [] [((0 : Int) ≤ (k : Int) ∧ (k : Int) < (L.length : Int))] ?_ (Sq hcx [] [22] [4] [] [((L.getD k []).length ≤ maxLen ∧ 0 ≤ N ∧ N ≤ 65536)] ?_ (Zi (b := (L.getD k []).any (fun x => !(Cn.mayP x N))) (fun h2 => ?_) fun h2 => ?_))))))
     ·
      refine ap ?_ az
      first | omega | exact id | exact vcNot | exact vcG | exact vcH | (intro _; omega) | exact (fun _ h => h) | (intro h; simp at h; omega) | (simp only [List.length_cons, List.length_nil, List.length_append, List.length_map, List.length_set, List.length_replicate]; omega) | (intro h; simp [h]; done) | exact ⟨hm2 _ (Cn.getD_memL (by omega)), by omega, by omega⟩
     ·
      refine ap ?_ az
      first | omega | exact id | exact vcNot | exact vcG | exact vcH | (intro _; omega) | exact (fun _ h => h) | (intro h; simp at h; omega) | (simp only [List.length_cons, List.length_nil, List.length_append, List.length_map, List.length_set, List.length_replicate]; omega) | (intro h; simp [h]; done) | exact ⟨hm2 _ (Cn.getD_memL (by omega)), by omega, by omega⟩
     ·
      have hq := h2
      exact Sz hcx [] [2] [22, 1, 14, 15, 16] [] (Zr (Fk (Fr (Fr (Fk (Fr (Rv hcx (congrArg AV.int (show 1 = (Cn.chkV N L) from (by exact (Cn.chk_bad hN (by omega) hq).symm))) [] rfl)))))))
     ·
      have hq := h2
      refine Zk (Fb (Ft (Tq hcx [] [16] [22] [] [Fit ((k : Int) + 1)] ?_ (Lr (k + 1) ?_ ?_ (Ex 16 (congrArg AV.int (show ((k : Int) + 1) = ((k + 1) : Int) from (by first | rfl | omega | (simp; done)))) Eb) Hb))))
      ·
       refine ap ?_ az
       first | omega | exact id | exact vcNot | exact vcG | exact vcH | (intro _; omega) | exact (fun _ h => h) | (intro h; simp at h; omega) | (simp only [List.length_cons, List.length_nil, List.length_append, List.length_map, List.length_set, List.length_replicate]; omega) | (intro h; simp [h]; done) | exact ⟨hm2 _ (Cn.getD_memL (by omega)), by omega, by omega⟩
      ·
       exact ⟨by omega, Cn.falseSucc hok hq⟩
      ·
       show L.length - (k + 1) < L.length - k
       omega
    ·
     refine Ze (Fe (Fe (Fs (Ft (Zs (Sz hcx [] [27] [17, 1, 14, 15, 16] [] (Zj (p := ((L.length : Int) > 65536)) (fun h3 => ?_) fun h3 => ?_)))))))
     ·
      have hc := Cn.chk_ok hN (fun j hj => hok j (by omega))
      exact Sz hcx [] [2] [27] [] (Zr (Fr (Rv hcx (congrArg AV.int (show 2 = (Cn.chkV N L) from (by rw [hc, if_pos (by omega)]))) [] rfl)))
     ·
      have hc := Cn.chk_ok hN (fun j hj => hok j (by omega))
      exact Zk (Ft (Sz hcx [] [2] [27] [] (Zr (Rv hcx (congrArg AV.int (show 0 = (Cn.chkV N L) from (by rw [hc, if_neg (by omega)]))) [] rfl))))
 ·
  cases hσ
def cx_sIndex : Cx := ⟨tyCnf, [], false⟩
theorem cx_sIndex_ok : CxOk Tryz.prog cx_sIndex := cx_ok tyCnf_ok trivial
def sIndex_σ : CtF
  | [.im (.ls (.ints s)), .im (.val (.int .i64 v))], [] => some (s.length ≤ maxLen, .int (Cn.idxF (fun x => v == x) s), [])
  | _, _ => none
theorem sIndex_sound : Sound Tryz.prog 78 sIndex_σ := by
 refine Sw (cx := cx_sIndex) Tryz.f78 Tryz.func78 ?_
 intro wW wO wβ G0 args os p r outs hσ hp
 have hcx := cx_sIndex_ok
 unfold sIndex_σ at hσ
 split at hσ
 ·
  rename_i s v
  cases hσ
  refine ⟨by kernel_rfl, ?_⟩
  have hm1 := hp
  unfold maxLen at hm1
  refine Sz hcx [] [] [] [] (Zs (Sz hcx [] [7, 8] [] [] (Zb (Lp (X := Nat) (fun x0 => x0 ≤ s.length ∧ ∀ j, j < x0 → ((v == (s.getD j 0))) = false) (fun x0 => ([(0, .ints s), (1, .int v), (7, .int (s.length : Int)), (8, .int (x0 : Int))], [])) (fun x0 => s.length - x0) (0) ?_ (Ex 8 (congrArg AV.int (show 0 = (0 : Int) from (by first | rfl | omega | (simp; done)))) Eb) Hb fun k hI => ?_))))
  ·
   exact ⟨Nat.zero_le _, fun j hj => by omega⟩
  ·
   try dsimp only at hI
   obtain ⟨hk, hok⟩ := hI
   refine Sz hcx [] [9] [] [] (Zs (Zj (p := ((k : Int) < (s.length : Int))) (fun h0 => ?_) fun h0 => ?_))
   ·
    refine Zk (Ft (Zs (Zb (Sz hcx [] [5] [9] [] (Sq hcx [] [16] [] [] [((0 : Int) ≤ (k : Int) ∧ (k : Int) < (s.length : Int))] (ap (by omega) az) (Zi (b := v == (s.getD k 0)) (fun h1 => ?_) fun h1 => ?_))))))
    ·
     have hq := h1
     exact Sz hcx [] [4] [16, 5, 0, 1, 7, 8] [] (Zr (Fk (Fr (Fr (Fk (Fr (Rv hcx (congrArg AV.int (show (k : Int) = (Cn.idxF (fun x => v == x) s) from (by exact (Cn.idxF_yes (p := fun x => v == x) (by omega) hok hq).symm))) [] rfl)))))))
    ·
     have hq := h1
     refine Zk (Fb (Ft (Tq hcx [] [8] [16, 5] [] [Fit ((k : Int) + 1)] (ap (by omega) az) (Lr (k + 1) ?_ ?_ (Ex 8 (congrArg AV.int (show ((k : Int) + 1) = ((k + 1) : Int) from (by first | rfl | omega | (simp; done)))) Eb) Hb))))
     ·
      exact ⟨by omega, Cn.falseSucc hok hq⟩
     ·
      show s.length - (k + 1) < s.length - k
      omega
   ·
    exact Ze (Fe (Fe (Fs (Ft (Sz hcx [] [4] [9, 0, 1, 7, 8] [] (Zr (Rv hcx (congrArg AV.int (show (-1) = (Cn.idxF (fun x => v == x) s) from (by exact (Cn.idxF_no (p := fun x => v == x) (Cn.all_mem (d := 0) (fun j hj => hok j (by omega)))).symm))) [] rfl)))))))
 ·
  cases hσ
def cx_sContains : Cx := ⟨tyCnf, [(78, (coeF [.ld (.ints []), .id] sIndex_σ))], false⟩
theorem cx_sContains_ok : CxOk Tryz.prog cx_sContains := cx_ok tyCnf_ok ⟨(sIndex_sound.coe [.ld (.ints []), .id] rfl), trivial⟩
def sContains_σ : CtF
  | [.im (.ls (.ints s)), .im (.val (.int .i64 v))], [] => some (s.length ≤ maxLen, .bool (s.contains v), [])
  | _, _ => none
theorem sContains_sound : Sound Tryz.prog 44 sContains_σ := by
 refine Sw (cx := cx_sContains) Tryz.f44 Tryz.func44 ?_
 intro wW wO wβ G0 args os p r outs hσ hp
 have hcx := cx_sContains_ok
 unfold sContains_σ at hσ
 split at hσ
 ·
  rename_i s v
  cases hσ
  refine ⟨by kernel_rfl, ?_⟩
  refine Sz hcx [] [] [] [] (Sq hcx [] [4] [0, 1] [] [(s.length ≤ maxLen)] ?_ (Zr (Rv hcx (congrArg AV.bool (show (decide ((Cn.idxF (fun x => v == x) s) ≥ 0)) = (s.contains v) from (by rw [show (decide ((Cn.idxF (fun x => v == x) s) ≥ 0)) = s.any (fun x => v == x) from Cn.idxF_any (p := fun x => v == x) s]; exact List.any_beq))) [] rfl)))
  ·
   refine ap ?_ az
   first | exact hp
 ·
  cases hσ
end Go.Proofs.YtbpbndlgfiammaaGreatDoor.En
