/- The replay of a proof as a plain function: what it accepts, that it is sound, and that an inserted given clause leaves it accepted. Plain definitions and lemmas; no program in sight. -/
import Derived.Test.YtbpbndlgfiammaaGreatDoorRupP
set_option linter.unusedSimpArgs false
set_option linter.unusedVariables false
set_option linter.unnecessarySimpa false
namespace Go.Proofs.YtbpbndlgfiammaaGreatDoor.Cn
open Go

/-- equal as sets -/
def alikeB (a b : List Int) : Bool := a.all (fun x => b.contains x) && b.all fun x => a.contains x
theorem alike_iff {a b : List Int} : alikeB a b = true ↔ ∀ x, x ∈ a ↔ x ∈ b := by
  unfold alikeB
  simp only [Bool.and_eq_true, List.all_eq_true, List.contains_iff_mem]
  exact ⟨fun h x => ⟨h.1 x, h.2 x⟩, fun h => ⟨fun x hx => (h x).1 hx, fun x hx => (h x).2 hx⟩⟩
theorem alike_refl (a : List Int) : alikeB a a = true := alike_iff.2 fun _ => Iff.rfl
theorem alike_symm (a b : List Int) : alikeB a b = alikeB b a := by
  rw [Bool.eq_iff_iff, alike_iff, alike_iff]; exact ⟨fun h x => (h x).symm, fun h x => (h x).symm⟩
theorem alike_congr {a b : List Int} (h : alikeB a b = true) (c : List Int) : alikeB c a = alikeB c b := by
  rw [Bool.eq_iff_iff, alike_iff, alike_iff]
  rw [alike_iff] at h
  exact ⟨fun q x => (q x).trans (h x), fun q x => (q x).trans (h x).symm⟩
def lineOk (x : Int × List Int) : Bool := decide (1 ≤ x.1) && decide (x.1 ≤ 3) && x.2.all fun y => mayP y 65536
/-- the first error of the lines of a proof -/
def frmV (p : List (Int × List Int)) : Int := if 65536 < p.length then 2 else if p.all lineOk = true then 0 else 1
/-- the core's literals: of variables from 1 to N, no two of the same variable -/
def coreOk (N : Int) (core : List Int) : Bool := (List.range core.length).all fun i => mayP (core.getD i 0) N && (!(core.take i).contains (core.getD i 0) && !(core.take i).contains (-(core.getD i 0)))
/-- the active clauses behind the lines, or none at a line that is refused -/
def runC (L : List (List Int)) : List (List Int) → List (Int × List Int) → Option (List (List Int))
  | cs, [] => some cs
  | cs, x :: p =>
    if x.1 = 1 then (if L.any (fun y => alikeB y x.2) = true then runC L (cs ++ [x.2]) p else none)
    else if x.1 = 2 then (if flwV cs x.2 = true then runC L (cs ++ [x.2]) p else none)
    else if 0 ≤ idxF (fun y => alikeB y x.2) cs then runC L (cs.eraseIdx (idxF (fun y => alikeB y x.2) cs).toNat) p else none
def endC (core : List Int) : Option (List (List Int)) → Int
  | none => 250
  | some cs => if flwV cs (core.map fun x => -x) = true then 0 else 250
def chkC (N : Int) (L : List (List Int)) (p : List (Int × List Int)) (core : List Int) : Int :=
  if chkV N L ≠ 0 then chkV N L else if frmV p ≠ 0 then frmV p else if coreOk N core = false then 1 else endC core (runC L [] p)
theorem chkC_0 {N : Int} {L : List (List Int)} {p : List (Int × List Int)} {core : List Int} (h : chkC N L p core = 0) :
    chkV N L = 0 ∧ frmV p = 0 ∧ coreOk N core = true ∧ ∃ cs, runC L [] p = some cs ∧ flwV cs (core.map fun x => -x) = true := by
  unfold chkC at h
  split at h
  · rename_i h1; exact absurd h h1
  · rename_i h1
    split at h
    · rename_i h2; exact absurd h h2
    · rename_i h2
      split at h
      · cases h
      · rename_i h3
        refine ⟨by simpa using h1, by simpa using h2, by simpa using h3, ?_⟩
        cases hr : runC L [] p with
        | none => rw [hr] at h; simp [endC] at h
        | some cs =>
          rw [hr] at h
          refine ⟨cs, rfl, ?_⟩
          by_cases hf : flwV cs (core.map fun x => -x) = true
          · exact hf
          · exfalso
            simp only [endC] at h
            rw [if_neg hf] at h
            cases h
theorem chkC_of {N : Int} {L : List (List Int)} {p : List (Int × List Int)} {core : List Int} {cs : List (List Int)} (h1 : chkV N L = 0) (h2 : frmV p = 0) (h3 : coreOk N core = true) (h4 : runC L [] p = some cs) (h5 : flwV cs (core.map fun x => -x) = true) : chkC N L p core = 0 := by
  unfold chkC
  rw [if_neg (by omega), if_neg (by omega), if_neg (by rw [h3]; simp), h4]
  simp [endC, h5]
/-- what holds of the clauses and is kept by the steps holds of the active clauses -/
theorem run_holds {L : List (List Int)} {a : List Bool} (hL : ∀ l ∈ L, holdsV a l = true) : ∀ {p : List (Int × List Int)} {cs cs' : List (List Int)}, (∀ l ∈ cs, holdsV a l = true) → runC L cs p = some cs' → ∀ l ∈ cs', holdsV a l = true
  | [], cs, cs', hc, h => by simp only [runC, Option.some.injEq] at h; subst h; exact hc
  | x :: p, cs, cs', hc, h => by
    unfold runC at h
    have happ : ∀ y, holdsV a y = true → ∀ l ∈ cs ++ [y], holdsV a l = true := fun y hy l hl => by
      rcases List.mem_append.1 hl with h | h
      · exact hc l h
      · rw [List.mem_singleton.1 h]; exact hy
    split at h
    · split at h
      · rename_i h1 h2
        obtain ⟨y, hy, he⟩ := List.any_eq_true.1 h2
        refine run_holds hL (happ _ ?_) h
        obtain ⟨z, hz, hv⟩ := List.any_eq_true.1 (hL y hy)
        exact List.any_eq_true.2 ⟨z, (alike_iff.1 he z).1 hz, hv⟩
      · cases h
    · split at h
      · split at h
        · rename_i h2
          exact run_holds hL (happ _ (flw_sound h2 hc)) h
        · cases h
      · split at h
        · exact run_holds hL (fun l hl => hc l (List.mem_of_mem_eraseIdx hl)) h
        · cases h
/-- an accepted proof: no assignment makes all clauses and all literals of the core true -/
theorem chk_sound {N : Int} {L : List (List Int)} {p : List (Int × List Int)} {core : List Int} {a : List Bool} (h : chkC N L p core = 0) (hL : ∀ l ∈ L, holdsV a l = true) : ∃ x ∈ core, litV a x = false := by
  obtain ⟨_, _, h3, cs, h4, h5⟩ := chkC_0 h
  have hc := run_holds hL (fun l hl => by cases hl) h4
  obtain ⟨z, hz, hv⟩ := List.any_eq_true.1 (flw_sound h5 hc)
  obtain ⟨x, hx, rfl⟩ := List.mem_map.1 hz
  refine ⟨x, hx, ?_⟩
  have hm := litV_may hv
  rw [may_neg] at hm
  rw [litV_neg hm] at hv
  simpa using hv
/-- cs' is cs with one clause like x more, as a bag of sets -/
def cntA (y : List Int) (cs : List (List Int)) : Nat := cs.countP fun c => alikeB y c
def One (x : List Int) (cs cs' : List (List Int)) : Prop := ∀ y, cntA y cs' = cntA y cs + (if alikeB y x = true then 1 else 0)
theorem cnt_app (y : List Int) (a b : List (List Int)) : cntA y (a ++ b) = cntA y a + cntA y b := List.countP_append ..
theorem cnt_one (y x : List Int) : cntA y [x] = if alikeB y x = true then 1 else 0 := by
  unfold cntA
  by_cases h : alikeB y x = true <;> simp [List.countP_cons, h]
theorem cnt_pos {y : List Int} {cs : List (List Int)} : 0 < cntA y cs ↔ ∃ c ∈ cs, alikeB y c = true := List.countP_pos_iff
theorem cnt_mem {cs cs' : List (List Int)} (h : ∀ y, cntA y cs ≤ cntA y cs') : ∀ x ∈ cs, ∃ y ∈ cs', ∀ z, z ∈ x ↔ z ∈ y := fun x hx => by
  have h1 : 0 < cntA x cs := cnt_pos.2 ⟨x, hx, alike_refl x⟩
  obtain ⟨c, hc, ha⟩ := cnt_pos.1 (Nat.lt_of_lt_of_le h1 (h x))
  exact ⟨c, hc, alike_iff.1 ha⟩
theorem idx_ok {l : List Int} {cs : List (List Int)} : 0 ≤ idxF (fun y => alikeB y l) cs ↔ 0 < cntA l cs := by
  have h := idxF_any (p := fun y => alikeB y l) cs
  rw [cnt_pos]
  constructor
  · intro h0
    rw [decide_eq_true h0] at h
    obtain ⟨c, hc, ha⟩ := List.any_eq_true.1 h.symm
    exact ⟨c, hc, by rw [alike_symm]; exact ha⟩
  · rintro ⟨c, hc, ha⟩
    have : cs.any (fun y => alikeB y l) = true := List.any_eq_true.2 ⟨c, hc, by rw [alike_symm]; exact ha⟩
    rw [this] at h
    exact of_decide_eq_true h
theorem cnt_erase (y l : List Int) : ∀ {cs : List (List Int)}, 0 ≤ idxF (fun y => alikeB y l) cs → cntA y (cs.eraseIdx (idxF (fun y => alikeB y l) cs).toNat) + (if alikeB y l = true then 1 else 0) = cntA y cs
  | [], h => by simp [idxF] at h
  | c :: cs, h => by
    unfold idxF at h ⊢
    cases hc : alikeB c l with
    | true =>
      simp only [if_true, Int.toNat_zero, List.eraseIdx_cons_zero]
      rw [show c :: cs = [c] ++ cs from rfl, cnt_app, cnt_one, alike_congr hc y]
      omega
    | false =>
      rw [hc] at h
      simp only [Bool.false_eq_true, if_false] at h ⊢
      by_cases hn : idxF (fun y => alikeB y l) cs < 0
      · rw [if_pos hn] at h; omega
      · rw [if_neg hn]
        have ih := cnt_erase y l (cs := cs) (by omega)
        rw [show (idxF (fun y => alikeB y l) cs + 1).toNat = (idxF (fun y => alikeB y l) cs).toNat + 1 by omega, List.eraseIdx_cons_succ]
        rw [show c :: cs = [c] ++ cs from rfl, show c :: cs.eraseIdx (idxF (fun y => alikeB y l) cs).toNat = [c] ++ cs.eraseIdx (idxF (fun y => alikeB y l) cs).toNat from rfl, cnt_app, cnt_app]
        omega
theorem run_one {L : List (List Int)} {x : List Int} : ∀ {p : List (Int × List Int)} {cs ds cs' : List (List Int)}, One x cs cs' → runC L cs p = some ds → ∃ ds', runC L cs' p = some ds' ∧ One x ds ds'
  | [], cs, ds, cs', h1, h => by simp only [runC, Option.some.injEq] at h; subst h; exact ⟨cs', rfl, h1⟩
  | z :: p, cs, ds, cs', h1, h => by
    have hle : ∀ y, cntA y cs ≤ cntA y cs' := fun y => by rw [h1 y]; omega
    have happ : One x (cs ++ [z.2]) (cs' ++ [z.2]) := fun y => by rw [cnt_app, cnt_app, h1 y]; omega
    unfold runC at h ⊢
    split at h
    · rename_i hk
      rw [if_pos hk]
      split at h
      · rename_i h2
        rw [if_pos h2]
        exact run_one happ h
      · cases h
    · rename_i hk
      rw [if_neg hk]
      split at h
      · rename_i hk2
        rw [if_pos hk2]
        split at h
        · rename_i h2
          rw [if_pos (flw_mono h2 (cnt_mem hle) fun _ h => h)]
          exact run_one happ h
        · cases h
      · rename_i hk2
        rw [if_neg hk2]
        split at h
        · rename_i h2
          have h2' : 0 ≤ idxF (fun y => alikeB y z.2) cs' := idx_ok.2 (Nat.lt_of_lt_of_le (idx_ok.1 h2) (hle _))
          rw [if_pos h2']
          refine run_one (fun y => ?_) h
          have e1 := cnt_erase y z.2 h2
          have e2 := cnt_erase y z.2 h2'
          have e3 := h1 y
          omega
        · cases h
theorem run_app {L : List (List Int)} : ∀ {p q : List (Int × List Int)} {cs : List (List Int)}, runC L cs (p ++ q) = (runC L cs p).bind fun ds => runC L ds q
  | [], q, cs => rfl
  | x :: p, q, cs => by
    rw [List.cons_append, runC, runC]
    split
    · split
      · exact run_app
      · rfl
    · split
      · split
        · exact run_app
        · rfl
      · split
        · exact run_app
        · rfl
theorem run_given {L cs : List (List Int)} {x : List Int} {q : List (Int × List Int)} (hx : x ∈ L) : runC L cs ((1, x) :: q) = runC L (cs ++ [x]) q := by
  rw [runC, if_pos rfl, if_pos (show L.any (fun y => alikeB y x) = true from List.any_eq_true.2 ⟨x, hx, alike_refl x⟩)]
theorem frm_ok {p : List (Int × List Int)} : frmV p = 0 ↔ p.length ≤ 65536 ∧ p.all lineOk = true := by
  unfold frmV
  by_cases h1 : 65536 < p.length
  · rw [if_pos h1]; exact ⟨fun h => by omega, fun h => by omega⟩
  · rw [if_neg h1]
    by_cases h2 : p.all lineOk = true
    · rw [if_pos h2]; exact ⟨fun _ => ⟨by omega, h2⟩, fun _ => rfl⟩
    · rw [if_neg h2]; exact ⟨fun h => by omega, fun h => absurd h.2 h2⟩
theorem line_in {N : Int} {L : List (List Int)} {x : List Int} (h : chkV N L = 0) (hx : x ∈ L) {k : Int} (h1 : 1 ≤ k) (h3 : k ≤ 3) : lineOk (k, x) = true := by
  obtain ⟨h0, h2, _⟩ := chkV_0.1 h
  unfold lineOk
  rw [decide_eq_true h1, decide_eq_true h3]
  simp only [Bool.true_and]
  refine List.all_eq_true.2 fun y hy => ?_
  have := mayP_iff.1 (h2 x hx y hy)
  exact mayP_iff.2 ⟨this.1, by omega, by omega⟩
/-- a given clause put in anywhere -/
theorem chk_more {N : Int} {L : List (List Int)} {p q : List (Int × List Int)} {core x : List Int} (h : chkC N L (p ++ q) core = 0) (hx : x ∈ L) (hl : p.length + q.length < 65536) : chkC N L (p ++ [(1, x)] ++ q) core = 0 := by
  obtain ⟨h1, h2, h3, cs, h4, h5⟩ := chkC_0 h
  rw [run_app] at h4
  cases hp : runC L [] p with
  | none => rw [hp] at h4; cases h4
  | some c1 =>
    rw [hp] at h4
    obtain ⟨ds, h6, h7⟩ := run_one (x := x) (cs' := c1 ++ [x]) (fun y => by rw [cnt_app, cnt_one]) h4
    have h8 := (frm_ok.1 h2).2
    rw [List.all_append, Bool.and_eq_true] at h8
    refine chkC_of h1 (frm_ok.2 ⟨by simp; omega, by rw [List.all_append, List.all_append, h8.1, h8.2]; simp [line_in h1 hx]⟩) h3 (cs := ds) ?_ (flw_mono h5 (cnt_mem fun y => by rw [h7 y]; omega) fun _ h => h)
    rw [List.append_assoc, run_app, hp]
    show runC L c1 ((1, x) :: q) = _
    rw [run_given hx]
    exact h6
/-- a given clause and its removal behind -/
theorem chk_back {N : Int} {L : List (List Int)} {p : List (Int × List Int)} {core x : List Int} (h : chkC N L p core = 0) (hx : x ∈ L) (hl : p.length + 2 ≤ 65536) : chkC N L (p ++ [(1, x), (3, x)]) core = 0 := by
  obtain ⟨h1, h2, h3, cs, h4, h5⟩ := chkC_0 h
  have h8 := (frm_ok.1 h2).2
  have hi : 0 ≤ idxF (fun y => alikeB y x) (cs ++ [x]) := idx_ok.2 (cnt_pos.2 ⟨x, by simp, alike_refl x⟩)
  refine chkC_of h1 (frm_ok.2 ⟨by simp; omega, by rw [List.all_append, h8]; simp [line_in h1 hx]⟩) h3 (cs := (cs ++ [x]).eraseIdx (idxF (fun y => alikeB y x) (cs ++ [x])).toNat) ?_ (flw_mono h5 (cnt_mem fun y => ?_) fun _ h => h)
  · rw [run_app, h4]
    show runC L cs ((1, x) :: [(3, x)]) = _
    rw [run_given hx, runC, if_neg (show ¬ (3 : Int) = 1 by decide), if_neg (show ¬ (3 : Int) = 2 by decide), if_pos hi]
    rfl
  · have := cnt_erase y x hi
    rw [cnt_app, cnt_one] at this
    omega
theorem not_any_all {α : Type} {p : α → Bool} (l : List α) : (!(l.any fun x => !p x)) = l.all p := by
  induction l with
  | nil => rfl
  | cons x l ih => rw [List.any_cons, List.all_cons, ← ih]; cases p x <;> simp
theorem right_is (k : Int) (l : List Int) : (((decide (k ≥ 1)) && (decide (k ≤ 3))) && (!(l.any (fun x => !(mayP x 65536))))) = lineOk (k, l) := by
  unfold lineOk; rw [not_any_all]
theorem frm_2 {p : List (Int × List Int)} (h : (p.length : Int) > 65536) : frmV p = 2 := by unfold frmV; rw [if_pos (by omega)]
theorem frm_1 {p : List (Int × List Int)} (h : ¬ (p.length : Int) > 65536) (hq : (p.any fun x => !(lineOk x)) = true) : frmV p = 1 := by
  unfold frmV; rw [if_neg (by omega), ← not_any_all, hq]; rfl
theorem frm_0 {p : List (Int × List Int)} (h : ¬ (p.length : Int) > 65536) (hq : (p.any fun x => !(lineOk x)) = false) : frmV p = 0 := by
  unfold frmV; rw [if_neg (by omega), ← not_any_all, hq]; rfl
end Go.Proofs.YtbpbndlgfiammaaGreatDoor.Cn
