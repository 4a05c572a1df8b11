/- Lemmas and contracts for the row. -/
import Derived.Test.YtkkapbnopmmmjaaGreatDoorPkRowEncodeMatchesB
import Derived.MapKept
import Derived.Test.YtkkapbnopmmmjaaGreatDoorPkRowEncodeMatchesA
set_option linter.unusedVariables false
set_option linter.unusedSimpArgs false
set_option linter.unnecessarySimpa false
namespace Go.Proofs.YtkkapbnopmmmjaaGreatDoor
open Go.RowKit
def q4c (k : Int) (e : MapEntry) : Bool := match e.key with | .int .i64 a => a == k | _ => false
def q6k (es : List MapEntry) (k : Int) : Option Value := (es.find? (q4c k)).map (·.val)
def intKeys (es : List MapEntry) : Prop := ∀ e ∈ es, ∃ a, e.key = .int .i64 a
def q5f (w : World) (m : Nat) (f : Int → Option Value) : Prop := ∃ es clock, w.heap[m]? = some (.map es clock) ∧ intKeys es.toList ∧ ∀ k, q6k es.toList k = f k
def upd (f : Int → Option Value) (k : Int) (v : Value) : Int → Option Value := fun j => if j = k then some v else f j
theorem findNow_spec (k : Int) (q : IntKind) : ∀ (es : List MapEntry) (i0 : Nat), intKeys es →
 (∃ j, ∃ h : j < es.length, es[j].key = .int .i64 k ∧ (∀ j' (h' : j' < j), q4c k (es[j']'(by omega)) = false) ∧ Instr.findNow (.int q) (.int .i64 k) es i0 = some (some (i0 + j, es[j].val)) ∧ q6k es k = some es[j].val) ∨
 (Instr.findNow (.int q) (.int .i64 k) es i0 = some none ∧ (∀ e ∈ es, q4c k e = false) ∧ q6k es k = none)
 | [], _, _ => .inr ⟨rfl, by simp, rfl⟩
 | e :: es, i0, hk => by
  obtain ⟨a, ha⟩ := hk e (by simp)
  by_cases hak : a = k
  · subst hak
    refine .inl ⟨0, by simp, ha, fun j' h' => by omega, ?_, ?_⟩
    · simp [Instr.findNow, ha, Instr.sameNow]
    · simp [q6k, q4c, ha]
  · have hf : q4c k e = false := by simp [q4c, ha, hak]
    have hs : Instr.sameNow (.int q) (.int .i64 k) e.key = some false := by
     simp only [ha, Instr.sameNow, if_true]
     congr 1
     simp
     exact fun h => hak h.symm
    rcases findNow_spec k q es (i0 + 1) (fun e he => hk e (by simp [he])) with ⟨j, h, h1, h2, h3, h4⟩ | ⟨h3, h2, h4⟩
    · refine .inl ⟨j + 1, by simpa using h, by simpa using h1, fun j' h' => ?_, ?_, ?_⟩
      · rcases j' with _ | j'
        · simpa using hf
        · simpa using h2 j' (by omega)
      · simp only [Instr.findNow, hs, h3, List.getElem_cons_succ]
        congr 3
        omega
      · simp only [q6k, List.find?_cons, hf] at h4 ⊢
        simpa using h4
    · refine .inr ⟨?_, fun e' he' => ?_, ?_⟩
      · simp only [Instr.findNow, hs, h3]
      · rcases List.mem_cons.1 he' with rfl | he'
        · exact hf
        · exact h2 e' he'
      · simp only [q6k, List.find?_cons, hf] at h4 ⊢
        simpa using h4
section
variable {P : Program} {w : World} {m : Nat} {f : Int → Option Value}
theorem z3i (kt : TypeId) (hkt : P.underlying kt = some (.int .i64)) (em : Bool) (n : Nat) (k : Int) : (Instr.checkKey em (n + 1) kt (.int .i64 k)).run P w = .ok () w := by simp [Instr.checkKey, run_underlying hkt]
theorem q7s (t kt et : TypeId) (z : Value) (ht : P.underlying t = some (.map kt et)) (hkt : P.underlying kt = some (.int .i64)) (hz : ∀ w : World, (zeroValue et).run P w = .ok z w) (h : q5f w m f) (k : Int) :
 (Instr.lookup t (.map (some m)) (.int .i64 k) false).run P w = .ok ((f k).getD z) w := by
 obtain ⟨es, clock, hb, hk, hf⟩ := h
 have hc := fun em : Bool => z3i (P := P) (w := w) kt hkt em 9999 k
 have hg : (getObj m).run P w = .ok (.map es clock) w := by simp [getObj, Sem.run, hb]
 rcases findNow_spec k .i64 es.toList 0 hk with ⟨j, hj, h1, h2, h3, h4⟩ | ⟨h3, h2, h4⟩
 · rw [← hf k, h4]
   simp [Instr.lookup, run_underlying ht, hg, hc, Instr.findKey, run_underlying hkt, h3]
 · rw [← hf k, h4]
   simp [Instr.lookup, run_underlying ht, hg, hc, Instr.findKey, run_underlying hkt, h3, hz]
theorem j3i (es : List MapEntry) (k k' : Int) (v : Value) (j : Nat) (hj : j < es.length) (h1 : es[j].key = .int .i64 k) (h2 : ∀ j' (h' : j' < j), q4c k (es[j']'(by omega)) = false) :
 q6k (es.modify j fun e => { e with key := .int .i64 k, val := v }) k' = if k' = k then some v else q6k es k' := by
 induction es generalizing j with
 | nil => simp at hj
 | cons e es ih =>
  rcases j with _ | j
  · simp only [List.getElem_cons_zero] at h1
    simp only [List.modify_zero_cons, q6k, List.find?_cons]
    by_cases hk : k' = k
    · subst hk
      simp [q4c]
    · have e1 : q4c k' { e with key := .int .i64 k, val := v } = false := by simp [q4c]; exact fun h => hk h.symm
      have e2 : q4c k' e = false := by simp [q4c, h1]; exact fun h => hk h.symm
      simp [e1, e2, hk]
  · have h0 := h2 0 (by omega)
    simp only [List.getElem_cons_zero] at h0
    have := ih j (by simpa using hj) (by simpa using h1) (fun j' h' => by simpa using h2 (j' + 1) (by omega))
    simp only [List.modify_succ_cons, q6k, List.find?_cons] at this ⊢
    by_cases hk : k' = k
    · subst hk
      simp only [h0, if_true] at this ⊢
      exact this
    · rw [if_neg hk] at this ⊢
      cases q4c k' e
      · exact this
      · rfl
theorem y3v (es : List MapEntry) (k k' : Int) (v : Value) (c : Nat) (h2 : ∀ e ∈ es, q4c k e = false) :
 q6k (es ++ [{ key := .int .i64 k, val := v, born := c }]) k' = if k' = k then some v else q6k es k' := by
 simp only [q6k, List.find?_append]
 by_cases hk : k' = k
 · subst hk
   rw [List.find?_eq_none.2 (fun e he => by simp [h2 e he])]
   simp [q4c]
 · rw [if_neg hk]
   have : q4c k' { key := .int .i64 k, val := v, born := c } = false := by simp [q4c]; exact fun h => hk h.symm
   simp [this]
theorem q8q (t kt et : TypeId) (ht : P.underlying t = some (.map kt et)) (hkt : P.underlying kt = some (.int .i64)) (h : q5f w m f) (k : Int) (v : Value) :
 ∃ w', (Instr.mapUpdate t (.map (some m)) (.int .i64 k) v).run P w = .ok () w' ∧ q5f w' m (upd f k v) ∧ w.grownBy w' (some m) ∧ w'.heap.size = w.heap.size := by
 obtain ⟨es, clock, hb, hk, hf⟩ := h
 have hc := fun em : Bool => z3i (P := P) (w := w) kt hkt em 9999 k
 have hg : (getObj m).run P w = .ok (.map es clock) w := by simp [getObj, Sem.run, hb]
 have hs : ∀ o : Obj, (setObj m o).run P w = .ok () { w with heap := w.heap.setIfInBounds m o } := fun o => by simp [setObj, Sem.run, hb]
 have hlt : m < w.heap.size := (Array.getElem?_eq_some_iff.1 hb).1
 have hgr : ∀ o : Obj, w.grownBy { w with heap := w.heap.setIfInBounds m o } (some m) := fun o =>
  ⟨rfl, rfl, rfl, by simp, fun j hj hne => by simp only [Array.getElem?_setIfInBounds]; rw [if_neg (fun e => hne (by rw [e]))]⟩
 rcases findNow_spec k .i64 es.toList 0 hk with ⟨j, hj, h1, h2, h3, h4⟩ | ⟨h3, h2, h4⟩
 · have hj' : j < es.size := by simpa using hj
   have hkey : ((es[j]?).map (·.key)).getD (.int .i64 k) = .int .i64 k := by
    rw [Array.getElem?_eq_getElem hj']
    simpa using h1
   refine ⟨{ w with heap := w.heap.setIfInBounds m (.map (es.modify j fun e => { e with key := .int .i64 k, val := v }) clock) }, ?_, ⟨es.modify j fun e => { e with key := .int .i64 k, val := v }, clock, by simp [hlt], ?_, fun k' => ?_⟩, hgr _, by simp⟩
   · simp [Instr.mapUpdate, run_underlying ht, hg, hc, Instr.findKey, run_underlying hkt, h3, hkey, Instr.keyThatStays, Instr.sameBits, hs]
   · intro e he
     simp only [Array.toList_modify] at he
     obtain ⟨i, hi, rfl⟩ := List.mem_iff_getElem.1 he
     rw [List.getElem_modify]
     split
     · exact ⟨k, rfl⟩
     · exact hk _ (List.getElem_mem _)
   · rw [Array.toList_modify, j3i es.toList k k' v j hj h1 h2, upd]
     split
     · rfl
     · exact hf k'
 · refine ⟨{ w with heap := w.heap.setIfInBounds m (.map (es.push { key := .int .i64 k, val := v, born := clock }) (clock + 1)) }, ?_, ⟨es.push { key := .int .i64 k, val := v, born := clock }, clock + 1, by simp [hlt], ?_, fun k' => ?_⟩, hgr _, by simp⟩
   · simp [Instr.mapUpdate, run_underlying ht, hg, hc, Instr.findKey, run_underlying hkt, h3, hs]
   · intro e he
     rw [Array.toList_push, List.mem_append] at he
     rcases he with he | he
     · exact hk e he
     · simp at he; subst he; exact ⟨k, rfl⟩
   · rw [Array.toList_push, y3v es.toList k k' v clock h2, upd]
     split
     · rfl
     · exact hf k'
theorem q5f.made (w : World) : q5f (w.alloc (.map #[] 0)) w.heap.size (fun _ => none) := ⟨#[], 0, heap_alloc_new w _, by intro e he; simp at he, fun k => rfl⟩
theorem q5f.lt (h : q5f w m f) : m < w.heap.size := by
 obtain ⟨es, clock, hb, _⟩ := h
 exact (Array.getElem?_eq_some_iff.1 hb).1
theorem q5f.kp {M : Nat → Prop} {w' : World} (h : q5f w m f) (hk : Kp M w w') (hm : ¬ M m) : q5f w' m f := by
 have hlt := h.lt
 obtain ⟨es, clock, hb, h2⟩ := h
 exact ⟨es, clock, (hk.block m hlt hm).trans hb, h2⟩
theorem q5f.ne_blk {g : Nat} {t : TypeId} {cs : Array Value} (h : q5f w m f) (hg : Blk w g t cs) : m ≠ g := by
 rintro rfl
 obtain ⟨es, clock, hb, h2⟩ := h
 unfold Blk at hg
 rw [hb] at hg
 cases hg
end
end Go.Proofs.YtkkapbnopmmmjaaGreatDoor
namespace Go.Proofs.YtkkapbnopmmmjaaGreatDoor
open Go.RowKit
def x2h (e : MapEntry) : Value × Value := (e.key, e.val)
def pv (p : Int × Value) : Value × Value := (.int .i64 p.1, p.2)
def z8r (w : World) (m : Nat) (kvs : List (Int × Value)) : Prop := ∃ es clock, w.heap[m]? = some (.map es clock) ∧ es.toList.map x2h = kvs.map pv ∧ (kvs.map (·.1)).Nodup
def q5w (kvs : List (Int × Value)) (k : Int) : Option Value := (kvs.find? fun p => p.1 == k).map (·.2)
theorem q8w : ∀ {es : List MapEntry} {kvs : List (Int × Value)}, es.map x2h = kvs.map pv → intKeys es
 | [], _, _ => fun e he => by cases he
 | e :: es, [], h => by simp at h
 | e :: es, p :: kvs, h => by
  simp only [List.map_cons, List.cons.injEq] at h
  intro x hx
  rcases List.mem_cons.1 hx with rfl | hx
  · exact ⟨p.1, congrArg Prod.fst h.1⟩
  · exact q8w h.2 x hx
theorem q8v : ∀ {es : List MapEntry} {kvs : List (Int × Value)}, es.map x2h = kvs.map pv → ∀ k, q6k es k = q5w kvs k
 | [], [], _, k => rfl
 | [], p :: kvs, h, k => by simp at h
 | e :: es, [], h, k => by simp at h
 | e :: es, p :: kvs, h, k => by
  simp only [List.map_cons, List.cons.injEq] at h
  have h1 : e.key = .int .i64 p.1 := congrArg Prod.fst h.1
  have h2 : e.val = p.2 := congrArg Prod.snd h.1
  have ih := q8v h.2 k
  unfold q6k q5w at ih ⊢
  rw [List.find?_cons, List.find?_cons]
  have h3 : q4c k e = (p.1 == k) := by simp [q4c, h1]
  rw [h3]
  cases p.1 == k with
  | true => simp [h2]
  | false => exact ih
section
variable {P : Program} {w w' : World} {m : Nat} {kvs : List (Int × Value)}
theorem z8r.mapI (h : z8r w m kvs) : q5f w m (q5w kvs) := by
 obtain ⟨es, clock, hb, hp, _⟩ := h
 exact ⟨es, clock, hb, q8w hp, fun k => q8v hp k⟩
theorem z8r.lt (h : z8r w m kvs) : m < w.heap.size := by
 obtain ⟨es, clock, hb, _⟩ := h
 exact (Array.getElem?_eq_some_iff.1 hb).1
theorem z8r.keep (h : z8r w m kvs) (hk : w'.heap[m]? = w.heap[m]?) : z8r w' m kvs := by
 obtain ⟨es, clock, hb, h2⟩ := h
 exact ⟨es, clock, hk.trans hb, h2⟩
theorem z8r.made (w : World) : z8r (w.alloc (.map #[] 0)) w.heap.size [] := ⟨#[], 0, heap_alloc_new w _, rfl, List.nodup_nil⟩
theorem z8r.cnt (h : z8r w m kvs) : ∃ es clock, w.heap[m]? = some (.map es clock) ∧ es.size = kvs.length := by
 obtain ⟨es, clock, hb, hp, _⟩ := h
 exact ⟨es, clock, hb, by have := congrArg List.length hp; simpa using this⟩
theorem k6j (t kt et : TypeId) (z : Value) (ht : P.underlying t = some (.map kt et)) (hkt : P.underlying kt = some (.int .i64)) (hz : ∀ w : World, (zeroValue et).run P w = .ok z w) {f : Int → Option Value} (h : q5f w m f) (k : Int) :
 (Instr.lookup t (.map (some m)) (.int .i64 k) true).run P w = .ok (.tuple #[(f k).getD z, .bool (f k).isSome]) w := by
 obtain ⟨es, clock, hb, hk, hf⟩ := h
 have hc := fun em : Bool => z3i (P := P) (w := w) kt hkt em 9999 k
 have hg : (getObj m).run P w = .ok (.map es clock) w := by simp [getObj, Sem.run, hb]
 rcases findNow_spec k .i64 es.toList 0 hk with ⟨j, hj, h1, h2, h3, h4⟩ | ⟨h3, h2, h4⟩
 · rw [← hf k, h4]
   simp [Instr.lookup, run_underlying ht, hg, hc, Instr.findKey, run_underlying hkt, h3]
 · rw [← hf k, h4]
   simp [Instr.lookup, run_underlying ht, hg, hc, Instr.findKey, run_underlying hkt, h3, hz]
theorem j1f (t kt et : TypeId) (ht : P.underlying t = some (.map kt et)) (hkt : P.underlying kt = some (.int .i64)) (h : z8r w m kvs) (k : Int) (v : Value) (hv : q5w kvs k = none ∨ q5w kvs k = some v) :
 ∃ o : Obj, (Instr.mapUpdate t (.map (some m)) (.int .i64 k) v).run P w = .ok () { w with heap := w.heap.setIfInBounds m o } ∧ z8r { w with heap := w.heap.setIfInBounds m o } m (if q5w kvs k = none then kvs ++ [(k, v)] else kvs) := by
 obtain ⟨es, clock, hb, hp, hnd⟩ := h
 have hk := q8w hp
 have hc := fun em : Bool => z3i (P := P) (w := w) kt hkt em 9999 k
 have hg : (getObj m).run P w = .ok (.map es clock) w := by simp [getObj, Sem.run, hb]
 have hs : ∀ o : Obj, (setObj m o).run P w = .ok () { w with heap := w.heap.setIfInBounds m o } := fun o => by simp [setObj, Sem.run, hb]
 have hlt : m < w.heap.size := (Array.getElem?_eq_some_iff.1 hb).1
 have hlook := q8v hp k
 rcases findNow_spec k .i64 es.toList 0 hk with ⟨j, hj, h1, h2, h3, h4⟩ | ⟨h3, h2, h4⟩
 · have hj' : j < es.size := by simpa using hj
   have hkey : ((es[j]?).map (·.key)).getD (.int .i64 k) = .int .i64 k := by
    rw [Array.getElem?_eq_getElem hj']
    simpa using h1
   have hfv : q5w kvs k = some es.toList[j].val := hlook.symm.trans h4
   have hval : es.toList[j].val = v := by
    rcases hv with hv | hv
    · rw [hv] at hfv; cases hfv
    · rw [hv] at hfv; exact (Option.some.inj hfv).symm
   refine ⟨.map (es.modify j fun e => { e with key := .int .i64 k, val := v }) clock, ?_, ?_⟩
   · simp [Instr.mapUpdate, run_underlying ht, hg, hc, Instr.findKey, run_underlying hkt, h3, hkey, Instr.keyThatStays, Instr.sameBits, hs]
   · rw [if_neg (by rw [hfv]; exact Option.some_ne_none _)]
     refine ⟨es.modify j fun e => { e with key := .int .i64 k, val := v }, clock, by simp [hlt], ?_, hnd⟩
     rw [← hp, Array.toList_modify]
     apply List.ext_getElem
     · simp
     · intro i a b
       rw [List.getElem_map, List.getElem_map, List.getElem_modify]
       split
       · rename_i hji
         subst hji
         unfold x2h
         rw [h1, hval]
       · rfl
 · have hfv : q5w kvs k = none := hlook.symm.trans h4
   refine ⟨.map (es.push { key := .int .i64 k, val := v, born := clock }) (clock + 1), ?_, ?_⟩
   · simp [Instr.mapUpdate, run_underlying ht, hg, hc, Instr.findKey, run_underlying hkt, h3, hs]
   · rw [if_pos hfv]
     refine ⟨es.push { key := .int .i64 k, val := v, born := clock }, clock + 1, by simp [hlt], ?_, ?_⟩
     · rw [Array.toList_push, List.map_append, List.map_append, hp]
       rfl
     · rw [List.map_append, List.nodup_append]
       refine ⟨hnd, by simp, fun x hx y hy => ?_⟩
       rw [List.map_singleton, List.mem_singleton] at hy
       subst hy
       rintro rfl
       obtain ⟨p, hp1, hp2⟩ := List.mem_map.1 hx
       unfold q5w at hfv
       rw [Option.map_eq_none_iff, List.find?_eq_none] at hfv
       exact hfv p hp1 (by simpa using hp2)
def y9q (ks : List Int) : List (Int × Value) := ks.map fun k => (k, .bool true)
def y0s (ks : List Int) (k : Int) : List Int := bif ks.contains k then ks else ks ++ [k]
theorem z5f : ∀ (ks : List Int) (k : Int), q5w (y9q ks) k = if ks.contains k then some (.bool true) else none
 | [], k => rfl
 | a :: ks, k => by
  have ih := z5f ks k
  unfold q5w y9q at ih ⊢
  rw [List.map_cons, List.find?_cons]
  by_cases h : a = k
  · subst h; simp
  · have h1 : (a == k) = false := by simpa using h
    have h2 : (k == a) = false := by simpa using fun e : k = a => h e.symm
    simp only [h1, List.contains_cons, h2, Bool.false_or]
    exact ih
theorem x4c {ks : List Int} {k x : Int} : x ∈ y0s ks k ↔ x ∈ ks ∨ x = k := by
 unfold y0s
 cases h : ks.contains k with
 | true =>
  have hk : k ∈ ks := List.contains_iff_mem.1 h
  exact ⟨fun h => .inl h, fun h => h.elim id (fun e => e ▸ hk)⟩
 | false => simp
theorem z0i (ks : List Int) (k x : Int) : (y0s ks k).contains x = (ks.contains x || x == k) := by
 rw [Bool.eq_iff_iff, List.contains_iff_mem, x4c, Bool.or_eq_true, List.contains_iff_mem, beq_iff_eq]
theorem x1o (t kt et : TypeId) (ht : P.underlying t = some (.map kt et)) (hkt : P.underlying kt = some (.int .i64)) {ks : List Int} (h : z8r w m (y9q ks)) (k : Int) :
 ∃ o : Obj, (Instr.mapUpdate t (.map (some m)) (.int .i64 k) (.bool true)).run P w = .ok () { w with heap := w.heap.setIfInBounds m o } ∧ z8r { w with heap := w.heap.setIfInBounds m o } m (y9q (y0s ks k)) := by
 have hf := z5f ks k
 obtain ⟨o, h1, h2⟩ := j1f t kt et ht hkt h k (.bool true) (by rw [hf]; cases ks.contains k <;> simp)
 refine ⟨o, h1, ?_⟩
 unfold y0s
 cases hc : ks.contains k with
 | true => rw [hc] at hf; rw [if_neg (by rw [hf]; simp)] at h2; exact h2
 | false =>
  rw [hc] at hf
  rw [if_pos (by rw [hf]; simp)] at h2
  have e : y9q ks ++ [(k, Value.bool true)] = y9q (ks ++ [k]) := by simp [y9q]
  rw [e] at h2
  exact h2
theorem y4u {ks : List Int} {vs : List Value} {k : Int} (h : k ∉ ks) : q5w (ks.zip vs) k = none := by
 unfold q5w
 rw [Option.map_eq_none_iff, List.find?_eq_none]
 intro p hp
 have := (List.of_mem_zip hp).1
 simpa using fun e : p.1 = k => h (e ▸ this)
end
end Go.Proofs.YtkkapbnopmmmjaaGreatDoor
namespace Go.Proofs.YtkkapbnopmmmjaaGreatDoor.Cn
open Go
def z6d (l : List Int) : List Int := l.foldl (fun ks x => y0s ks (max x (-x))) (y0s [] 0)
theorem y7k {l : List Int} {i : Nat} (h : i < l.length) : y0s (z6d (l.take i)) (max (l.getD i 0) (-(l.getD i 0))) = z6d (l.take (i + 1)) := by
 unfold z6d; rw [z1j (d := 0) h, List.foldl_append]; rfl
theorem z4u (z : Int) : ∀ (l ks : List Int), (l.foldl (fun ks x => y0s ks (max x (-x))) ks).contains z = (ks.contains z || l.any fun x => z == max x (-x))
 | [], ks => by simp
 | x :: l, ks => by
  rw [List.foldl_cons, z4u z l, z0i, List.any_cons, Bool.or_assoc]
theorem j1w (l : List Int) (z : Int) : (z6d l).contains z = (z == 0 || l.any fun x => z == max x (-x)) := by
 unfold z6d
 rw [z4u, z0i]
 rfl
def j2x (next : Int) (l : List Int) (i : Nat) : Bool := !((decide (max (l.getD i 0) (-(l.getD i 0)) < 0) || decide (max (l.getD i 0) (-(l.getD i 0)) ≥ next)) || (z6d (l.take i)).contains (max (l.getD i 0) (-(l.getD i 0))))
def q2v (next : Int) (l : List Int) : Bool := (List.range l.length).all (j2x next l)
theorem x8e {next : Int} {l : List Int} {i : Nat} (hi : i < l.length) (h : j2x next l i = false) : q2v next l = false := List.all_eq_false.2 ⟨i, List.mem_range.2 hi, by rw [h]; simp⟩
theorem y8m {next : Int} {l : List Int} {i : Nat} (hi : i = l.length) (h : ∀ j, j < i → j2x next l j = true) : q2v next l = true := List.all_eq_true.2 fun j hj => h j (by rw [hi]; exact List.mem_range.1 hj)
theorem x6j {next : Int} {l : List Int} : q2v next l = true ↔ ∀ i, i < l.length → (l.getD i 0 ≠ 0 ∧ ((l.getD i 0).natAbs : Int) < next ∧ ∀ j, j < i → (l.getD j 0).natAbs ≠ (l.getD i 0).natAbs) := by
 unfold q2v
 rw [List.all_eq_true]
 have key : ∀ i, i < l.length → (j2x next l i = true ↔ (l.getD i 0 ≠ 0 ∧ ((l.getD i 0).natAbs : Int) < next ∧ ∀ j, j < i → (l.getD j 0).natAbs ≠ (l.getD i 0).natAbs)) := fun i hi => by
  unfold j2x
  rw [j1w]
  simp only [Bool.not_eq_true', Bool.or_eq_false_iff, decide_eq_false_iff_not, beq_eq_false_iff_ne, List.any_eq_false]
  constructor
  · rintro ⟨⟨h1, h2⟩, h3, h4⟩
    refine ⟨by omega, by omega, fun j hj e => ?_⟩
    have hm : l.getD j 0 ∈ l.take i := by
     have : (l.take i).getD j 0 = l.getD j 0 := by simp [List.getD, List.getElem?_take, hj]
     rw [← this]; exact q0u (by rw [List.length_take]; omega)
    exact h4 _ hm (by rw [beq_iff_eq]; omega)
  · rintro ⟨h1, h2, h3⟩
    refine ⟨⟨by omega, by omega⟩, by omega, fun x hx => ?_⟩
    obtain ⟨j, hj, rfl⟩ := List.getElem_of_mem hx
    rw [List.length_take] at hj
    have := h3 j (by omega)
    have e : (l.take i)[j]'(by rw [List.length_take]; omega) = l.getD j 0 := by
     rw [List.getElem_take, List.getD_eq_getElem?_getD, List.getElem?_eq_getElem (by omega)]; rfl
    rw [e, beq_iff_eq]; omega
 constructor
 · intro h i hi; exact (key i hi).1 (h i (List.mem_range.2 hi))
 · intro h i hi; exact (key i (List.mem_range.1 hi)).2 (h i (List.mem_range.1 hi))
theorem k7x {b : Bool} (h : b = true) : (!b) = false := by rw [h]; rfl
theorem k7z {b : Bool} (h : b = false) : (!b) = true := by rw [h]; rfl
theorem y8s {ps : List (List Int)} {i : Nat} (h : i < ps.length) : (ps.take i).flatten ++ ps.getD i [] = (ps.take (i + 1)).flatten := by
 rw [z1j (d := []) h, List.flatten_append]; simp
theorem flat3 {ps : List (List Int)} (h1 : ps.length ≤ 3) (h2 : ∀ x ∈ ps, x.length ≤ 3) : ∀ i, (ps.take i).flatten.length ≤ 9 := fun i => by
 have key : ∀ l : List (List Int), (∀ x ∈ l, x.length ≤ 3) → l.flatten.length ≤ 3 * l.length := fun l => by
  induction l with
  | nil => intro _; exact Nat.le_refl _
  | cons x l ih =>
   intro h
   have := ih fun y hy => h y (List.mem_cons_of_mem _ hy)
   have h0 := h x List.mem_cons_self
   simp only [List.flatten_cons, List.length_append, List.length_cons]; omega
 have := key (ps.take i) fun x hx => h2 x (List.mem_of_mem_take hx)
 rw [List.length_take] at this
 omega
def at1 (l : List Int) (n : Int) : List Int := if n < 0 ∨ (l.length : Int) ≤ n then [] else [l.getD n.toNat 0]
def q6f : List Int → List Int
 | [] => []
 | x :: _ => [-x]
theorem j3h {l : List Int} {n : Int} (h : n < 0 ∨ (l.length : Int) ≤ n) : at1 l n = [] := if_pos h
theorem k2v {l : List Int} {n : Int} (h0 : 0 ≤ n) (h1 : n < l.length) : (l.take (n + 1).toNat).drop n.toNat = at1 l n := by
 unfold at1
 rw [if_neg (by omega), show (n + 1).toNat = n.toNat + 1 by omega]
 have : n.toNat < l.length := by omega
 rw [List.take_add_one, List.getElem?_eq_getElem this, List.drop_append]
 simp [List.getD, List.getElem?_eq_getElem this, List.drop_eq_nil_of_le, Nat.min_eq_left (Nat.le_of_lt this)]
theorem at_len (l : List Int) (n : Int) : (at1 l n).length ≤ 1 := by unfold at1; split <;> simp
theorem at_mem {l : List Int} {n x : Int} (h : x ∈ at1 l n) : x ∈ l := by
 unfold at1 at h
 split at h
 · cases h
 · rw [List.mem_singleton.1 h]; exact q0u (by omega)
theorem x9r {l : List Int} (h : (l.length : Int) = 0) : q6f l = [] := by
 cases l with
 | nil => rfl
 | cons x l => simp at h; omega
theorem x9q {l : List Int} (h : ¬ (l.length : Int) = 0) : q6f l = [-(l.getD 0 0)] := by
 cases l with
 | nil => exact absurd rfl h
 | cons x l => rfl
theorem q8x (l : List Int) : (q6f l).length ≤ 1 := by cases l <;> simp [q6f]
def q0f (next : Int) (many : Nat) : List Int := (List.range many).map fun i : Nat => next + (i : Int)
theorem q3w (next : Int) (many : Nat) : (q0f next many).length = many := by unfold q0f; rw [List.length_map, List.length_range]
theorem z2k {next x : Int} {many : Nat} (h : x ∈ q0f next many) : next ≤ x ∧ x < next + many := by
 unfold q0f at h
 obtain ⟨i, hi, rfl⟩ := List.mem_map.1 h
 have := List.mem_range.1 hi
 omega
def up1 (a b o : List Int) (i k : Nat) : List (List Int) := if 0 < i + k ∧ i + k ≤ o.length then [q6f (at1 a ((i : Int) - 1)) ++ q6f (at1 b ((k : Int) - 1)) ++ at1 o ((i : Int) + k - 1)] else []
def dn1 (a b o : List Int) (i k : Nat) : List (List Int) := if i + k < o.length then [at1 a i ++ at1 b k ++ q6f (at1 o ((i : Int) + k))] else []
def q4k (a b o : List Int) (i k : Nat) : List (List Int) := (List.range k).flatMap fun j => up1 a b o i j ++ dn1 a b o i j
def q3c (a b o : List Int) (i : Nat) : List (List Int) := (List.range i).flatMap fun i => q4k a b o i (b.length + 1)
theorem z9f (a b o : List Int) (i k : Nat) : q4k a b o i k ++ up1 a b o i k ++ dn1 a b o i k = q4k a b o i (k + 1) := by
 unfold q4k
 rw [List.range_succ, List.flatMap_append]; simp
theorem y0v (a b o : List Int) (i : Nat) : q3c a b o i ++ q4k a b o i (b.length + 1) = q3c a b o (i + 1) := by
 unfold q3c
 rw [List.range_succ, List.flatMap_append]; simp
theorem x5n {a b o : List Int} {i k : Nat} (h1 : 0 < i + k) (h2 : i + k ≤ o.length) : up1 a b o i k = [q6f (at1 a ((i : Int) - 1)) ++ q6f (at1 b ((k : Int) - 1)) ++ at1 o ((i : Int) + k - 1)] := if_pos ⟨h1, h2⟩
theorem k2c {a b o : List Int} {i k : Nat} (h : ¬ (0 < i + k ∧ i + k ≤ o.length)) : up1 a b o i k = [] := if_neg h
theorem x6a {a b o : List Int} {i k : Nat} (h : i + k < o.length) : dn1 a b o i k = [at1 a i ++ at1 b k ++ q6f (at1 o ((i : Int) + k))] := if_pos h
theorem k2f {a b o : List Int} {i k : Nat} (h : ¬ i + k < o.length) : dn1 a b o i k = [] := if_neg h
theorem j7x (a b o : List Int) (i : Nat) : ∀ k, (q4k a b o i k).length ≤ 2 * k
 | 0 => Nat.le_refl _
 | k + 1 => by
  rw [← z9f]
  have := j7x a b o i k
  have h1 : (up1 a b o i k).length ≤ 1 := by unfold up1; split <;> simp
  have h2 : (dn1 a b o i k).length ≤ 1 := by unfold dn1; split <;> simp
  simp only [List.length_append]; omega
theorem j8o (a b o : List Int) : ∀ i, (q3c a b o i).length ≤ 2 * (b.length + 1) * i
 | 0 => Nat.le_refl _
 | i + 1 => by
  rw [← y0v, List.length_append]
  have h1 := j8o a b o i
  have h2 := j7x a b o i (b.length + 1)
  rw [Nat.mul_add]; omega
abbrev TSt := Int × Bool × List (List Int)
def y2q (most : Int) (l a b : List Int) (s : TSt) : List Int × TSt :=
 if (s.2.1 || decide (s.1 + min (l.length : Int) most > 65537)) = true then ([], (s.1, true, s.2.2))
 else (q0f s.1 (min (l.length : Int) most).toNat, (s.1 + min (l.length : Int) most, false, s.2.2 ++ q3c a b (q0f s.1 (min (l.length : Int) most).toNat) (a.length + 1)))
def y1h (most : Int) : Nat → List Int → TSt → List Int × TSt
 | 0, l, s => (l, s)
 | n + 1, l, s => if (((l.length : Int) == 1) || s.2.1) = true then (l, s) else
  y2q most l (y1h most n (l.take (l.length / 2)) s).1 (y1h most n (l.drop (l.length / 2)) (y1h most n (l.take (l.length / 2)) s).2).1 (y1h most n (l.drop (l.length / 2)) (y1h most n (l.take (l.length / 2)) s).2).2
theorem q9r (most : Int) : ∀ (n m : Nat) (l : List Int) (s : TSt), 1 ≤ l.length → l.length ≤ n → l.length ≤ m → y1h most n l s = y1h most m l s
 | 0, m, l, s, h0, h1, h2 => by omega
 | n + 1, 0, l, s, h0, h1, h2 => by omega
 | n + 1, m + 1, l, s, h0, h1, h2 => by
  rw [y1h, y1h]
  split
  · rfl
  · rename_i hc
    have hl : ¬ l.length = 1 := fun e => hc (by rw [e]; rfl)
    rw [q9r most n m (l.take (l.length / 2)) s (by rw [List.length_take]; omega) (by rw [List.length_take]; omega) (by rw [List.length_take]; omega),
     q9r most n m (l.drop (l.length / 2)) _ (by rw [List.length_drop]; omega) (by rw [List.length_drop]; omega) (by rw [List.length_drop]; omega)]
def q5i (most : Int) (l : List Int) (s : TSt) : List Int × TSt := y1h most l.length l s
theorem q9t {most : Int} {l : List Int} {s : TSt} (h0 : 1 ≤ l.length) (h : (((l.length : Int) == 1) || s.2.1) = true) : q5i most l s = (l, s) := by
 unfold q5i
 obtain ⟨k, hk⟩ : ∃ k, l.length = k + 1 := ⟨l.length - 1, by omega⟩
 rw [hk, y1h, if_pos h]
theorem q9m {most : Int} {l : List Int} {s : TSt} (h0 : 1 ≤ l.length) (h : ¬ (((l.length : Int) == 1) || s.2.1) = true) : q5i most l s =
 y2q most l (q5i most (l.take (l.length / 2)) s).1 (q5i most (l.drop (l.length / 2)) (q5i most (l.take (l.length / 2)) s).2).1 (q5i most (l.drop (l.length / 2)) (q5i most (l.take (l.length / 2)) s).2).2 := by
 have hl : ¬ l.length = 1 := fun e => h (by rw [e]; rfl)
 unfold q5i
 obtain ⟨k, hk⟩ : ∃ k, l.length = k + 1 := ⟨l.length - 1, by omega⟩
 have e : y1h most l.length l s = y1h most (k + 1) l s := by rw [hk]
 rw [e, y1h, if_neg h, q9r most k (l.take (l.length / 2)).length (l.take (l.length / 2)) s (by rw [List.length_take]; omega) (by rw [List.length_take]; omega) (Nat.le_refl _),
  q9r most k (l.drop (l.length / 2)).length (l.drop (l.length / 2)) _ (by rw [List.length_drop]; omega) (by rw [List.length_drop]; omega) (Nat.le_refl _)]
theorem z8e (most : Int) (hm0 : 0 ≤ most) : ∀ (n : Nat) (l : List Int) (s : TSt), l.length = n → 1 ≤ n → 1 ≤ s.1 → s.1 ≤ 65537 → (∀ x ∈ l, -65537 ≤ x ∧ x ≤ 65537) →
 (q5i most l s).1.length ≤ n ∧ (∀ x ∈ (q5i most l s).1, -65537 ≤ x ∧ x ≤ 65537) ∧ s.1 ≤ (q5i most l s).2.1 ∧ (q5i most l s).2.1 ≤ 65537 ∧ (q5i most l s).2.2.2.length ≤ s.2.2.length + 8 * (n * n) := fun n => by
 induction n using Nat.strongRecOn with
 | _ n ih =>
  intro l s hl h1 hs1 hs2 hx
  by_cases hc : (((l.length : Int) == 1) || s.2.1) = true
  · rw [q9t (by omega) hc]
    exact ⟨by rw [hl]; exact Nat.le_refl _, hx, Int.le_refl _, hs2, Nat.le_add_right _ _⟩
  · have hl2 : ¬ l.length = 1 := fun e => hc (by rw [e]; rfl)
    rw [q9m (by omega) hc]
    have hA := ih (l.take (l.length / 2)).length (by rw [List.length_take]; omega) (l.take (l.length / 2)) s rfl (by rw [List.length_take]; omega) hs1 hs2 (fun x h => hx x (List.mem_of_mem_take h))
    generalize q5i most (l.take (l.length / 2)) s = A at hA ⊢
    obtain ⟨a1, a2, a3, a4, a5⟩ := hA
    have hB := ih (l.drop (l.length / 2)).length (by rw [List.length_drop]; omega) (l.drop (l.length / 2)) A.2 rfl (by rw [List.length_drop]; omega) (by omega) a4 (fun x h => hx x (List.mem_of_mem_drop h))
    generalize q5i most (l.drop (l.length / 2)) A.2 = B at hB ⊢
    obtain ⟨b1, b2, b3, b4, b5⟩ := hB
    rw [List.length_take] at a1 a5
    rw [List.length_drop] at b1 b5
    have hmin : min (l.length / 2) l.length = l.length / 2 := by omega
    rw [hmin] at a1 a5
    have hsq : (l.length / 2) * (l.length / 2) + (l.length - l.length / 2) * (l.length - l.length / 2) + 2 * ((l.length / 2) * (l.length - l.length / 2)) = n * n := by
     have e : l.length / 2 + (l.length - l.length / 2) = n := by omega
     rw [← e]
     generalize l.length / 2 = p
     generalize l.length - p = q
     rw [Nat.add_mul, Nat.mul_add, Nat.mul_add, Nat.mul_comm q p]; omega
    unfold y2q
    split
    · refine ⟨Nat.zero_le _, fun x hx => (by cases hx), (by show s.1 ≤ B.2.1; omega), b4, ?_⟩
      show B.2.2.2.length ≤ _
      omega
    · rename_i hf
      simp only [Bool.or_eq_true, decide_eq_true_eq, not_or] at hf
      refine ⟨?_, fun x hx => ?_, ?_, ?_, ?_⟩
      · show (q0f _ _).length ≤ n
        rw [q3w]; omega
      · have := z2k hx; omega
      · show s.1 ≤ B.2.1 + min (l.length : Int) most; omega
      · show B.2.1 + min (l.length : Int) most ≤ 65537; omega
      · show (B.2.2.2 ++ q3c A.1 B.1 _ _).length ≤ _
        rw [List.length_append]
        have hcl := j8o A.1 B.1 (q0f B.2.1 (min (l.length : Int) most).toNat) (A.1.length + 1)
        have h4 : 2 * (B.1.length + 1) * (A.1.length + 1) ≤ 2 * (2 * (l.length - l.length / 2)) * (2 * (l.length / 2)) := Nat.mul_le_mul (by omega) (by omega)
        have h5 : 2 * (2 * (l.length - l.length / 2)) * (2 * (l.length / 2)) = 8 * ((l.length / 2) * (l.length - l.length / 2)) := by
         rw [show 2 * (2 * (l.length - l.length / 2)) = 4 * (l.length - l.length / 2) by omega, Nat.mul_mul_mul_comm, Nat.mul_comm (l.length - _)]
        omega
def z5u (most : Int) (l : List Int) (nx : Int) (fl : Bool) (c : List (List Int)) : List Int := (q5i most l (nx, fl, c)).1
def z5v (most : Int) (l : List Int) (nx : Int) (fl : Bool) (c : List (List Int)) : Int := (q5i most l (nx, fl, c)).2.1
def z3f (most : Int) (l : List Int) (nx : Int) (fl : Bool) (c : List (List Int)) : Bool := (q5i most l (nx, fl, c)).2.2.1
def z8s (most : Int) (l : List Int) (nx : Int) (fl : Bool) (c : List (List Int)) : List (List Int) := (q5i most l (nx, fl, c)).2.2.2
theorem j6e (l : List Int) : (l.take ((l.length : Int).tdiv 2).toNat).drop 0 = l.take (l.length / 2) := by
 rw [List.drop_zero, show ((l.length : Int).tdiv 2).toNat = l.length / 2 by rw [Int.tdiv_eq_ediv_of_nonneg (by omega)]; omega]
theorem j5m (l : List Int) : (l.take l.length).drop ((l.length : Int).tdiv 2).toNat = l.drop (l.length / 2) := by
 rw [List.take_length, show ((l.length : Int).tdiv 2).toNat = l.length / 2 by rw [Int.tdiv_eq_ediv_of_nonneg (by omega)]; omega]
section
variable {most nx : Int} {l : List Int} {fl : Bool} {c : List (List Int)}
theorem x5d (h0 : 1 ≤ l.length) (h : (((l.length : Int) == 1) || fl) = true) : z5u most l nx fl c = l ∧ z5v most l nx fl c = nx ∧ z3f most l nx fl c = fl ∧ z8s most l nx fl c = c := by
 unfold z5u z5v z3f z8s
 rw [q9t h0 h]
 exact ⟨rfl, rfl, rfl, rfl⟩
abbrev L1 (l : List Int) : List Int := (l.take ((l.length : Int).tdiv 2).toNat).drop 0
abbrev L2 (l : List Int) : List Int := (l.take l.length).drop ((l.length : Int).tdiv 2).toNat
abbrev O1 (most : Int) (l : List Int) (nx : Int) (fl : Bool) (c : List (List Int)) : List Int := z5u most (L1 l) nx fl c
abbrev N1 (most : Int) (l : List Int) (nx : Int) (fl : Bool) (c : List (List Int)) : Int := z5v most (L1 l) nx fl c
abbrev B1 (most : Int) (l : List Int) (nx : Int) (fl : Bool) (c : List (List Int)) : Bool := z3f most (L1 l) nx fl c
abbrev C1 (most : Int) (l : List Int) (nx : Int) (fl : Bool) (c : List (List Int)) : List (List Int) := z8s most (L1 l) nx fl c
abbrev O2 (most : Int) (l : List Int) (nx : Int) (fl : Bool) (c : List (List Int)) : List Int := z5u most (L2 l) (N1 most l nx fl c) (B1 most l nx fl c) (C1 most l nx fl c)
abbrev N2 (most : Int) (l : List Int) (nx : Int) (fl : Bool) (c : List (List Int)) : Int := z5v most (L2 l) (N1 most l nx fl c) (B1 most l nx fl c) (C1 most l nx fl c)
abbrev B2 (most : Int) (l : List Int) (nx : Int) (fl : Bool) (c : List (List Int)) : Bool := z3f most (L2 l) (N1 most l nx fl c) (B1 most l nx fl c) (C1 most l nx fl c)
abbrev C2 (most : Int) (l : List Int) (nx : Int) (fl : Bool) (c : List (List Int)) : List (List Int) := z8s most (L2 l) (N1 most l nx fl c) (B1 most l nx fl c) (C1 most l nx fl c)
theorem x4u (h0 : 1 ≤ l.length) (h : (((l.length : Int) == 1) || fl) = false) : q5i most l (nx, fl, c) = y2q most l (O1 most l nx fl c) (O2 most l nx fl c) (N2 most l nx fl c, B2 most l nx fl c, C2 most l nx fl c) := by
 rw [q9m h0 (by rw [h]; simp)]
 unfold O1 O2 N2 B2 C2 N1 B1 C1 L1 L2 z5u z5v z3f z8s
 rw [j6e, j5m]
theorem y9m (h0 : 1 ≤ l.length) (h : (((l.length : Int) == 1) || fl) = false) (hf : (B2 most l nx fl c || decide (N2 most l nx fl c + min (l.length : Int) most > 65537)) = true) :
 z5u most l nx fl c = [] ∧ z5v most l nx fl c = N2 most l nx fl c ∧ z3f most l nx fl c = true ∧ z8s most l nx fl c = C2 most l nx fl c := by
 have e := x4u (most := most) (nx := nx) (c := c) h0 h
 unfold y2q at e
 rw [if_pos hf] at e
 refine ⟨?_, ?_, ?_, ?_⟩
 · show (q5i most l (nx, fl, c)).1 = _; rw [e]
 · show (q5i most l (nx, fl, c)).2.1 = _; rw [e]
 · show (q5i most l (nx, fl, c)).2.2.1 = _; rw [e]
 · show (q5i most l (nx, fl, c)).2.2.2 = _; rw [e]
abbrev MN (most : Int) (l : List Int) : Nat := (min (l.length : Int) most).toNat
abbrev OT (most : Int) (l : List Int) (nx : Int) (fl : Bool) (c : List (List Int)) : List Int := q0f (N2 most l nx fl c) (MN most l)
theorem k4b (h0 : 1 ≤ l.length) (h : (((l.length : Int) == 1) || fl) = false) (hf : (B2 most l nx fl c || decide (N2 most l nx fl c + min (l.length : Int) most > 65537)) = false) :
 z5u most l nx fl c = OT most l nx fl c ∧ z5v most l nx fl c = N2 most l nx fl c + min (l.length : Int) most ∧ z3f most l nx fl c = false ∧ z8s most l nx fl c = C2 most l nx fl c ++ q3c (O1 most l nx fl c) (O2 most l nx fl c) (OT most l nx fl c) ((O1 most l nx fl c).length + 1) := by
 have e := x4u (most := most) (nx := nx) (c := c) h0 h
 unfold y2q at e
 rw [if_neg (by rw [hf]; simp)] at e
 refine ⟨?_, ?_, ?_, ?_⟩
 · show (q5i most l (nx, fl, c)).1 = _; rw [e]
 · show (q5i most l (nx, fl, c)).2.1 = _; rw [e]
 · show (q5i most l (nx, fl, c)).2.2.1 = _; rw [e]
 · show (q5i most l (nx, fl, c)).2.2.2 = _; rw [e]
theorem k6c (hm0 : 0 ≤ most) (h2 : 2 ≤ l.length) (hn1 : 1 ≤ nx) (hn2 : nx ≤ 65537) (hx : ∀ x ∈ l, -65537 ≤ x ∧ x ≤ 65537) :
 ((L1 l).length = l.length / 2 ∧ (L2 l).length = l.length - l.length / 2 ∧ (∀ x ∈ L1 l, -65537 ≤ x ∧ x ≤ 65537) ∧ ∀ x ∈ L2 l, -65537 ≤ x ∧ x ≤ 65537) ∧
 ((O1 most l nx fl c).length ≤ l.length / 2 ∧ (∀ x ∈ O1 most l nx fl c, -65537 ≤ x ∧ x ≤ 65537) ∧ nx ≤ N1 most l nx fl c ∧ N1 most l nx fl c ≤ 65537 ∧ (C1 most l nx fl c).length ≤ c.length + 8 * ((l.length / 2) * (l.length / 2))) ∧
 ((O2 most l nx fl c).length ≤ l.length - l.length / 2 ∧ (∀ x ∈ O2 most l nx fl c, -65537 ≤ x ∧ x ≤ 65537) ∧ nx ≤ N2 most l nx fl c ∧ N2 most l nx fl c ≤ 65537 ∧ (C2 most l nx fl c).length + 16 * ((l.length / 2) * (l.length - l.length / 2)) ≤ c.length + 8 * (l.length * l.length)) ∧
 c.length + 8 * ((l.length / 2) * (l.length / 2)) + 8 * ((l.length - l.length / 2) * (l.length - l.length / 2)) + 16 * ((l.length / 2) * (l.length - l.length / 2)) = c.length + 8 * (l.length * l.length) := by
 have e1 : (L1 l).length = l.length / 2 := by rw [show L1 l = l.take (l.length / 2) from j6e l, List.length_take]; omega
 have e2 : (L2 l).length = l.length - l.length / 2 := by rw [show L2 l = l.drop (l.length / 2) from j5m l, List.length_drop]
 have e3 : ∀ x ∈ L1 l, -65537 ≤ x ∧ x ≤ 65537 := fun x h => hx x (by rw [show L1 l = l.take (l.length / 2) from j6e l] at h; exact List.mem_of_mem_take h)
 have e4 : ∀ x ∈ L2 l, -65537 ≤ x ∧ x ≤ 65537 := fun x h => hx x (by rw [show L2 l = l.drop (l.length / 2) from j5m l] at h; exact List.mem_of_mem_drop h)
 have hsq : (l.length / 2) * (l.length / 2) + (l.length - l.length / 2) * (l.length - l.length / 2) + 2 * ((l.length / 2) * (l.length - l.length / 2)) = l.length * l.length := by
  have e : l.length / 2 + (l.length - l.length / 2) = l.length := by omega
  generalize l.length / 2 = p at e ⊢
  generalize l.length - p = q at e ⊢
  rw [← e, Nat.add_mul, Nat.mul_add, Nat.mul_add, Nat.mul_comm q p]; omega
 obtain ⟨a1, a2, a3, a4, a5⟩ := z8e most hm0 (L1 l).length (L1 l) (nx, fl, c) rfl (by omega) hn1 hn2 e3
 obtain ⟨b1, b2, b3, b4, b5⟩ := z8e most hm0 (L2 l).length (L2 l) (N1 most l nx fl c, B1 most l nx fl c, C1 most l nx fl c) rfl (by omega) (by show 1 ≤ (q5i most (L1 l) (nx, fl, c)).2.1; exact Int.le_trans hn1 a3) a4 e4
 rw [e1] at a1 a5
 rw [e2] at b1 b5
 refine ⟨⟨e1, e2, e3, e4⟩, ⟨a1, a2, a3, a4, a5⟩, ⟨b1, b2, Int.le_trans a3 b3, b4, ?_⟩, by omega⟩
 have h1 : (C1 most l nx fl c).length ≤ c.length + 8 * ((l.length / 2) * (l.length / 2)) := a5
 have h2 : (C2 most l nx fl c).length ≤ (C1 most l nx fl c).length + 8 * ((l.length - l.length / 2) * (l.length - l.length / 2)) := b5
 omega
end
theorem x0k (l : List Int) : (l.length : Int).tdiv 2 = ((l.length / 2 : Nat) : Int) := by rw [Int.tdiv_eq_ediv_of_nonneg (by omega)]; omega
theorem k9m {l : List Int} {fl : Bool} (h0 : 1 ≤ l.length) (h : (((l.length : Int) == 1) || fl) = false) : 2 ≤ l.length := by
 simp only [Bool.or_eq_false_iff, beq_eq_false_iff_ne] at h
 omega
theorem x3o {most m2 nx : Int} {l : List Int} {fl : Bool} {c : List (List Int)} (hm : m2 = most) (h0 : 1 ≤ l.length) (h : (((l.length : Int) == 1) || fl) = false) (hf : (B2 m2 l nx fl c || decide (N2 m2 l nx fl c + min (l.length : Int) most > 65537)) = true) :
 z5u most l nx fl c = [] ∧ z5v most l nx fl c = N2 m2 l nx fl c ∧ z3f most l nx fl c = true ∧ z8s most l nx fl c = C2 m2 l nx fl c := by
 subst hm; exact y9m h0 h hf
theorem k3h {most m2 nx : Int} {l : List Int} {fl : Bool} {c : List (List Int)} (hm : m2 = most) (h0 : 1 ≤ l.length) (h : (((l.length : Int) == 1) || fl) = false) (hf : (B2 m2 l nx fl c || decide (N2 m2 l nx fl c + min (l.length : Int) most > 65537)) = false) :
 z5u most l nx fl c = q0f (N2 m2 l nx fl c) (MN most l) ∧ z5v most l nx fl c = N2 m2 l nx fl c + min (l.length : Int) most ∧ z3f most l nx fl c = false ∧ z8s most l nx fl c = C2 m2 l nx fl c ++ q3c (O1 m2 l nx fl c) (O2 m2 l nx fl c) (q0f (N2 m2 l nx fl c) (MN most l)) ((O1 m2 l nx fl c).length + 1) := by
 subst hm; exact k4b h0 h hf
theorem k7i {b : Bool} {x : Int} (h : (b || decide (x > 65537)) = false) : b = false ∧ x ≤ 65537 := by
 simp only [Bool.or_eq_false_iff, decide_eq_false_iff_not] at h
 exact ⟨h.1, by omega⟩
theorem x8f {n : Int} {m i : Nat} (h : i ≤ m) : (q0f n i ++ List.replicate (m - i) (0 : Int)).length = m := by
 rw [List.length_append, q3w, List.length_replicate]; omega
theorem x8t {a b o : List Int} {c : List (List Int)} {j k : Nat} (h1 : j ≤ 4097) (h2 : k ≤ 4097) (h3 : b.length ≤ 4096) : ((c ++ q3c a b o j) ++ q4k a b o j k).length ≤ c.length + 33600000 := by
 have e1 := j8o a b o j
 have e2 := j7x a b o j k
 have e3 : 2 * (b.length + 1) * j ≤ 2 * 4097 * 4097 := Nat.mul_le_mul (by omega) h1
 simp only [List.length_append]; omega
theorem x7z {a b o : List Int} {X : List (List Int)} {j k : Nat} {u d : List (List Int)} (hu : up1 a b o j k = u) (hd : dn1 a b o j k = d) : ((X ++ q4k a b o j k) ++ u) ++ d = X ++ q4k a b o j (k + 1) := by
 rw [← z9f, ← hu, ← hd]; simp
theorem k5l {a b o : List Int} {X : List (List Int)} {j k : Nat} {u : List (List Int)} (hu : up1 a b o j k = u) (hd : dn1 a b o j k = []) : (X ++ q4k a b o j k) ++ u = X ++ q4k a b o j (k + 1) := by
 have := x7z (X := X) hu hd; simpa using this
theorem k5s {a b o : List Int} {X : List (List Int)} {j k : Nat} {d : List (List Int)} (hu : up1 a b o j k = []) (hd : dn1 a b o j k = d) : (X ++ q4k a b o j k) ++ d = X ++ q4k a b o j (k + 1) := by
 have := x7z (X := X) hu hd; simpa using this
theorem k5u {a b o : List Int} {X : List (List Int)} {j k : Nat} (hu : up1 a b o j k = []) (hd : dn1 a b o j k = []) : X ++ q4k a b o j k = X ++ q4k a b o j (k + 1) := by
 have := x7z (X := X) hu hd; simpa using this
theorem k6x {a b o : List Int} {C : List (List Int)} {j k : Nat} (hk : k = b.length + 1) : (C ++ q3c a b o j) ++ q4k a b o j k = C ++ q3c a b o (j + 1) := by
 rw [hk, List.append_assoc, y0v]
theorem k9p {a b o : List Int} {m : Int} {i k : Nat} (hm : (o.length : Int) = m) (h : (decide ((i : Int) + (k : Int) > 0) && decide ((i : Int) + (k : Int) ≤ m)) = true) : up1 a b o i k = [[q6f (at1 a ((i : Int) - 1)), q6f (at1 b ((k : Int) - 1)), at1 o ((i : Int) + (k : Int) - 1)].flatten] := by
 simp only [Bool.and_eq_true, decide_eq_true_eq] at h
 rw [x5n (by omega) (by omega)]; simp
theorem k9n {a b o : List Int} {m : Int} {i k : Nat} (hm : (o.length : Int) = m) (h : (decide ((i : Int) + (k : Int) > 0) && decide ((i : Int) + (k : Int) ≤ m)) = false) : up1 a b o i k = [] := by
 simp only [Bool.and_eq_false_iff, decide_eq_false_iff_not] at h
 exact k2c (by omega)
theorem k8k {a b o : List Int} {m : Int} {i k : Nat} (hm : (o.length : Int) = m) (h : (i : Int) + (k : Int) < m) : dn1 a b o i k = [[at1 a i, at1 b k, q6f (at1 o ((i : Int) + (k : Int)))].flatten] := by
 rw [x6a (by omega)]; simp
theorem k8h {a b o : List Int} {m : Int} {i k : Nat} (hm : (o.length : Int) = m) (h : ¬ (i : Int) + (k : Int) < m) : dn1 a b o i k = [] := k2f (by omega)
theorem j7p {x y z : List Int} (hx : x.length ≤ 1) (hy : y.length ≤ 1) (hz : z.length ≤ 1) : ∀ w ∈ [x, y, z], w.length ≤ 3 := fun w hw => by
 rcases List.mem_cons.1 hw with rfl | hw
 · omega
 · rcases List.mem_cons.1 hw with rfl | hw
   · omega
   · rw [List.mem_singleton.1 hw]; omega
theorem x0e {n : Int} {m i : Nat} (h : i < m) : (q0f n i ++ List.replicate (m - i) (0 : Int)).set i (n + i) = q0f n (i + 1) ++ List.replicate (m - (i + 1)) 0 := by
 obtain ⟨k, hk⟩ : ∃ k, m - i = k + 1 := ⟨m - i - 1, by omega⟩
 rw [hk, show m - (i + 1) = k by omega, List.replicate_succ]
 have e : q0f n (i + 1) = q0f n i ++ [n + i] := by unfold q0f; rw [List.range_succ, List.map_append]; rfl
 have hl := q3w n i
 rw [List.set_append_right _ _ (by omega), hl, Nat.sub_self, e, List.append_assoc]; rfl
theorem y9o {n : Int} {m i : Nat} (h : i = m) : q0f n i ++ List.replicate (m - i) (0 : Int) = q0f n m := by rw [h, Nat.sub_self]; simp
theorem k3t {most nx : Int} {l : List Int} {fl : Bool} {c : List (List Int)} (hm0 : 0 ≤ most) (h2 : l.length ≠ 0) (hn1 : 1 ≤ nx) (hn2 : nx ≤ 65537) (hx : ∀ x ∈ l, -65537 ≤ x ∧ x ≤ 65537) : (z5u most l nx fl c).length ≤ l.length := (z8e most hm0 l.length l (nx, fl, c) rfl (by omega) hn1 hn2 hx).1
def z6k (most : Int) (l : List Int) (next : Int) : Bool := bif (decide (next < 1)) then (decide (next < 1)) else (bif (decide (next > 65537)) then (decide (next > 65537)) else (bif (decide (most < 0)) then (decide (most < 0)) else (bif (decide (most > 1099511627776)) then (decide (most > 1099511627776)) else (decide ((l.length : Int) > 4096)))))
theorem y1u {most : Int} {l : List Int} {next : Int} : z6k most l next = true ↔ next < 1 ∨ 65537 < next ∨ most < 0 ∨ 1099511627776 < most ∨ 4096 < l.length := by
 unfold z6k
 by_cases h1 : next < 1
 · simp [h1]
 by_cases h2 : next > 65537
 · simp [h1, h2]
 by_cases h3 : most < 0
 · simp [h1, h2, h3]
 by_cases h4 : most > 1099511627776
 · simp [h1, h2, h3, h4]
 simp only [h1, h2, h3, h4, decide_false, cond_false, decide_eq_true_eq, false_or]
 omega
def q1w (most : Int) (l : List Int) (next : Int) : List Int × List (List Int) × Int × Int :=
 if z6k most l next = true then ([], [], 0, 1) else if q2v next l = false then ([], [], 0, 140) else if l.length = 0 ∨ most = 0 then ([], [], next, 0)
 else if z3f most l next false [] = true then ([], [], 0, 2) else (z5u most l next false [], z8s most l next false [], z5v most l next false [], 0)
section
variable {most next : Int} {l : List Int}
theorem k7v {b : Bool} (h : (!b) = true) : b = false := by cases b <;> simp_all
theorem k8u {b : Bool} (h : (!b) = false) : b = true := by cases b <;> simp_all
theorem z1q (h : z6k most l next = true) : q1w most l next = ([], [], 0, 1) := if_pos h
theorem z9l (h : z6k most l next = false) : ¬ z6k most l next = true ∧ 1 ≤ next ∧ next ≤ 65537 ∧ 0 ≤ most ∧ most ≤ 1099511627776 ∧ l.length ≤ 4096 := by
 have h2 : ¬ z6k most l next = true := by rw [h]; simp
 refine ⟨h2, ?_⟩
 rw [y1u] at h2
 omega
theorem y1d (hg : ¬ z6k most l next = true ∧ 1 ≤ next ∧ next ≤ 65537 ∧ 0 ≤ most ∧ most ≤ 1099511627776 ∧ l.length ≤ 4096) (h : q2v next l = false) : q1w most l next = ([], [], 0, 140) := by
 unfold q1w; rw [if_neg hg.1, if_pos h]
theorem z4n {n m : Int} : (bif (n == 0) then (n == 0) else (m == 0)) = true ↔ n = 0 ∨ m = 0 := by
 by_cases h : n = 0
 · simp [h]
 · simp [h]
theorem j4k (hg : ¬ z6k most l next = true ∧ 1 ≤ next ∧ next ≤ 65537 ∧ 0 ≤ most ∧ most ≤ 1099511627776 ∧ l.length ≤ 4096) (ha : q2v next l = true) (h : (bif ((l.length : Int) == 0) then ((l.length : Int) == 0) else (most == 0)) = true) : q1w most l next = ([], [], next, 0) := by
 unfold q1w
 have := z4n.1 h
 rw [if_neg hg.1, if_neg (by rw [ha]; simp), if_pos (by omega)]
theorem k5a (h : (bif ((l.length : Int) == 0) then ((l.length : Int) == 0) else (most == 0)) = false) : l.length ≠ 0 ∧ most ≠ 0 := by
 have h2 : ¬ (bif ((l.length : Int) == 0) then ((l.length : Int) == 0) else (most == 0)) = true := by rw [h]; simp
 rw [z4n] at h2
 omega
theorem z9y (hg : ¬ z6k most l next = true ∧ 1 ≤ next ∧ next ≤ 65537 ∧ 0 ≤ most ∧ most ≤ 1099511627776 ∧ l.length ≤ 4096) (ha : q2v next l = true) (hz : l.length ≠ 0 ∧ most ≠ 0) (h : z3f most l next false [] = true) : q1w most l next = ([], [], 0, 2) := by
 unfold q1w
 rw [if_neg hg.1, if_neg (by rw [ha]; simp), if_neg (by omega), if_pos h]
theorem j0x (hg : ¬ z6k most l next = true ∧ 1 ≤ next ∧ next ≤ 65537 ∧ 0 ≤ most ∧ most ≤ 1099511627776 ∧ l.length ≤ 4096) (ha : q2v next l = true) (hz : l.length ≠ 0 ∧ most ≠ 0) (h : z3f most l next false [] = false) : q1w most l next = (z5u most l next false [], z8s most l next false [], z5v most l next false [], 0) := by
 unfold q1w
 rw [if_neg hg.1, if_neg (by rw [ha]; simp), if_neg (by omega), if_neg (by rw [h]; simp)]
end
end Go.Proofs.YtkkapbnopmmmjaaGreatDoor.Cn
namespace Go.Proofs.YtkkapbnopmmmjaaGreatDoor.Cn
open Go
def z5z (l : List Int) : List Int := l.foldl (fun ks x => y0s ks (max x (-x))) []
theorem y2p {l : List Int} {i : Nat} (h : i < l.length) : y0s (z5z (l.take i)) (max (l.getD i 0) (-(l.getD i 0))) = z5z (l.take (i + 1)) := by
 unfold z5z; rw [z1j (d := 0) h, List.foldl_append]; rfl
theorem y8z (l : List Int) (z : Int) : (z5z l).contains z = l.any fun x => z == max x (-x) := by
 unfold z5z; rw [z4u]; rfl
def x9c (next : Int) (l : List Int) (i : Nat) : Bool := !((decide (max (l.getD i 0) (-(l.getD i 0)) ≤ 0) || decide (max (l.getD i 0) (-(l.getD i 0)) ≥ next)) || (z5z (l.take i)).contains (max (l.getD i 0) (-(l.getD i 0))))
theorem k4e {next : Int} {l : List Int} {i : Nat} : x9c next l i = j2x next l i := by
 unfold x9c j2x
 rw [j1w, y8z]
 generalize (List.any (l.take i) fun x => max (l.getD i 0) (-(l.getD i 0)) == max x (-x)) = b
 congr 1
 by_cases h0 : max (l.getD i 0) (-(l.getD i 0)) = 0
 · rw [h0]; simp
 · have h1 : ¬ max (l.getD i 0) (-(l.getD i 0)) < 0 := by omega
   have h2 : ¬ max (l.getD i 0) (-(l.getD i 0)) ≤ 0 := by omega
   have h3 : (max (l.getD i 0) (-(l.getD i 0)) == 0) = false := beq_eq_false_iff_ne.2 h0
   rw [decide_eq_false h1, decide_eq_false h2, h3]; rfl
def q1c (next : Int) (l : List Int) : Int := if next < 1 ∨ 65537 < next ∨ 4096 < l.length then 1 else if q2v next l = true then 0 else 140
theorem x5h {next : Int} {l : List Int} (h : ((decide (next < 1) || decide (next > 65537)) || decide ((l.length : Int) > 4096)) = true) : q1c next l = 1 := by
 simp only [Bool.or_eq_true, decide_eq_true_eq] at h
 unfold q1c; rw [if_pos (by omega)]
theorem k3i {next : Int} {l : List Int} (h : ((decide (next < 1) || decide (next > 65537)) || decide ((l.length : Int) > 4096)) = false) : 1 ≤ next ∧ next ≤ 65537 ∧ l.length ≤ 4096 := by
 simp only [Bool.or_eq_false_iff, decide_eq_false_iff_not] at h
 omega
theorem k2o {next : Int} {l : List Int} {i : Nat} (h : 1 ≤ next ∧ next ≤ 65537 ∧ l.length ≤ 4096) (hi : i < l.length) (hq : x9c next l i = false) : q1c next l = 140 := by
 unfold q1c
 rw [if_neg (by omega), if_neg]
 rw [x8e hi (by rw [← k4e]; exact hq)]; simp
theorem k0s {next : Int} {l : List Int} {i : Nat} (h : 1 ≤ next ∧ next ≤ 65537 ∧ l.length ≤ 4096) (hi : i = l.length) (hq : ∀ j, j < i → x9c next l j = true) : q1c next l = 0 := by
 unfold q1c
 rw [if_neg (by omega), if_pos (y8m hi fun j hj => by rw [← k4e]; exact hq j hj)]
def q2f (b m j : Int) : Int := if j < 1 ∨ m < j then 0 else b + j - 1
def nz (l : List Int) : List Int := l.filter fun x => !(x == 0)
def q4x (b m ab am x : Int) (j : Nat) : List (List Int) := (List.range j).flatMap fun i : Nat =>
 [nz [-(q2f b m ((i : Int) + 1)), q2f ab am ((i : Int) + 1), x]] ++ if (i : Int) + 1 > 1 then [nz [-(q2f b m ((i : Int) + 1)), q2f ab am ((i : Int) + 1), q2f ab am ((i : Int) + 1 - 1)]] else []
theorem q5k {b m ab am x : Int} {j : Nat} : q4x b m ab am x (j + 1) = q4x b m ab am x j ++ ([nz [-(q2f b m ((j : Int) + 1)), q2f ab am ((j : Int) + 1), x]] ++ if (j : Int) + 1 > 1 then [nz [-(q2f b m ((j : Int) + 1)), q2f ab am ((j : Int) + 1), q2f ab am ((j : Int) + 1 - 1)]] else []) := by
 unfold q4x
 rw [List.range_succ, List.flatMap_append]; simp
def cAb (k next : Int) : Nat → Int × Int × Int
 | 0 => (0, 0, next)
 | i + 1 => ((cAb k next i).2.2, min ((i : Int) + 1) k, (cAb k next i).2.2 + min ((i : Int) + 1) k)
def q3l (l : List Int) (k next : Int) : Nat → List (List Int)
 | 0 => []
 | i + 1 => q3l l k next i ++ q4x (cAb k next i).2.2 (min ((i : Int) + 1) k) (cAb k next i).1 (cAb k next i).2.1 (l.getD i 0) (min ((i : Int) + 1) k).toNat
def q0i (l : List Int) (k next : Int) : List (List Int) × Int × Int :=
 if q1c next l ≠ 0 then ([], 0, q1c next l) else if k ≤ 0 then ([], next, 0) else if (l.length : Int) < k then ([[]], next, 0)
 else if ((decide (next + ((k * (k - 1)).tdiv 2 + k * ((l.length : Int) - k + 1)) - 1 > 65536)) || decide (2 * ((k * (k - 1)).tdiv 2 + k * ((l.length : Int) - k + 1)) - (l.length : Int) + 1 > 65536)) = true then ([], 0, 2)
 else (q3l l k next l.length ++ [nz [q2f (cAb k next l.length).1 (cAb k next l.length).2.1 k]], (cAb k next l.length).2.2, 0)
theorem x7h {b m j : Int} (h : (decide (j < 1) || decide (j > m)) = true) : q2f b m j = 0 := by
 simp only [Bool.or_eq_true, decide_eq_true_eq] at h
 unfold q2f; rw [if_pos (by omega)]
theorem k1p {b m j : Int} (h : (decide (j < 1) || decide (j > m)) = false) : q2f b m j = b + j - 1 := by
 simp only [Bool.or_eq_false_iff, decide_eq_false_iff_not] at h
 unfold q2f; rw [if_neg (by omega)]
theorem k0r {b m j B : Int} (hb : -B ≤ b ∧ b ≤ B) (hj : -B ≤ j ∧ j ≤ B) (hB : 1 ≤ B) : -(3 * B) ≤ q2f b m j ∧ q2f b m j ≤ 3 * B := by
 unfold q2f; split <;> omega
theorem j8w {k next : Int} (hk : 0 ≤ k ∧ k ≤ 4096) (hn : 1 ≤ next ∧ next ≤ 65537) : ∀ i : Nat, i ≤ 4096 → 0 ≤ (cAb k next i).1 ∧ (cAb k next i).1 ≤ 65537 + 4096 * i ∧ 0 ≤ (cAb k next i).2.1 ∧ (cAb k next i).2.1 ≤ 4096 ∧ 1 ≤ (cAb k next i).2.2 ∧ (cAb k next i).2.2 ≤ 65537 + 4096 * i
 | 0, _ => by simp only [cAb]; omega
 | i + 1, h => by
  have ih := j8w hk hn i (by omega)
  simp only [cAb]
  omega
theorem z2v (b m ab am x : Int) : ∀ j, (q4x b m ab am x j).length ≤ 2 * j
 | 0 => Nat.le_refl _
 | j + 1 => by
  rw [q5k]
  have := z2v b m ab am x j
  split <;> simp only [List.length_append, List.length_cons, List.length_nil] <;> omega
theorem z3b {l : List Int} {k next : Int} (hk : k ≤ 4096) : ∀ i : Nat, (q3l l k next i).length ≤ 8192 * i
 | 0 => Nat.le_refl _
 | i + 1 => by
  rw [q3l, List.length_append]
  have ih := z3b (l := l) (next := next) hk i
  have := z2v (cAb k next i).2.2 (min ((i : Int) + 1) k) (cAb k next i).1 (cAb k next i).2.1 (l.getD i 0) (min ((i : Int) + 1) k).toNat
  omega
theorem k8e {X : List (List Int)} {b m ab am x : Int} {j : Nat} (h : (j : Int) + 1 > 1) : ((X ++ q4x b m ab am x j) ++ [nz [-(q2f b m ((j : Int) + 1)), q2f ab am ((j : Int) + 1), x]]) ++ [nz [-(q2f b m ((j : Int) + 1)), q2f ab am ((j : Int) + 1), q2f ab am ((j : Int) + 1 - 1)]] = X ++ q4x b m ab am x (j + 1) := by
 rw [q5k, if_pos h]; simp
theorem k8x {X : List (List Int)} {b m ab am x : Int} {j : Nat} (h : ¬ (j : Int) + 1 > 1) : (X ++ q4x b m ab am x j) ++ [nz [-(q2f b m ((j : Int) + 1)), q2f ab am ((j : Int) + 1), x]] = X ++ q4x b m ab am x (j + 1) := by
 rw [q5k, if_neg h]; simp
theorem x0y {l : List Int} {k next : Int} {i j : Nat} (h : j = (min ((i : Int) + 1) k).toNat) : q3l l k next i ++ q4x (cAb k next i).2.2 (min ((i : Int) + 1) k) (cAb k next i).1 (cAb k next i).2.1 (l.getD i 0) j = q3l l k next (i + 1) := by
 rw [h, q3l]
theorem k6n {k n : Int} (h0 : 0 < k) (h1 : k ≤ n) (h2 : n ≤ 4096) : 0 ≤ k * (k - 1) ∧ k * (k - 1) ≤ 16777216 ∧ 0 ≤ k * (n - k + 1) ∧ k * (n - k + 1) ≤ 16777216 ∧ 0 ≤ (k * (k - 1)).tdiv 2 ∧ (k * (k - 1)).tdiv 2 ≤ 16777216 := by
 have a1 : 0 ≤ k * (k - 1) := Int.mul_nonneg (by omega) (by omega)
 have a2 : k * (k - 1) ≤ 4096 * 4096 := Int.mul_le_mul (by omega) (by omega) (by omega) (by omega)
 have a3 : 0 ≤ k * (n - k + 1) := Int.mul_nonneg (by omega) (by omega)
 have a4 : k * (n - k + 1) ≤ 4096 * 4096 := Int.mul_le_mul (by omega) (by omega) (by omega) (by omega)
 have a5 : (k * (k - 1)).tdiv 2 = k * (k - 1) / 2 := Int.tdiv_eq_ediv_of_nonneg a1
 rw [a5]
 omega
section
variable {l : List Int} {k next : Int}
theorem y1f (h : q1c next l ≠ 0) : q0i l k next = ([], 0, q1c next l) := by unfold q0i; rw [if_pos h]
theorem k5v (h : q1c next l = 0) (hk : k ≤ 0) : q0i l k next = ([], next, 0) := by unfold q0i; rw [if_neg (by omega), if_pos hk]
theorem k5n (h : q1c next l = 0) (hk : ¬ k ≤ 0) (hn : k > (l.length : Int)) : q0i l k next = ([[]], next, 0) := by unfold q0i; rw [if_neg (by omega), if_neg hk, if_pos (by omega)]
theorem j4j (h : q1c next l = 0) (hk : ¬ k ≤ 0) (hn : ¬ k > (l.length : Int)) (hb : ((decide (next + ((k * (k - 1)).tdiv 2 + k * ((l.length : Int) - k + 1)) - 1 > 65536)) || decide (2 * ((k * (k - 1)).tdiv 2 + k * ((l.length : Int) - k + 1)) - (l.length : Int) + 1 > 65536)) = true) : q0i l k next = ([], 0, 2) := by
 unfold q0i; rw [if_neg (by omega), if_neg hk, if_neg (by omega), if_pos hb]
theorem x4m (h : q1c next l = 0) (hk : ¬ k ≤ 0) (hn : ¬ k > (l.length : Int)) (hb : ((decide (next + ((k * (k - 1)).tdiv 2 + k * ((l.length : Int) - k + 1)) - 1 > 65536)) || decide (2 * ((k * (k - 1)).tdiv 2 + k * ((l.length : Int) - k + 1)) - (l.length : Int) + 1 > 65536)) = false) :
 q0i l k next = (q3l l k next l.length ++ [nz [q2f (cAb k next l.length).1 (cAb k next l.length).2.1 k]], (cAb k next l.length).2.2, 0) := by
 unfold q0i; rw [if_neg (by omega), if_neg hk, if_neg (by omega), if_neg (by rw [hb]; simp)]
theorem z4r (h : q1c next l = 0) : 1 ≤ next ∧ next ≤ 65537 ∧ l.length ≤ 4096 := by
 unfold q1c at h
 split at h
 · cases h
 · omega
end
end Go.Proofs.YtkkapbnopmmmjaaGreatDoor.Cn
namespace Go.Proofs.YtkkapbnopmmmjaaGreatDoor.Cn
open Go
def evB (C : List Int) : Bool := (C.all fun c => c == C.getD 0 0) && !(C.length == 0)
def evK (C : List Int) (B : Int) : Int := if evB C = true then (B - 1).tdiv (C.getD 0 0) + 1 else 0
def q1q (C : List Int) (B : Int) : Int :=
 if C.length = 0 then (if B = 0 then 5 else 6) else if evB C = true ∧ C.getD 0 0 = B then 1 else if evB C = true ∧ C.length ≤ 10 then 2 else if evB C = true ∧ (C.length : Int) * evK C B ≤ 400 then 3 else 4
def q2u (C : List Int) (B : Int) : Prop := C.length ≤ 4096 ∧ (∀ c ∈ C, 1 ≤ c ∧ c ≤ 4503599627370496) ∧ 0 ≤ B ∧ B ≤ 4503599627370496 ∧ (C.length ≠ 0 → 1 ≤ B ∧ B ≤ C.sum)
theorem y9g {c : Int} : ∀ {C : List Int}, (∀ x ∈ C, x = c) → C.sum = C.length * c
 | [], _ => by simp
 | x :: C, h => by
  rw [List.sum_cons, y9g fun y hy => h y (List.mem_cons_of_mem _ hy), h x List.mem_cons_self, List.length_cons, Int.natCast_add, Int.add_mul]
  omega
theorem q6g {C : List Int} {B : Int} (h : q2u C B) (he : evB C = true) : C.length ≠ 0 ∧ 1 ≤ C.getD 0 0 ∧ C.getD 0 0 ≤ 4503599627370496 ∧ 1 ≤ evK C B ∧ evK C B ≤ C.length ∧ B ≤ evK C B * C.getD 0 0 ∧ (evK C B - 1) * C.getD 0 0 < B := by
 obtain ⟨h1, h2, h3, h4, h5⟩ := h
 have he' := he
 unfold evB at he
 simp only [Bool.and_eq_true, List.all_eq_true, beq_iff_eq, Bool.not_eq_true', beq_eq_false_iff_ne] at he
 obtain ⟨e1, e2⟩ := he
 have hc := h2 _ (q0u (d := (0 : Int)) (show 0 < C.length by omega))
 have hs := y9g e1
 have hB := h5 e2
 have ek : evK C B = (B - 1) / C.getD 0 0 + 1 := by
  unfold evK; rw [if_pos he', Int.tdiv_eq_ediv_of_nonneg (by omega)]
 generalize C.getD 0 0 = c at *
 have hq := Int.mul_ediv_add_emod (B - 1) c
 have hr0 := Int.emod_nonneg (B - 1) (show c ≠ 0 by omega)
 have hr1 := Int.emod_lt_of_pos (B - 1) (show 0 < c by omega)
 have hq0 : 0 ≤ (B - 1) / c := Int.ediv_nonneg (by omega) (by omega)
 have hqn : (B - 1) / c < C.length := by
  refine Int.ediv_lt_of_lt_mul (by omega) ?_
  omega
 rw [ek]
 have m1 : ((B - 1) / c + 1) * c = c * ((B - 1) / c) + c := by rw [Int.add_mul, Int.mul_comm]; omega
 have m2 : ((B - 1) / c + 1 - 1) * c = c * ((B - 1) / c) := by rw [Int.add_sub_cancel, Int.mul_comm]
 rw [m1, m2]
 refine ⟨e2, hc.1, hc.2, by omega, by omega, by omega, by omega⟩
def k5g (g : Int) (l : List Int) : List Int := if g ≠ 0 then [-g] ++ l else l
def grd (g : Int) (c : List (List Int)) : List (List Int) := c.map (k5g g)
theorem j9o {g : Int} {c : List (List Int)} {i : Nat} (h : i < c.length) : grd g (c.take i) ++ [k5g g (c.getD i [])] = grd g (c.take (i + 1)) := by
 unfold grd; rw [z1j (d := []) h, List.map_append]; rfl
theorem q4q (g : Int) (c : List (List Int)) : (grd g c).length = c.length := by unfold grd; rw [List.length_map]
theorem k3r {C : List Int} {B : Int} {i : Nat} (hi : i < C.length) (h : C.getD i 0 ≠ C.getD 0 0) : evK C B = 0 ∧ evB C = false := by
 have e : evB C = false := by
  unfold evB
  rw [Bool.and_eq_false_iff]
  exact .inl (List.all_eq_false.2 ⟨_, q0u (d := (0 : Int)) hi, by simpa using h⟩)
 exact ⟨by unfold evK; rw [e]; rfl, e⟩
theorem x5e {C : List Int} {B : Int} (h : (C.length : Int) = 0) : evK C B = 0 ∧ evB C = false := by
 have e : evB C = false := by
  unfold evB
  rw [Bool.and_eq_false_iff]
  exact .inr (by simp; cases C with | nil => rfl | cons x l => simp at h; omega)
 exact ⟨by unfold evK; rw [e]; rfl, e⟩
theorem x6q {C : List Int} {B : Int} {i : Nat} (hi : i = C.length) (h : ∀ j, j < i → C.getD j 0 = C.getD 0 0) (h0 : ¬ (C.length : Int) = 0) : evK C B = (B - 1).tdiv (C.getD 0 0) + 1 ∧ evB C = true := by
 have e : evB C = true := by
  unfold evB
  rw [Bool.and_eq_true]
  refine ⟨List.all_eq_true.2 fun x hx => ?_, by simpa using h0⟩
  obtain ⟨j, hj, rfl⟩ := List.getElem_of_mem hx
  have := h j (by omega)
  rw [List.getD_eq_getElem?_getD, List.getElem?_eq_getElem hj] at this
  simpa using this
 exact ⟨by unfold evK; rw [e]; rfl, e⟩
theorem y2v {C : List Int} {B : Int} (h : q2u C B) : 0 ≤ B ∧ B ≤ 4503599627370496 := ⟨h.2.2.1, h.2.2.2.1⟩
theorem k1u {C : List Int} {B : Int} (h : q2u C B) (h0 : ¬ (C.length : Int) = 0) : 1 ≤ C.getD 0 0 ∧ 1 ≤ B ∧ 0 ≤ (B - 1).tdiv (C.getD 0 0) ∧ (B - 1).tdiv (C.getD 0 0) ≤ 4503599627370496 := by
 have hc := h.2.1 _ (q0u (d := (0 : Int)) (show 0 < C.length by omega))
 have hB := (h.2.2.2.2 (by omega)).1
 have hb := y2v h
 refine ⟨hc.1, hB, ?_⟩
 rw [Int.tdiv_eq_ediv_of_nonneg (by omega)]
 exact ⟨Int.ediv_nonneg (by omega) (by omega), Int.le_trans (Int.ediv_le_self _ (by omega)) (by omega)⟩
theorem x9t {C : List Int} {B : Int} (h : q2u C B) (he : evB C = true) : 0 ≤ (C.length : Int) * evK C B ∧ (C.length : Int) * evK C B ≤ 16777216 := by
 obtain ⟨f1, f2, f3, f4, f5, f6, f7⟩ := q6g h he
 have h1 := h.1
 exact ⟨Int.mul_nonneg (by omega) (by omega), Int.le_trans (Int.mul_le_mul (show (C.length : Int) ≤ 4096 by omega) (show evK C B ≤ 4096 by omega) (by omega) (by omega)) (by omega)⟩
section
variable {C : List Int} {B : Int}
theorem k8a (h : (((C.length : Int) == 0) && (B == 0)) = true) : q1q C B = 5 := by
 simp only [Bool.and_eq_true, beq_iff_eq] at h
 unfold q1q; rw [if_pos (by omega), if_pos h.2]
theorem k8n (h5 : (((C.length : Int) == 0) && (B == 0)) = false) (h : (C.length : Int) = 0) : q1q C B = 6 := by
 simp only [Bool.and_eq_false_iff, beq_eq_false_iff_ne] at h5
 unfold q1q; rw [if_pos (by omega), if_neg (by omega)]
theorem k8w (h6 : ¬ (C.length : Int) = 0) (h : (evB C && (C.getD 0 0 == B)) = true) : q1q C B = 1 := by
 simp only [Bool.and_eq_true, beq_iff_eq] at h
 unfold q1q; rw [if_neg (by omega), if_pos h]
theorem k8v (h6 : ¬ (C.length : Int) = 0) (h1 : (evB C && (C.getD 0 0 == B)) = false) (h : (evB C && decide ((C.length : Int) ≤ 10)) = true) : q1q C B = 2 := by
 simp only [Bool.and_eq_true, decide_eq_true_eq] at h
 have h1' : ¬ (evB C = true ∧ C.getD 0 0 = B) := fun q => by rw [q.1, q.2] at h1; simp at h1
 unfold q1q; rw [if_neg (by omega), if_neg h1', if_pos ⟨h.1, by omega⟩]
theorem k7u (h6 : ¬ (C.length : Int) = 0) (h1 : (evB C && (C.getD 0 0 == B)) = false) (h2 : (evB C && decide ((C.length : Int) ≤ 10)) = false) (h : (evB C && decide ((C.length : Int) * evK C B ≤ 400)) = true) : q1q C B = 3 := by
 simp only [Bool.and_eq_true, decide_eq_true_eq] at h
 have h1' : ¬ (evB C = true ∧ C.getD 0 0 = B) := fun q => by rw [q.1, q.2] at h1; simp at h1
 have h2' : ¬ (evB C = true ∧ C.length ≤ 10) := fun q => by rw [q.1] at h2; simp at h2; omega
 unfold q1q; rw [if_neg (by omega), if_neg h1', if_neg h2', if_pos h]
theorem k7w (h6 : ¬ (C.length : Int) = 0) (h1 : (evB C && (C.getD 0 0 == B)) = false) (h2 : (evB C && decide ((C.length : Int) ≤ 10)) = false) (h : (evB C && decide ((C.length : Int) * evK C B ≤ 400)) = false) : q1q C B = 4 := by
 have h1' : ¬ (evB C = true ∧ C.getD 0 0 = B) := fun q => by rw [q.1, q.2] at h1; simp at h1
 have h2' : ¬ (evB C = true ∧ C.length ≤ 10) := fun q => by rw [q.1] at h2; simp at h2; omega
 have h3' : ¬ (evB C = true ∧ (C.length : Int) * evK C B ≤ 400) := fun q => by rw [q.1] at h; simp at h; omega
 unfold q1q; rw [if_neg (by omega), if_neg h1', if_neg h2', if_neg h3']
end
theorem k5y {g : Int} {c : List (List Int)} {i : Nat} (hi : i < c.length) (h : g ≠ 0) : grd g (c.take i) ++ [([] ++ [-g]) ++ c.getD i []] = grd g (c.take (i + 1)) := by
 rw [← j9o hi]; unfold k5g; rw [if_pos h]; rfl
theorem k5j {g : Int} {c : List (List Int)} {i : Nat} (hi : i < c.length) (h : g = 0) : grd g (c.take i) ++ [[] ++ c.getD i []] = grd g (c.take (i + 1)) := by
 rw [← j9o hi]; unfold k5g; rw [if_neg (by simpa using h)]; rfl
theorem x5b (g : Int) (c : List (List Int)) (i : Nat) : (grd g (c.take i)).length ≤ i := by rw [q4q, List.length_take]; omega
theorem k4u {k next : Int} {l : List Int} (hk1 : 1 ≤ k) (hk2 : k ≤ l.length) (h : (q1w k l next).2.2.2 = 0) : z3f k l next false [] = false ∧ q1w k l next = (z5u k l next false [], z8s k l next false [], z5v k l next false [], 0) := by
 unfold q1w at h ⊢
 split at h
 · cases h
 · rename_i h1
   split at h
   · cases h
   · rename_i h2
     split at h
     · rename_i h3; omega
     · rename_i h3
       split at h
       · cases h
       · rename_i h4
         rw [if_neg h1, if_neg h2, if_neg h3, if_neg h4]
         exact ⟨by simpa using h4, rfl⟩
theorem y1p {k next : Int} {l : List Int} (hk1 : 1 ≤ k) (hk2 : k ≤ l.length) (h : z3f k l next false [] = false) : ((z5u k l next false []).length : Int) = k := by
 by_cases hl : l.length = 1
 · have e := (x5d (most := k) (nx := next) (c := []) (l := l) (fl := false) (by omega) (by rw [hl]; rfl)).1
   rw [e]; omega
 · have hh : (((l.length : Int) == 1) || false) = false := by
    rw [Bool.or_false, beq_eq_false_iff_ne]; omega
   cases hf : (B2 k l next false [] || decide (N2 k l next false [] + min (l.length : Int) k > 65537)) with
   | true => rw [(y9m (by omega) hh hf).2.2.1] at h; cases h
   | false =>
    rw [(k4b (by omega) hh hf).1, q3w]
    show ((min (l.length : Int) k).toNat : Int) = k
    omega
end Go.Proofs.YtkkapbnopmmmjaaGreatDoor.Cn
namespace Go.Proofs.YtkkapbnopmmmjaaGreatDoor
def k7e (ls : List Int) (x : Int) : Bool := !(q2s 65536 x) && !(ls.any (· == x)) && !(ls.any (· == -x))
def Good (ls : List Int) (n : Nat) : Prop := ∀ i, i < n → k7e (ls.take i) (ls.getD i 0) = true
end Go.Proofs.YtkkapbnopmmmjaaGreatDoor
namespace Go.Proofs.YtkkapbnopmmmjaaGreatDoor
theorem y4d {l : q2j} (h : q0m l 65536 = 0) : (q0b l).C.length = (q0b l).L.length ∧ (∀ y ∈ (q0b l).L, y ≠ 0 ∧ -65536 ≤ y ∧ y ≤ 65536) ∧ (∀ c ∈ (q0b l).C, 0 < c) ∧ q0v ((q0b l).C.zip (q0b l).L) ≤ 4503599627370496 := by
 have hx := (q1d h).2.2.2.2.2.1
 have hs := z3g h (q0a l.L).length
 rw [List.take_length] at hs
 rw [q0b, if_pos h, z4o]
 split
 · exact ⟨rfl, fun y hy => (by cases hy), fun c hc => (by cases hc), by decide⟩
 · split
   · exact ⟨rfl, fun y hy => (by cases hy), fun c hc => (by cases hc), by decide⟩
   · rename_i hb _
     refine ⟨by simp, fun y hy => ?_, fun c hc => ?_, ?_⟩
     · obtain ⟨q, hq, rfl⟩ := List.mem_map.1 hy
       obtain ⟨v, hv, e⟩ := j3v hq
       have := j8k hx v hv
       rcases e with e | e <;> rw [e] <;> omega
     · obtain ⟨q, hq, rfl⟩ := List.mem_map.1 hc
       have := q6n l _ q hq
       simp only at *
       omega
     · rw [z9e]
       refine Int.le_trans ?_ hs.2
       generalize l.B - q1o l (q0a l.L) = b
       generalize q0p l (q0a l.L) = ts
       induction ts with
       | nil => simp [q0v]
       | cons q t ih => simp only [List.map_cons, q0v]; omega
end Go.Proofs.YtkkapbnopmmmjaaGreatDoor
namespace Go.Proofs.YtkkapbnopmmmjaaGreatDoor
def k1b (l : List Int) : Prop := Inc (l.map fun x => (x.natAbs : Int))
structure Canon (x : q2j) : Prop where
 len : x.C.length = x.L.length
 co : ∀ c ∈ x.C, 1 ≤ c ∧ c ≤ x.B
 inc : k1b x.L
 nil : x.C = [] → x.B = 0 ∨ x.B = 1
 full : x.C ≠ [] → 1 ≤ x.B ∧ x.B ≤ q0v (x.C.zip x.L)
theorem z7m (l : q2j) : ∀ vs : List Int, Inc vs → (∀ v ∈ vs, 0 < v) → k1b ((q0p l vs).map (·.2))
 | [], _, _ => by simp [q0p, k1b, Inc]
 | v :: t, hi, hp => by
  have ih := z7m l t hi.2 (fun u hu => hp u (by simp [hu]))
  have hv := hp v (by simp)
  have e : q0p l (v :: t) = q4f (cf l v) (cf l (-v)) v ++ q0p l t := by simp [q0p]
  have hgt : ∀ y ∈ ((q0p l t).map (·.2)).map (fun x => (x.natAbs : Int)), v < y := fun y hy => by
   simp only [List.map_map, List.mem_map] at hy
   obtain ⟨q, hq, rfl⟩ := hy
   obtain ⟨u, hu, h⟩ := j3v hq
   have h1 := hi.1 u hu
   simp only [Function.comp_apply]
   rcases h with h | h <;> rw [h] <;> omega
  rw [e]
  unfold q4f k1b at *
  split
  · simp only [List.cons_append, List.nil_append, List.map_cons, Inc]
    refine ⟨fun y hy => ?_, ih⟩
    have := hgt y hy
    omega
  · split
    · simp only [List.cons_append, List.nil_append, List.map_cons, Inc]
      refine ⟨fun y hy => ?_, ih⟩
      have := hgt y hy
      omega
    · simpa using ih
theorem y6n (B : Int) (hB : 0 ≤ B) : ∀ ts : List (Int × Int), (∀ q ∈ ts, 0 < q.1) → B ≤ q0v ts → B ≤ q0v (ts.map fun q => (min q.1 B, q.2))
 | [], _, h => by simpa [q0v] using h
 | q :: t, hp, h => by
  have hq := hp q (by simp)
  simp only [q0v, List.map_cons] at h ⊢
  have hnn : 0 ≤ q0v (t.map fun q => (min q.1 B, q.2)) := by
   have : ∀ s : List (Int × Int), (∀ q ∈ s, 0 < q.1) → 0 ≤ q0v (s.map fun q => (min q.1 B, q.2)) := fun s => by
    induction s with
    | nil => intro _; simp [q0v]
    | cons u s ih => intro hs; have := ih (fun q hq => hs q (by simp [hq])); have := hs u (by simp); simp only [List.map_cons, q0v]; omega
   exact this t (fun u hu => hp u (by simp [hu]))
  rcases Int.le_total B q.1 with h1 | h1
  · omega
  · have hle : q0v t - B ≤ q0v (t.map fun q => (min q.1 B, q.2)) - B ∨ B ≤ q0v (t.map fun q => (min q.1 B, q.2)) ∨ q0v (t.map fun q => (min q.1 B, q.2)) = q0v t := by
     have : ∀ s : List (Int × Int), (∀ q ∈ s, 0 < q.1) → B ≤ q0v (s.map fun q => (min q.1 B, q.2)) ∨ q0v (s.map fun q => (min q.1 B, q.2)) = q0v s := fun s => by
      induction s with
      | nil => intro _; right; rfl
      | cons u s ih =>
       intro hs
       have h0 := hs u (by simp)
       have hs' : ∀ q ∈ s, 0 < q.1 := fun q hq => hs q (by simp [hq])
       have hn : 0 ≤ q0v (s.map fun q => (min q.1 B, q.2)) := by
        clear ih
        induction s with
        | nil => simp [q0v]
        | cons u s ih => have := ih (fun q hq => hs q (by simp at hq ⊢; rcases hq with h | h; exact .inl h; exact .inr (.inr h))) (fun q hq => hs' q (by simp [hq])); have := hs' u (by simp); simp only [List.map_cons, q0v]; omega
       simp only [List.map_cons, q0v]
       rcases ih hs' with h | h
       · left; omega
       · rcases Int.le_total B u.1 with h2 | h2
         · left; omega
         · right; omega
     rcases this t (fun u hu => hp u (by simp [hu])) with h | h
     · exact .inr (.inl h)
     · exact .inr (.inr h)
    omega
theorem x6g : Canon y5w := ⟨rfl, by simp [y5w], by simp [y5w, k1b, Inc], fun _ => .inl rfl, fun h => absurd rfl h⟩
theorem k2l : Canon ⟨[], [], 1⟩ := ⟨rfl, by simp, by simp [k1b, Inc], fun _ => .inr rfl, fun h => absurd rfl h⟩
theorem j8b {l : q2j} (hz : ∀ x ∈ l.L, x ≠ 0) : Canon (z4o l) := by
 have hi := z7m l _ (z4v l.L) (j9d hz)
 have hp := q6n l (q0a l.L)
 unfold z4o
 generalize q1o l (q0a l.L) = m at *
 generalize q0p l (q0a l.L) = ts at *
 split
 · exact x6g
 · split
   · exact k2l
   · refine ⟨by simp, fun c hc => ?_, hi, fun h => ?_, fun _ => ?_⟩
     · simp only [List.mem_map] at hc
       obtain ⟨q, hq, rfl⟩ := hc
       have := hp q hq
       simp only
       omega
     · simp only [List.map_eq_nil_iff] at h
       subst h
       simp only [q0v] at *
       omega
     · simp only
       rw [z9e]
       exact ⟨by omega, y6n _ (by omega) ts hp (by omega)⟩
theorem z7x (l : q2j) : Canon (q0b l) := by
 unfold q0b
 split
 · rename_i h
   exact j8b fun x hx => ((q1d h).2.2.2.2.2.1 x hx).1
 · exact x6g
end Go.Proofs.YtkkapbnopmmmjaaGreatDoor
namespace Go.Proofs.YtkkapbnopmmmjaaGreatDoor.Cn
open Go
def q2o (C L : List Int) (next : Int) : List Int × List (List Int) × Int × Int := match q2b C L next with | .err e => ([], [], 0, e) | .ok b c a => (b, c, a, 0)
def q0q (l : List Int) (k : Int) : List (List Int) × Int := match q2l l k with | .err e => ([], e) | .ok c => (c, 0)
theorem q9o (C L : List Int) (n : Int) : (q2o C L n).1.length ≤ 70000 ∧ (q2o C L n).2.1.length ≤ 7000000 ∧ ∀ c ∈ (q2o C L n).2.1, c.length ≤ 100 := by
 unfold q2o
 cases h : q2b C L n with
 | err e => exact ⟨Nat.zero_le _, Nat.zero_le _, fun c hc => by cases hc⟩
 | ok b c a => exact y9t h
theorem q5d (l : List Int) (k : Int) : (q0q l k).1.length ≤ 64 ∧ ∀ c ∈ (q0q l k).1, c.length ≤ l.length := by
 unfold q0q
 cases h : q2l l k with
 | err e => exact ⟨Nat.zero_le _, fun c hc => by cases hc⟩
 | ok c =>
  unfold q2l at h
  split at h
  · cases h
  · split at h
    · cases h
    · injection h with h
      subst h
      refine ⟨q8j _ _ _, fun c hc => ?_⟩
      unfold q0w at hc
      obtain ⟨t, _, rfl⟩ := List.mem_map.1 hc
      exact z2x _ _ _ _
section
variable {C L : List Int} {B g next : Int}
def j2e (C L : List Int) (B g next : Int) : List (List Int) × Int × Int :=
 if (q1w (evK C B) L next).2.2.2 ≠ 0 then ([], 0, (q1w (evK C B) L next).2.2.2)
 else ((q1w (evK C B) L next).2.1 ++ grd g [((q1w (evK C B) L next).1.take (evK C B).toNat).drop (evK C B - 1).toNat], (q1w (evK C B) L next).2.2.1, 0)
theorem j9r (h : (q1w (evK C B) L next).2.2.2 ≠ 0) : j2e C L B g next = ([], 0, (q1w (evK C B) L next).2.2.2) := by unfold j2e; rw [if_pos h]
theorem x2e (h : (q1w (evK C B) L next).2.2.2 = 0) : j2e C L B g next = ((q1w (evK C B) L next).2.1 ++ grd g [((q1w (evK C B) L next).1.take (evK C B).toNat).drop (evK C B - 1).toNat], (q1w (evK C B) L next).2.2.1, 0) := by
 unfold j2e; rw [if_neg (by omega)]
def j2f (C L : List Int) (B g next : Int) : List (List Int) × Int × Int :=
 if (q0i L (evK C B) next).2.2 ≠ 0 then ([], 0, (q0i L (evK C B) next).2.2) else (grd g (q0i L (evK C B) next).1, (q0i L (evK C B) next).2.1, 0)
theorem j9z (h : (q0i L (evK C B) next).2.2 ≠ 0) : j2f C L B g next = ([], 0, (q0i L (evK C B) next).2.2) := by unfold j2f; rw [if_pos h]
theorem x3k (h : (q0i L (evK C B) next).2.2 = 0) : j2f C L B g next = (grd g (q0i L (evK C B) next).1, (q0i L (evK C B) next).2.1, 0) := by unfold j2f; rw [if_neg (by omega)]
def z5k (C L : List Int) (B g next : Int) : List (List Int) × Int × Int :=
 if (q2o C L next).2.2.2 ≠ 0 then ([], 0, (q2o C L next).2.2.2)
 else if (q0q (q2o C L next).1 B).2 ≠ 0 then ([], 0, (q0q (q2o C L next).1 B).2)
 else ((q2o C L next).2.1 ++ grd g (q0q (q2o C L next).1 B).1, (q2o C L next).2.2.1, 0)
theorem y1o (h : (q2o C L next).2.2.2 ≠ 0) : z5k C L B g next = ([], 0, (q2o C L next).2.2.2) := by unfold z5k; rw [if_pos h]
theorem z9n (h : (q2o C L next).2.2.2 = 0) (h2 : (q0q (q2o C L next).1 B).2 ≠ 0) : z5k C L B g next = ([], 0, (q0q (q2o C L next).1 B).2) := by unfold z5k; rw [if_neg (by omega), if_pos h2]
theorem x1i (h : (q2o C L next).2.2.2 = 0) (h2 : (q0q (q2o C L next).1 B).2 = 0) : z5k C L B g next = ((q2o C L next).2.1 ++ grd g (q0q (q2o C L next).1 B).1, (q2o C L next).2.2.1, 0) := by
 unfold z5k; rw [if_neg (by omega), if_neg (by omega)]
theorem y0e {k : Int} (hx : ∀ x ∈ L, -65537 ≤ x ∧ x ≤ 65537) : (q1w k L next).2.1.length ≤ 134217728 ∧ (q1w k L next).1.length ≤ L.length := by
 cases hb : z6k k L next with
 | true => rw [z1q hb]; exact ⟨Nat.zero_le _, Nat.zero_le _⟩
 | false =>
  obtain ⟨hg1, g1, g2, g3, g4, g5⟩ := z9l hb
  have hg := And.intro hg1 (And.intro g1 (And.intro g2 (And.intro g3 (And.intro g4 g5))))
  cases ha : q2v next L with
  | false => rw [y1d hg ha]; exact ⟨Nat.zero_le _, Nat.zero_le _⟩
  | true =>
   by_cases hz : L.length ≠ 0 ∧ k ≠ 0
   · cases hf : z3f k L next false [] with
     | true => rw [z9y hg ha hz hf]; exact ⟨Nat.zero_le _, Nat.zero_le _⟩
     | false =>
      rw [j0x hg ha hz hf]
      have h := z8e k g3 L.length L (next, false, []) rfl (by omega) g1 g2 hx
      refine ⟨?_, h.1⟩
      have h5 := h.2.2.2.2
      have h6 := Nat.mul_le_mul g5 g5
      show (q5i k L (next, false, [])).2.2.2.length ≤ _
      simp only [List.length_nil] at h5
      omega
   · rw [j4k hg ha]
     · exact ⟨Nat.zero_le _, Nat.zero_le _⟩
     · rw [z4n]; omega
theorem y5n (l : List Int) : (nz l).length ≤ l.length := List.length_filter_le _ _
theorem k0j {b m ab am x : Int} {j : Nat} : ∀ c ∈ q4x b m ab am x j, c.length ≤ 3 := by
 intro c hc
 unfold q4x at hc
 obtain ⟨i, _, hc⟩ := List.mem_flatMap.1 hc
 rw [List.mem_append] at hc
 rcases hc with hc | hc
 · rw [List.mem_singleton.1 hc]; exact y5n _
 · split at hc
   · rw [List.mem_singleton.1 hc]; exact y5n _
   · cases hc
theorem y5q {k : Int} : ∀ (i : Nat), ∀ c ∈ q3l L k next i, c.length ≤ 3
 | 0, c, hc => by cases hc
 | i + 1, c, hc => by
  rw [q3l, List.mem_append] at hc
  rcases hc with hc | hc
  · exact y5q i c hc
  · exact k0j c hc
theorem y2b {k : Int} : (q0i L k next).1.length ≤ 40000000 ∧ ∀ c ∈ (q0i L k next).1, c.length ≤ 3 := by
 by_cases h0 : q1c next L = 0
 · by_cases h1 : k ≤ 0
   · rw [k5v h0 h1]; exact ⟨Nat.zero_le _, fun c hc => by cases hc⟩
   · by_cases h2 : k > (L.length : Int)
     · rw [k5n h0 h1 h2]; exact ⟨by show 1 ≤ _; decide, fun c hc => by rw [List.mem_singleton.1 hc]; exact Nat.zero_le _⟩
     · obtain ⟨r1, r2, r3⟩ := z4r h0
       have hc2 := z3b (l := L) (next := next) (show k ≤ 4096 by omega) L.length
       generalize hb : ((decide (next + ((k * (k - 1)).tdiv 2 + k * ((L.length : Int) - k + 1)) - 1 > 65536)) || decide (2 * ((k * (k - 1)).tdiv 2 + k * ((L.length : Int) - k + 1)) - (L.length : Int) + 1 > 65536)) = b
       cases b with
       | true => rw [j4j h0 h1 h2 hb]; exact ⟨Nat.zero_le _, fun c hc => by cases hc⟩
       | false =>
        rw [x4m h0 h1 h2 hb]
        refine ⟨by simp only [List.length_append, List.length_singleton]; omega, fun c hc => ?_⟩
        rw [List.mem_append] at hc
        rcases hc with hc | hc
        · exact y5q _ c hc
        · rw [List.mem_singleton.1 hc]; exact Nat.le_trans (y5n _) (by show 1 ≤ 3; decide)
 · rw [y1f h0]; exact ⟨Nat.zero_le _, fun c hc => by cases hc⟩
end
def encS (C L : List Int) (B g next : Int) : List (List Int) × Int × Int :=
 if q1q C B = 1 then (grd g [L], next, 0) else if q1q C B = 2 then j2e C L B g next else if q1q C B = 3 then j2f C L B g next
 else if q1q C B = 4 then z5k C L B g next else if q1q C B = 5 then ([], next, 0) else (grd g [[]], next, 0)
theorem j0g (C : List Int) (B : Int) : q1q C B = 1 ∨ q1q C B = 2 ∨ q1q C B = 3 ∨ q1q C B = 4 ∨ q1q C B = 5 ∨ q1q C B = 6 := by
 unfold q1q
 split
 · split <;> simp
 · split
   · simp
   · split
     · simp
     · split <;> simp
section
variable {C L : List Int} {B g next : Int}
theorem q9g (h : q1q C B = 1) : encS C L B g next = (grd g [L], next, 0) := by unfold encS; rw [if_pos h]
theorem q8z (h : q1q C B = 2) : encS C L B g next = j2e C L B g next := by unfold encS; rw [if_neg (by omega), if_pos h]
theorem q9c (h : q1q C B = 3) : encS C L B g next = j2f C L B g next := by unfold encS; rw [if_neg (by omega), if_neg (by omega), if_pos h]
theorem q8h (h : q1q C B = 4) : encS C L B g next = z5k C L B g next := by unfold encS; rw [if_neg (by omega), if_neg (by omega), if_neg (by omega), if_pos h]
theorem q9h (h : q1q C B = 5) : encS C L B g next = ([], next, 0) := by unfold encS; rw [if_neg (by omega), if_neg (by omega), if_neg (by omega), if_neg (by omega), if_pos h]
theorem q9f (h : q1q C B = 6) : encS C L B g next = (grd g [[]], next, 0) := by unfold encS; rw [if_neg (by omega), if_neg (by omega), if_neg (by omega), if_neg (by omega), if_neg (by omega)]
theorem j5j (h : q1q C B = 2 ∨ q1q C B = 3) : evB C = true := by
 unfold q1q at h
 split at h
 · split at h <;> omega
 · split at h
   · omega
   · split at h
     · rename_i e; exact e.1
     · split at h
       · rename_i e; exact e.1
       · omega
end
theorem z3o {C L : List Int} {B n : Int} (h : q0m ⟨C, L, B⟩ n = 0) : q2u (q0b ⟨C, L, B⟩).C (q0b ⟨C, L, B⟩).B ∧ (q0b ⟨C, L, B⟩).L.length = (q0b ⟨C, L, B⟩).C.length ∧ (∀ x ∈ (q0b ⟨C, L, B⟩).L, x ≠ 0 ∧ -65536 ≤ x ∧ x ≤ 65536) := by
 obtain ⟨h1, h2, h3⟩ := q1d h
 obtain ⟨e, hc, hl, hb0, hb1⟩ := z6z h1 h2 h
 obtain ⟨f1, f2, f3, f4⟩ := y4d hc
 have hcan := z7x ⟨C, L, B⟩
 refine ⟨⟨Nat.le_trans hl h3.2.2.2.2, fun c hm => ?_, hb0, hb1, fun hn => ?_⟩, f1.symm, f2⟩
 · have := hcan.co c hm
   omega
 · have hf := hcan.full fun e0 => hn (by rw [e0]; rfl)
   refine ⟨hf.1, ?_⟩
   have : ∀ (X Y : List Int), X.length = Y.length → q0v (X.zip Y) = X.sum := by
    intro X
    induction X with
    | nil => intro Y _; rfl
    | cons x X ih =>
     intro Y hY
     cases Y with
     | nil => simp at hY
     | cons y Y => simp only [List.zip_cons_cons, q0v, List.sum_cons, ih Y (by simpa using hY)]
   rw [this _ _ f1] at hf
   exact hf.2
def z3p (C L : List Int) (B : Int) : Int × Int := if q0m ⟨C, L, B⟩ 65536 ≠ 0 then (0, q0m ⟨C, L, B⟩ 65536) else (q1q (q0b ⟨C, L, B⟩).C (q0b ⟨C, L, B⟩).B, 0)
def q0e (C L : List Int) (B g next : Int) : List (List Int) × Int × Int :=
 if next < 1 ∨ 65537 < next then ([], 0, 1) else if q0m ⟨C, L, B⟩ (next - 1) ≠ 0 then ([], 0, q0m ⟨C, L, B⟩ (next - 1))
 else if next ≤ g ∨ g ≤ -next then ([], 0, 140) else encS (q0b ⟨C, L, B⟩).C (q0b ⟨C, L, B⟩).L (q0b ⟨C, L, B⟩).B g next
def x0p : List (List Int × List Int × Int) → Int → List (List Int) → List (List Int) × Int × Int
 | [], n, c => (c, n, 0)
 | x :: t, n, c => if (q0e x.1 x.2.1 x.2.2 0 n).2.2 ≠ 0 then ([], 0, (q0e x.1 x.2.1 x.2.2 0 n).2.2) else x0p t (q0e x.1 x.2.1 x.2.2 0 n).2.1 (c ++ (q0e x.1 x.2.1 x.2.2 0 n).1)
def z2a (l : List (List Int × List Int × Int)) (next : Int) : List (List Int) × Int × Int := if next < 1 ∨ 65537 < next then ([], 0, 1) else x0p l next []
section
variable {C L : List Int} {B g next : Int}
theorem j9v (h : next < 1 ∨ 65537 < next) : q0e C L B g next = ([], 0, 1) := by unfold q0e; rw [if_pos h]
theorem j9b (h : ¬ (next < 1 ∨ 65537 < next)) (h2 : q0m ⟨C, L, B⟩ (next - 1) ≠ 0) : q0e C L B g next = ([], 0, q0m ⟨C, L, B⟩ (next - 1)) := by unfold q0e; rw [if_neg h, if_pos h2]
theorem y1a (h : ¬ (next < 1 ∨ 65537 < next)) (h2 : q0m ⟨C, L, B⟩ (next - 1) = 0) (h3 : next ≤ g ∨ g ≤ -next) : q0e C L B g next = ([], 0, 140) := by unfold q0e; rw [if_neg h, if_neg (by omega), if_pos h3]
theorem x4j (h : ¬ (next < 1 ∨ 65537 < next)) (h2 : q0m ⟨C, L, B⟩ (next - 1) = 0) (h3 : ¬ (next ≤ g ∨ g ≤ -next)) : q0e C L B g next = encS (q0b ⟨C, L, B⟩).C (q0b ⟨C, L, B⟩).L (q0b ⟨C, L, B⟩).B g next := by
 unfold q0e; rw [if_neg h, if_neg (by omega), if_neg h3]
end
theorem k6a {next : Int} : (decide (next < 1) || decide (next > 65537)) = true ↔ next < 1 ∨ 65537 < next := by
 simp only [Bool.or_eq_true, decide_eq_true_eq, gt_iff_lt, ge_iff_le]
theorem x8g {next : Int} (h : (decide (next < 1) || decide (next > 65537)) = false) : ¬ (next < 1 ∨ 65537 < next) := fun q => by rw [k6a.2 q] at h; cases h
theorem k8p {g next : Int} : (decide (g ≥ next) || decide (g ≤ -next)) = true ↔ next ≤ g ∨ g ≤ -next := by
 simp only [Bool.or_eq_true, decide_eq_true_eq, gt_iff_lt, ge_iff_le]
theorem k7n {g next : Int} (h : (decide (g ≥ next) || decide (g ≤ -next)) = false) : ¬ (next ≤ g ∨ g ≤ -next) := fun q => by rw [k8p.2 q] at h; cases h
theorem k4i {k next : Int} {L : List Int} (hx : ∀ x ∈ L, -65537 ≤ x ∧ x ≤ 65537) : 0 ≤ (q1w k L next).2.2.1 ∧ (q1w k L next).2.2.1 ≤ 65537 ∧ ((q1w k L next).2.2.2 = 0 → next ≤ (q1w k L next).2.2.1) := by
 cases hb : z6k k L next with
 | true => rw [z1q hb]; exact ⟨by decide, by decide, fun h => by cases h⟩
 | false =>
  obtain ⟨hg1, g1, g2, g3, g4, g5⟩ := z9l hb
  have hg := And.intro hg1 (And.intro g1 (And.intro g2 (And.intro g3 (And.intro g4 g5))))
  cases ha : q2v next L with
  | false => rw [y1d hg ha]; exact ⟨by decide, by decide, fun h => by cases h⟩
  | true =>
   by_cases hz : L.length ≠ 0 ∧ k ≠ 0
   · cases hf : z3f k L next false [] with
     | true => rw [z9y hg ha hz hf]; exact ⟨by decide, by decide, fun h => by cases h⟩
     | false =>
      rw [j0x hg ha hz hf]
      have h := z8e k g3 L.length L (next, false, []) rfl (by omega) g1 g2 hx
      have h3 : next ≤ z5v k L next false [] := h.2.2.1
      have h4 : z5v k L next false [] ≤ 65537 := h.2.2.2.1
      exact ⟨by show 0 ≤ z5v k L next false []; omega, h4, fun _ => h3⟩
   · rw [j4k hg ha]
     · exact ⟨by show 0 ≤ next; omega, by show next ≤ _; omega, fun _ => Int.le_refl _⟩
     · rw [z4n]; omega
theorem y1j {k next : Int} (hk : 0 ≤ k) : ∀ i : Nat, next ≤ (cAb k next i).2.2
 | 0 => Int.le_refl _
 | i + 1 => by
  have ih := y1j (next := next) hk i
  simp only [cAb]; omega
theorem k5e {k next : Int} {L : List Int} (hf : 0 ≤ next ∧ next ≤ 65537) : 0 ≤ (q0i L k next).2.1 ∧ (q0i L k next).2.1 ≤ 20000000 ∧ ((q0i L k next).2.2 = 0 → next ≤ (q0i L k next).2.1) := by
 by_cases h0 : q1c next L = 0
 · by_cases h1 : k ≤ 0
   · rw [k5v h0 h1]; exact ⟨hf.1, by show next ≤ _; omega, fun _ => Int.le_refl _⟩
   · by_cases h2 : k > (L.length : Int)
     · rw [k5n h0 h1 h2]; exact ⟨hf.1, by show next ≤ _; omega, fun _ => Int.le_refl _⟩
     · obtain ⟨r1, r2, r3⟩ := z4r h0
       generalize hb : ((decide (next + ((k * (k - 1)).tdiv 2 + k * ((L.length : Int) - k + 1)) - 1 > 65536)) || decide (2 * ((k * (k - 1)).tdiv 2 + k * ((L.length : Int) - k + 1)) - (L.length : Int) + 1 > 65536)) = b
       cases b with
       | true => rw [j4j h0 h1 h2 hb]; exact ⟨Int.le_refl _, by show (0 : Int) ≤ _; decide, fun h => by cases h⟩
       | false =>
        rw [x4m h0 h1 h2 hb]
        have hc := j8w (k := k) (next := next) (by omega) ⟨r1, r2⟩ L.length r3
        have hu := y1j (next := next) (k := k) (by omega) L.length
        exact ⟨by show 0 ≤ (cAb k next L.length).2.2; omega, by show (cAb k next L.length).2.2 ≤ _; omega, fun _ => hu⟩
 · rw [y1f h0]; exact ⟨Int.le_refl _, by show (0 : Int) ≤ _; decide, fun h => absurd h h0⟩
theorem x2j {C L : List Int} {n : Int} : 0 ≤ (q2o C L n).2.2.1 ∧ (q2o C L n).2.2.1 ≤ 65537 ∧ ((q2o C L n).2.2.2 = 0 → n ≤ (q2o C L n).2.2.1) := by
 unfold q2o
 cases h : q2b C L n with
 | err e =>
  refine ⟨Int.le_refl _, by show (0 : Int) ≤ _; decide, fun h0 => ?_⟩
  have h0 : e = 0 := h0
  exfalso
  rw [h0] at h
  unfold q2b at h
  split at h
  · injection h with h; cases h
  · split at h
    · injection h with h; cases h
    · split at h
      · injection h with h; cases h
      · split at h
        · injection h with h; cases h
        · cases h
 | ok b c a =>
  have := x1p h
  exact ⟨by show 0 ≤ a; omega, this.2.2, fun _ => this.2.1⟩
theorem y7x (C L : List Int) (B g next : Int) : (q0e C L B g next).1.length ≤ 200000000 ∧ (0 ≤ (q0e C L B g next).2.1 ∧ (q0e C L B g next).2.1 ≤ 20000000) ∧ ((q0e C L B g next).2.2 = 0 → 1 ≤ next ∧ next ≤ (q0e C L B g next).2.1) ∧ ((q0e C L B g next).2.2 ≠ 0 → q0e C L B g next = ([], 0, (q0e C L B g next).2.2)) := by
 have er : ∀ (e : Int), e ≠ 0 → (([] : List (List Int)), (0 : Int), e).1.length ≤ 200000000 ∧ (0 ≤ (([] : List (List Int)), (0 : Int), e).2.1 ∧ (([] : List (List Int)), (0 : Int), e).2.1 ≤ 20000000) ∧ ((([] : List (List Int)), (0 : Int), e).2.2 = 0 → 1 ≤ next ∧ next ≤ (([] : List (List Int)), (0 : Int), e).2.1) ∧ ((([] : List (List Int)), (0 : Int), e).2.2 ≠ 0 → (([] : List (List Int)), (0 : Int), e) = ([], 0, (([] : List (List Int)), (0 : Int), e).2.2)) :=
  fun e he => ⟨Nat.zero_le _, ⟨Int.le_refl _, by show (0 : Int) ≤ _; decide⟩, fun h => absurd h he, fun _ => rfl⟩
 by_cases h1 : next < 1 ∨ 65537 < next
 · rw [j9v h1]; exact er 1 (by decide)
 · by_cases h2 : q0m ⟨C, L, B⟩ (next - 1) = 0
   · by_cases h3 : next ≤ g ∨ g ≤ -next
     · rw [y1a h1 h2 h3]; exact er 140 (by decide)
     · rw [x4j h1 h2 h3]
       obtain ⟨n1, n2, n3⟩ := z3o h2
       generalize (q0b ⟨C, L, B⟩) = x at n1 n2 n3 ⊢
       have hx : ∀ y ∈ x.L, -65537 ≤ y ∧ y ≤ 65537 := fun y hy => by have := n3 y hy; omega
       rcases j0g x.C x.B with hk | hk | hk | hk | hk | hk
       · rw [q9g hk]; exact ⟨by show (grd g [x.L]).length ≤ _; rw [q4q]; show 1 ≤ _; decide, ⟨by show 0 ≤ next; omega, by show next ≤ _; omega⟩, fun _ => ⟨by omega, Int.le_refl _⟩, fun h => absurd rfl h⟩
       · rw [q8z hk]
         by_cases he : (q1w (evK x.C x.B) x.L next).2.2.2 = 0
         · rw [x2e he]
           have a := y0e (k := evK x.C x.B) (next := next) hx
           have b := k4i (k := evK x.C x.B) (next := next) hx
           refine ⟨?_, ⟨b.1, by show (q1w (evK x.C x.B) x.L next).2.2.1 ≤ _; omega⟩, fun _ => ⟨by omega, b.2.2 he⟩, fun h => absurd rfl h⟩
           show ((q1w (evK x.C x.B) x.L next).2.1 ++ grd g _).length ≤ _
           rw [List.length_append, q4q]; simp only [List.length_cons, List.length_nil]; omega
         · rw [j9r he]; exact er _ he
       · rw [q9c hk]
         by_cases he : (q0i x.L (evK x.C x.B) next).2.2 = 0
         · rw [x3k he]
           have a := y2b (L := x.L) (next := next) (k := evK x.C x.B)
           have b := k5e (k := evK x.C x.B) (next := next) (L := x.L) (by omega)
           refine ⟨?_, ⟨b.1, b.2.1⟩, fun _ => ⟨by omega, b.2.2 he⟩, fun h => absurd rfl h⟩
           show (grd g _).length ≤ _
           rw [q4q]; omega
         · rw [j9z he]; exact er _ he
       · rw [q8h hk]
         by_cases he : (q2o x.C x.L next).2.2.2 = 0
         · by_cases he2 : (q0q (q2o x.C x.L next).1 x.B).2 = 0
           · rw [x1i he he2]
             have a := q9o x.C x.L next
             have b := x2j (C := x.C) (L := x.L) (n := next)
             have c := q5d (q2o x.C x.L next).1 x.B
             refine ⟨?_, ⟨b.1, by show (q2o x.C x.L next).2.2.1 ≤ _; omega⟩, fun _ => ⟨by omega, b.2.2 he⟩, fun h => absurd rfl h⟩
             show ((q2o x.C x.L next).2.1 ++ grd g _).length ≤ _
             rw [List.length_append, q4q]; omega
           · rw [z9n he he2]; exact er _ he2
         · rw [y1o he]; exact er _ he
       · rw [q9h hk]; exact ⟨Nat.zero_le _, ⟨by show 0 ≤ next; omega, by show next ≤ _; omega⟩, fun _ => ⟨by omega, Int.le_refl _⟩, fun h => absurd rfl h⟩
       · rw [q9f hk]; exact ⟨by show (grd g [[]]).length ≤ _; rw [q4q]; show 1 ≤ _; decide, ⟨by show 0 ≤ next; omega, by show next ≤ _; omega⟩, fun _ => ⟨by omega, Int.le_refl _⟩, fun h => absurd rfl h⟩
   · rw [j9b h1 h2]; exact er _ h2
def q2i (l : List (List Int × List Int × Int)) (next : Int) : Nat → List (List Int) × Int
 | 0 => ([], next)
 | i + 1 => ((q2i l next i).1 ++ (q0e (l.getD i ([], [], 0)).1 (l.getD i ([], [], 0)).2.1 (l.getD i ([], [], 0)).2.2 0 (q2i l next i).2).1, (q0e (l.getD i ([], [], 0)).1 (l.getD i ([], [], 0)).2.1 (l.getD i ([], [], 0)).2.2 0 (q2i l next i).2).2.1)
def k4d (l : List (List Int × List Int × Int)) (next : Int) (i : Nat) : Int := (q0e (l.getD i ([], [], 0)).1 (l.getD i ([], [], 0)).2.1 (l.getD i ([], [], 0)).2.2 0 (q2i l next i).2).2.2
theorem j5t {α : Type} {d : α} {l : List α} {i : Nat} (h : i < l.length) : l.drop i = l.getD i d :: l.drop (i + 1) := by
 rw [List.drop_eq_getElem_cons h, List.getD_eq_getElem?_getD, List.getElem?_eq_getElem h]; rfl
section
variable {l : List (List Int × List Int × Int)} {next : Int} {i : Nat}
theorem k9d (h : ¬ (next < 1 ∨ 65537 < next)) : z2a l next = x0p (l.drop 0) (q2i l next 0).2 (q2i l next 0).1 := if_neg h
theorem k3d (hi : i < l.length) (hI : z2a l next = x0p (l.drop i) (q2i l next i).2 (q2i l next i).1) (h : k4d l next i ≠ 0) : z2a l next = ([], 0, k4d l next i) := by
 rw [hI, j5t hi, x0p]; exact if_pos h
theorem x9u (hi : i < l.length) (hI : z2a l next = x0p (l.drop i) (q2i l next i).2 (q2i l next i).1) (h : k4d l next i = 0) : z2a l next = x0p (l.drop (i + 1)) (q2i l next (i + 1)).2 (q2i l next (i + 1)).1 := by
 rw [hI, j5t hi, x0p]; exact if_neg (by unfold k4d at h; omega)
theorem z0h (hi : i = l.length) (hI : z2a l next = x0p (l.drop i) (q2i l next i).2 (q2i l next i).1) : z2a l next = ((q2i l next i).1, (q2i l next i).2, 0) := by
 rw [hI, hi, List.drop_length]; rfl
theorem y2e (hn : -9223372036854775808 ≤ next ∧ next ≤ 9223372036854775807) : ∀ i, (q2i l next i).1.length ≤ 200000000 * i ∧ (-9223372036854775808 ≤ (q2i l next i).2 ∧ (q2i l next i).2 ≤ 9223372036854775807)
 | 0 => ⟨Nat.zero_le _, hn⟩
 | i + 1 => by
  have ih := (y2e hn i).1
  have hb := y7x (l.getD i ([], [], 0)).1 (l.getD i ([], [], 0)).2.1 (l.getD i ([], [], 0)).2.2 0 (q2i l next i).2
  refine ⟨?_, ?_⟩
  · show ((q2i l next i).1 ++ _).length ≤ _
    rw [List.length_append]; omega
  · have h2 := hb.2.1
    show _ ≤ (q0e _ _ _ 0 (q2i l next i).2).2.1 ∧ (q0e _ _ _ 0 (q2i l next i).2).2.1 ≤ _
    omega
end
end Go.Proofs.YtkkapbnopmmmjaaGreatDoor.Cn
namespace Go.Proofs.YtkkapbnopmmmjaaGreatDoor.Cn
open Go
section
variable {α : Type} [DecidableEq α] {a b : List α} {d : α}
theorem z0v (h : ¬ (a.length : Int) = b.length) : decide (a = b) = false := decide_eq_false fun e => h (by rw [e])
theorem z7d {i : Nat} (h : a.getD i d ≠ b.getD i d) : decide (a = b) = false := decide_eq_false fun e => h (by rw [e])
theorem z0x {i : Nat} (hl : a.length = b.length) (hi : i = a.length) (h : ∀ j, j < i → a.getD j d = b.getD j d) : decide (a = b) = true := decide_eq_true (by
 apply List.ext_getElem hl
 intro j h1 h2
 have := h j (by omega)
 rw [List.getD_eq_getElem?_getD, List.getD_eq_getElem?_getD, List.getElem?_eq_getElem h1, List.getElem?_eq_getElem h2] at this
 exact this)
theorem dcT (h : (!decide (a = b)) = true) : a ≠ b := by simpa using h
theorem dcF (h : (!decide (a = b)) = false) : a = b := by simpa using h
end
theorem j6s {l : List Int} {n : Int} {i : Nat} (hi : i < l.length) (h : l.getD i 0 = n) : l.contains n = true := by
 rw [List.contains_iff_mem, ← h]; exact q0u hi
theorem y7o {l : List Int} {n : Int} {i : Nat} (hi : i = l.length) (h : ∀ j, j < i → l.getD j 0 ≠ n) : l.contains n = false := by
 rw [Bool.eq_false_iff]
 intro hc
 rw [List.contains_iff_mem] at hc
 obtain ⟨j, hj, e⟩ := List.getElem_of_mem hc
 refine h j (by omega) ?_
 rw [List.getD_eq_getElem?_getD, List.getElem?_eq_getElem hj]; exact e
theorem k2r : z3p [1, 1] [1, 2] 1 = (1, 0) := by decide +kernel
theorem k3n : z3p [1, 1] [1, 2] 2 = (2, 0) := by decide +kernel
theorem k2m : z3p [2, 3, 4] [1, 2, 3] 5 = (4, 0) := by decide +kernel
theorem k3l : q0e [1, 1] [1, 2] 1 9 10 = ([[-9, 1, 2]], 10, 0) := by decide +kernel
theorem k1z : q0e [] [] 1 (-4) 10 = ([[4]], 10, 0) := by decide +kernel
theorem k2y : q0e [1, 1] [1, 2] 1 10 10 = ([], 0, 140) := by decide +kernel
theorem k5d : z2a [([], [], 0), ([1, 1], [1, 2], 1)] 3 = ([[1, 2]], 3, 0) := by decide +kernel
end Go.Proofs.YtkkapbnopmmmjaaGreatDoor.Cn
namespace Go.Proofs.YtkkapbnopmmmjaaGreatDoor
end Go.Proofs.YtkkapbnopmmmjaaGreatDoor
namespace Go.Proofs.YtkkapbnopmmmjaaGreatDoor
section
variable {lits : List Int} (hg : Good lits lits.length)
include hg
end
section
variable {l : q2j} {lits : List Int} (hc : q0m l 65536 = 0) (hu : x9b 65536 lits = true)
include hc hu
end
end Go.Proofs.YtkkapbnopmmmjaaGreatDoor
namespace Go.Proofs.YtkkapbnopmmmjaaGreatDoor.En
theorem q5m {l : List Int} {k : Nat} (h : k < l.length) : l.getD k 0 ∈ l := by
 have : l.getD k 0 = l[k] := by simp [List.getD, List.getElem?_eq_getElem h]
 rw [this]; exact List.getElem_mem h
theorem j1i {l : List Int} {x : Int} (h : x ∈ l) : ∃ k, k < l.length ∧ l.getD k 0 = x := by
 obtain ⟨k, hk, rfl⟩ := List.mem_iff_getElem.1 h
 exact ⟨k, hk, by simp [List.getD, List.getElem?_eq_getElem hk]⟩
theorem q7m {c : Int} : z2i c = true ↔ c < -1099511627776 ∨ 1099511627776 < c := by simp [z2i]
theorem q7f {n x : Int} : q2s n x = true ↔ x = 0 ∨ n < x ∨ x < -n := by simp [q2s]
theorem lc1 {C L : List Int} {B n : Int} (h : n < 0 ∨ 65536 < n ∨ C.length ≠ L.length ∨ B < -1099511627776 ∨ 1099511627776 < B) : q0m ⟨C, L, B⟩ n = 1 := by
 unfold q0m
 rw [if_pos]
 rcases h with h | h | h | h | h
 · exact .inl h
 · exact .inr (.inl h)
 · exact .inr (.inr (.inl h))
 · exact .inr (.inr (.inr (q7m.2 (.inl h))))
 · exact .inr (.inr (.inr (q7m.2 (.inr h))))
theorem lc2 {C L : List Int} {B n : Int} {k : Nat} (hl : C.length = L.length) (hk : k < L.length) (h : C.getD k 0 < -1099511627776 ∨ 1099511627776 < C.getD k 0 ∨ L.getD k 0 = 0 ∨ L.getD k 0 < -n ∨ n < L.getD k 0) : q0m ⟨C, L, B⟩ n = 1 := by
 unfold q0m
 split
 · rfl
 · rw [if_pos]
   have hc := q5m (l := C) (k := k) (by omega)
   have hL := q5m (l := L) (k := k) hk
   rcases h with h | h | h | h | h
   · exact .inl (List.any_eq_true.2 ⟨_, hc, q7m.2 (.inl h)⟩)
   · exact .inl (List.any_eq_true.2 ⟨_, hc, q7m.2 (.inr h)⟩)
   · exact .inr (List.any_eq_true.2 ⟨_, hL, q7f.2 (.inl h)⟩)
   · exact .inr (List.any_eq_true.2 ⟨_, hL, q7f.2 (.inr (.inr h))⟩)
   · exact .inr (List.any_eq_true.2 ⟨_, hL, q7f.2 (.inr (.inl h))⟩)
def k0u (C L : List Int) (n : Int) (k : Nat) : Prop := ∀ j, j < k → -1099511627776 ≤ C.getD j 0 ∧ C.getD j 0 ≤ 1099511627776 ∧ L.getD j 0 ≠ 0 ∧ -n ≤ L.getD j 0 ∧ L.getD j 0 ≤ n
theorem lc3 {C L : List Int} {B n : Int} (h0 : 0 ≤ n) (h1 : n ≤ 65536) (hl : C.length = L.length) (hB : -1099511627776 ≤ B ∧ B ≤ 1099511627776) (h : k0u C L n L.length) : q0m ⟨C, L, B⟩ n = if 4096 < L.length then 2 else 0 := by
 unfold q0m
 rw [if_neg, if_neg]
 · rintro (hx | hx)
   · obtain ⟨c, hc, ho⟩ := List.any_eq_true.1 hx
     obtain ⟨k, hk, rfl⟩ := j1i (show c ∈ C from hc)
     have := h k (by omega)
     rw [q7m] at ho
     omega
   · obtain ⟨c, hc, ho⟩ := List.any_eq_true.1 hx
     obtain ⟨k, hk, rfl⟩ := j1i (show c ∈ L from hc)
     have := h k hk
     rw [q7f] at ho
     omega
 · rintro (hx | hx | hx | hx)
   · omega
   · omega
   · exact hx hl
   · rw [q7m] at hx; simp at hx; omega
theorem k0u.succ {C L : List Int} {n : Int} {k : Nat} (h : k0u C L n k) (hk : -1099511627776 ≤ C.getD k 0 ∧ C.getD k 0 ≤ 1099511627776 ∧ L.getD k 0 ≠ 0 ∧ -n ≤ L.getD k 0 ∧ L.getD k 0 ≤ n) : k0u C L n (k + 1) := by
 intro j hj
 by_cases e : j = k
 · subst e; exact hk
 · exact h j (by omega)
end Go.Proofs.YtkkapbnopmmmjaaGreatDoor.En
namespace Go.Proofs.YtkkapbnopmmmjaaGreatDoor.En
theorem j9s {C L : List Int} {k : Nat} (h : k < L.length) (hl : C.length = L.length) : (C.zip L)[k]? = some (C.getD k 0, L.getD k 0) := by
 have h1 : k < C.length := by omega
 simp [List.getElem?_zip_eq_some, List.getD, List.getElem?_eq_getElem h, List.getElem?_eq_getElem h1]
theorem z1a {α : Type} {z : List α} {k : Nat} {x : α} (h : z[k]? = some x) : z.take (k + 1) = z.take k ++ [x] := by
 rw [List.take_add_one, h]; rfl
theorem q7l {z : List Int} {k : Nat} (h : k < z.length) : z.take (k + 1) = z.take k ++ [z.getD k 0] := z1a (by simp [List.getD, List.getElem?_eq_getElem h])
def cfK (C L : List Int) (x : Int) (k : Nat) : Int := cfZ ((C.zip L).take k) x
theorem x4n (C L : List Int) (x : Int) : cfK C L x 0 = 0 := rfl
theorem q3r {C L : List Int} {x : Int} {k : Nat} (hl : C.length = L.length) (h : k < L.length) (e : L.getD k 0 = x) : cfK C L x (k + 1) = cfK C L x k + C.getD k 0 := by
 unfold cfK
 rw [z1a (j9s h hl), y0b]
 simp only [e, if_true]
theorem q9u {C L : List Int} {x : Int} {k : Nat} (hl : C.length = L.length) (h : k < L.length) (e : L.getD k 0 ≠ x) : cfK C L x (k + 1) = cfK C L x k := by
 unfold cfK
 rw [z1a (j9s h hl), y0b]
 simp only [e, if_false, Int.add_zero]
theorem j6j {C L : List Int} {x B : Int} {k : Nat} (hl : C.length = L.length) (h : L.length ≤ k) : cfK C L x k = cf ⟨C, L, B⟩ x := by
 unfold cfK cf
 rw [List.take_of_length_le (by rw [List.length_zip]; omega)]
theorem y7v {C L : List Int} {B n : Int} (hc : q0m ⟨C, L, B⟩ n = 0) (x : Int) : ∀ k, k ≤ L.length → -(1099511627776 * (k : Int)) ≤ cfK C L x k ∧ cfK C L x k ≤ 1099511627776 * (k : Int)
 | 0, _ => by rw [x4n]; omega
 | k + 1, h => by
  obtain ⟨_, _, hl, _, hC, _⟩ := q1d hc
  replace hl : C.length = L.length := hl
  have ih := y7v hc x k (by omega)
  have hb := hC _ (q5m (l := C) (k := k) (by omega))
  by_cases e : L.getD k 0 = x
  · rw [q3r hl (by omega) e]; exact ⟨by omega, by omega⟩
  · rw [q9u hl (by omega) e]; exact ⟨by omega, by omega⟩
theorem k2a {C L : List Int} {B n : Int} (hc : q0m ⟨C, L, B⟩ n = 0) (x : Int) : -4503599627370496 ≤ cf ⟨C, L, B⟩ x ∧ cf ⟨C, L, B⟩ x ≤ 4503599627370496 := by
 obtain ⟨_, _, hl, _, _, _, h4⟩ := q1d hc
 replace h4 : L.length ≤ 4096 := h4
 replace hl : C.length = L.length := hl
 have := y7v hc x L.length (Nat.le_refl _)
 rw [j6j (B := B) hl (Nat.le_refl _)] at this
 omega
theorem j6w (v : Int) : ∀ (out : List Int) (i : Nat), i ≤ out.length → (∀ j, j < i → out.getD j 0 < v) → (i < out.length → ¬ out.getD i 0 < v) →
 z2w v out = if i < out.length ∧ out.getD i 0 = v then out else out.take i ++ [v] ++ out.drop i
 | [], i, hi, _, _ => by
  have : i = 0 := by simpa using hi
  subst this
  simp [z2w]
 | y :: t, 0, _, _, h => by
  have h0 := h (by simp)
  simp only [List.getD_cons_zero] at h0 ⊢
  simp only [z2w, if_neg h0, List.length_cons, Nat.zero_lt_succ, true_and, List.take_zero, List.drop_zero, List.nil_append, List.singleton_append]
 | y :: t, i + 1, hi, hlt, h => by
  have hy := hlt 0 (by omega)
  simp only [List.getD_cons_zero] at hy
  simp only [z2w, if_pos hy]
  rw [j6w v t i (by simpa using hi) (fun j hj => by have := hlt (j + 1) (by omega); simpa using this) (fun hj => by have := h (by simpa using hj); simpa using this)]
  simp only [List.length_cons, Nat.add_lt_add_iff_right, List.getD_cons_succ, List.take_succ_cons, List.drop_succ_cons, List.cons_append]
  split <;> rfl
theorem j5p {v : Int} {out : List Int} {i : Nat} (hi : i < out.length) (hlt : ∀ j, j < i → out.getD j 0 < v) (h : out.getD i 0 = v) : z2w v out = out := by
 rw [j6w v out i (by omega) hlt (fun _ => by omega), if_pos ⟨hi, h⟩]
theorem x1y {v : Int} {out : List Int} {i : Nat} (hi : i ≤ out.length) (hlt : ∀ j, j < i → out.getD j 0 < v) (h : i < out.length → ¬ out.getD i 0 < v) (h2 : ¬ (i < out.length ∧ out.getD i 0 = v)) : z2w v out = out.take i ++ [v] ++ out.drop i := by
 rw [j6w v out i hi hlt h, if_neg h2]
theorem q7h {L : List Int} {k : Nat} (h : k < L.length) : q0a (L.take (k + 1)) = z2w ((L.getD k 0).natAbs : Int) (q0a (L.take k)) := by
 rw [q7l h, z8b]
theorem z6h (L : List Int) (k : Nat) : (q0a (L.take k)).length ≤ L.length := by
 have := z0l (L.take k)
 rw [List.length_take] at this
 omega
def nB (l : q2j) (vs : List Int) (k : Nat) : Int := l.B - q1o l (vs.take k)
def nC (l : q2j) (vs : List Int) (k : Nat) : List Int := (q0p l (vs.take k)).map (·.1)
def nL (l : q2j) (vs : List Int) (k : Nat) : List Int := (q0p l (vs.take k)).map (·.2)
def nA (l : q2j) (vs : List Int) (k : Nat) : Int := q0v (q0p l (vs.take k))
section
variable {l : q2j} {vs : List Int} {k : Nat}
theorem j0b (h : k < vs.length) : nB l vs (k + 1) = nB l vs k - min (cf l (vs.getD k 0)) (cf l (-(vs.getD k 0))) := by
 unfold nB; rw [q7l h, z1m]; omega
theorem z9o (h : k < vs.length) : q0p l (vs.take (k + 1)) = q0p l (vs.take k) ++ q4f (cf l (vs.getD k 0)) (cf l (-(vs.getD k 0))) (vs.getD k 0) := by
 rw [q7l h, z5l]
theorem j5y (h : k < vs.length) (hc : cf l (-(vs.getD k 0)) < cf l (vs.getD k 0)) : nC l vs (k + 1) = nC l vs k ++ [cf l (vs.getD k 0) - cf l (-(vs.getD k 0))] ∧ nL l vs (k + 1) = nL l vs k ++ [vs.getD k 0] := by
 unfold nC nL; rw [z9o h]; unfold q4f; rw [if_pos hc]; simp
theorem j3k (h : k < vs.length) (hc : cf l (vs.getD k 0) < cf l (-(vs.getD k 0))) : nC l vs (k + 1) = nC l vs k ++ [cf l (-(vs.getD k 0)) - cf l (vs.getD k 0)] ∧ nL l vs (k + 1) = nL l vs k ++ [-(vs.getD k 0)] := by
 unfold nC nL; rw [z9o h]; unfold q4f; rw [if_neg (by omega), if_pos hc]; simp
theorem j6f (h : k < vs.length) (hc : ¬ cf l (-(vs.getD k 0)) < cf l (vs.getD k 0)) (hc2 : ¬ cf l (vs.getD k 0) < cf l (-(vs.getD k 0))) : nC l vs (k + 1) = nC l vs k ∧ nL l vs (k + 1) = nL l vs k := by
 unfold nC nL; rw [z9o h]; unfold q4f; rw [if_neg hc, if_neg hc2]; simp
theorem j1d (h : k < vs.length) : nA l vs (k + 1) = nA l vs k + max (cf l (vs.getD k 0)) (cf l (-(vs.getD k 0))) - min (cf l (vs.getD k 0)) (cf l (-(vs.getD k 0))) := by
 unfold nA; rw [z9o h, z5s]
 unfold q4f
 split
 · simp only [q0v]; omega
 · split <;> simp only [q0v] <;> omega
theorem k3e (l : q2j) (vs : List Int) (k : Nat) : (nC l vs k).length ≤ vs.length ∧ (nL l vs k).length ≤ vs.length ∧ (nC l vs k).length = (nL l vs k).length := by
 unfold nC nL
 have := q6m l (vs.take k)
 rw [List.length_take] at this
 simp
 omega
end
theorem k7d {l : q2j} (h : q0m l 65536 = 0) (k : Nat) : 0 ≤ nA l (q0a l.L) k ∧ nA l (q0a l.L) k ≤ 4503599627370496 := z3g h k
theorem k7r {l : q2j} (h : q0m l 65536 = 0) (k : Nat) : -4504699138998272 ≤ nB l (q0a l.L) k ∧ nB l (q0a l.L) k ≤ 4504699138998272 := by
 have := j7e h k
 obtain ⟨_, _, _, hB, _⟩ := q1d h
 unfold nB
 omega
theorem x3u {a : List Int} {k : Nat} {v : Int} (h : ∀ j, j < k → a.getD j 0 < v) (hk : a.getD k 0 < v) : ∀ j, j < k + 1 → a.getD j 0 < v := fun j hj => by
 by_cases e : j = k
 · rw [e]; exact hk
 · exact h j (by omega)
section
variable {C L C' L' : List Int} {B B' : Int} {k : Nat}
end
theorem y2a {v : Int} {out : List Int} {i : Nat} (hi : i ≤ out.length) (hlt : ∀ j, j < i → out.getD j 0 < v) (h : ¬ ((i : Int) < (out.length : Int)) ∨ ¬ out.getD i 0 < v) (h2 : ¬ ((i : Int) < (out.length : Int)) ∨ out.getD i 0 ≠ v) : z2w v out = out.take i ++ [v] ++ (out.take out.length).drop i := by
 rw [List.take_length]
 refine x1y hi hlt (fun hl => ?_) (fun ⟨hl, he⟩ => ?_)
 · rcases h with h | h
   · omega
   · exact h
 · rcases h2 with h2 | h2
   · omega
   · exact h2 he
def q4v (xs : List Int) (B : Int) (i : Nat) : List Int := (xs.take i).map (fun c => min c B) ++ xs.drop i
theorem y3j (xs : List Int) (B : Int) : q4v xs B 0 = xs := by simp [q4v]
theorem y6b (xs : List Int) (B : Int) (i : Nat) : (q4v xs B i).length = xs.length := by simp [q4v]; omega
theorem y2h {xs : List Int} {B : Int} {i : Nat} (h : i < xs.length) : (q4v xs B i).set i (min ((q4v xs B i).getD i 0) B) = q4v xs B (i + 1) := by
 have hl : ((xs.take i).map (fun c => min c B)).length = i := by simp; omega
 unfold q4v
 have hd : xs.drop i = xs.getD i 0 :: xs.drop (i + 1) := by
  rw [List.drop_eq_getElem_cons h]; simp [List.getD, List.getElem?_eq_getElem h]
 rw [q7l h, hd]
 have hg : ((xs.take i).map (fun c => min c B) ++ xs.getD i 0 :: xs.drop (i + 1)).getD i 0 = xs.getD i 0 := by
  rw [List.getD_eq_getElem?_getD, List.getElem?_append_right (by omega), hl, Nat.sub_self]; rfl
 rw [hg, List.set_append_right _ _ (by omega), hl, Nat.sub_self]
 simp
theorem y7p {xs : List Int} {B : Int} {i : Nat} (h : xs.length ≤ i) : q4v xs B i = xs.map (fun c => min c B) := by
 unfold q4v; rw [List.take_of_length_le h, List.drop_eq_nil_of_le h, List.append_nil]
theorem x7j {l : q2j} (h : q0m l 65536 = 0) : q0b l = z4o l := by unfold q0b; rw [if_pos h]
theorem j7c {l : q2j} (h : ¬ q0m l 65536 = 0) : q0b l = y5w := by unfold q0b; rw [if_neg h]
theorem k5k {l : q2j} {k : Nat} (h : (q0a l.L).length ≤ k) : nB l (q0a l.L) k = l.B - q1o l (q0a l.L) ∧ nA l (q0a l.L) k = q0v (q0p l (q0a l.L)) ∧ nC l (q0a l.L) k = (q0p l (q0a l.L)).map (·.1) ∧ nL l (q0a l.L) k = (q0p l (q0a l.L)).map (·.2) := by
 unfold nB nA nC nL; rw [List.take_of_length_le h]; exact ⟨rfl, rfl, rfl, rfl⟩
theorem k0k {l : q2j} (h : q0m l 65536 = 0) : (l.B - q1o l (q0a l.L) ≤ 0 → q0b l = y5w) ∧ (¬ l.B - q1o l (q0a l.L) ≤ 0 → q0v (q0p l (q0a l.L)) < l.B - q1o l (q0a l.L) → q0b l = ⟨[], [], 1⟩) ∧
 (¬ l.B - q1o l (q0a l.L) ≤ 0 → ¬ q0v (q0p l (q0a l.L)) < l.B - q1o l (q0a l.L) → q0b l = ⟨((q0p l (q0a l.L)).map (·.1)).map (fun c => min c (l.B - q1o l (q0a l.L))), (q0p l (q0a l.L)).map (·.2), l.B - q1o l (q0a l.L)⟩) := by
 rw [x7j h]
 unfold z4o
 refine ⟨fun h1 => by rw [if_pos h1], fun h1 h2 => by rw [if_neg h1, if_pos h2], fun h1 h2 => by rw [if_neg h1, if_neg h2, List.map_map]; rfl⟩
end Go.Proofs.YtkkapbnopmmmjaaGreatDoor.En
namespace Go.Proofs.YtkkapbnopmmmjaaGreatDoor.En
section
variable {p : Int → Bool} {C L : List Int} {k : Nat}
end
theorem y7o {l : List Int} {x : Int} {k : Nat} (hk : l.length ≤ k) (h : ∀ j, j < k → l.getD j 0 ≠ x) : l.contains x = false := by
 cases hc : l.contains x with
 | false => rfl
 | true =>
  obtain ⟨j, hj, e⟩ := j1i (List.contains_iff_mem.1 hc)
  exact absurd e (h j (by omega))
theorem j6s {l : List Int} {x : Int} {k : Nat} (hk : k < l.length) (h : l.getD k 0 = x) : l.contains x = true := by
 rw [List.contains_iff_mem, ← h]; exact q5m hk
section
variable {lits C L : List Int} {s : Int} {k : Nat}
end
end Go.Proofs.YtkkapbnopmmmjaaGreatDoor.En
namespace Go.Proofs.YtkkapbnopmmmjaaGreatDoor.Cn
open Go
theorem k4n {a b o : List Int} {i k : Nat} : ∀ c ∈ dn1 a b o i k, c.length ≤ 3 := fun c hc => by
 unfold dn1 at hc
 split at hc
 · rw [List.mem_singleton.1 hc]
   have h1 := at_len a i
   have h2 := at_len b k
   have h3 := q8x (at1 o ((i : Int) + k))
   simp only [List.length_append]; omega
 · cases hc
theorem k2k {a b o : List Int} {i k : Nat} : ∀ c ∈ up1 a b o i k, c.length ≤ 3 := fun c hc => by
 unfold up1 at hc
 split at hc
 · rw [List.mem_singleton.1 hc]
   have h1 := q8x (at1 a ((i : Int) - 1))
   have h2 := q8x (at1 b ((k : Int) - 1))
   have h3 := at_len o ((i : Int) + k - 1)
   simp only [List.length_append]; omega
 · cases hc
theorem k4p {a b o : List Int} {i : Nat} : ∀ c ∈ q3c a b o i, c.length ≤ 3 := fun c hc => by
 unfold q3c at hc
 obtain ⟨j, _, hc⟩ := List.mem_flatMap.1 hc
 unfold q4k at hc
 obtain ⟨k, _, hc⟩ := List.mem_flatMap.1 hc
 rcases List.mem_append.1 hc with h | h
 · exact k2k c h
 · exact k4n c h
theorem k3k (most : Int) : ∀ (n : Nat) (l : List Int) (s : TSt), l.length = n → 1 ≤ n → (∀ c ∈ s.2.2, c.length ≤ 3) → ∀ c ∈ (q5i most l s).2.2.2, c.length ≤ 3 := fun n => by
 induction n using Nat.strongRecOn with
 | _ n ih =>
  intro l s hl h1 hs
  by_cases hc : (((l.length : Int) == 1) || s.2.1) = true
  · rw [q9t (by omega) hc]; exact hs
  · rw [q9m (by omega) hc]
    have hl2 : 2 ≤ l.length := by
     have : ¬ l.length = 1 := fun e => hc (by rw [e]; rfl)
     omega
    have hA := ih (l.take (l.length / 2)).length (by rw [List.length_take]; omega) (l.take (l.length / 2)) s rfl (by rw [List.length_take]; omega) hs
    have hB := ih (l.drop (l.length / 2)).length (by rw [List.length_drop]; omega) (l.drop (l.length / 2)) _ rfl (by rw [List.length_drop]; omega) hA
    unfold y2q
    split
    · exact hB
    · intro c hm
      rcases List.mem_append.1 hm with h | h
      · exact hB c h
      · exact k4p c h
section
variable {C L : List Int} {B g next : Int}
theorem k7l {k : Int} : ∀ c ∈ (q1w k L next).2.1, c.length ≤ 3 := by
 intro c hc
 unfold q1w at hc
 split at hc
 · cases hc
 · split at hc
   · cases hc
   · split at hc
     · cases hc
     · rename_i h3
       split at hc
       · cases hc
       · exact k3k k L.length L (next, false, []) rfl (by omega) (fun c hc => by cases hc) c hc
theorem j5a {c : List (List Int)} {n : Nat} (h : ∀ x ∈ c, x.length ≤ n) : ∀ x ∈ grd g c, x.length ≤ n + 1 := fun x hx => by
 unfold grd at hx
 obtain ⟨y, hy, rfl⟩ := List.mem_map.1 hx
 have := h y hy
 unfold k5g
 split <;> simp <;> omega
theorem k3x : ∀ c ∈ (q0e C L B g next).1, c.length ≤ 100000 := by
 intro c hc
 by_cases h1 : next < 1 ∨ 65537 < next
 · rw [j9v h1] at hc; cases hc
 · by_cases h2 : q0m ⟨C, L, B⟩ (next - 1) = 0
   · by_cases h3 : next ≤ g ∨ g ≤ -next
     · rw [y1a h1 h2 h3] at hc; cases hc
     · rw [x4j h1 h2 h3] at hc
       obtain ⟨n1, n2, n3⟩ := z3o h2
       generalize (q0b ⟨C, L, B⟩) = x at n1 n2 n3 hc
       have hl := n1.1
       rcases j0g x.C x.B with hk | hk | hk | hk | hk | hk
       · rw [q9g hk] at hc
         have := j5a (g := g) (c := [x.L]) (n := 4096) (fun y hy => by rw [List.mem_singleton.1 hy]; omega) c hc
         omega
       · rw [q8z hk] at hc
         by_cases he : (q1w (evK x.C x.B) x.L next).2.2.2 = 0
         · rw [x2e he] at hc
           rcases List.mem_append.1 hc with h | h
           · have := k7l c h; omega
           · have hx : ∀ y ∈ x.L, -65537 ≤ y ∧ y ≤ 65537 := fun y hy => by have := n3 y hy; omega
             have a := y0e (k := evK x.C x.B) (next := next) hx
             have := j5a (g := g) (n := 4096) (fun y hy => by rw [List.mem_singleton.1 hy, List.length_drop, List.length_take]; omega) c h
             omega
         · rw [j9r he] at hc; cases hc
       · rw [q9c hk] at hc
         by_cases he : (q0i x.L (evK x.C x.B) next).2.2 = 0
         · rw [x3k he] at hc
           have := j5a (g := g) y2b.2 c hc
           omega
         · rw [j9z he] at hc; cases hc
       · rw [q8h hk] at hc
         by_cases he : (q2o x.C x.L next).2.2.2 = 0
         · have b := q9o x.C x.L next
           have q := q5d (q2o x.C x.L next).1 x.B
           by_cases he2 : (q0q (q2o x.C x.L next).1 x.B).2 = 0
           · rw [x1i he he2] at hc
             rcases List.mem_append.1 hc with h | h
             · have := b.2.2 c h; omega
             · have := j5a (g := g) q.2 c h
               omega
           · rw [z9n he he2] at hc; cases hc
         · rw [y1o he] at hc; cases hc
       · rw [q9h hk] at hc; cases hc
       · rw [q9f hk] at hc
         have := j5a (g := g) (c := [[]]) (n := 0) (fun y hy => by rw [List.mem_singleton.1 hy]; exact Nat.le_refl _) c hc
         omega
   · rw [j9b h1 h2] at hc; cases hc
end
section
variable {l : List (List Int × List Int × Int)} {next : Int}
end
section
variable {l : List (List Int × List Int × Int)} {next : Int} {i : Nat}
end
section
variable {C L : List Int} {B g next : Int}
end
section
variable {C : List Int} {B : Int}
theorem k2e {l : List Int} {c : Int} {i : Nat} (hi : i < l.length) (h : l.getD i 0 ≠ c) : (l.all fun x => x == c) = false := List.all_eq_false.2 ⟨_, q0u (d := (0 : Int)) hi, by simpa using h⟩
theorem x4z {l : List Int} {c : Int} {i : Nat} (hi : i = l.length) (h : ∀ j, j < i → l.getD j 0 = c) : (l.all fun x => x == c) = true := List.all_eq_true.2 fun x hx => by
 obtain ⟨j, hj, rfl⟩ := List.getElem_of_mem hx
 have := h j (by omega)
 rw [List.getD_eq_getElem?_getD, List.getElem?_eq_getElem hj] at this
 simpa using this
theorem k6l {c : Int} (h0 : ¬ (C.length : Int) = 0) (h : (C.all fun x => x == c) = true) : C.getD 0 0 = c := by
 have := List.all_eq_true.1 h _ (q0u (d := (0 : Int)) (show 0 < C.length by omega))
 simpa using this
theorem z1v (h0 : ¬ (C.length : Int) = 0) : evB C = C.all fun x => x == C.getD 0 0 := by
 unfold evB
 have : (C.length == 0) = false := by rw [beq_eq_false_iff_ne]; omega
 rw [this]; simp
theorem k9k (h0 : (C.length : Int) = 0) (hb : C.length = 0 → B = 0 ∨ B = 1) : q1q C B = 5 + B := by
 unfold q1q
 rw [if_pos (by omega)]
 rcases hb (by omega) with h | h <;> rw [h] <;> rfl
theorem k9q (h0 : ¬ (C.length : Int) = 0) (h : (C.all fun x => x == B) = true) : q1q C B = 1 := by
 have hc := k6l h0 h
 have he : evB C = true := by rw [z1v h0, hc]; exact h
 unfold q1q; rw [if_neg (by omega), if_pos ⟨he, hc⟩]
theorem k6r (h0 : ¬ (C.length : Int) = 0) (h : (C.all fun x => x == B) = false) : ¬ (evB C = true ∧ C.getD 0 0 = B) := fun q => by
 rw [z1v h0, q.2, h] at q; exact absurd q.1 (by simp)
theorem k9i (h0 : ¬ (C.length : Int) = 0) (h : (C.all fun x => x == C.getD 0 0) = false) : q1q C B = 4 := by
 have he : evB C = false := by rw [z1v h0]; exact h
 unfold q1q; rw [if_neg (by omega), if_neg (by rw [he]; simp), if_neg (by rw [he]; simp), if_neg (by rw [he]; simp)]
theorem k9j (h0 : ¬ (C.length : Int) = 0) (h1 : ¬ (evB C = true ∧ C.getD 0 0 = B)) (h : (C.all fun x => x == C.getD 0 0) = true) (h2 : (C.length : Int) ≤ 10) : q1q C B = 2 := by
 have he : evB C = true := by rw [z1v h0]; exact h
 unfold q1q; rw [if_neg (by omega), if_neg h1, if_pos ⟨he, by omega⟩]
theorem x7t {c : Int} (hc : 1 ≤ c) (hB : 1 ≤ B) : (B + c - 1).tdiv c = (B - 1).tdiv c + 1 := by
 rw [Int.tdiv_eq_ediv_of_nonneg (by omega), Int.tdiv_eq_ediv_of_nonneg (by omega), show B + c - 1 = B - 1 + 1 * c by omega, Int.add_mul_ediv_right _ _ (by omega)]
theorem x4x (h : q2u C B) (h0 : ¬ (C.length : Int) = 0) (ha : (C.all fun x => x == C.getD 0 0) = true) : (B + C.getD 0 0 - 1).tdiv (C.getD 0 0) = evK C B := by
 have hc := k1u h h0
 have he : evB C = true := by rw [z1v h0]; exact ha
 unfold evK
 rw [if_pos he, x7t hc.1 hc.2.1]
theorem k9f (h0 : ¬ (C.length : Int) = 0) (h1 : ¬ (evB C = true ∧ C.getD 0 0 = B)) (h : (C.all fun x => x == C.getD 0 0) = true) (h2 : ¬ (C.length : Int) ≤ 10) (h3 : (C.length : Int) * evK C B ≤ 400) : q1q C B = 3 := by
 have he : evB C = true := by rw [z1v h0]; exact h
 unfold q1q; rw [if_neg (by omega), if_neg h1, if_neg (by omega), if_pos ⟨he, h3⟩]
theorem k6k (h0 : ¬ (C.length : Int) = 0) (h1 : ¬ (evB C = true ∧ C.getD 0 0 = B)) (h2 : ¬ (C.length : Int) ≤ 10) (h3 : ¬ (C.length : Int) * evK C B ≤ 400) : q1q C B = 4 := by
 unfold q1q; rw [if_neg (by omega), if_neg h1, if_neg (by omega), if_neg (by omega)]
theorem k1r {x : q2j} (h : Canon x) : x.C.length = 0 → x.B = 0 ∨ x.B = 1 := fun e => h.nil (List.eq_nil_of_length_eq_zero e)
end
end Go.Proofs.YtkkapbnopmmmjaaGreatDoor.Cn
namespace Go.Proofs.YtkkapbnopmmmjaaGreatDoor.Cn
open Go
def HV (v : Int → Bool) : Prop := ∀ x : Int, x ≠ 0 → v (-x) = !v x
section
variable {v : Int → Bool}
end
end Go.Proofs.YtkkapbnopmmmjaaGreatDoor.Cn
namespace Go.Proofs.YtkkapbnopmmmjaaGreatDoor.Cn
open Go
def q9e (next : Int) (l : List Int) : Int := if q2v next l = true then 0 else 140
def q5y (next : Int) (l : List Int) (i : Nat) : List Bool := (List.range next.toNat).map fun v : Nat => (l.take i).any fun x => (v : Int) == max x (-x)
section
variable {next w : Int} {l : List Int} {i : Nat}
theorem j9y : (q5y next l i).length = next.toNat := by unfold q5y; rw [List.length_map, List.length_range]
theorem x0v (h0 : 0 ≤ w) (h1 : w < next) : (q5y next l i).getD w.toNat false = (l.take i).any fun x => w == max x (-x) := by
 unfold q5y
 rw [List.getD_eq_getElem?_getD, List.getElem?_map, List.getElem?_range (by omega)]
 simp only [Option.map_some, Option.getD_some]
 rw [show ((w.toNat : Nat) : Int) = w by omega]
theorem x5i {m : Nat} (h : m = next.toNat) : List.replicate m false = q5y next l 0 := by
 subst h
 unfold q5y
 apply List.ext_getElem (by simp)
 intro j h1 h2
 rw [List.getElem_replicate, List.getElem_map]; rfl
theorem z3w (hi : i < l.length) (hw : w = max (l.getD i 0) (-(l.getD i 0))) (h1 : 1 ≤ w) : (q5y next l i).set w.toNat true = q5y next l (i + 1) := by
 unfold q5y
 apply List.ext_getElem (by simp)
 intro j h2 h3
 rw [List.getElem_set, List.getElem_map, List.getElem_map, List.getElem_range, z1j (d := 0) hi, List.any_append]
 by_cases hj : w.toNat = j
 · rw [if_pos hj]
   have : ((j : Int) == max (l.getD i 0) (-(l.getD i 0))) = true := by rw [beq_iff_eq]; omega
   rw [List.any_cons, List.any_nil, this]; simp
 · rw [if_neg hj]
   have : ((j : Int) == max (l.getD i 0) (-(l.getD i 0))) = false := by rw [beq_eq_false_iff_ne]; omega
   rw [List.any_cons, List.any_nil, this]; simp
theorem x5l (hw : w = max (l.getD i 0) (-(l.getD i 0))) : j2x next l i = !((decide (w < 1) || decide (w ≥ next)) || (q5y next l i).getD w.toNat false) := by
 unfold j2x
 rw [j1w, ← hw]
 congr 1
 by_cases h1 : w < 1
 · have h0 : w = 0 := by omega
   rw [h0]; simp
 · have h2 : ¬ w < 0 := by omega
   have h3 : (w == 0) = false := beq_eq_false_iff_ne.2 (by omega)
   rw [decide_eq_false h1, decide_eq_false h2, h3]
   by_cases h4 : w ≥ next
   · rw [decide_eq_true h4]; simp
   · rw [x0v (by omega) (by omega)]; simp
theorem x0a (hi : i < l.length) (hw : w = max (l.getD i 0) (-(l.getD i 0))) (h : ((decide (w < 1) || decide (w ≥ next)) || (q5y next l i).getD w.toNat false) = true) : q9e next l = 140 := by
 unfold q9e
 rw [x8e hi (by rw [x5l hw, h]; rfl)]; rfl
theorem k3o (hw : w = max (l.getD i 0) (-(l.getD i 0))) (h : ((decide (w < 1) || decide (w ≥ next)) || (q5y next l i).getD w.toNat false) = false) : j2x next l i = true ∧ 1 ≤ w ∧ w < next := by
 refine ⟨by rw [x5l hw, h]; rfl, ?_⟩
 simp only [Bool.or_eq_false_iff, decide_eq_false_iff_not] at h
 omega
theorem k4y {x : Int} (h : x < 0) (hf : -9223372036854775808 ≤ x) (hn : next ≤ 70000) : RowKit.wrap64 (-x) = max x (-x) ∨ (RowKit.wrap64 (-x) < 1 ∧ next ≤ max x (-x)) := by
 by_cases h0 : x = -9223372036854775808
 · right
   subst h0
   refine ⟨?_, by omega⟩
   unfold RowKit.wrap64; decide
 · left
   rw [IntWalk.wrap64_in _ (by omega)]; omega
theorem y8f (hi : i < l.length) (hw : w = max (l.getD i 0) (-(l.getD i 0)) ∨ (w < 1 ∧ next ≤ max (l.getD i 0) (-(l.getD i 0)))) (h : ((decide (w < 1) || decide (w ≥ next)) || (q5y next l i).getD w.toNat false) = true) : q9e next l = 140 := by
 rcases hw with hw | ⟨_, hw⟩
 · exact x0a hi hw h
 · refine x0a hi rfl ?_
   rw [decide_eq_true (p := max (l.getD i 0) (-(l.getD i 0)) ≥ next) hw]; simp
theorem x5a (hw : w = max (l.getD i 0) (-(l.getD i 0)) ∨ (w < 1 ∧ next ≤ max (l.getD i 0) (-(l.getD i 0)))) (h : ((decide (w < 1) || decide (w ≥ next)) || (q5y next l i).getD w.toNat false) = false) : j2x next l i = true ∧ 1 ≤ w ∧ w < next ∧ w = max (l.getD i 0) (-(l.getD i 0)) := by
 rcases hw with hw | ⟨hw, _⟩
 · obtain ⟨h1, h2, h3⟩ := k3o hw h
   exact ⟨h1, h2, h3, hw⟩
 · rw [decide_eq_true hw] at h
   simp at h
theorem z7u (hi : i = l.length) (h : ∀ j, j < i → j2x next l j = true) : q9e next l = 0 := by
 unfold q9e; rw [y8m hi h]; rfl
end
def q1k (most : Int) (n : Nat) : Int := if h : n ≤ 1 then 0 else q1k most (n / 2) + q1k most (n - n / 2) + min (n : Int) most
termination_by n
decreasing_by all_goals omega
theorem j0a {most : Int} {n : Nat} (h : n ≤ 1) : q1k most n = 0 := by rw [q1k, dif_pos h]
theorem z1g {most : Int} {n : Nat} (h : ¬ n ≤ 1) : q1k most n = q1k most (n / 2) + q1k most (n - n / 2) + min (n : Int) most := by rw [q1k, dif_neg h]
theorem q5t {most : Int} (hm : 0 ≤ most) : ∀ n : Nat, 0 ≤ q1k most n ∧ q1k most n ≤ (n : Int) * n := fun n => by
 induction n using Nat.strongRecOn with
 | _ n ih =>
  by_cases h : n ≤ 1
  · rw [j0a h]; exact ⟨Int.le_refl _, Int.mul_nonneg (by omega) (by omega)⟩
  · rw [z1g h]
    have h1 := ih (n / 2) (by omega)
    have h2 := ih (n - n / 2) (by omega)
    have hn : n = n / 2 + (n - n / 2) := by omega
    have ha1 : 1 ≤ n / 2 := by omega
    have hb1 : 1 ≤ n - n / 2 := by omega
    generalize n / 2 = a at *
    generalize n - a = b at *
    subst hn
    refine ⟨by omega, ?_⟩
    have e : ((a + b : Nat) : Int) * ((a + b : Nat) : Int) = (a : Int) * a + b * b + 2 * ((a : Int) * b) := by
     push_cast
     rw [Int.add_mul, Int.mul_add, Int.mul_add, Int.mul_comm (b : Int) a]; omega
    rw [e]
    have h3 : (a : Int) ≤ (a : Int) * b := by
     have := Int.mul_le_mul_of_nonneg_left (show (1 : Int) ≤ b by omega) (show (0 : Int) ≤ a by omega)
     omega
    have h4 : (b : Int) ≤ (a : Int) * b := by
     have := Int.mul_le_mul_of_nonneg_right (show (1 : Int) ≤ a by omega) (show (0 : Int) ≤ b by omega)
     omega
    have hmin : min ((a + b : Nat) : Int) most ≤ (a : Int) + b := by omega
    omega
abbrev RSt := Int × List (List Int)
def rtF (most : Int) : Nat → List Int → RSt → List Int × RSt
 | 0, l, s => (l, s)
 | n + 1, l, s => if l.length ≤ 1 then (l, s) else
  (q0f (rtF most n (l.drop (l.length / 2)) (rtF most n (l.take (l.length / 2)) s).2).2.1 (min (l.length : Int) most).toNat,
   ((rtF most n (l.drop (l.length / 2)) (rtF most n (l.take (l.length / 2)) s).2).2.1 + min (l.length : Int) most,
    (rtF most n (l.drop (l.length / 2)) (rtF most n (l.take (l.length / 2)) s).2).2.2 ++ q3c (rtF most n (l.take (l.length / 2)) s).1 (rtF most n (l.drop (l.length / 2)) (rtF most n (l.take (l.length / 2)) s).2).1
     (q0f (rtF most n (l.drop (l.length / 2)) (rtF most n (l.take (l.length / 2)) s).2).2.1 (min (l.length : Int) most).toNat) ((rtF most n (l.take (l.length / 2)) s).1.length + 1)))
theorem z3d (most : Int) : ∀ (n m : Nat) (l : List Int) (s : RSt), 1 ≤ l.length → l.length ≤ n → l.length ≤ m → rtF most n l s = rtF most m l s
 | 0, m, l, s, h0, h1, h2 => by omega
 | n + 1, 0, l, s, h0, h1, h2 => by omega
 | n + 1, m + 1, l, s, h0, h1, h2 => by
  unfold rtF
  by_cases h : l.length ≤ 1
  · rw [if_pos h, if_pos h]
  · rw [if_neg h, if_neg h]
    have ea : ∀ s, rtF most n (l.take (l.length / 2)) s = rtF most m (l.take (l.length / 2)) s := fun s => z3d most n m _ s (by rw [List.length_take]; omega) (by rw [List.length_take]; omega) (by rw [List.length_take]; omega)
    have eb : ∀ s, rtF most n (l.drop (l.length / 2)) s = rtF most m (l.drop (l.length / 2)) s := fun s => z3d most n m _ s (by rw [List.length_drop]; omega) (by rw [List.length_drop]; omega) (by rw [List.length_drop]; omega)
    rw [ea, eb]
def rtT (most : Int) (l : List Int) (s : RSt) : List Int × RSt := rtF most l.length l s
theorem y1q {most : Int} {l : List Int} {s : RSt} (h : l.length = 1) : rtT most l s = (l, s) := by
 unfold rtT; rw [h, rtF, if_pos (by omega)]
theorem y7d {most : Int} {l : List Int} {s : RSt} (h : 2 ≤ l.length) : rtT most l s =
 (q0f (rtT most (l.drop (l.length / 2)) (rtT most (l.take (l.length / 2)) s).2).2.1 (min (l.length : Int) most).toNat,
  ((rtT most (l.drop (l.length / 2)) (rtT most (l.take (l.length / 2)) s).2).2.1 + min (l.length : Int) most,
   (rtT most (l.drop (l.length / 2)) (rtT most (l.take (l.length / 2)) s).2).2.2 ++ q3c (rtT most (l.take (l.length / 2)) s).1 (rtT most (l.drop (l.length / 2)) (rtT most (l.take (l.length / 2)) s).2).1
    (q0f (rtT most (l.drop (l.length / 2)) (rtT most (l.take (l.length / 2)) s).2).2.1 (min (l.length : Int) most).toNat) ((rtT most (l.take (l.length / 2)) s).1.length + 1))) := by
 obtain ⟨n, hn⟩ : ∃ n, l.length = n + 1 := ⟨l.length - 1, by omega⟩
 have ea : ∀ s, rtF most n (l.take (l.length / 2)) s = rtT most (l.take (l.length / 2)) s := fun s => z3d most n _ _ s (by rw [List.length_take]; omega) (by rw [List.length_take]; omega) (Nat.le_refl _)
 have eb : ∀ s, rtF most n (l.drop (l.length / 2)) s = rtT most (l.drop (l.length / 2)) s := fun s => z3d most n _ _ s (by rw [List.length_drop]; omega) (by rw [List.length_drop]; omega) (Nat.le_refl _)
 rw [← ea, ← eb]
 unfold rtT
 conv => lhs; rw [hn, rtF, if_neg (by omega)]
theorem y3n {most : Int} : ∀ (n : Nat) (l : List Int) (s : RSt), l.length = n → 1 ≤ n → (rtT most l s).2.1 = s.1 + q1k most n := fun n => by
 induction n using Nat.strongRecOn with
 | _ n ih =>
  intro l s hl h1
  by_cases h : l.length = 1
  · rw [y1q h, j0a (by omega)]; simp
  · rw [y7d (by omega), z1g (by omega : ¬ n ≤ 1)]
    have a := ih (n / 2) (by omega) (l.take (l.length / 2)) s (by rw [List.length_take]; omega) (by omega)
    have b := ih (n - n / 2) (by omega) (l.drop (l.length / 2)) (rtT most (l.take (l.length / 2)) s).2 (by rw [List.length_drop]; omega) (by omega)
    show (rtT most (l.drop (l.length / 2)) (rtT most (l.take (l.length / 2)) s).2).2.1 + _ = _
    rw [b, a, hl]; omega
theorem rt_eq {most : Int} : ∀ (n : Nat) (l : List Int) (nx : Int) (c : List (List Int)), l.length = n → 1 ≤ n → 0 ≤ most → nx + q1k most n ≤ 65537 → q5i most l (nx, false, c) = ((rtT most l (nx, c)).1, ((rtT most l (nx, c)).2.1, false, (rtT most l (nx, c)).2.2)) := fun n => by
 induction n using Nat.strongRecOn with
 | _ n ih =>
  intro l nx c hl h1 hm hq
  by_cases h : l.length = 1
  · rw [y1q h, q9t (by omega) (by rw [h]; rfl)]
  · have hcond : ¬ (((l.length : Int) == 1) || (nx, false, c).2.1) = true := by
     show ¬ (((l.length : Int) == 1) || false) = true
     rw [Bool.or_false, beq_iff_eq]; omega
    have hv := z1g (most := most) (by omega : ¬ n ≤ 1)
    have bB := q5t hm (n - n / 2)
    have a := y3n (most := most) (n / 2) (l.take (l.length / 2)) (nx, c) (by rw [List.length_take]; omega) (by omega)
    have b := y3n (most := most) (n - n / 2) (l.drop (l.length / 2)) (rtT most (l.take (l.length / 2)) (nx, c)).2 (by rw [List.length_drop]; omega) (by omega)
    have a := (show (rtT most (l.take (l.length / 2)) (nx, c)).2.1 = nx + q1k most (n / 2) from a)
    rw [y7d (by omega), q9m (by omega) hcond, ih (n / 2) (by omega) (l.take (l.length / 2)) nx c (by rw [List.length_take]; omega) (by omega) hm (by omega)]
    show y2q most l (rtT most (l.take (l.length / 2)) (nx, c)).1 (q5i most (l.drop (l.length / 2)) ((rtT most (l.take (l.length / 2)) (nx, c)).2.1, false, (rtT most (l.take (l.length / 2)) (nx, c)).2.2)).1 (q5i most (l.drop (l.length / 2)) ((rtT most (l.take (l.length / 2)) (nx, c)).2.1, false, (rtT most (l.take (l.length / 2)) (nx, c)).2.2)).2 = _
    rw [ih (n - n / 2) (by omega) (l.drop (l.length / 2)) _ _ (by rw [List.length_drop]; omega) (by omega) hm (by omega)]
    unfold y2q
    rw [if_neg]
    simp only [Bool.false_or, decide_eq_true_eq]
    show ¬ (rtT most (l.drop (l.length / 2)) (rtT most (l.take (l.length / 2)) (nx, c)).2).2.1 + _ > 65537
    rw [b, a]; omega
theorem k3j {most : Int} : ∀ (n : Nat) (l : List Int) (nx : Int) (c : List (List Int)), l.length = n → 1 ≤ n → 0 ≤ most → nx ≤ 65537 → 65537 < nx + q1k most n → (q5i most l (nx, false, c)).2.2.1 = true := fun n => by
 induction n using Nat.strongRecOn with
 | _ n ih =>
  intro l nx c hl h1 hm hnx hq
  by_cases h : l.length = 1
  · rw [j0a (by omega)] at hq; omega
  · have hcond : ¬ (((l.length : Int) == 1) || (nx, false, c).2.1) = true := by
     show ¬ (((l.length : Int) == 1) || false) = true
     rw [Bool.or_false, beq_iff_eq]; omega
    have hv := z1g (most := most) (by omega : ¬ n ≤ 1)
    have lA : (l.take (l.length / 2)).length = n / 2 := by rw [List.length_take]; omega
    have lB : (l.drop (l.length / 2)).length = n - n / 2 := by rw [List.length_drop]; omega
    rw [q9m (by omega) hcond]
    by_cases hA : nx + q1k most (n / 2) ≤ 65537
    · have a := y3n (most := most) (n / 2) (l.take (l.length / 2)) (nx, c) lA (by omega)
      have a := (show (rtT most (l.take (l.length / 2)) (nx, c)).2.1 = nx + q1k most (n / 2) from a)
      rw [rt_eq (n / 2) (l.take (l.length / 2)) nx c lA (by omega) hm hA]
      show (y2q most l (rtT most (l.take (l.length / 2)) (nx, c)).1 (q5i most (l.drop (l.length / 2)) ((rtT most (l.take (l.length / 2)) (nx, c)).2.1, false, (rtT most (l.take (l.length / 2)) (nx, c)).2.2)).1 (q5i most (l.drop (l.length / 2)) ((rtT most (l.take (l.length / 2)) (nx, c)).2.1, false, (rtT most (l.take (l.length / 2)) (nx, c)).2.2)).2).2.2.1 = true
      by_cases hB : nx + q1k most (n / 2) + q1k most (n - n / 2) ≤ 65537
      · rw [rt_eq (n - n / 2) (l.drop (l.length / 2)) _ _ lB (by omega) hm (by omega)]
        have b := y3n (most := most) (n - n / 2) (l.drop (l.length / 2)) (rtT most (l.take (l.length / 2)) (nx, c)).2 lB (by omega)
        unfold y2q
        rw [if_pos]
        simp only [Bool.false_or, decide_eq_true_eq]
        show (rtT most (l.drop (l.length / 2)) (rtT most (l.take (l.length / 2)) (nx, c)).2).2.1 + _ > 65537
        rw [b, a]; omega
      · have := ih (n - n / 2) (by omega) (l.drop (l.length / 2)) (rtT most (l.take (l.length / 2)) (nx, c)).2.1 (rtT most (l.take (l.length / 2)) (nx, c)).2.2 lB (by omega) hm (by omega) (by omega)
        unfold y2q
        rw [if_pos (by rw [this]; rfl)]
    · have hA1 := ih (n / 2) (by omega) (l.take (l.length / 2)) nx c lA (by omega) hm hnx (by omega)
      have hB1 : (q5i most (l.drop (l.length / 2)) (q5i most (l.take (l.length / 2)) (nx, false, c)).2).2.2.1 = true := by
       rw [q9t (by omega) (by rw [hA1]; simp)]; exact hA1
      unfold y2q
      rw [if_pos (by rw [hB1]; rfl)]
def q4g (most : Int) (l : List Int) (next : Int) : List Int × List (List Int) × Int × Int :=
 if z6k most l next = true then ([], [], 0, 1) else if q9e next l ≠ 0 then ([], [], 0, q9e next l) else if l.length = 0 ∨ most = 0 then ([], [], next, 0)
 else if next + q1k most l.length > 65537 then ([], [], 0, 2) else ((rtT most l (next, [])).1, (rtT most l (next, [])).2.2, (rtT most l (next, [])).2.1, 0)
theorem x9p (most : Int) (l : List Int) (next : Int) : q4g most l next = q1w most l next := by
 unfold q4g
 cases hb : z6k most l next with
 | true => rw [if_pos rfl, z1q hb]
 | false =>
  obtain ⟨hg1, g1, g2, g3, g4, g5⟩ := z9l hb
  have hg := And.intro hg1 (And.intro g1 (And.intro g2 (And.intro g3 (And.intro g4 g5))))
  rw [if_neg (by simp)]
  cases ha : q2v next l with
  | false =>
   have e : q9e next l = 140 := by unfold q9e; rw [ha]; rfl
   rw [if_pos (by rw [e]; decide), e, y1d hg ha]
  | true =>
   have e : q9e next l = 0 := by unfold q9e; rw [ha]; rfl
   rw [if_neg (by rw [e]; simp)]
   by_cases hz : l.length = 0 ∨ most = 0
   · rw [if_pos hz, j4k hg ha (by rw [z4n]; omega)]
   · rw [if_neg hz]
     have hz2 : l.length ≠ 0 ∧ most ≠ 0 := by omega
     by_cases hq : next + q1k most l.length > 65537
     · rw [if_pos hq, z9y hg ha hz2 (k3j l.length l next [] rfl (by omega) g3 g2 hq)]
     · have e2 := rt_eq l.length l next [] rfl (by omega) g3 (by omega)
       have hf : z3f most l next false [] = false := by unfold z3f; rw [e2]
       rw [if_neg hq, j0x hg ha hz2 hf]
       unfold z5u z8s z5v
       rw [e2]
end Go.Proofs.YtkkapbnopmmmjaaGreatDoor.Cn
namespace Go.Proofs.YtkkapbnopmmmjaaGreatDoor.Cn
open Go
theorem x7a {most n : Int} (h : 1 ≤ n) (h1 : ¬ n = 1) : q1k most n.toNat = q1k most (n.tdiv 2).toNat + q1k most (n - n.tdiv 2).toNat + min n most := by
 have hd : n.tdiv 2 = n / 2 := Int.tdiv_eq_ediv_of_nonneg (by omega)
 rw [z1g (by omega : ¬ n.toNat ≤ 1), hd, show (n / 2).toNat = n.toNat / 2 by omega, show (n - n / 2).toNat = n.toNat - n.toNat / 2 by omega, show ((n.toNat : Nat) : Int) = n by omega]
section
variable {a b o : List Int} {i k : Int} {C : List (List Int)}
abbrev upE (a b : List Int) (i k : Int) : List Int := bif (decide (k > 0)) then ((bif (decide (i > 0)) then ([] ++ [(-(a.getD ((i - 1).toNat) 0))]) else []) ++ [(-(b.getD ((k - 1).toNat) 0))]) else (bif (decide (i > 0)) then ([] ++ [(-(a.getD ((i - 1).toNat) 0))]) else [])
abbrev dnE (a b : List Int) (i k : Int) : List Int := bif (decide (k < (b.length : Int))) then ((bif (decide (i < (a.length : Int))) then ([] ++ [(a.getD i.toNat 0)]) else []) ++ [(b.getD k.toNat 0)]) else (bif (decide (i < (a.length : Int))) then ([] ++ [(a.getD i.toNat 0)]) else [])
theorem k1e {l : List Int} {n : Int} (h0 : 0 ≤ n) (h1 : n < l.length) : at1 l n = [l.getD n.toNat 0] := by
 unfold at1; rw [if_neg (by omega)]
theorem k6p {w next : Int} (h : (!(decide (w < 1) || decide (w ≥ next))) = true) : 1 ≤ w ∧ w < next := by
 simp only [Bool.not_eq_true', Bool.or_eq_false_iff, decide_eq_false_iff_not] at h
 omega
theorem bl1 (c : Bool) (x : Int) : (bif c then ([] ++ [x]) else ([] : List Int)).length ≤ 1 := by cases c <;> simp
theorem an2 {x y : Int} (h : (decide (x > 0) && decide (x ≤ y)) = true) : x > 0 ∧ x ≤ y := by
 simpa only [Bool.and_eq_true, decide_eq_true_eq] using h
theorem k7c (hi : 0 ≤ i ∧ i ≤ a.length) (hk : 0 ≤ k ∧ k ≤ b.length) : upE a b i k = q6f (at1 a (((i.toNat : Nat) : Int) - 1)) ++ q6f (at1 b (((k.toNat : Nat) : Int) - 1)) := by
 have ha : (bif (decide (i > 0)) then ([] ++ [(-(a.getD ((i - 1).toNat) 0))]) else []) = q6f (at1 a (((i.toNat : Nat) : Int) - 1)) := by
  rw [show ((i.toNat : Nat) : Int) = i by omega]
  by_cases h : i > 0
  · rw [decide_eq_true h, k1e (by omega) (by omega)]; rfl
  · rw [decide_eq_false h, j3h (.inl (by omega))]; rfl
 have hb : (bif (decide (k > 0)) then [(-(b.getD ((k - 1).toNat) 0))] else []) = q6f (at1 b (((k.toNat : Nat) : Int) - 1)) := by
  rw [show ((k.toNat : Nat) : Int) = k by omega]
  by_cases h : k > 0
  · rw [decide_eq_true h, k1e (by omega) (by omega)]; rfl
  · rw [decide_eq_false h, j3h (.inl (by omega))]; rfl
 unfold upE
 rw [← ha, ← hb]
 cases decide (k > 0) <;> simp
theorem k7b (hi : 0 ≤ i ∧ i ≤ a.length) (hk : 0 ≤ k ∧ k ≤ b.length) : dnE a b i k = at1 a ((i.toNat : Nat) : Int) ++ at1 b ((k.toNat : Nat) : Int) := by
 have ha : (bif (decide (i < (a.length : Int))) then ([] ++ [(a.getD i.toNat 0)]) else []) = at1 a ((i.toNat : Nat) : Int) := by
  rw [show ((i.toNat : Nat) : Int) = i by omega]
  by_cases h : i < (a.length : Int)
  · rw [decide_eq_true h, k1e (by omega) h]; rfl
  · rw [decide_eq_false h, j3h (.inr (by omega))]; rfl
 have hb : (bif (decide (k < (b.length : Int))) then [(b.getD k.toNat 0)] else []) = at1 b ((k.toNat : Nat) : Int) := by
  rw [show ((k.toNat : Nat) : Int) = k by omega]
  by_cases h : k < (b.length : Int)
  · rw [decide_eq_true h, k1e (by omega) h]; rfl
  · rw [decide_eq_false h, j3h (.inr (by omega))]; rfl
 unfold dnE
 rw [← ha, ← hb]
 cases decide (k < (b.length : Int)) <;> simp
theorem k6f (hi : 0 ≤ i ∧ i ≤ a.length) (hk : 0 ≤ k ∧ k ≤ b.length) (h : (decide (i + k > 0) && decide (i + k ≤ (o.length : Int))) = true) : [upE a b i k ++ [(o.getD (((i + k) - 1).toNat) 0)]] = up1 a b o i.toNat k.toNat := by
 simp only [Bool.and_eq_true, decide_eq_true_eq] at h
 rw [x5n (by omega) (by omega), k7c hi hk, show (((i.toNat : Nat) : Int) + ((k.toNat : Nat) : Int) - 1) = i + k - 1 by omega, k1e (l := o) (by omega) (by omega)]
theorem k7k (hi : 0 ≤ i) (hk : 0 ≤ k) (h : (decide (i + k > 0) && decide (i + k ≤ (o.length : Int))) = false) : up1 a b o i.toNat k.toNat = [] := by
 simp only [Bool.and_eq_false_iff, decide_eq_false_iff_not] at h
 exact k2c (by omega)
theorem k4t (hi : 0 ≤ i ∧ i ≤ a.length) (hk : 0 ≤ k ∧ k ≤ b.length) (h : i + k < (o.length : Int)) : [dnE a b i k ++ [(-(o.getD ((i + k).toNat) 0))]] = dn1 a b o i.toNat k.toNat := by
 rw [x6a (by omega), k7b hi hk, show (((i.toNat : Nat) : Int) + ((k.toNat : Nat) : Int)) = i + k by omega, k1e (l := o) (by omega) h]; rfl
theorem k3s (hi : 0 ≤ i) (hk : 0 ≤ k) (h : ¬ i + k < (o.length : Int)) : dn1 a b o i.toNat k.toNat = [] := k2f (by omega)
theorem x8i : (upE a b i k).length ≤ 2 := by unfold upE; cases decide (k > 0) <;> cases decide (i > 0) <;> simp
theorem x8u : (dnE a b i k).length ≤ 2 := by unfold dnE; cases decide (k < (b.length : Int)) <;> cases decide (i < (a.length : Int)) <;> simp
theorem x3g {u d : List (List Int)} (hu : u = up1 a b o i.toNat k.toNat) (hd : d = dn1 a b o i.toNat k.toNat) : (C ++ u) ++ d = C ++ up1 a b o i.toNat k.toNat ++ dn1 a b o i.toNat k.toNat := by rw [hu, hd]
theorem x2a {u : List (List Int)} (hu : u = up1 a b o i.toNat k.toNat) (hd : dn1 a b o i.toNat k.toNat = []) : C ++ u = C ++ up1 a b o i.toNat k.toNat ++ dn1 a b o i.toNat k.toNat := by rw [hu, hd, List.append_nil]
theorem x3j {d : List (List Int)} (hu : up1 a b o i.toNat k.toNat = []) (hd : d = dn1 a b o i.toNat k.toNat) : C ++ d = C ++ up1 a b o i.toNat k.toNat ++ dn1 a b o i.toNat k.toNat := by rw [hu, hd, List.append_nil]
theorem x4l (hu : up1 a b o i.toNat k.toNat = []) (hd : dn1 a b o i.toNat k.toNat = []) : C = C ++ up1 a b o i.toNat k.toNat ++ dn1 a b o i.toNat k.toNat := by rw [hu, hd, List.append_nil, List.append_nil]
end
abbrev lA (l : List Int) : List Int := (l.take ((l.length : Int).tdiv 2).toNat).drop 0
abbrev lB (l : List Int) : List Int := (l.take l.length).drop ((l.length : Int).tdiv 2).toNat
abbrev rA (most : Int) (l : List Int) (nx : Int) (C : List (List Int)) : List Int × RSt := rtT most (lA l) (nx, C)
abbrev rB (most : Int) (l : List Int) (nx : Int) (C : List (List Int)) : List Int × RSt := rtT most (lB l) ((rA most l nx C).2.1, (rA most l nx C).2.2)
section
variable {most nx : Int} {l : List Int} {C : List (List Int)}
theorem k2x (h : 2 ≤ l.length) : (lA l).length = l.length / 2 := by unfold lA; rw [j6e, List.length_take]; omega
theorem k2d (h : 2 ≤ l.length) : (lB l).length = l.length - l.length / 2 := by unfold lB; rw [j5m, List.length_drop]
theorem y6a (h : 2 ≤ l.length) : rtT most l (nx, C) = (q0f (rB most l nx C).2.1 (min (l.length : Int) most).toNat, ((rB most l nx C).2.1 + min (l.length : Int) most, (rB most l nx C).2.2 ++ q3c (rA most l nx C).1 (rB most l nx C).1 (q0f (rB most l nx C).2.1 (min (l.length : Int) most).toNat) ((rA most l nx C).1.length + 1))) := by
 rw [y7d h]
 unfold rB rA lA lB
 rw [j6e, j5m]
theorem k3w (hm : 0 ≤ most) : ∀ (n : Nat) (l : List Int) (s : RSt), l.length = n → 1 ≤ n → 1 ≤ s.1 → s.1 + q1k most n ≤ 65537 → (∀ x ∈ l, -65537 ≤ x ∧ x ≤ 65537) →
 (rtT most l s).1.length ≤ n ∧ (∀ x ∈ (rtT most l s).1, -65537 ≤ x ∧ x ≤ 65537) ∧ (rtT most l s).2.2.length ≤ s.2.length + 8 * (n * n) := fun n l s hl h1 hs hq hx => by
 obtain ⟨nx, c⟩ := s
 have h9 := q5t hm n
 have e := rt_eq n l nx c hl h1 hm hq
 have h := z8e most hm n l (nx, false, c) hl h1 hs (by show nx ≤ 65537; simp only at hq; omega) hx
 rw [e] at h
 exact ⟨h.1, h.2.1, h.2.2.2.2⟩
end
theorem j9x {l : List Int} (h : l.length = 1) : [l.getD 0 0] = l := by
 match l, h with
 | [x], _ => rfl
theorem j3l {n : Int} {i : Nat} : q0f n i ++ [n + (i : Int)] = q0f n (i + 1) := by
 unfold q0f; rw [List.range_succ, List.map_append]; rfl
theorem k9a {a b o : List Int} {X : List (List Int)} {j k : Nat} : ((X ++ q4k a b o j k) ++ up1 a b o ((j : Int)).toNat ((k : Int)).toNat) ++ dn1 a b o ((j : Int)).toNat ((k : Int)).toNat = X ++ q4k a b o j (k + 1) := by
 rw [Int.toNat_natCast, Int.toNat_natCast, ← z9f]; simp
theorem k4r {i : Nat} {l : List Int} {most : Int} (h : (decide ((i : Int) < (l.length : Int)) && decide ((i : Int) < most)) = true) : i < (min (l.length : Int) most).toNat := by
 simp only [Bool.and_eq_true, decide_eq_true_eq] at h
 omega
theorem x6l {i : Nat} {l : List Int} {most : Int} (hI : i ≤ (min (l.length : Int) most).toNat) (h : (decide ((i : Int) < (l.length : Int)) && decide ((i : Int) < most)) = false) (hm : 0 ≤ most := by omega) : min (l.length : Int) most = (i : Int) := by
 simp only [Bool.and_eq_false_iff, decide_eq_false_iff_not] at h
 omega
theorem x8s {n : Nat} (h : n ≤ 4096) : (n : Int) * n ≤ 16777216 := by
 have := Nat.mul_le_mul h h
 have e : ((n * n : Nat) : Int) = (n : Int) * n := by push_cast; rfl
 omega
theorem y5i {most nx : Int} {l : List Int} {C : List (List Int)} (hm : 0 ≤ most) (h2 : 2 ≤ l.length) (hl2 : l.length ≤ 4096) (hn : 1 ≤ nx) (hq : nx + q1k most l.length ≤ 65537) (hx : ∀ x ∈ l, -65537 ≤ x ∧ x ≤ 65537) (hC : C.length + 8 * (l.length * l.length) ≤ 300000000) :
 ((1 ≤ (lA l).length ∧ (lA l).length ≤ 4096) ∧ (∀ x ∈ lA l, -65537 ≤ x ∧ x ≤ 65537) ∧ (lA l).length < l.length ∧ nx + q1k most (lA l).length ≤ 65537 ∧ C.length + 8 * ((lA l).length * (lA l).length) ≤ 300000000) ∧
 ((1 ≤ (lB l).length ∧ (lB l).length ≤ 4096) ∧ (∀ x ∈ lB l, -65537 ≤ x ∧ x ≤ 65537) ∧ (lB l).length < l.length ∧ 1 ≤ (rA most l nx C).2.1 ∧ (rA most l nx C).2.1 + q1k most (lB l).length ≤ 65537 ∧ (rA most l nx C).2.2.length + 8 * ((lB l).length * (lB l).length) ≤ 300000000) ∧
 ((rA most l nx C).1.length ≤ 4096 ∧ (∀ x ∈ (rA most l nx C).1, -65537 ≤ x ∧ x ≤ 65537) ∧ (rA most l nx C).2.2.length ≤ 300000000) ∧
 ((rB most l nx C).1.length ≤ 4096 ∧ (∀ x ∈ (rB most l nx C).1, -65537 ≤ x ∧ x ≤ 65537) ∧ (rB most l nx C).2.2.length ≤ 300000000) ∧
 (1 ≤ (rB most l nx C).2.1 ∧ (rB most l nx C).2.1 + min (l.length : Int) most ≤ 65537) := by
 have eA := k2x h2
 have eB := k2d h2
 have hv := z1g (most := most) (by omega : ¬ l.length ≤ 1)
 have bA := q5t hm (l.length / 2)
 have bB := q5t hm (l.length - l.length / 2)
 have xA : ∀ x ∈ lA l, -65537 ≤ x ∧ x ≤ 65537 := fun x hxm => hx x (List.mem_of_mem_take (List.mem_of_mem_drop hxm))
 have xB : ∀ x ∈ lB l, -65537 ≤ x ∧ x ≤ 65537 := fun x hxm => hx x (List.mem_of_mem_take (List.mem_of_mem_drop hxm))
 have nA := y3n (most := most) (l.length / 2) (lA l) (nx, C) eA (by omega)
 have nA : (rA most l nx C).2.1 = nx + q1k most (l.length / 2) := nA
 have dA := k3w hm (l.length / 2) (lA l) (nx, C) eA (by omega) hn (by show nx + _ ≤ _; omega) xA
 have nB := y3n (most := most) (l.length - l.length / 2) (lB l) ((rA most l nx C).2.1, (rA most l nx C).2.2) eB (by omega)
 have nB : (rB most l nx C).2.1 = (rA most l nx C).2.1 + q1k most (l.length - l.length / 2) := nB
 have dB := k3w hm (l.length - l.length / 2) (lB l) ((rA most l nx C).2.1, (rA most l nx C).2.2) eB (by omega) (by show 1 ≤ (rA most l nx C).2.1; omega) (by show (rA most l nx C).2.1 + _ ≤ _; omega) xB
 obtain ⟨dA1, dA2, dA3⟩ := dA
 obtain ⟨dB1, dB2, dB3⟩ := dB
 have dA1 : (rA most l nx C).1.length ≤ l.length / 2 := dA1
 have dA3 : (rA most l nx C).2.2.length ≤ C.length + 8 * ((l.length / 2) * (l.length / 2)) := dA3
 have dB1 : (rB most l nx C).1.length ≤ l.length - l.length / 2 := dB1
 have dB3 : (rB most l nx C).2.2.length ≤ (rA most l nx C).2.2.length + 8 * ((l.length - l.length / 2) * (l.length - l.length / 2)) := dB3
 have hsq : (l.length / 2) * (l.length / 2) + (l.length - l.length / 2) * (l.length - l.length / 2) ≤ l.length * l.length := by
  have hn9 : l.length = l.length / 2 + (l.length - l.length / 2) := by omega
  generalize l.length / 2 = a at *
  generalize l.length - a = b at *
  rw [hn9, Nat.add_mul, Nat.mul_add, Nat.mul_add]
  have := Nat.zero_le (a * b)
  have := Nat.zero_le (b * a)
  omega
 rw [eA, eB]
 refine ⟨⟨⟨by omega, by omega⟩, xA, by omega, by omega, by omega⟩, ⟨⟨by omega, by omega⟩, xB, by omega, by omega, by omega, by omega⟩, ⟨by omega, dA2, by omega⟩, ⟨by omega, dB2, by omega⟩, by omega, by omega⟩
section
variable {most next : Int} {l : List Int}
theorem k4z : ((((decide (next < 1) || decide (next > 65537)) || decide (most < 0)) || decide (most > 1099511627776)) || decide ((l.length : Int) > 4096)) = z6k most l next := by
 rw [Bool.eq_iff_iff, y1u]
 simp only [Bool.or_eq_true, decide_eq_true_eq]
 omega
theorem k4m (h : ((((decide (next < 1) || decide (next > 65537)) || decide (most < 0)) || decide (most > 1099511627776)) || decide ((l.length : Int) > 4096)) = true) : q4g most l next = ([], [], 0, 1) := if_pos (by rw [← k4z]; exact h)
theorem k7f (h : ((((decide (next < 1) || decide (next > 65537)) || decide (most < 0)) || decide (most > 1099511627776)) || decide ((l.length : Int) > 4096)) = false) : ¬ z6k most l next = true ∧ 1 ≤ next ∧ next ≤ 65537 ∧ 0 ≤ most ∧ most ≤ 1099511627776 ∧ l.length ≤ 4096 := z9l (by rw [← k4z]; exact h)
theorem k4g (h : ¬ z6k most l next = true) (h2 : q9e next l ≠ 0) : q4g most l next = ([], [], 0, q9e next l) := by unfold q4g; rw [if_neg h, if_pos h2]
theorem k1v : (((l.length : Int) == 0) || (most == 0)) = true ↔ l.length = 0 ∨ most = 0 := by
 simp only [Bool.or_eq_true, beq_iff_eq]; omega
theorem k7j (h : (((l.length : Int) == 0) || (most == 0)) = false) : ¬ (l.length = 0 ∨ most = 0) := fun q => by rw [k1v.2 q] at h; cases h
theorem k4h (h : ¬ z6k most l next = true) (h2 : q9e next l = 0) (h3 : l.length = 0 ∨ most = 0) : q4g most l next = ([], [], next, 0) := by unfold q4g; rw [if_neg h, if_neg (by omega), if_pos h3]
theorem k5i (h : ¬ z6k most l next = true) (h2 : q9e next l = 0) (h3 : ¬ (l.length = 0 ∨ most = 0)) (h4 : next + q1k most l.length > 65537) : q4g most l next = ([], [], 0, 2) := by unfold q4g; rw [if_neg h, if_neg (by omega), if_neg h3, if_pos h4]
theorem x8z (h : ¬ z6k most l next = true) (h2 : q9e next l = 0) (h3 : ¬ (l.length = 0 ∨ most = 0)) (h4 : next + q1k most l.length ≤ 65537) : q4g most l next = ((rtT most l (next, [])).1, (rtT most l (next, [])).2.2, (rtT most l (next, [])).2.1, 0) := by unfold q4g; rw [if_neg h, if_neg (by omega), if_neg h3, if_neg (by omega)]
end
end Go.Proofs.YtkkapbnopmmmjaaGreatDoor.Cn
namespace Go.Proofs.YtkkapbnopmmmjaaGreatDoor.Cn
open Go
section
variable {next k : Int} {l : List Int}
theorem z7w (h : 1 ≤ next ∧ next ≤ 65537 ∧ l.length ≤ 4096) : q1c next l = q9e next l := by unfold q1c; rw [if_neg (by omega)]; rfl
theorem x8p (h : ((decide (next < 1) || decide (next > 65537)) || decide ((l.length : Int) > 4096)) = true) : q1c next l = 1 := x5h h
theorem x2c (h : q1c next l = 0) : ∀ i, i < l.length → l.getD i 0 ≠ 0 ∧ -next < l.getD i 0 ∧ l.getD i 0 < next := by
 obtain ⟨h1, h2, h3⟩ := z4r h
 rw [z7w ⟨h1, h2, h3⟩] at h
 unfold q9e at h
 split at h
 · rename_i ha
   intro i hi
   have := x6j.1 ha i hi
   omega
 · cases h
theorem x0o (hk : 0 ≤ k) : ∀ i : Nat, (i : Int) ≤ k → 2 * ((cAb k next i).2.2 - next) = (i : Int) * ((i : Int) + 1)
 | 0, _ => by show 2 * (next - next) = _; simp
 | i + 1, h => by
  have ih := x0o hk i (by omega)
  have e : (cAb k next (i + 1)).2.2 = (cAb k next i).2.2 + min ((i : Int) + 1) k := rfl
  rw [e]
  have hm : min ((i : Int) + 1) k = (i : Int) + 1 := by omega
  rw [hm]
  push_cast
  have e2 : ((i : Int) + 1) * ((i : Int) + 1 + 1) = (i : Int) * ((i : Int) + 1) + 2 * ((i : Int) + 1) := by
   rw [Int.mul_comm, Int.add_mul, Int.add_mul]; omega
  rw [e2]; omega
theorem y9l (hk : 0 ≤ k) (m : Nat) : ∀ d : Nat, (m : Int) = k → 2 * ((cAb k next (m + d)).2.2 - next) = (m : Int) * ((m : Int) + 1) + 2 * ((m : Int) * d)
 | 0, hm => by
  have := x0o (next := next) hk m (by omega)
  simpa using this
 | d + 1, hm => by
  have ih := y9l hk m d hm
  have e : (cAb k next (m + (d + 1))).2.2 = (cAb k next (m + d)).2.2 + min (((m + d : Nat) : Int) + 1) k := rfl
  rw [e]
  have hq : min (((m + d : Nat) : Int) + 1) k = (m : Int) := by omega
  rw [hq]
  have e3 : (m : Int) * (((d + 1 : Nat) : Int)) = (m : Int) * d + m := by push_cast; rw [Int.mul_add]; omega
  rw [e3]; omega
theorem x7m (h1 : 0 < k) (h2 : k ≤ (l.length : Int)) : (cAb k next l.length).2.2 = next + ((k * (k - 1)).tdiv 2 + k * ((l.length : Int) - k + 1)) := by
 obtain ⟨m, rfl⟩ : ∃ m : Nat, k = (m : Int) := ⟨k.toNat, by omega⟩
 obtain ⟨d, hd⟩ : ∃ d : Nat, l.length = m + d := ⟨l.length - m, by omega⟩
 have h := y9l (next := next) (show 0 ≤ (m : Int) by omega) m d rfl
 rw [← hd] at h
 have e1 : (l.length : Int) - (m : Int) + 1 = (d : Int) + 1 := by omega
 rw [e1]
 have a1 : 0 ≤ (m : Int) * ((m : Int) - 1) := Int.mul_nonneg (by omega) (by omega)
 rw [Int.tdiv_eq_ediv_of_nonneg a1]
 have e2 : (m : Int) * ((m : Int) + 1) = (m : Int) * ((m : Int) - 1) + 2 * (m : Int) := by rw [Int.mul_add, Int.mul_sub]; omega
 have e3 : (m : Int) * ((d : Int) + 1) = (m : Int) * d + m := by rw [Int.mul_add]; omega
 have e4 : ((m : Int) * ((m : Int) - 1)) % 2 = 0 := by
  have hmm : (m : Int) % 2 = 0 ∨ (m : Int) % 2 = 1 := by omega
  rcases hmm with h0 | h0
  · rw [Int.mul_emod, h0]; simp
  · rw [Int.mul_emod, show ((m : Int) - 1) % 2 = 0 by omega]; simp
 rw [e3]
 rw [e2] at h
 clear e2 e3 a1
 generalize (m : Int) * ((m : Int) - 1) = q at *
 generalize (m : Int) * (d : Int) = r at *
 omega
theorem k3u (hk : 1 ≤ k) : ∀ i : Nat, (cAb k next i).2.1 = min (i : Int) k
 | 0 => by show (0 : Int) = _; simp; omega
 | i + 1 => by show min ((i : Int) + 1) k = _; push_cast; rfl
theorem k2u (hk : 1 ≤ k) (hn : 1 ≤ next) : ∀ i : Nat, 1 ≤ i → 1 ≤ (cAb k next i).1
 | 0, h => by omega
 | i + 1, _ => by
  have := y1j (next := next) (k := k) (by omega) i
  show 1 ≤ (cAb k next i).2.2
  omega
theorem y9w (b m ab am x : Int) : ∀ j : Nat, 1 ≤ j → (q4x b m ab am x j).length = 2 * j - 1
 | 0, h => by omega
 | 1, _ => by rw [q5k]; rfl
 | j + 2, _ => by
  rw [q5k, if_pos (by push_cast; omega)]
  have := y9w b m ab am x (j + 1) (by omega)
  simp only [List.length_append, List.length_cons, List.length_nil]
  omega
theorem y7j (hk : 1 ≤ k) : ∀ i : Nat, ((q3l l k next i).length : Int) = 2 * ((cAb k next i).2.2 - next) - i
 | 0 => by show (0 : Int) = 2 * (next - next) - 0; omega
 | i + 1 => by
  have ih := y7j hk i
  have hr := y9w (cAb k next i).2.2 (min ((i : Int) + 1) k) (cAb k next i).1 (cAb k next i).2.1 (l.getD i 0) (min ((i : Int) + 1) k).toNat (by omega)
  have e : (cAb k next (i + 1)).2.2 = (cAb k next i).2.2 + min ((i : Int) + 1) k := rfl
  rw [q3l, List.length_append, e]
  push_cast
  omega
theorem j6y (h1 : ¬ k ≤ 0) (h2 : ¬ k > (l.length : Int)) : ((decide (next + ((k * (k - 1)).tdiv 2 + k * ((l.length : Int) - k + 1)) - 1 > 65536)) || decide (2 * ((k * (k - 1)).tdiv 2 + k * ((l.length : Int) - k + 1)) - (l.length : Int) + 1 > 65536)) =
 (decide ((cAb k next l.length).2.2 - 1 > 65536) || decide (((q3l l k next l.length).length : Int) + 1 > 65536)) := by
 have e1 := x7m (next := next) (l := l) (show 0 < k by omega) (by omega)
 have e2 := y7j (k := k) (l := l) (next := next) (by omega) l.length
 rw [e2, e1]
 congr 1
 rw [decide_eq_decide]; omega
theorem x2p (h0 : q1c next l = 0) (h1 : ¬ k ≤ 0) (h2 : ¬ k > (l.length : Int)) (h3 : (cAb k next l.length).2.2 - 1 > 65536) : q0i l k next = ([], 0, 2) := j4j h0 h1 h2 (by rw [j6y h1 h2, decide_eq_true h3]; rfl)
theorem x3f (h0 : q1c next l = 0) (h1 : ¬ k ≤ 0) (h2 : ¬ k > (l.length : Int)) (h3 : ((q3l l k next l.length).length : Int) + 1 > 65536) : q0i l k next = ([], 0, 2) := j4j h0 h1 h2 (by rw [j6y h1 h2, decide_eq_true h3, Bool.or_true])
theorem k2p (h0 : q1c next l = 0) (h1 : ¬ k ≤ 0) (h2 : ¬ k > (l.length : Int)) (h3 : ¬ (cAb k next l.length).2.2 - 1 > 65536) (h4 : ¬ ((q3l l k next l.length).length : Int) + 1 > 65536) :
 q0i l k next = (q3l l k next l.length ++ [nz [q2f (cAb k next l.length).1 (cAb k next l.length).2.1 k]], (cAb k next l.length).2.2, 0) := x4m h0 h1 h2 (by rw [j6y h1 h2, decide_eq_false h3, decide_eq_false h4]; rfl)
theorem j9p {l : List Int} : nz (0 :: l) = nz l := by unfold nz; rw [List.filter_cons_of_neg (by simp)]
theorem q4e {x : Int} {l : List Int} (h : x ≠ 0) : nz (x :: l) = x :: nz l := by unfold nz; rw [List.filter_cons_of_pos (by simpa using h)]
end
section
variable {b m ab am x : Int} {j : Nat}
theorem k1c (hj : (j : Int) + 1 ≤ m) : q2f b m ((j : Int) + 1) = b + ((j : Int) + 1) - 1 := by unfold q2f; rw [if_neg (by omega)]
theorem j2m (hb : 1 ≤ b) (hj : (j : Int) + 1 ≤ m) (hab : 1 ≤ ab) (ha : (j : Int) + 1 ≤ am) (hx : x ≠ 0) : (([(-(b + ((j : Int) + 1) - 1))] ++ [ab + ((j : Int) + 1) - 1]) ++ [x]) = nz [-(q2f b m ((j : Int) + 1)), q2f ab am ((j : Int) + 1), x] := by
 rw [k1c hj, k1c ha, q4e (by omega), q4e (by omega), q4e hx]; rfl
theorem j4v (hb : 1 ≤ b) (hj : (j : Int) + 1 ≤ m) (ha : ¬ (j : Int) + 1 ≤ am) (hx : x ≠ 0) : ([(-(b + ((j : Int) + 1) - 1))] ++ [x]) = nz [-(q2f b m ((j : Int) + 1)), q2f ab am ((j : Int) + 1), x] := by
 have e : q2f ab am ((j : Int) + 1) = 0 := by unfold q2f; rw [if_pos (by omega)]
 rw [k1c hj, e, q4e (by omega), j9p, q4e hx]; rfl
theorem k9b (hj : (j : Int) + 1 ≥ 2) (ha : (j : Int) ≤ am) : q2f ab am ((j : Int) + 1 - 1) = ab + ((j : Int) + 1) - 2 := by unfold q2f; rw [if_neg (by omega)]; omega
theorem x1t (hb : 1 ≤ b) (hj : (j : Int) + 1 ≤ m) (hab : 1 ≤ ab) (ha : (j : Int) + 1 ≤ am) (h2 : (j : Int) + 1 ≥ 2) : (([(-(b + ((j : Int) + 1) - 1))] ++ [ab + ((j : Int) + 1) - 1]) ++ [ab + ((j : Int) + 1) - 2]) = nz [-(q2f b m ((j : Int) + 1)), q2f ab am ((j : Int) + 1), q2f ab am ((j : Int) + 1 - 1)] := by
 rw [k9b h2 (by omega), k1c hj, k1c ha, q4e (by omega), q4e (by omega), q4e (by omega)]; rfl
theorem x1v (hb : 1 ≤ b) (hj : (j : Int) + 1 ≤ m) (hab : 1 ≤ ab) (ha : ¬ (j : Int) + 1 ≤ am) (ha2 : (j : Int) ≤ am) (h2 : (j : Int) + 1 ≥ 2) : ([(-(b + ((j : Int) + 1) - 1))] ++ [ab + ((j : Int) + 1) - 2]) = nz [-(q2f b m ((j : Int) + 1)), q2f ab am ((j : Int) + 1), q2f ab am ((j : Int) + 1 - 1)] := by
 have e : q2f ab am ((j : Int) + 1) = 0 := by unfold q2f; rw [if_pos (by omega)]
 rw [k9b h2 ha2, k1c hj, e, q4e (by omega), j9p, q4e (by omega)]; rfl
theorem j2l {X : List (List Int)} {ca cb : List Int} (h : (j : Int) + 1 ≥ 2) (ha : ca = nz [-(q2f b m ((j : Int) + 1)), q2f ab am ((j : Int) + 1), x]) (hb : cb = nz [-(q2f b m ((j : Int) + 1)), q2f ab am ((j : Int) + 1), q2f ab am ((j : Int) + 1 - 1)]) :
 ((X ++ q4x b m ab am x j) ++ [ca]) ++ [cb] = X ++ q4x b m ab am x (j + 1) := by
 rw [q5k, if_pos (by omega), ha, hb]; simp
theorem j3e {X : List (List Int)} {ca : List Int} (h : ¬ (j : Int) + 1 ≥ 2) (ha : ca = nz [-(q2f b m ((j : Int) + 1)), q2f ab am ((j : Int) + 1), x]) : (X ++ q4x b m ab am x j) ++ [ca] = X ++ q4x b m ab am x (j + 1) := by
 rw [q5k, if_neg (by omega), ha]; simp
end
theorem x3m {k next : Int} {l : List Int} (hk : 1 ≤ k) (hk2 : k ≤ (l.length : Int)) (hn : 1 ≤ next) : [(cAb k next l.length).1 + k - 1] = nz [q2f (cAb k next l.length).1 (cAb k next l.length).2.1 k] := by
 have h1 := k2u (next := next) hk hn l.length (by omega)
 have h2 := k3u (next := next) hk l.length
 have e : q2f (cAb k next l.length).1 (cAb k next l.length).2.1 k = (cAb k next l.length).1 + k - 1 := by unfold q2f; rw [if_neg (by omega)]
 rw [e, q4e (by omega)]; rfl
theorem k5c {k next : Int} {i : Nat} : (cAb k next i).2.2 - 1 + min ((i : Int) + 1) k = (cAb k next (i + 1)).2.2 - 1 := by
 show _ = (cAb k next i).2.2 + min ((i : Int) + 1) k - 1
 omega
theorem x9o {l : List Int} {k next : Int} {i j : Nat} (h : (j : Int) = min ((i : Int) + 1) k) : q3l l k next i ++ q4x (cAb k next i).2.2 (min ((i : Int) + 1) k) (cAb k next i).1 (cAb k next i).2.1 (l.getD i 0) j = q3l l k next (i + 1) := by
 rw [q3l, ← h]; rfl
theorem q1f {k next : Int} {l : List Int} {i : Nat} (hi : i = l.length) (hk : 1 ≤ k) (hk2 : k ≤ (l.length : Int)) (hn : 1 ≤ next) : nz [q2f (cAb k next i).1 (cAb k next i).2.1 k] = [(cAb k next i).1 + k - 1] := by
 rw [hi]; exact (x3m hk hk2 hn).symm
end Go.Proofs.YtkkapbnopmmmjaaGreatDoor.Cn
