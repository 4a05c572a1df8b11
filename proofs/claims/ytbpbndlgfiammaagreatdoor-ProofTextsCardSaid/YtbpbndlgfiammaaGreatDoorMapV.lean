/- A map from ints by its keys and values in the order of their coming: look-up, a new key, a value stored anew, the number of keys. Plain lemmas; no condition beyond their own hypotheses. -/
import Derived.Test.YtbpbndlgfiammaaGreatDoorMapI
set_option linter.unusedSimpArgs false
set_option linter.unusedVariables false
set_option linter.unnecessarySimpa false
namespace Go.Proofs.YtbpbndlgfiammaaGreatDoor
open Go.RowKit
def pairV (e : MapEntry) : Value × Value := (e.key, e.val)
def pv (p : Int × Value) : Value × Value := (.int .i64 p.1, p.2)
/-- block m is a map whose keys and values are kvs, each key once -/
def MapV (w : World) (m : Nat) (kvs : List (Int × Value)) : Prop := ∃ es clock, w.heap[m]? = some (.map es clock) ∧ es.toList.map pairV = kvs.map pv ∧ (kvs.map (·.1)).Nodup
def findV (kvs : List (Int × Value)) (k : Int) : Option Value := (kvs.find? fun p => p.1 == k).map (·.2)
theorem pairs_keysV : ∀ {es : List MapEntry} {kvs : List (Int × Value)}, es.map pairV = kvs.map pv → intKeys es
  | [], _, _ => fun e he => by cases he
  | e :: es, [], h => by simp at h
  | e :: es, p :: kvs, h => by
    simp only [List.map_cons, List.cons.injEq] at h
    intro x hx
    rcases List.mem_cons.1 hx with rfl | hx
    · exact ⟨p.1, congrArg Prod.fst h.1⟩
    · exact pairs_keysV h.2 x hx
theorem pairs_lookV : ∀ {es : List MapEntry} {kvs : List (Int × Value)}, es.map pairV = kvs.map pv → ∀ k, lookM es k = findV kvs k
  | [], [], _, k => rfl
  | [], p :: kvs, h, k => by simp at h
  | e :: es, [], h, k => by simp at h
  | e :: es, p :: kvs, h, k => by
    simp only [List.map_cons, List.cons.injEq] at h
    have h1 : e.key = .int .i64 p.1 := congrArg Prod.fst h.1
    have h2 : e.val = p.2 := congrArg Prod.snd h.1
    have ih := pairs_lookV h.2 k
    unfold lookM findV at ih ⊢
    rw [List.find?_cons, List.find?_cons]
    have h3 : keyIs k e = (p.1 == k) := by simp [keyIs, h1]
    rw [h3]
    cases p.1 == k with
    | true => simp [h2]
    | false => exact ih
section
variable {P : Program} {w w' : World} {m : Nat} {kvs : List (Int × Value)}
theorem MapV.mapI (h : MapV w m kvs) : MapI w m (findV kvs) := by
  obtain ⟨es, clock, hb, hp, _⟩ := h
  exact ⟨es, clock, hb, pairs_keysV hp, fun k => pairs_lookV hp k⟩
theorem MapV.lt (h : MapV w m kvs) : m < w.heap.size := by
  obtain ⟨es, clock, hb, _⟩ := h
  exact (Array.getElem?_eq_some_iff.1 hb).1
theorem MapV.keep (h : MapV w m kvs) (hk : w'.heap[m]? = w.heap[m]?) : MapV w' m kvs := by
  obtain ⟨es, clock, hb, h2⟩ := h
  exact ⟨es, clock, hk.trans hb, h2⟩
theorem MapV.made (w : World) : MapV (w.alloc (.map #[] 0)) w.heap.size [] := ⟨#[], 0, heap_alloc_new w _, rfl, List.nodup_nil⟩
theorem MapV.cnt (h : MapV w m kvs) : ∃ es clock, w.heap[m]? = some (.map es clock) ∧ es.size = kvs.length := by
  obtain ⟨es, clock, hb, hp, _⟩ := h
  exact ⟨es, clock, hb, by have := congrArg List.length hp; simpa using this⟩
theorem lookT (t kt et : TypeId) (z : Value) (ht : P.underlying t = some (.map kt et)) (hkt : P.underlying kt = some (.int .i64)) (hz : ∀ w : World, (zeroValue et).run P w = .ok z w) {f : Int → Option Value} (h : MapI w m f) (k : Int) :
    (Instr.lookup t (.map (some m)) (.int .i64 k) true).run P w = .ok (.tuple #[(f k).getD z, .bool (f k).isSome]) w := by
  obtain ⟨es, clock, hb, hk, hf⟩ := h
  have hc := fun em : Bool => run_key (P := P) (w := w) kt hkt em 9999 k
  have hg : (getObj m).run P w = .ok (.map es clock) w := by simp [getObj, Sem.run, hb]
  rcases findNow_spec k .i64 es.toList 0 hk with ⟨j, hj, h1, h2, h3, h4⟩ | ⟨h3, h2, h4⟩
  · rw [← hf k, h4]
    simp [Instr.lookup, run_underlying ht, hg, hc, Instr.findKey, run_underlying hkt, h3]
  · rw [← hf k, h4]
    simp [Instr.lookup, run_underlying ht, hg, hc, Instr.findKey, run_underlying hkt, h3, hz]
/-- a store: at a key that is new, or of the value that already stands there -/
theorem run_updV (t kt et : TypeId) (ht : P.underlying t = some (.map kt et)) (hkt : P.underlying kt = some (.int .i64)) (h : MapV w m kvs) (k : Int) (v : Value) (hv : findV kvs k = none ∨ findV kvs k = some v) :
    ∃ o : Obj, (Instr.mapUpdate t (.map (some m)) (.int .i64 k) v).run P w = .ok () { w with heap := w.heap.setIfInBounds m o } ∧ MapV { w with heap := w.heap.setIfInBounds m o } m (if findV kvs k = none then kvs ++ [(k, v)] else kvs) := by
  obtain ⟨es, clock, hb, hp, hnd⟩ := h
  have hk := pairs_keysV hp
  have hc := fun em : Bool => run_key (P := P) (w := w) kt hkt em 9999 k
  have hg : (getObj m).run P w = .ok (.map es clock) w := by simp [getObj, Sem.run, hb]
  have hs : ∀ o : Obj, (setObj m o).run P w = .ok () { w with heap := w.heap.setIfInBounds m o } := fun o => by simp [setObj, Sem.run, hb]
  have hlt : m < w.heap.size := (Array.getElem?_eq_some_iff.1 hb).1
  have hlook := pairs_lookV hp k
  rcases findNow_spec k .i64 es.toList 0 hk with ⟨j, hj, h1, h2, h3, h4⟩ | ⟨h3, h2, h4⟩
  · have hj' : j < es.size := by simpa using hj
    have hkey : ((es[j]?).map (·.key)).getD (.int .i64 k) = .int .i64 k := by
      rw [Array.getElem?_eq_getElem hj']
      simpa using h1
    have hfv : findV kvs k = some es.toList[j].val := hlook.symm.trans h4
    have hval : es.toList[j].val = v := by
      rcases hv with hv | hv
      · rw [hv] at hfv; cases hfv
      · rw [hv] at hfv; exact (Option.some.inj hfv).symm
    refine ⟨.map (es.modify j fun e => { e with key := .int .i64 k, val := v }) clock, ?_, ?_⟩
    · simp [Instr.mapUpdate, run_underlying ht, hg, hc, Instr.findKey, run_underlying hkt, h3, hkey, Instr.keyThatStays, Instr.sameBits, hs]
    · rw [if_neg (by rw [hfv]; exact Option.some_ne_none _)]
      refine ⟨es.modify j fun e => { e with key := .int .i64 k, val := v }, clock, by simp [hlt], ?_, hnd⟩
      rw [← hp, Array.toList_modify]
      apply List.ext_getElem
      · simp
      · intro i a b
        rw [List.getElem_map, List.getElem_map, List.getElem_modify]
        split
        · rename_i hji
          subst hji
          unfold pairV
          rw [h1, hval]
        · rfl
  · have hfv : findV kvs k = none := hlook.symm.trans h4
    refine ⟨.map (es.push { key := .int .i64 k, val := v, born := clock }) (clock + 1), ?_, ?_⟩
    · simp [Instr.mapUpdate, run_underlying ht, hg, hc, Instr.findKey, run_underlying hkt, h3, hs]
    · rw [if_pos hfv]
      refine ⟨es.push { key := .int .i64 k, val := v, born := clock }, clock + 1, by simp [hlt], ?_, ?_⟩
      · rw [Array.toList_push, List.map_append, List.map_append, hp]
        rfl
      · rw [List.map_append, List.nodup_append]
        refine ⟨hnd, by simp, fun x hx y hy => ?_⟩
        rw [List.map_singleton, List.mem_singleton] at hy
        subst hy
        rintro rfl
        obtain ⟨p, hp1, hp2⟩ := List.mem_map.1 hx
        unfold findV at hfv
        rw [Option.map_eq_none_iff, List.find?_eq_none] at hfv
        exact hfv p hp1 (by simpa using hp2)
/-- keys that all have the value true -/
def setV (ks : List Int) : List (Int × Value) := ks.map fun k => (k, .bool true)
def addK (ks : List Int) (k : Int) : List Int := bif ks.contains k then ks else ks ++ [k]
theorem findV_set : ∀ (ks : List Int) (k : Int), findV (setV ks) k = if ks.contains k then some (.bool true) else none
  | [], k => rfl
  | a :: ks, k => by
    have ih := findV_set ks k
    unfold findV setV at ih ⊢
    rw [List.map_cons, List.find?_cons]
    by_cases h : a = k
    · subst h; simp
    · have h1 : (a == k) = false := by simpa using h
      have h2 : (k == a) = false := by simpa using fun e : k = a => h e.symm
      simp only [h1, List.contains_cons, h2, Bool.false_or]
      exact ih
theorem addK_mem {ks : List Int} {k x : Int} : x ∈ addK ks k ↔ x ∈ ks ∨ x = k := by
  unfold addK
  cases h : ks.contains k with
  | true =>
    have hk : k ∈ ks := List.contains_iff_mem.1 h
    exact ⟨fun h => .inl h, fun h => h.elim id (fun e => e ▸ hk)⟩
  | false => simp
theorem addK_contains (ks : List Int) (k x : Int) : (addK ks k).contains x = (ks.contains x || x == k) := by
  rw [Bool.eq_iff_iff, List.contains_iff_mem, addK_mem, Bool.or_eq_true, List.contains_iff_mem, beq_iff_eq]
theorem addK_len (ks : List Int) (k : Int) : (addK ks k).length ≤ ks.length + 1 := by
  unfold addK
  cases ks.contains k <;> simp
theorem run_updS (t kt et : TypeId) (ht : P.underlying t = some (.map kt et)) (hkt : P.underlying kt = some (.int .i64)) {ks : List Int} (h : MapV w m (setV ks)) (k : Int) :
    ∃ o : Obj, (Instr.mapUpdate t (.map (some m)) (.int .i64 k) (.bool true)).run P w = .ok () { w with heap := w.heap.setIfInBounds m o } ∧ MapV { w with heap := w.heap.setIfInBounds m o } m (setV (addK ks k)) := by
  have hf := findV_set ks k
  obtain ⟨o, h1, h2⟩ := run_updV t kt et ht hkt h k (.bool true) (by rw [hf]; cases ks.contains k <;> simp)
  refine ⟨o, h1, ?_⟩
  unfold addK
  cases hc : ks.contains k with
  | true => rw [hc] at hf; rw [if_neg (by rw [hf]; simp)] at h2; exact h2
  | false =>
    rw [hc] at hf
    rw [if_pos (by rw [hf]; simp)] at h2
    have e : setV ks ++ [(k, Value.bool true)] = setV (ks ++ [k]) := by simp [setV]
    rw [e] at h2
    exact h2
theorem findV_zip : ∀ {ks : List Int} {vs : List Value} {j : Nat} {k : Int}, (ks.zip vs).length = ks.length → (∀ i, i < j → ks[i]? ≠ some k) → ks[j]? = some k → findV (ks.zip vs) k = vs[j]?
  | [], _, j, k, _, _, h => by simp at h
  | a :: ks, [], j, k, hl, _, _ => by simp at hl
  | a :: ks, v :: vs, 0, k, hl, _, h => by
    simp at h
    subst h
    simp [findV]
  | a :: ks, v :: vs, j + 1, k, hl, hn, h => by
    have h0 : a ≠ k := fun e => hn 0 (Nat.succ_pos _) (by simp [e])
    have ih := findV_zip (ks := ks) (vs := vs) (j := j) (k := k) (by simpa using hl) (fun i hi => by have := hn (i + 1) (by omega); simpa using this) (by simpa using h)
    unfold findV at ih ⊢
    rw [List.zip_cons_cons, List.find?_cons]
    have : (a == k) = false := by simpa using h0
    simp only [this]
    simpa using ih
theorem findV_not {ks : List Int} {vs : List Value} {k : Int} (h : k ∉ ks) : findV (ks.zip vs) k = none := by
  unfold findV
  rw [Option.map_eq_none_iff, List.find?_eq_none]
  intro p hp
  have := (List.of_mem_zip hp).1
  simpa using fun e : p.1 = k => h (e ▸ this)
end
end Go.Proofs.YtbpbndlgfiammaaGreatDoor
