/- Lemmas and contracts for the row. -/
import Derived.Test.YtkkapbnopmmmjaaDoorPkRowEncodeNormalizedB
import Derived.MapKept
import Derived.Test.YtkkapbnopmmmjaaDoorPkRowEncodeNormalizedA
set_option linter.unusedVariables false
set_option linter.unusedSimpArgs false
set_option linter.unnecessarySimpa false
namespace Go.Proofs.YtkkapbnopmmmjaaDoor
open Go.RowKit
def keyIs (k : Int) (e : MapEntry) : Bool := match e.key with | .int .i64 a => a == k | _ => false
def lookM (es : List MapEntry) (k : Int) : Option Value := (es.find? (keyIs k)).map (·.val)
def intKeys (es : List MapEntry) : Prop := ∀ e ∈ es, ∃ a, e.key = .int .i64 a
def MapI (w : World) (m : Nat) (f : Int → Option Value) : Prop := ∃ es clock, w.heap[m]? = some (.map es clock) ∧ intKeys es.toList ∧ ∀ k, lookM es.toList k = f k
def upd (f : Int → Option Value) (k : Int) (v : Value) : Int → Option Value := fun j => if j = k then some v else f j
theorem findNow_spec (k : Int) (q : IntKind) : ∀ (es : List MapEntry) (i0 : Nat), intKeys es →
    (∃ j, ∃ h : j < es.length, es[j].key = .int .i64 k ∧ (∀ j' (h' : j' < j), keyIs k (es[j']'(by omega)) = false) ∧ Instr.findNow (.int q) (.int .i64 k) es i0 = some (some (i0 + j, es[j].val)) ∧ lookM es k = some es[j].val) ∨
    (Instr.findNow (.int q) (.int .i64 k) es i0 = some none ∧ (∀ e ∈ es, keyIs k e = false) ∧ lookM es k = none)
  | [], _, _ => .inr ⟨rfl, by simp, rfl⟩
  | e :: es, i0, hk => by
    obtain ⟨a, ha⟩ := hk e (by simp)
    by_cases hak : a = k
    · subst hak
      refine .inl ⟨0, by simp, ha, fun j' h' => by omega, ?_, ?_⟩
      · simp [Instr.findNow, ha, Instr.sameNow]
      · simp [lookM, keyIs, ha]
    · have hf : keyIs k e = false := by simp [keyIs, ha, hak]
      have hs : Instr.sameNow (.int q) (.int .i64 k) e.key = some false := by
        simp only [ha, Instr.sameNow, if_true]
        congr 1
        simp
        exact fun h => hak h.symm
      rcases findNow_spec k q es (i0 + 1) (fun e he => hk e (by simp [he])) with ⟨j, h, h1, h2, h3, h4⟩ | ⟨h3, h2, h4⟩
      · refine .inl ⟨j + 1, by simpa using h, by simpa using h1, fun j' h' => ?_, ?_, ?_⟩
        · rcases j' with _ | j'
          · simpa using hf
          · simpa using h2 j' (by omega)
        · simp only [Instr.findNow, hs, h3, List.getElem_cons_succ]
          congr 3
          omega
        · simp only [lookM, List.find?_cons, hf] at h4 ⊢
          simpa using h4
      · refine .inr ⟨?_, fun e' he' => ?_, ?_⟩
        · simp only [Instr.findNow, hs, h3]
        · rcases List.mem_cons.1 he' with rfl | he'
          · exact hf
          · exact h2 e' he'
        · simp only [lookM, List.find?_cons, hf] at h4 ⊢
          simpa using h4
section
variable {P : Program} {w : World} {m : Nat} {f : Int → Option Value}
theorem run_key (kt : TypeId) (hkt : P.underlying kt = some (.int .i64)) (em : Bool) (n : Nat) (k : Int) : (Instr.checkKey em (n + 1) kt (.int .i64 k)).run P w = .ok () w := by simp [Instr.checkKey, run_underlying hkt]
theorem run_look (t kt et : TypeId) (z : Value) (ht : P.underlying t = some (.map kt et)) (hkt : P.underlying kt = some (.int .i64)) (hz : ∀ w : World, (zeroValue et).run P w = .ok z w) (h : MapI w m f) (k : Int) :
    (Instr.lookup t (.map (some m)) (.int .i64 k) false).run P w = .ok ((f k).getD z) w := by
  obtain ⟨es, clock, hb, hk, hf⟩ := h
  have hc := fun em : Bool => run_key (P := P) (w := w) kt hkt em 9999 k
  have hg : (getObj m).run P w = .ok (.map es clock) w := by simp [getObj, Sem.run, hb]
  rcases findNow_spec k .i64 es.toList 0 hk with ⟨j, hj, h1, h2, h3, h4⟩ | ⟨h3, h2, h4⟩
  · rw [← hf k, h4]
    simp [Instr.lookup, run_underlying ht, hg, hc, Instr.findKey, run_underlying hkt, h3]
  · rw [← hf k, h4]
    simp [Instr.lookup, run_underlying ht, hg, hc, Instr.findKey, run_underlying hkt, h3, hz]
theorem lookM_modify (es : List MapEntry) (k k' : Int) (v : Value) (j : Nat) (hj : j < es.length) (h1 : es[j].key = .int .i64 k) (h2 : ∀ j' (h' : j' < j), keyIs k (es[j']'(by omega)) = false) :
    lookM (es.modify j fun e => { e with key := .int .i64 k, val := v }) k' = if k' = k then some v else lookM es k' := by
  induction es generalizing j with
  | nil => simp at hj
  | cons e es ih =>
    rcases j with _ | j
    · simp only [List.getElem_cons_zero] at h1
      simp only [List.modify_zero_cons, lookM, List.find?_cons]
      by_cases hk : k' = k
      · subst hk
        simp [keyIs]
      · have e1 : keyIs k' { e with key := .int .i64 k, val := v } = false := by simp [keyIs]; exact fun h => hk h.symm
        have e2 : keyIs k' e = false := by simp [keyIs, h1]; exact fun h => hk h.symm
        simp [e1, e2, hk]
    · have h0 := h2 0 (by omega)
      simp only [List.getElem_cons_zero] at h0
      have := ih j (by simpa using hj) (by simpa using h1) (fun j' h' => by simpa using h2 (j' + 1) (by omega))
      simp only [List.modify_succ_cons, lookM, List.find?_cons] at this ⊢
      by_cases hk : k' = k
      · subst hk
        simp only [h0, if_true] at this ⊢
        exact this
      · rw [if_neg hk] at this ⊢
        cases keyIs k' e
        · exact this
        · rfl
theorem lookM_push (es : List MapEntry) (k k' : Int) (v : Value) (c : Nat) (h2 : ∀ e ∈ es, keyIs k e = false) :
    lookM (es ++ [{ key := .int .i64 k, val := v, born := c }]) k' = if k' = k then some v else lookM es k' := by
  simp only [lookM, List.find?_append]
  by_cases hk : k' = k
  · subst hk
    rw [List.find?_eq_none.2 (fun e he => by simp [h2 e he])]
    simp [keyIs]
  · rw [if_neg hk]
    have : keyIs k' { key := .int .i64 k, val := v, born := c } = false := by simp [keyIs]; exact fun h => hk h.symm
    simp [this]
theorem run_upd (t kt et : TypeId) (ht : P.underlying t = some (.map kt et)) (hkt : P.underlying kt = some (.int .i64)) (h : MapI w m f) (k : Int) (v : Value) :
    ∃ w', (Instr.mapUpdate t (.map (some m)) (.int .i64 k) v).run P w = .ok () w' ∧ MapI w' m (upd f k v) ∧ w.grownBy w' (some m) ∧ w'.heap.size = w.heap.size := by
  obtain ⟨es, clock, hb, hk, hf⟩ := h
  have hc := fun em : Bool => run_key (P := P) (w := w) kt hkt em 9999 k
  have hg : (getObj m).run P w = .ok (.map es clock) w := by simp [getObj, Sem.run, hb]
  have hs : ∀ o : Obj, (setObj m o).run P w = .ok () { w with heap := w.heap.setIfInBounds m o } := fun o => by simp [setObj, Sem.run, hb]
  have hlt : m < w.heap.size := (Array.getElem?_eq_some_iff.1 hb).1
  have hgr : ∀ o : Obj, w.grownBy { w with heap := w.heap.setIfInBounds m o } (some m) := fun o =>
    ⟨rfl, rfl, rfl, by simp, fun j hj hne => by simp only [Array.getElem?_setIfInBounds]; rw [if_neg (fun e => hne (by rw [e]))]⟩
  rcases findNow_spec k .i64 es.toList 0 hk with ⟨j, hj, h1, h2, h3, h4⟩ | ⟨h3, h2, h4⟩
  · have hj' : j < es.size := by simpa using hj
    have hkey : ((es[j]?).map (·.key)).getD (.int .i64 k) = .int .i64 k := by
      rw [Array.getElem?_eq_getElem hj']
      simpa using h1
    refine ⟨{ w with heap := w.heap.setIfInBounds m (.map (es.modify j fun e => { e with key := .int .i64 k, val := v }) clock) }, ?_, ⟨es.modify j fun e => { e with key := .int .i64 k, val := v }, clock, by simp [hlt], ?_, fun k' => ?_⟩, hgr _, by simp⟩
    · simp [Instr.mapUpdate, run_underlying ht, hg, hc, Instr.findKey, run_underlying hkt, h3, hkey, Instr.keyThatStays, Instr.sameBits, hs]
    · intro e he
      simp only [Array.toList_modify] at he
      obtain ⟨i, hi, rfl⟩ := List.mem_iff_getElem.1 he
      rw [List.getElem_modify]
      split
      · exact ⟨k, rfl⟩
      · exact hk _ (List.getElem_mem _)
    · rw [Array.toList_modify, lookM_modify es.toList k k' v j hj h1 h2, upd]
      split
      · rfl
      · exact hf k'
  · refine ⟨{ w with heap := w.heap.setIfInBounds m (.map (es.push { key := .int .i64 k, val := v, born := clock }) (clock + 1)) }, ?_, ⟨es.push { key := .int .i64 k, val := v, born := clock }, clock + 1, by simp [hlt], ?_, fun k' => ?_⟩, hgr _, by simp⟩
    · simp [Instr.mapUpdate, run_underlying ht, hg, hc, Instr.findKey, run_underlying hkt, h3, hs]
    · intro e he
      rw [Array.toList_push, List.mem_append] at he
      rcases he with he | he
      · exact hk e he
      · simp at he; subst he; exact ⟨k, rfl⟩
    · rw [Array.toList_push, lookM_push es.toList k k' v clock h2, upd]
      split
      · rfl
      · exact hf k'
theorem MapI.made (w : World) : MapI (w.alloc (.map #[] 0)) w.heap.size (fun _ => none) := ⟨#[], 0, heap_alloc_new w _, by intro e he; simp at he, fun k => rfl⟩
theorem MapI.lt (h : MapI w m f) : m < w.heap.size := by
  obtain ⟨es, clock, hb, _⟩ := h
  exact (Array.getElem?_eq_some_iff.1 hb).1
theorem MapI.kp {M : Nat → Prop} {w' : World} (h : MapI w m f) (hk : Kp M w w') (hm : ¬ M m) : MapI w' m f := by
  have hlt := h.lt
  obtain ⟨es, clock, hb, h2⟩ := h
  exact ⟨es, clock, (hk.block m hlt hm).trans hb, h2⟩
theorem MapI.ne_blk {g : Nat} {t : TypeId} {cs : Array Value} (h : MapI w m f) (hg : Blk w g t cs) : m ≠ g := by
  rintro rfl
  obtain ⟨es, clock, hb, h2⟩ := h
  unfold Blk at hg
  rw [hb] at hg
  cases hg
end
end Go.Proofs.YtkkapbnopmmmjaaDoor
namespace Go.Proofs.YtkkapbnopmmmjaaDoor
open Go.RowKit
def pairV (e : MapEntry) : Value × Value := (e.key, e.val)
def pv (p : Int × Value) : Value × Value := (.int .i64 p.1, p.2)
def MapV (w : World) (m : Nat) (kvs : List (Int × Value)) : Prop := ∃ es clock, w.heap[m]? = some (.map es clock) ∧ es.toList.map pairV = kvs.map pv ∧ (kvs.map (·.1)).Nodup
def findV (kvs : List (Int × Value)) (k : Int) : Option Value := (kvs.find? fun p => p.1 == k).map (·.2)
theorem pairs_keysV : ∀ {es : List MapEntry} {kvs : List (Int × Value)}, es.map pairV = kvs.map pv → intKeys es
  | [], _, _ => fun e he => by cases he
  | e :: es, [], h => by simp at h
  | e :: es, p :: kvs, h => by
    simp only [List.map_cons, List.cons.injEq] at h
    intro x hx
    rcases List.mem_cons.1 hx with rfl | hx
    · exact ⟨p.1, congrArg Prod.fst h.1⟩
    · exact pairs_keysV h.2 x hx
theorem pairs_lookV : ∀ {es : List MapEntry} {kvs : List (Int × Value)}, es.map pairV = kvs.map pv → ∀ k, lookM es k = findV kvs k
  | [], [], _, k => rfl
  | [], p :: kvs, h, k => by simp at h
  | e :: es, [], h, k => by simp at h
  | e :: es, p :: kvs, h, k => by
    simp only [List.map_cons, List.cons.injEq] at h
    have h1 : e.key = .int .i64 p.1 := congrArg Prod.fst h.1
    have h2 : e.val = p.2 := congrArg Prod.snd h.1
    have ih := pairs_lookV h.2 k
    unfold lookM findV at ih ⊢
    rw [List.find?_cons, List.find?_cons]
    have h3 : keyIs k e = (p.1 == k) := by simp [keyIs, h1]
    rw [h3]
    cases p.1 == k with
    | true => simp [h2]
    | false => exact ih
section
variable {P : Program} {w w' : World} {m : Nat} {kvs : List (Int × Value)}
theorem MapV.mapI (h : MapV w m kvs) : MapI w m (findV kvs) := by
  obtain ⟨es, clock, hb, hp, _⟩ := h
  exact ⟨es, clock, hb, pairs_keysV hp, fun k => pairs_lookV hp k⟩
theorem MapV.lt (h : MapV w m kvs) : m < w.heap.size := by
  obtain ⟨es, clock, hb, _⟩ := h
  exact (Array.getElem?_eq_some_iff.1 hb).1
theorem MapV.keep (h : MapV w m kvs) (hk : w'.heap[m]? = w.heap[m]?) : MapV w' m kvs := by
  obtain ⟨es, clock, hb, h2⟩ := h
  exact ⟨es, clock, hk.trans hb, h2⟩
theorem MapV.made (w : World) : MapV (w.alloc (.map #[] 0)) w.heap.size [] := ⟨#[], 0, heap_alloc_new w _, rfl, List.nodup_nil⟩
theorem MapV.cnt (h : MapV w m kvs) : ∃ es clock, w.heap[m]? = some (.map es clock) ∧ es.size = kvs.length := by
  obtain ⟨es, clock, hb, hp, _⟩ := h
  exact ⟨es, clock, hb, by have := congrArg List.length hp; simpa using this⟩
theorem lookT (t kt et : TypeId) (z : Value) (ht : P.underlying t = some (.map kt et)) (hkt : P.underlying kt = some (.int .i64)) (hz : ∀ w : World, (zeroValue et).run P w = .ok z w) {f : Int → Option Value} (h : MapI w m f) (k : Int) :
    (Instr.lookup t (.map (some m)) (.int .i64 k) true).run P w = .ok (.tuple #[(f k).getD z, .bool (f k).isSome]) w := by
  obtain ⟨es, clock, hb, hk, hf⟩ := h
  have hc := fun em : Bool => run_key (P := P) (w := w) kt hkt em 9999 k
  have hg : (getObj m).run P w = .ok (.map es clock) w := by simp [getObj, Sem.run, hb]
  rcases findNow_spec k .i64 es.toList 0 hk with ⟨j, hj, h1, h2, h3, h4⟩ | ⟨h3, h2, h4⟩
  · rw [← hf k, h4]
    simp [Instr.lookup, run_underlying ht, hg, hc, Instr.findKey, run_underlying hkt, h3]
  · rw [← hf k, h4]
    simp [Instr.lookup, run_underlying ht, hg, hc, Instr.findKey, run_underlying hkt, h3, hz]
theorem run_updV (t kt et : TypeId) (ht : P.underlying t = some (.map kt et)) (hkt : P.underlying kt = some (.int .i64)) (h : MapV w m kvs) (k : Int) (v : Value) (hv : findV kvs k = none ∨ findV kvs k = some v) :
    ∃ o : Obj, (Instr.mapUpdate t (.map (some m)) (.int .i64 k) v).run P w = .ok () { w with heap := w.heap.setIfInBounds m o } ∧ MapV { w with heap := w.heap.setIfInBounds m o } m (if findV kvs k = none then kvs ++ [(k, v)] else kvs) := by
  obtain ⟨es, clock, hb, hp, hnd⟩ := h
  have hk := pairs_keysV hp
  have hc := fun em : Bool => run_key (P := P) (w := w) kt hkt em 9999 k
  have hg : (getObj m).run P w = .ok (.map es clock) w := by simp [getObj, Sem.run, hb]
  have hs : ∀ o : Obj, (setObj m o).run P w = .ok () { w with heap := w.heap.setIfInBounds m o } := fun o => by simp [setObj, Sem.run, hb]
  have hlt : m < w.heap.size := (Array.getElem?_eq_some_iff.1 hb).1
  have hlook := pairs_lookV hp k
  rcases findNow_spec k .i64 es.toList 0 hk with ⟨j, hj, h1, h2, h3, h4⟩ | ⟨h3, h2, h4⟩
  · have hj' : j < es.size := by simpa using hj
    have hkey : ((es[j]?).map (·.key)).getD (.int .i64 k) = .int .i64 k := by
      rw [Array.getElem?_eq_getElem hj']
      simpa using h1
    have hfv : findV kvs k = some es.toList[j].val := hlook.symm.trans h4
    have hval : es.toList[j].val = v := by
      rcases hv with hv | hv
      · rw [hv] at hfv; cases hfv
      · rw [hv] at hfv; exact (Option.some.inj hfv).symm
    refine ⟨.map (es.modify j fun e => { e with key := .int .i64 k, val := v }) clock, ?_, ?_⟩
    · simp [Instr.mapUpdate, run_underlying ht, hg, hc, Instr.findKey, run_underlying hkt, h3, hkey, Instr.keyThatStays, Instr.sameBits, hs]
    · rw [if_neg (by rw [hfv]; exact Option.some_ne_none _)]
      refine ⟨es.modify j fun e => { e with key := .int .i64 k, val := v }, clock, by simp [hlt], ?_, hnd⟩
      rw [← hp, Array.toList_modify]
      apply List.ext_getElem
      · simp
      · intro i a b
        rw [List.getElem_map, List.getElem_map, List.getElem_modify]
        split
        · rename_i hji
          subst hji
          unfold pairV
          rw [h1, hval]
        · rfl
  · have hfv : findV kvs k = none := hlook.symm.trans h4
    refine ⟨.map (es.push { key := .int .i64 k, val := v, born := clock }) (clock + 1), ?_, ?_⟩
    · simp [Instr.mapUpdate, run_underlying ht, hg, hc, Instr.findKey, run_underlying hkt, h3, hs]
    · rw [if_pos hfv]
      refine ⟨es.push { key := .int .i64 k, val := v, born := clock }, clock + 1, by simp [hlt], ?_, ?_⟩
      · rw [Array.toList_push, List.map_append, List.map_append, hp]
        rfl
      · rw [List.map_append, List.nodup_append]
        refine ⟨hnd, by simp, fun x hx y hy => ?_⟩
        rw [List.map_singleton, List.mem_singleton] at hy
        subst hy
        rintro rfl
        obtain ⟨p, hp1, hp2⟩ := List.mem_map.1 hx
        unfold findV at hfv
        rw [Option.map_eq_none_iff, List.find?_eq_none] at hfv
        exact hfv p hp1 (by simpa using hp2)
def setV (ks : List Int) : List (Int × Value) := ks.map fun k => (k, .bool true)
def addK (ks : List Int) (k : Int) : List Int := bif ks.contains k then ks else ks ++ [k]
theorem findV_set : ∀ (ks : List Int) (k : Int), findV (setV ks) k = if ks.contains k then some (.bool true) else none
  | [], k => rfl
  | a :: ks, k => by
    have ih := findV_set ks k
    unfold findV setV at ih ⊢
    rw [List.map_cons, List.find?_cons]
    by_cases h : a = k
    · subst h; simp
    · have h1 : (a == k) = false := by simpa using h
      have h2 : (k == a) = false := by simpa using fun e : k = a => h e.symm
      simp only [h1, List.contains_cons, h2, Bool.false_or]
      exact ih
theorem addK_mem {ks : List Int} {k x : Int} : x ∈ addK ks k ↔ x ∈ ks ∨ x = k := by
  unfold addK
  cases h : ks.contains k with
  | true =>
    have hk : k ∈ ks := List.contains_iff_mem.1 h
    exact ⟨fun h => .inl h, fun h => h.elim id (fun e => e ▸ hk)⟩
  | false => simp
theorem addK_contains (ks : List Int) (k x : Int) : (addK ks k).contains x = (ks.contains x || x == k) := by
  rw [Bool.eq_iff_iff, List.contains_iff_mem, addK_mem, Bool.or_eq_true, List.contains_iff_mem, beq_iff_eq]
theorem run_updS (t kt et : TypeId) (ht : P.underlying t = some (.map kt et)) (hkt : P.underlying kt = some (.int .i64)) {ks : List Int} (h : MapV w m (setV ks)) (k : Int) :
    ∃ o : Obj, (Instr.mapUpdate t (.map (some m)) (.int .i64 k) (.bool true)).run P w = .ok () { w with heap := w.heap.setIfInBounds m o } ∧ MapV { w with heap := w.heap.setIfInBounds m o } m (setV (addK ks k)) := by
  have hf := findV_set ks k
  obtain ⟨o, h1, h2⟩ := run_updV t kt et ht hkt h k (.bool true) (by rw [hf]; cases ks.contains k <;> simp)
  refine ⟨o, h1, ?_⟩
  unfold addK
  cases hc : ks.contains k with
  | true => rw [hc] at hf; rw [if_neg (by rw [hf]; simp)] at h2; exact h2
  | false =>
    rw [hc] at hf
    rw [if_pos (by rw [hf]; simp)] at h2
    have e : setV ks ++ [(k, Value.bool true)] = setV (ks ++ [k]) := by simp [setV]
    rw [e] at h2
    exact h2
theorem findV_not {ks : List Int} {vs : List Value} {k : Int} (h : k ∉ ks) : findV (ks.zip vs) k = none := by
  unfold findV
  rw [Option.map_eq_none_iff, List.find?_eq_none]
  intro p hp
  have := (List.of_mem_zip hp).1
  simpa using fun e : p.1 = k => h (e ▸ this)
end
end Go.Proofs.YtkkapbnopmmmjaaDoor
namespace Go.Proofs.YtkkapbnopmmmjaaDoor.Cn
open Go
def seenK (l : List Int) : List Int := l.foldl (fun ks x => addK ks (max x (-x))) (addK [] 0)
theorem seen_next {l : List Int} {i : Nat} (h : i < l.length) : addK (seenK (l.take i)) (max (l.getD i 0) (-(l.getD i 0))) = seenK (l.take (i + 1)) := by
  unfold seenK; rw [take_sD (d := 0) h, List.foldl_append]; rfl
theorem seen_fold (z : Int) : ∀ (l ks : List Int), (l.foldl (fun ks x => addK ks (max x (-x))) ks).contains z = (ks.contains z || l.any fun x => z == max x (-x))
  | [], ks => by simp
  | x :: l, ks => by
    rw [List.foldl_cons, seen_fold z l, addK_contains, List.any_cons, Bool.or_assoc]
theorem seen_has (l : List Int) (z : Int) : (seenK l).contains z = (z == 0 || l.any fun x => z == max x (-x)) := by
  unfold seenK
  rw [seen_fold, addK_contains]
  rfl
def apAt (next : Int) (l : List Int) (i : Nat) : Bool := !((decide (max (l.getD i 0) (-(l.getD i 0)) < 0) || decide (max (l.getD i 0) (-(l.getD i 0)) ≥ next)) || (seenK (l.take i)).contains (max (l.getD i 0) (-(l.getD i 0))))
def apartB (next : Int) (l : List Int) : Bool := (List.range l.length).all (apAt next l)
theorem ap_no {next : Int} {l : List Int} {i : Nat} (hi : i < l.length) (h : apAt next l i = false) : apartB next l = false := List.all_eq_false.2 ⟨i, List.mem_range.2 hi, by rw [h]; simp⟩
theorem ap_yes {next : Int} {l : List Int} {i : Nat} (hi : i = l.length) (h : ∀ j, j < i → apAt next l j = true) : apartB next l = true := List.all_eq_true.2 fun j hj => h j (by rw [hi]; exact List.mem_range.1 hj)
theorem notT {b : Bool} (h : b = true) : (!b) = false := by rw [h]; rfl
theorem notF {b : Bool} (h : b = false) : (!b) = true := by rw [h]; rfl
theorem flat_next {ps : List (List Int)} {i : Nat} (h : i < ps.length) : (ps.take i).flatten ++ ps.getD i [] = (ps.take (i + 1)).flatten := by
  rw [take_sD (d := []) h, List.flatten_append]; simp
theorem flat3 {ps : List (List Int)} (h1 : ps.length ≤ 3) (h2 : ∀ x ∈ ps, x.length ≤ 3) : ∀ i, (ps.take i).flatten.length ≤ 9 := fun i => by
  have key : ∀ l : List (List Int), (∀ x ∈ l, x.length ≤ 3) → l.flatten.length ≤ 3 * l.length := fun l => by
    induction l with
    | nil => intro _; exact Nat.le_refl _
    | cons x l ih =>
      intro h
      have := ih fun y hy => h y (List.mem_cons_of_mem _ hy)
      have h0 := h x List.mem_cons_self
      simp only [List.flatten_cons, List.length_append, List.length_cons]; omega
  have := key (ps.take i) fun x hx => h2 x (List.mem_of_mem_take hx)
  rw [List.length_take] at this
  omega
def at1 (l : List Int) (n : Int) : List Int := if n < 0 ∨ (l.length : Int) ≤ n then [] else [l.getD n.toNat 0]
def neg1 : List Int → List Int
  | [] => []
  | x :: _ => [-x]
theorem at_out {l : List Int} {n : Int} (h : n < 0 ∨ (l.length : Int) ≤ n) : at1 l n = [] := if_pos h
theorem at_in2 {l : List Int} {n : Int} (h0 : 0 ≤ n) (h1 : n < l.length) : (l.take (n + 1).toNat).drop n.toNat = at1 l n := by
  unfold at1
  rw [if_neg (by omega), show (n + 1).toNat = n.toNat + 1 by omega]
  have : n.toNat < l.length := by omega
  rw [List.take_add_one, List.getElem?_eq_getElem this, List.drop_append]
  simp [List.getD, List.getElem?_eq_getElem this, List.drop_eq_nil_of_le, Nat.min_eq_left (Nat.le_of_lt this)]
theorem at_len (l : List Int) (n : Int) : (at1 l n).length ≤ 1 := by unfold at1; split <;> simp
theorem at_mem {l : List Int} {n x : Int} (h : x ∈ at1 l n) : x ∈ l := by
  unfold at1 at h
  split at h
  · cases h
  · rw [List.mem_singleton.1 h]; exact getD_memL (by omega)
theorem neg_nil {l : List Int} (h : (l.length : Int) = 0) : neg1 l = [] := by
  cases l with
  | nil => rfl
  | cons x l => simp at h; omega
theorem neg_one {l : List Int} (h : ¬ (l.length : Int) = 0) : neg1 l = [-(l.getD 0 0)] := by
  cases l with
  | nil => exact absurd rfl h
  | cons x l => rfl
theorem neg_len (l : List Int) : (neg1 l).length ≤ 1 := by cases l <;> simp [neg1]
def outsT (next : Int) (many : Nat) : List Int := (List.range many).map fun i : Nat => next + (i : Int)
theorem outs_len (next : Int) (many : Nat) : (outsT next many).length = many := by unfold outsT; rw [List.length_map, List.length_range]
theorem outs_mem {next x : Int} {many : Nat} (h : x ∈ outsT next many) : next ≤ x ∧ x < next + many := by
  unfold outsT at h
  obtain ⟨i, hi, rfl⟩ := List.mem_map.1 h
  have := List.mem_range.1 hi
  omega
def up1 (a b o : List Int) (i k : Nat) : List (List Int) := if 0 < i + k ∧ i + k ≤ o.length then [neg1 (at1 a ((i : Int) - 1)) ++ neg1 (at1 b ((k : Int) - 1)) ++ at1 o ((i : Int) + k - 1)] else []
def dn1 (a b o : List Int) (i k : Nat) : List (List Int) := if i + k < o.length then [at1 a i ++ at1 b k ++ neg1 (at1 o ((i : Int) + k))] else []
def rowT (a b o : List Int) (i k : Nat) : List (List Int) := (List.range k).flatMap fun j => up1 a b o i j ++ dn1 a b o i j
def clsT (a b o : List Int) (i : Nat) : List (List Int) := (List.range i).flatMap fun i => rowT a b o i (b.length + 1)
theorem row_next (a b o : List Int) (i k : Nat) : rowT a b o i k ++ up1 a b o i k ++ dn1 a b o i k = rowT a b o i (k + 1) := by
  unfold rowT
  rw [List.range_succ, List.flatMap_append]; simp
theorem cls_next (a b o : List Int) (i : Nat) : clsT a b o i ++ rowT a b o i (b.length + 1) = clsT a b o (i + 1) := by
  unfold clsT
  rw [List.range_succ, List.flatMap_append]; simp
theorem up_yes {a b o : List Int} {i k : Nat} (h1 : 0 < i + k) (h2 : i + k ≤ o.length) : up1 a b o i k = [neg1 (at1 a ((i : Int) - 1)) ++ neg1 (at1 b ((k : Int) - 1)) ++ at1 o ((i : Int) + k - 1)] := if_pos ⟨h1, h2⟩
theorem up_no {a b o : List Int} {i k : Nat} (h : ¬ (0 < i + k ∧ i + k ≤ o.length)) : up1 a b o i k = [] := if_neg h
theorem dn_yes {a b o : List Int} {i k : Nat} (h : i + k < o.length) : dn1 a b o i k = [at1 a i ++ at1 b k ++ neg1 (at1 o ((i : Int) + k))] := if_pos h
theorem dn_no {a b o : List Int} {i k : Nat} (h : ¬ i + k < o.length) : dn1 a b o i k = [] := if_neg h
theorem row_len (a b o : List Int) (i : Nat) : ∀ k, (rowT a b o i k).length ≤ 2 * k
  | 0 => Nat.le_refl _
  | k + 1 => by
    rw [← row_next]
    have := row_len a b o i k
    have h1 : (up1 a b o i k).length ≤ 1 := by unfold up1; split <;> simp
    have h2 : (dn1 a b o i k).length ≤ 1 := by unfold dn1; split <;> simp
    simp only [List.length_append]; omega
theorem cls_len (a b o : List Int) : ∀ i, (clsT a b o i).length ≤ 2 * (b.length + 1) * i
  | 0 => Nat.le_refl _
  | i + 1 => by
    rw [← cls_next, List.length_append]
    have h1 := cls_len a b o i
    have h2 := row_len a b o i (b.length + 1)
    rw [Nat.mul_add]; omega
abbrev TSt := Int × Bool × List (List Int)
def totE (most : Int) (l a b : List Int) (s : TSt) : List Int × TSt :=
  if (s.2.1 || decide (s.1 + min (l.length : Int) most > 65537)) = true then ([], (s.1, true, s.2.2))
  else (outsT s.1 (min (l.length : Int) most).toNat, (s.1 + min (l.length : Int) most, false, s.2.2 ++ clsT a b (outsT s.1 (min (l.length : Int) most).toNat) (a.length + 1)))
def totF (most : Int) : Nat → List Int → TSt → List Int × TSt
  | 0, l, s => (l, s)
  | n + 1, l, s => if (((l.length : Int) == 1) || s.2.1) = true then (l, s) else
    totE most l (totF most n (l.take (l.length / 2)) s).1 (totF most n (l.drop (l.length / 2)) (totF most n (l.take (l.length / 2)) s).2).1 (totF most n (l.drop (l.length / 2)) (totF most n (l.take (l.length / 2)) s).2).2
theorem totF_fuel (most : Int) : ∀ (n m : Nat) (l : List Int) (s : TSt), 1 ≤ l.length → l.length ≤ n → l.length ≤ m → totF most n l s = totF most m l s
  | 0, m, l, s, h0, h1, h2 => by omega
  | n + 1, 0, l, s, h0, h1, h2 => by omega
  | n + 1, m + 1, l, s, h0, h1, h2 => by
    rw [totF, totF]
    split
    · rfl
    · rename_i hc
      have hl : ¬ l.length = 1 := fun e => hc (by rw [e]; rfl)
      rw [totF_fuel most n m (l.take (l.length / 2)) s (by rw [List.length_take]; omega) (by rw [List.length_take]; omega) (by rw [List.length_take]; omega),
        totF_fuel most n m (l.drop (l.length / 2)) _ (by rw [List.length_drop]; omega) (by rw [List.length_drop]; omega) (by rw [List.length_drop]; omega)]
def totT (most : Int) (l : List Int) (s : TSt) : List Int × TSt := totF most l.length l s
theorem totT_one {most : Int} {l : List Int} {s : TSt} (h0 : 1 ≤ l.length) (h : (((l.length : Int) == 1) || s.2.1) = true) : totT most l s = (l, s) := by
  unfold totT
  obtain ⟨k, hk⟩ : ∃ k, l.length = k + 1 := ⟨l.length - 1, by omega⟩
  rw [hk, totF, if_pos h]
theorem totT_two {most : Int} {l : List Int} {s : TSt} (h0 : 1 ≤ l.length) (h : ¬ (((l.length : Int) == 1) || s.2.1) = true) : totT most l s =
    totE most l (totT most (l.take (l.length / 2)) s).1 (totT most (l.drop (l.length / 2)) (totT most (l.take (l.length / 2)) s).2).1 (totT most (l.drop (l.length / 2)) (totT most (l.take (l.length / 2)) s).2).2 := by
  have hl : ¬ l.length = 1 := fun e => h (by rw [e]; rfl)
  unfold totT
  obtain ⟨k, hk⟩ : ∃ k, l.length = k + 1 := ⟨l.length - 1, by omega⟩
  have e : totF most l.length l s = totF most (k + 1) l s := by rw [hk]
  rw [e, totF, if_neg h, totF_fuel most k (l.take (l.length / 2)).length (l.take (l.length / 2)) s (by rw [List.length_take]; omega) (by rw [List.length_take]; omega) (Nat.le_refl _),
    totF_fuel most k (l.drop (l.length / 2)).length (l.drop (l.length / 2)) _ (by rw [List.length_drop]; omega) (by rw [List.length_drop]; omega) (Nat.le_refl _)]
theorem tot_bd (most : Int) (hm0 : 0 ≤ most) : ∀ (n : Nat) (l : List Int) (s : TSt), l.length = n → 1 ≤ n → 1 ≤ s.1 → s.1 ≤ 65537 → (∀ x ∈ l, -65537 ≤ x ∧ x ≤ 65537) →
    (totT most l s).1.length ≤ n ∧ (∀ x ∈ (totT most l s).1, -65537 ≤ x ∧ x ≤ 65537) ∧ s.1 ≤ (totT most l s).2.1 ∧ (totT most l s).2.1 ≤ 65537 ∧ (totT most l s).2.2.2.length ≤ s.2.2.length + 8 * (n * n) := fun n => by
  induction n using Nat.strongRecOn with
  | _ n ih =>
    intro l s hl h1 hs1 hs2 hx
    by_cases hc : (((l.length : Int) == 1) || s.2.1) = true
    · rw [totT_one (by omega) hc]
      exact ⟨by rw [hl]; exact Nat.le_refl _, hx, Int.le_refl _, hs2, Nat.le_add_right _ _⟩
    · have hl2 : ¬ l.length = 1 := fun e => hc (by rw [e]; rfl)
      rw [totT_two (by omega) hc]
      have hA := ih (l.take (l.length / 2)).length (by rw [List.length_take]; omega) (l.take (l.length / 2)) s rfl (by rw [List.length_take]; omega) hs1 hs2 (fun x h => hx x (List.mem_of_mem_take h))
      generalize totT most (l.take (l.length / 2)) s = A at hA ⊢
      obtain ⟨a1, a2, a3, a4, a5⟩ := hA
      have hB := ih (l.drop (l.length / 2)).length (by rw [List.length_drop]; omega) (l.drop (l.length / 2)) A.2 rfl (by rw [List.length_drop]; omega) (by omega) a4 (fun x h => hx x (List.mem_of_mem_drop h))
      generalize totT most (l.drop (l.length / 2)) A.2 = B at hB ⊢
      obtain ⟨b1, b2, b3, b4, b5⟩ := hB
      rw [List.length_take] at a1 a5
      rw [List.length_drop] at b1 b5
      have hmin : min (l.length / 2) l.length = l.length / 2 := by omega
      rw [hmin] at a1 a5
      have hsq : (l.length / 2) * (l.length / 2) + (l.length - l.length / 2) * (l.length - l.length / 2) + 2 * ((l.length / 2) * (l.length - l.length / 2)) = n * n := by
        have e : l.length / 2 + (l.length - l.length / 2) = n := by omega
        rw [← e]
        generalize l.length / 2 = p
        generalize l.length - p = q
        rw [Nat.add_mul, Nat.mul_add, Nat.mul_add, Nat.mul_comm q p]; omega
      unfold totE
      split
      · refine ⟨Nat.zero_le _, fun x hx => (by cases hx), (by show s.1 ≤ B.2.1; omega), b4, ?_⟩
        show B.2.2.2.length ≤ _
        omega
      · rename_i hf
        simp only [Bool.or_eq_true, decide_eq_true_eq, not_or] at hf
        refine ⟨?_, fun x hx => ?_, ?_, ?_, ?_⟩
        · show (outsT _ _).length ≤ n
          rw [outs_len]; omega
        · have := outs_mem hx; omega
        · show s.1 ≤ B.2.1 + min (l.length : Int) most; omega
        · show B.2.1 + min (l.length : Int) most ≤ 65537; omega
        · show (B.2.2.2 ++ clsT A.1 B.1 _ _).length ≤ _
          rw [List.length_append]
          have hcl := cls_len A.1 B.1 (outsT B.2.1 (min (l.length : Int) most).toNat) (A.1.length + 1)
          have h4 : 2 * (B.1.length + 1) * (A.1.length + 1) ≤ 2 * (2 * (l.length - l.length / 2)) * (2 * (l.length / 2)) := Nat.mul_le_mul (by omega) (by omega)
          have h5 : 2 * (2 * (l.length - l.length / 2)) * (2 * (l.length / 2)) = 8 * ((l.length / 2) * (l.length - l.length / 2)) := by
            rw [show 2 * (2 * (l.length - l.length / 2)) = 4 * (l.length - l.length / 2) by omega, Nat.mul_mul_mul_comm, Nat.mul_comm (l.length - _)]
          omega
def totO (most : Int) (l : List Int) (nx : Int) (fl : Bool) (c : List (List Int)) : List Int := (totT most l (nx, fl, c)).1
def totN (most : Int) (l : List Int) (nx : Int) (fl : Bool) (c : List (List Int)) : Int := (totT most l (nx, fl, c)).2.1
def totB (most : Int) (l : List Int) (nx : Int) (fl : Bool) (c : List (List Int)) : Bool := (totT most l (nx, fl, c)).2.2.1
def totC (most : Int) (l : List Int) (nx : Int) (fl : Bool) (c : List (List Int)) : List (List Int) := (totT most l (nx, fl, c)).2.2.2
theorem half_1 (l : List Int) : (l.take ((l.length : Int).tdiv 2).toNat).drop 0 = l.take (l.length / 2) := by
  rw [List.drop_zero, show ((l.length : Int).tdiv 2).toNat = l.length / 2 by rw [Int.tdiv_eq_ediv_of_nonneg (by omega)]; omega]
theorem half_2 (l : List Int) : (l.take l.length).drop ((l.length : Int).tdiv 2).toNat = l.drop (l.length / 2) := by
  rw [List.take_length, show ((l.length : Int).tdiv 2).toNat = l.length / 2 by rw [Int.tdiv_eq_ediv_of_nonneg (by omega)]; omega]
section
variable {most nx : Int} {l : List Int} {fl : Bool} {c : List (List Int)}
theorem to_one (h0 : 1 ≤ l.length) (h : (((l.length : Int) == 1) || fl) = true) : totO most l nx fl c = l ∧ totN most l nx fl c = nx ∧ totB most l nx fl c = fl ∧ totC most l nx fl c = c := by
  unfold totO totN totB totC
  rw [totT_one h0 h]
  exact ⟨rfl, rfl, rfl, rfl⟩
abbrev L1 (l : List Int) : List Int := (l.take ((l.length : Int).tdiv 2).toNat).drop 0
abbrev L2 (l : List Int) : List Int := (l.take l.length).drop ((l.length : Int).tdiv 2).toNat
abbrev O1 (most : Int) (l : List Int) (nx : Int) (fl : Bool) (c : List (List Int)) : List Int := totO most (L1 l) nx fl c
abbrev N1 (most : Int) (l : List Int) (nx : Int) (fl : Bool) (c : List (List Int)) : Int := totN most (L1 l) nx fl c
abbrev B1 (most : Int) (l : List Int) (nx : Int) (fl : Bool) (c : List (List Int)) : Bool := totB most (L1 l) nx fl c
abbrev C1 (most : Int) (l : List Int) (nx : Int) (fl : Bool) (c : List (List Int)) : List (List Int) := totC most (L1 l) nx fl c
abbrev O2 (most : Int) (l : List Int) (nx : Int) (fl : Bool) (c : List (List Int)) : List Int := totO most (L2 l) (N1 most l nx fl c) (B1 most l nx fl c) (C1 most l nx fl c)
abbrev N2 (most : Int) (l : List Int) (nx : Int) (fl : Bool) (c : List (List Int)) : Int := totN most (L2 l) (N1 most l nx fl c) (B1 most l nx fl c) (C1 most l nx fl c)
abbrev B2 (most : Int) (l : List Int) (nx : Int) (fl : Bool) (c : List (List Int)) : Bool := totB most (L2 l) (N1 most l nx fl c) (B1 most l nx fl c) (C1 most l nx fl c)
abbrev C2 (most : Int) (l : List Int) (nx : Int) (fl : Bool) (c : List (List Int)) : List (List Int) := totC most (L2 l) (N1 most l nx fl c) (B1 most l nx fl c) (C1 most l nx fl c)
theorem to_two (h0 : 1 ≤ l.length) (h : (((l.length : Int) == 1) || fl) = false) : totT most l (nx, fl, c) = totE most l (O1 most l nx fl c) (O2 most l nx fl c) (N2 most l nx fl c, B2 most l nx fl c, C2 most l nx fl c) := by
  rw [totT_two h0 (by rw [h]; simp)]
  unfold O1 O2 N2 B2 C2 N1 B1 C1 L1 L2 totO totN totB totC
  rw [half_1, half_2]
theorem to_full (h0 : 1 ≤ l.length) (h : (((l.length : Int) == 1) || fl) = false) (hf : (B2 most l nx fl c || decide (N2 most l nx fl c + min (l.length : Int) most > 65537)) = true) :
    totO most l nx fl c = [] ∧ totN most l nx fl c = N2 most l nx fl c ∧ totB most l nx fl c = true ∧ totC most l nx fl c = C2 most l nx fl c := by
  have e := to_two (most := most) (nx := nx) (c := c) h0 h
  unfold totE at e
  rw [if_pos hf] at e
  refine ⟨?_, ?_, ?_, ?_⟩
  · show (totT most l (nx, fl, c)).1 = _; rw [e]
  · show (totT most l (nx, fl, c)).2.1 = _; rw [e]
  · show (totT most l (nx, fl, c)).2.2.1 = _; rw [e]
  · show (totT most l (nx, fl, c)).2.2.2 = _; rw [e]
abbrev MN (most : Int) (l : List Int) : Nat := (min (l.length : Int) most).toNat
abbrev OT (most : Int) (l : List Int) (nx : Int) (fl : Bool) (c : List (List Int)) : List Int := outsT (N2 most l nx fl c) (MN most l)
theorem to_ok (h0 : 1 ≤ l.length) (h : (((l.length : Int) == 1) || fl) = false) (hf : (B2 most l nx fl c || decide (N2 most l nx fl c + min (l.length : Int) most > 65537)) = false) :
    totO most l nx fl c = OT most l nx fl c ∧ totN most l nx fl c = N2 most l nx fl c + min (l.length : Int) most ∧ totB most l nx fl c = false ∧ totC most l nx fl c = C2 most l nx fl c ++ clsT (O1 most l nx fl c) (O2 most l nx fl c) (OT most l nx fl c) ((O1 most l nx fl c).length + 1) := by
  have e := to_two (most := most) (nx := nx) (c := c) h0 h
  unfold totE at e
  rw [if_neg (by rw [hf]; simp)] at e
  refine ⟨?_, ?_, ?_, ?_⟩
  · show (totT most l (nx, fl, c)).1 = _; rw [e]
  · show (totT most l (nx, fl, c)).2.1 = _; rw [e]
  · show (totT most l (nx, fl, c)).2.2.1 = _; rw [e]
  · show (totT most l (nx, fl, c)).2.2.2 = _; rw [e]
theorem to_bd (hm0 : 0 ≤ most) (h2 : 2 ≤ l.length) (hn1 : 1 ≤ nx) (hn2 : nx ≤ 65537) (hx : ∀ x ∈ l, -65537 ≤ x ∧ x ≤ 65537) :
    ((L1 l).length = l.length / 2 ∧ (L2 l).length = l.length - l.length / 2 ∧ (∀ x ∈ L1 l, -65537 ≤ x ∧ x ≤ 65537) ∧ ∀ x ∈ L2 l, -65537 ≤ x ∧ x ≤ 65537) ∧
    ((O1 most l nx fl c).length ≤ l.length / 2 ∧ (∀ x ∈ O1 most l nx fl c, -65537 ≤ x ∧ x ≤ 65537) ∧ nx ≤ N1 most l nx fl c ∧ N1 most l nx fl c ≤ 65537 ∧ (C1 most l nx fl c).length ≤ c.length + 8 * ((l.length / 2) * (l.length / 2))) ∧
    ((O2 most l nx fl c).length ≤ l.length - l.length / 2 ∧ (∀ x ∈ O2 most l nx fl c, -65537 ≤ x ∧ x ≤ 65537) ∧ nx ≤ N2 most l nx fl c ∧ N2 most l nx fl c ≤ 65537 ∧ (C2 most l nx fl c).length + 16 * ((l.length / 2) * (l.length - l.length / 2)) ≤ c.length + 8 * (l.length * l.length)) ∧
    c.length + 8 * ((l.length / 2) * (l.length / 2)) + 8 * ((l.length - l.length / 2) * (l.length - l.length / 2)) + 16 * ((l.length / 2) * (l.length - l.length / 2)) = c.length + 8 * (l.length * l.length) := by
  have e1 : (L1 l).length = l.length / 2 := by rw [show L1 l = l.take (l.length / 2) from half_1 l, List.length_take]; omega
  have e2 : (L2 l).length = l.length - l.length / 2 := by rw [show L2 l = l.drop (l.length / 2) from half_2 l, List.length_drop]
  have e3 : ∀ x ∈ L1 l, -65537 ≤ x ∧ x ≤ 65537 := fun x h => hx x (by rw [show L1 l = l.take (l.length / 2) from half_1 l] at h; exact List.mem_of_mem_take h)
  have e4 : ∀ x ∈ L2 l, -65537 ≤ x ∧ x ≤ 65537 := fun x h => hx x (by rw [show L2 l = l.drop (l.length / 2) from half_2 l] at h; exact List.mem_of_mem_drop h)
  have hsq : (l.length / 2) * (l.length / 2) + (l.length - l.length / 2) * (l.length - l.length / 2) + 2 * ((l.length / 2) * (l.length - l.length / 2)) = l.length * l.length := by
    have e : l.length / 2 + (l.length - l.length / 2) = l.length := by omega
    generalize l.length / 2 = p at e ⊢
    generalize l.length - p = q at e ⊢
    rw [← e, Nat.add_mul, Nat.mul_add, Nat.mul_add, Nat.mul_comm q p]; omega
  obtain ⟨a1, a2, a3, a4, a5⟩ := tot_bd most hm0 (L1 l).length (L1 l) (nx, fl, c) rfl (by omega) hn1 hn2 e3
  obtain ⟨b1, b2, b3, b4, b5⟩ := tot_bd most hm0 (L2 l).length (L2 l) (N1 most l nx fl c, B1 most l nx fl c, C1 most l nx fl c) rfl (by omega) (by show 1 ≤ (totT most (L1 l) (nx, fl, c)).2.1; exact Int.le_trans hn1 a3) a4 e4
  rw [e1] at a1 a5
  rw [e2] at b1 b5
  refine ⟨⟨e1, e2, e3, e4⟩, ⟨a1, a2, a3, a4, a5⟩, ⟨b1, b2, Int.le_trans a3 b3, b4, ?_⟩, by omega⟩
  have h1 : (C1 most l nx fl c).length ≤ c.length + 8 * ((l.length / 2) * (l.length / 2)) := a5
  have h2 : (C2 most l nx fl c).length ≤ (C1 most l nx fl c).length + 8 * ((l.length - l.length / 2) * (l.length - l.length / 2)) := b5
  omega
end
theorem half_i (l : List Int) : (l.length : Int).tdiv 2 = ((l.length / 2 : Nat) : Int) := by rw [Int.tdiv_eq_ediv_of_nonneg (by omega)]; omega
theorem len2 {l : List Int} {fl : Bool} (h0 : 1 ≤ l.length) (h : (((l.length : Int) == 1) || fl) = false) : 2 ≤ l.length := by
  simp only [Bool.or_eq_false_iff, beq_eq_false_iff_ne] at h
  omega
theorem to_full2 {most m2 nx : Int} {l : List Int} {fl : Bool} {c : List (List Int)} (hm : m2 = most) (h0 : 1 ≤ l.length) (h : (((l.length : Int) == 1) || fl) = false) (hf : (B2 m2 l nx fl c || decide (N2 m2 l nx fl c + min (l.length : Int) most > 65537)) = true) :
    totO most l nx fl c = [] ∧ totN most l nx fl c = N2 m2 l nx fl c ∧ totB most l nx fl c = true ∧ totC most l nx fl c = C2 m2 l nx fl c := by
  subst hm; exact to_full h0 h hf
theorem to_ok2 {most m2 nx : Int} {l : List Int} {fl : Bool} {c : List (List Int)} (hm : m2 = most) (h0 : 1 ≤ l.length) (h : (((l.length : Int) == 1) || fl) = false) (hf : (B2 m2 l nx fl c || decide (N2 m2 l nx fl c + min (l.length : Int) most > 65537)) = false) :
    totO most l nx fl c = outsT (N2 m2 l nx fl c) (MN most l) ∧ totN most l nx fl c = N2 m2 l nx fl c + min (l.length : Int) most ∧ totB most l nx fl c = false ∧ totC most l nx fl c = C2 m2 l nx fl c ++ clsT (O1 m2 l nx fl c) (O2 m2 l nx fl c) (outsT (N2 m2 l nx fl c) (MN most l)) ((O1 m2 l nx fl c).length + 1) := by
  subst hm; exact to_ok h0 h hf
theorem or_le {b : Bool} {x : Int} (h : (b || decide (x > 65537)) = false) : b = false ∧ x ≤ 65537 := by
  simp only [Bool.or_eq_false_iff, decide_eq_false_iff_not] at h
  exact ⟨h.1, by omega⟩
theorem outs_rl {n : Int} {m i : Nat} (h : i ≤ m) : (outsT n i ++ List.replicate (m - i) (0 : Int)).length = m := by
  rw [List.length_append, outs_len, List.length_replicate]; omega
theorem cl_bd {a b o : List Int} {c : List (List Int)} {j k : Nat} (h1 : j ≤ 4097) (h2 : k ≤ 4097) (h3 : b.length ≤ 4096) : ((c ++ clsT a b o j) ++ rowT a b o j k).length ≤ c.length + 33600000 := by
  have e1 := cls_len a b o j
  have e2 := row_len a b o j k
  have e3 : 2 * (b.length + 1) * j ≤ 2 * 4097 * 4097 := Nat.mul_le_mul (by omega) h1
  simp only [List.length_append]; omega
theorem nx_c {a b o : List Int} {X : List (List Int)} {j k : Nat} {u d : List (List Int)} (hu : up1 a b o j k = u) (hd : dn1 a b o j k = d) : ((X ++ rowT a b o j k) ++ u) ++ d = X ++ rowT a b o j (k + 1) := by
  rw [← row_next, ← hu, ← hd]; simp
theorem nx_u {a b o : List Int} {X : List (List Int)} {j k : Nat} {u : List (List Int)} (hu : up1 a b o j k = u) (hd : dn1 a b o j k = []) : (X ++ rowT a b o j k) ++ u = X ++ rowT a b o j (k + 1) := by
  have := nx_c (X := X) hu hd; simpa using this
theorem nx_d {a b o : List Int} {X : List (List Int)} {j k : Nat} {d : List (List Int)} (hu : up1 a b o j k = []) (hd : dn1 a b o j k = d) : (X ++ rowT a b o j k) ++ d = X ++ rowT a b o j (k + 1) := by
  have := nx_c (X := X) hu hd; simpa using this
theorem nx_0 {a b o : List Int} {X : List (List Int)} {j k : Nat} (hu : up1 a b o j k = []) (hd : dn1 a b o j k = []) : X ++ rowT a b o j k = X ++ rowT a b o j (k + 1) := by
  have := nx_c (X := X) hu hd; simpa using this
theorem nx_r {a b o : List Int} {C : List (List Int)} {j k : Nat} (hk : k = b.length + 1) : (C ++ clsT a b o j) ++ rowT a b o j k = C ++ clsT a b o (j + 1) := by
  rw [hk, List.append_assoc, cls_next]
theorem up_y {a b o : List Int} {m : Int} {i k : Nat} (hm : (o.length : Int) = m) (h : (decide ((i : Int) + (k : Int) > 0) && decide ((i : Int) + (k : Int) ≤ m)) = true) : up1 a b o i k = [[neg1 (at1 a ((i : Int) - 1)), neg1 (at1 b ((k : Int) - 1)), at1 o ((i : Int) + (k : Int) - 1)].flatten] := by
  simp only [Bool.and_eq_true, decide_eq_true_eq] at h
  rw [up_yes (by omega) (by omega)]; simp
theorem up_n {a b o : List Int} {m : Int} {i k : Nat} (hm : (o.length : Int) = m) (h : (decide ((i : Int) + (k : Int) > 0) && decide ((i : Int) + (k : Int) ≤ m)) = false) : up1 a b o i k = [] := by
  simp only [Bool.and_eq_false_iff, decide_eq_false_iff_not] at h
  exact up_no (by omega)
theorem dn_y {a b o : List Int} {m : Int} {i k : Nat} (hm : (o.length : Int) = m) (h : (i : Int) + (k : Int) < m) : dn1 a b o i k = [[at1 a i, at1 b k, neg1 (at1 o ((i : Int) + (k : Int)))].flatten] := by
  rw [dn_yes (by omega)]; simp
theorem dn_n {a b o : List Int} {m : Int} {i k : Nat} (hm : (o.length : Int) = m) (h : ¬ (i : Int) + (k : Int) < m) : dn1 a b o i k = [] := dn_no (by omega)
theorem tri_len {x y z : List Int} (hx : x.length ≤ 1) (hy : y.length ≤ 1) (hz : z.length ≤ 1) : ∀ w ∈ [x, y, z], w.length ≤ 3 := fun w hw => by
  rcases List.mem_cons.1 hw with rfl | hw
  · omega
  · rcases List.mem_cons.1 hw with rfl | hw
    · omega
    · rw [List.mem_singleton.1 hw]; omega
theorem outs_fill {n : Int} {m i : Nat} (h : i < m) : (outsT n i ++ List.replicate (m - i) (0 : Int)).set i (n + i) = outsT n (i + 1) ++ List.replicate (m - (i + 1)) 0 := by
  obtain ⟨k, hk⟩ : ∃ k, m - i = k + 1 := ⟨m - i - 1, by omega⟩
  rw [hk, show m - (i + 1) = k by omega, List.replicate_succ]
  have e : outsT n (i + 1) = outsT n i ++ [n + i] := by unfold outsT; rw [List.range_succ, List.map_append]; rfl
  have hl := outs_len n i
  rw [List.set_append_right _ _ (by omega), hl, Nat.sub_self, e, List.append_assoc]; rfl
theorem outs_full {n : Int} {m i : Nat} (h : i = m) : outsT n i ++ List.replicate (m - i) (0 : Int) = outsT n m := by rw [h, Nat.sub_self]; simp
theorem to_len {most nx : Int} {l : List Int} {fl : Bool} {c : List (List Int)} (hm0 : 0 ≤ most) (h2 : l.length ≠ 0) (hn1 : 1 ≤ nx) (hn2 : nx ≤ 65537) (hx : ∀ x ∈ l, -65537 ≤ x ∧ x ≤ 65537) : (totO most l nx fl c).length ≤ l.length := (tot_bd most hm0 l.length l (nx, fl, c) rfl (by omega) hn1 hn2 hx).1
def badT (most : Int) (l : List Int) (next : Int) : Bool := bif (decide (next < 1)) then (decide (next < 1)) else (bif (decide (next > 65537)) then (decide (next > 65537)) else (bif (decide (most < 0)) then (decide (most < 0)) else (bif (decide (most > 1099511627776)) then (decide (most > 1099511627776)) else (decide ((l.length : Int) > 4096)))))
theorem badT_iff {most : Int} {l : List Int} {next : Int} : badT most l next = true ↔ next < 1 ∨ 65537 < next ∨ most < 0 ∨ 1099511627776 < most ∨ 4096 < l.length := by
  unfold badT
  by_cases h1 : next < 1
  · simp [h1]
  by_cases h2 : next > 65537
  · simp [h1, h2]
  by_cases h3 : most < 0
  · simp [h1, h2, h3]
  by_cases h4 : most > 1099511627776
  · simp [h1, h2, h3, h4]
  simp only [h1, h2, h3, h4, decide_false, cond_false, decide_eq_true_eq, false_or]
  omega
def totR (most : Int) (l : List Int) (next : Int) : List Int × List (List Int) × Int × Int :=
  if badT most l next = true then ([], [], 0, 1) else if apartB next l = false then ([], [], 0, 140) else if l.length = 0 ∨ most = 0 then ([], [], next, 0)
  else if totB most l next false [] = true then ([], [], 0, 2) else (totO most l next false [], totC most l next false [], totN most l next false [], 0)
section
variable {most next : Int} {l : List Int}
theorem ntT2 {b : Bool} (h : (!b) = true) : b = false := by cases b <;> simp_all
theorem ntF2 {b : Bool} (h : (!b) = false) : b = true := by cases b <;> simp_all
theorem tt_arg (h : badT most l next = true) : totR most l next = ([], [], 0, 1) := if_pos h
theorem tt_ok (h : badT most l next = false) : ¬ badT most l next = true ∧ 1 ≤ next ∧ next ≤ 65537 ∧ 0 ≤ most ∧ most ≤ 1099511627776 ∧ l.length ≤ 4096 := by
  have h2 : ¬ badT most l next = true := by rw [h]; simp
  refine ⟨h2, ?_⟩
  rw [badT_iff] at h2
  omega
theorem tt_lit (hg : ¬ badT most l next = true ∧ 1 ≤ next ∧ next ≤ 65537 ∧ 0 ≤ most ∧ most ≤ 1099511627776 ∧ l.length ≤ 4096) (h : apartB next l = false) : totR most l next = ([], [], 0, 140) := by
  unfold totR; rw [if_neg hg.1, if_pos h]
theorem nil_iff {n m : Int} : (bif (n == 0) then (n == 0) else (m == 0)) = true ↔ n = 0 ∨ m = 0 := by
  by_cases h : n = 0
  · simp [h]
  · simp [h]
theorem tt_nil (hg : ¬ badT most l next = true ∧ 1 ≤ next ∧ next ≤ 65537 ∧ 0 ≤ most ∧ most ≤ 1099511627776 ∧ l.length ≤ 4096) (ha : apartB next l = true) (h : (bif ((l.length : Int) == 0) then ((l.length : Int) == 0) else (most == 0)) = true) : totR most l next = ([], [], next, 0) := by
  unfold totR
  have := nil_iff.1 h
  rw [if_neg hg.1, if_neg (by rw [ha]; simp), if_pos (by omega)]
theorem tt_nz (h : (bif ((l.length : Int) == 0) then ((l.length : Int) == 0) else (most == 0)) = false) : l.length ≠ 0 ∧ most ≠ 0 := by
  have h2 : ¬ (bif ((l.length : Int) == 0) then ((l.length : Int) == 0) else (most == 0)) = true := by rw [h]; simp
  rw [nil_iff] at h2
  omega
theorem tt_full (hg : ¬ badT most l next = true ∧ 1 ≤ next ∧ next ≤ 65537 ∧ 0 ≤ most ∧ most ≤ 1099511627776 ∧ l.length ≤ 4096) (ha : apartB next l = true) (hz : l.length ≠ 0 ∧ most ≠ 0) (h : totB most l next false [] = true) : totR most l next = ([], [], 0, 2) := by
  unfold totR
  rw [if_neg hg.1, if_neg (by rw [ha]; simp), if_neg (by omega), if_pos h]
theorem tt_fine (hg : ¬ badT most l next = true ∧ 1 ≤ next ∧ next ≤ 65537 ∧ 0 ≤ most ∧ most ≤ 1099511627776 ∧ l.length ≤ 4096) (ha : apartB next l = true) (hz : l.length ≠ 0 ∧ most ≠ 0) (h : totB most l next false [] = false) : totR most l next = (totO most l next false [], totC most l next false [], totN most l next false [], 0) := by
  unfold totR
  rw [if_neg hg.1, if_neg (by rw [ha]; simp), if_neg (by omega), if_neg (by rw [h]; simp)]
end
end Go.Proofs.YtkkapbnopmmmjaaDoor.Cn
namespace Go.Proofs.YtkkapbnopmmmjaaDoor.Cn
open Go
def seenC (l : List Int) : List Int := l.foldl (fun ks x => addK ks (max x (-x))) []
theorem seenC_next {l : List Int} {i : Nat} (h : i < l.length) : addK (seenC (l.take i)) (max (l.getD i 0) (-(l.getD i 0))) = seenC (l.take (i + 1)) := by
  unfold seenC; rw [take_sD (d := 0) h, List.foldl_append]; rfl
theorem seenC_has (l : List Int) (z : Int) : (seenC l).contains z = l.any fun x => z == max x (-x) := by
  unfold seenC; rw [seen_fold]; rfl
def rtAt (next : Int) (l : List Int) (i : Nat) : Bool := !((decide (max (l.getD i 0) (-(l.getD i 0)) ≤ 0) || decide (max (l.getD i 0) (-(l.getD i 0)) ≥ next)) || (seenC (l.take i)).contains (max (l.getD i 0) (-(l.getD i 0))))
theorem rt_ap {next : Int} {l : List Int} {i : Nat} : rtAt next l i = apAt next l i := by
  unfold rtAt apAt
  rw [seen_has, seenC_has]
  generalize (List.any (l.take i) fun x => max (l.getD i 0) (-(l.getD i 0)) == max x (-x)) = b
  congr 1
  by_cases h0 : max (l.getD i 0) (-(l.getD i 0)) = 0
  · rw [h0]; simp
  · have h1 : ¬ max (l.getD i 0) (-(l.getD i 0)) < 0 := by omega
    have h2 : ¬ max (l.getD i 0) (-(l.getD i 0)) ≤ 0 := by omega
    have h3 : (max (l.getD i 0) (-(l.getD i 0)) == 0) = false := beq_eq_false_iff_ne.2 h0
    rw [decide_eq_false h1, decide_eq_false h2, h3]; rfl
def rightE (next : Int) (l : List Int) : Int := if next < 1 ∨ 65537 < next ∨ 4096 < l.length then 1 else if apartB next l = true then 0 else 140
theorem rt_arg {next : Int} {l : List Int} (h : ((decide (next < 1) || decide (next > 65537)) || decide ((l.length : Int) > 4096)) = true) : rightE next l = 1 := by
  simp only [Bool.or_eq_true, decide_eq_true_eq] at h
  unfold rightE; rw [if_pos (by omega)]
theorem rt_ok {next : Int} {l : List Int} (h : ((decide (next < 1) || decide (next > 65537)) || decide ((l.length : Int) > 4096)) = false) : 1 ≤ next ∧ next ≤ 65537 ∧ l.length ≤ 4096 := by
  simp only [Bool.or_eq_false_iff, decide_eq_false_iff_not] at h
  omega
theorem rt_bad {next : Int} {l : List Int} {i : Nat} (h : 1 ≤ next ∧ next ≤ 65537 ∧ l.length ≤ 4096) (hi : i < l.length) (hq : rtAt next l i = false) : rightE next l = 140 := by
  unfold rightE
  rw [if_neg (by omega), if_neg]
  rw [ap_no hi (by rw [← rt_ap]; exact hq)]; simp
theorem rt_fine {next : Int} {l : List Int} {i : Nat} (h : 1 ≤ next ∧ next ≤ 65537 ∧ l.length ≤ 4096) (hi : i = l.length) (hq : ∀ j, j < i → rtAt next l j = true) : rightE next l = 0 := by
  unfold rightE
  rw [if_neg (by omega), if_pos (ap_yes hi fun j hj => by rw [← rt_ap]; exact hq j hj)]
def regV (b m j : Int) : Int := if j < 1 ∨ m < j then 0 else b + j - 1
def nz (l : List Int) : List Int := l.filter fun x => !(x == 0)
def regC (b m ab am x : Int) (j : Nat) : List (List Int) := (List.range j).flatMap fun i : Nat =>
  [nz [-(regV b m ((i : Int) + 1)), regV ab am ((i : Int) + 1), x]] ++ if (i : Int) + 1 > 1 then [nz [-(regV b m ((i : Int) + 1)), regV ab am ((i : Int) + 1), regV ab am ((i : Int) + 1 - 1)]] else []
theorem reg_next {b m ab am x : Int} {j : Nat} : regC b m ab am x (j + 1) = regC b m ab am x j ++ ([nz [-(regV b m ((j : Int) + 1)), regV ab am ((j : Int) + 1), x]] ++ if (j : Int) + 1 > 1 then [nz [-(regV b m ((j : Int) + 1)), regV ab am ((j : Int) + 1), regV ab am ((j : Int) + 1 - 1)]] else []) := by
  unfold regC
  rw [List.range_succ, List.flatMap_append]; simp
def cAb (k next : Int) : Nat → Int × Int × Int
  | 0 => (0, 0, next)
  | i + 1 => ((cAb k next i).2.2, min ((i : Int) + 1) k, (cAb k next i).2.2 + min ((i : Int) + 1) k)
def cntC (l : List Int) (k next : Int) : Nat → List (List Int)
  | 0 => []
  | i + 1 => cntC l k next i ++ regC (cAb k next i).2.2 (min ((i : Int) + 1) k) (cAb k next i).1 (cAb k next i).2.1 (l.getD i 0) (min ((i : Int) + 1) k).toNat
def leastR (l : List Int) (k next : Int) : List (List Int) × Int × Int :=
  if rightE next l ≠ 0 then ([], 0, rightE next l) else if k ≤ 0 then ([], next, 0) else if (l.length : Int) < k then ([[]], next, 0)
  else if ((decide (next + ((k * (k - 1)).tdiv 2 + k * ((l.length : Int) - k + 1)) - 1 > 65536)) || decide (2 * ((k * (k - 1)).tdiv 2 + k * ((l.length : Int) - k + 1)) - (l.length : Int) + 1 > 65536)) = true then ([], 0, 2)
  else (cntC l k next l.length ++ [nz [regV (cAb k next l.length).1 (cAb k next l.length).2.1 k]], (cAb k next l.length).2.2, 0)
theorem reg_out {b m j : Int} (h : (decide (j < 1) || decide (j > m)) = true) : regV b m j = 0 := by
  simp only [Bool.or_eq_true, decide_eq_true_eq] at h
  unfold regV; rw [if_pos (by omega)]
theorem reg_in {b m j : Int} (h : (decide (j < 1) || decide (j > m)) = false) : regV b m j = b + j - 1 := by
  simp only [Bool.or_eq_false_iff, decide_eq_false_iff_not] at h
  unfold regV; rw [if_neg (by omega)]
theorem regV_bd {b m j B : Int} (hb : -B ≤ b ∧ b ≤ B) (hj : -B ≤ j ∧ j ≤ B) (hB : 1 ≤ B) : -(3 * B) ≤ regV b m j ∧ regV b m j ≤ 3 * B := by
  unfold regV; split <;> omega
theorem cAb_bd {k next : Int} (hk : 0 ≤ k ∧ k ≤ 4096) (hn : 1 ≤ next ∧ next ≤ 65537) : ∀ i : Nat, i ≤ 4096 → 0 ≤ (cAb k next i).1 ∧ (cAb k next i).1 ≤ 65537 + 4096 * i ∧ 0 ≤ (cAb k next i).2.1 ∧ (cAb k next i).2.1 ≤ 4096 ∧ 1 ≤ (cAb k next i).2.2 ∧ (cAb k next i).2.2 ≤ 65537 + 4096 * i
  | 0, _ => by simp only [cAb]; omega
  | i + 1, h => by
    have ih := cAb_bd hk hn i (by omega)
    simp only [cAb]
    omega
theorem regC_len (b m ab am x : Int) : ∀ j, (regC b m ab am x j).length ≤ 2 * j
  | 0 => Nat.le_refl _
  | j + 1 => by
    rw [reg_next]
    have := regC_len b m ab am x j
    split <;> simp only [List.length_append, List.length_cons, List.length_nil] <;> omega
theorem cntC_len {l : List Int} {k next : Int} (hk : k ≤ 4096) : ∀ i : Nat, (cntC l k next i).length ≤ 8192 * i
  | 0 => Nat.le_refl _
  | i + 1 => by
    rw [cntC, List.length_append]
    have ih := cntC_len (l := l) (next := next) hk i
    have := regC_len (cAb k next i).2.2 (min ((i : Int) + 1) k) (cAb k next i).1 (cAb k next i).2.1 (l.getD i 0) (min ((i : Int) + 1) k).toNat
    omega
theorem rn_1 {X : List (List Int)} {b m ab am x : Int} {j : Nat} (h : (j : Int) + 1 > 1) : ((X ++ regC b m ab am x j) ++ [nz [-(regV b m ((j : Int) + 1)), regV ab am ((j : Int) + 1), x]]) ++ [nz [-(regV b m ((j : Int) + 1)), regV ab am ((j : Int) + 1), regV ab am ((j : Int) + 1 - 1)]] = X ++ regC b m ab am x (j + 1) := by
  rw [reg_next, if_pos h]; simp
theorem rn_0 {X : List (List Int)} {b m ab am x : Int} {j : Nat} (h : ¬ (j : Int) + 1 > 1) : (X ++ regC b m ab am x j) ++ [nz [-(regV b m ((j : Int) + 1)), regV ab am ((j : Int) + 1), x]] = X ++ regC b m ab am x (j + 1) := by
  rw [reg_next, if_neg h]; simp
theorem cnt_next {l : List Int} {k next : Int} {i j : Nat} (h : j = (min ((i : Int) + 1) k).toNat) : cntC l k next i ++ regC (cAb k next i).2.2 (min ((i : Int) + 1) k) (cAb k next i).1 (cAb k next i).2.1 (l.getD i 0) j = cntC l k next (i + 1) := by
  rw [h, cntC]
theorem kk_bd {k n : Int} (h0 : 0 < k) (h1 : k ≤ n) (h2 : n ≤ 4096) : 0 ≤ k * (k - 1) ∧ k * (k - 1) ≤ 16777216 ∧ 0 ≤ k * (n - k + 1) ∧ k * (n - k + 1) ≤ 16777216 ∧ 0 ≤ (k * (k - 1)).tdiv 2 ∧ (k * (k - 1)).tdiv 2 ≤ 16777216 := by
  have a1 : 0 ≤ k * (k - 1) := Int.mul_nonneg (by omega) (by omega)
  have a2 : k * (k - 1) ≤ 4096 * 4096 := Int.mul_le_mul (by omega) (by omega) (by omega) (by omega)
  have a3 : 0 ≤ k * (n - k + 1) := Int.mul_nonneg (by omega) (by omega)
  have a4 : k * (n - k + 1) ≤ 4096 * 4096 := Int.mul_le_mul (by omega) (by omega) (by omega) (by omega)
  have a5 : (k * (k - 1)).tdiv 2 = k * (k - 1) / 2 := Int.tdiv_eq_ediv_of_nonneg a1
  rw [a5]
  omega
section
variable {l : List Int} {k next : Int}
theorem lr_err (h : rightE next l ≠ 0) : leastR l k next = ([], 0, rightE next l) := by unfold leastR; rw [if_pos h]
theorem lr_0 (h : rightE next l = 0) (hk : k ≤ 0) : leastR l k next = ([], next, 0) := by unfold leastR; rw [if_neg (by omega), if_pos hk]
theorem lr_n (h : rightE next l = 0) (hk : ¬ k ≤ 0) (hn : k > (l.length : Int)) : leastR l k next = ([[]], next, 0) := by unfold leastR; rw [if_neg (by omega), if_neg hk, if_pos (by omega)]
theorem lr_big (h : rightE next l = 0) (hk : ¬ k ≤ 0) (hn : ¬ k > (l.length : Int)) (hb : ((decide (next + ((k * (k - 1)).tdiv 2 + k * ((l.length : Int) - k + 1)) - 1 > 65536)) || decide (2 * ((k * (k - 1)).tdiv 2 + k * ((l.length : Int) - k + 1)) - (l.length : Int) + 1 > 65536)) = true) : leastR l k next = ([], 0, 2) := by
  unfold leastR; rw [if_neg (by omega), if_neg hk, if_neg (by omega), if_pos hb]
theorem lr_ok (h : rightE next l = 0) (hk : ¬ k ≤ 0) (hn : ¬ k > (l.length : Int)) (hb : ((decide (next + ((k * (k - 1)).tdiv 2 + k * ((l.length : Int) - k + 1)) - 1 > 65536)) || decide (2 * ((k * (k - 1)).tdiv 2 + k * ((l.length : Int) - k + 1)) - (l.length : Int) + 1 > 65536)) = false) :
    leastR l k next = (cntC l k next l.length ++ [nz [regV (cAb k next l.length).1 (cAb k next l.length).2.1 k]], (cAb k next l.length).2.2, 0) := by
  unfold leastR; rw [if_neg (by omega), if_neg hk, if_neg (by omega), if_neg (by rw [hb]; simp)]
theorem right_0 (h : rightE next l = 0) : 1 ≤ next ∧ next ≤ 65537 ∧ l.length ≤ 4096 := by
  unfold rightE at h
  split at h
  · cases h
  · omega
end
end Go.Proofs.YtkkapbnopmmmjaaDoor.Cn
namespace Go.Proofs.YtkkapbnopmmmjaaDoor.Cn
open Go
def evB (C : List Int) : Bool := (C.all fun c => c == C.getD 0 0) && !(C.length == 0)
def evK (C : List Int) (B : Int) : Int := if evB C = true then (B - 1).tdiv (C.getD 0 0) + 1 else 0
def wayP (C : List Int) (B : Int) : Int :=
  if C.length = 0 then (if B = 0 then 5 else 6) else if evB C = true ∧ C.getD 0 0 = B then 1 else if evB C = true ∧ C.length ≤ 10 then 2 else if evB C = true ∧ (C.length : Int) * evK C B ≤ 400 then 3 else 4
def NormC (C : List Int) (B : Int) : Prop := C.length ≤ 4096 ∧ (∀ c ∈ C, 1 ≤ c ∧ c ≤ 4503599627370496) ∧ 0 ≤ B ∧ B ≤ 4503599627370496 ∧ (C.length ≠ 0 → 1 ≤ B ∧ B ≤ C.sum)
theorem sum_all {c : Int} : ∀ {C : List Int}, (∀ x ∈ C, x = c) → C.sum = C.length * c
  | [], _ => by simp
  | x :: C, h => by
    rw [List.sum_cons, sum_all fun y hy => h y (List.mem_cons_of_mem _ hy), h x List.mem_cons_self, List.length_cons, Int.natCast_add, Int.add_mul]
    omega
theorem ev_fact {C : List Int} {B : Int} (h : NormC C B) (he : evB C = true) : C.length ≠ 0 ∧ 1 ≤ C.getD 0 0 ∧ C.getD 0 0 ≤ 4503599627370496 ∧ 1 ≤ evK C B ∧ evK C B ≤ C.length ∧ B ≤ evK C B * C.getD 0 0 ∧ (evK C B - 1) * C.getD 0 0 < B := by
  obtain ⟨h1, h2, h3, h4, h5⟩ := h
  have he' := he
  unfold evB at he
  simp only [Bool.and_eq_true, List.all_eq_true, beq_iff_eq, Bool.not_eq_true', beq_eq_false_iff_ne] at he
  obtain ⟨e1, e2⟩ := he
  have hc := h2 _ (getD_memL (d := (0 : Int)) (show 0 < C.length by omega))
  have hs := sum_all e1
  have hB := h5 e2
  have ek : evK C B = (B - 1) / C.getD 0 0 + 1 := by
    unfold evK; rw [if_pos he', Int.tdiv_eq_ediv_of_nonneg (by omega)]
  generalize C.getD 0 0 = c at *
  have hq := Int.mul_ediv_add_emod (B - 1) c
  have hr0 := Int.emod_nonneg (B - 1) (show c ≠ 0 by omega)
  have hr1 := Int.emod_lt_of_pos (B - 1) (show 0 < c by omega)
  have hq0 : 0 ≤ (B - 1) / c := Int.ediv_nonneg (by omega) (by omega)
  have hqn : (B - 1) / c < C.length := by
    refine Int.ediv_lt_of_lt_mul (by omega) ?_
    omega
  rw [ek]
  have m1 : ((B - 1) / c + 1) * c = c * ((B - 1) / c) + c := by rw [Int.add_mul, Int.mul_comm]; omega
  have m2 : ((B - 1) / c + 1 - 1) * c = c * ((B - 1) / c) := by rw [Int.add_sub_cancel, Int.mul_comm]
  rw [m1, m2]
  refine ⟨e2, hc.1, hc.2, by omega, by omega, by omega, by omega⟩
def grdL (g : Int) (l : List Int) : List Int := if g ≠ 0 then [-g] ++ l else l
def grd (g : Int) (c : List (List Int)) : List (List Int) := c.map (grdL g)
theorem grd_next {g : Int} {c : List (List Int)} {i : Nat} (h : i < c.length) : grd g (c.take i) ++ [grdL g (c.getD i [])] = grd g (c.take (i + 1)) := by
  unfold grd; rw [take_sD (d := []) h, List.map_append]; rfl
theorem grd_len (g : Int) (c : List (List Int)) : (grd g c).length = c.length := by unfold grd; rw [List.length_map]
theorem ev_no {C : List Int} {B : Int} {i : Nat} (hi : i < C.length) (h : C.getD i 0 ≠ C.getD 0 0) : evK C B = 0 ∧ evB C = false := by
  have e : evB C = false := by
    unfold evB
    rw [Bool.and_eq_false_iff]
    exact .inl (List.all_eq_false.2 ⟨_, getD_memL (d := (0 : Int)) hi, by simpa using h⟩)
  exact ⟨by unfold evK; rw [e]; rfl, e⟩
theorem ev_nil {C : List Int} {B : Int} (h : (C.length : Int) = 0) : evK C B = 0 ∧ evB C = false := by
  have e : evB C = false := by
    unfold evB
    rw [Bool.and_eq_false_iff]
    exact .inr (by simp; cases C with | nil => rfl | cons x l => simp at h; omega)
  exact ⟨by unfold evK; rw [e]; rfl, e⟩
theorem ev_yes {C : List Int} {B : Int} {i : Nat} (hi : i = C.length) (h : ∀ j, j < i → C.getD j 0 = C.getD 0 0) (h0 : ¬ (C.length : Int) = 0) : evK C B = (B - 1).tdiv (C.getD 0 0) + 1 ∧ evB C = true := by
  have e : evB C = true := by
    unfold evB
    rw [Bool.and_eq_true]
    refine ⟨List.all_eq_true.2 fun x hx => ?_, by simpa using h0⟩
    obtain ⟨j, hj, rfl⟩ := List.getElem_of_mem hx
    have := h j (by omega)
    rw [List.getD_eq_getElem?_getD, List.getElem?_eq_getElem hj] at this
    simpa using this
  exact ⟨by unfold evK; rw [e]; rfl, e⟩
theorem nc_bd {C : List Int} {B : Int} (h : NormC C B) : 0 ≤ B ∧ B ≤ 4503599627370496 := ⟨h.2.2.1, h.2.2.2.1⟩
theorem nc_0 {C : List Int} {B : Int} (h : NormC C B) (h0 : ¬ (C.length : Int) = 0) : 1 ≤ C.getD 0 0 ∧ 1 ≤ B ∧ 0 ≤ (B - 1).tdiv (C.getD 0 0) ∧ (B - 1).tdiv (C.getD 0 0) ≤ 4503599627370496 := by
  have hc := h.2.1 _ (getD_memL (d := (0 : Int)) (show 0 < C.length by omega))
  have hB := (h.2.2.2.2 (by omega)).1
  have hb := nc_bd h
  refine ⟨hc.1, hB, ?_⟩
  rw [Int.tdiv_eq_ediv_of_nonneg (by omega)]
  exact ⟨Int.ediv_nonneg (by omega) (by omega), Int.le_trans (Int.ediv_le_self _ (by omega)) (by omega)⟩
theorem nk_bd {C : List Int} {B : Int} (h : NormC C B) (he : evB C = true) : 0 ≤ (C.length : Int) * evK C B ∧ (C.length : Int) * evK C B ≤ 16777216 := by
  obtain ⟨f1, f2, f3, f4, f5, f6, f7⟩ := ev_fact h he
  have h1 := h.1
  exact ⟨Int.mul_nonneg (by omega) (by omega), Int.le_trans (Int.mul_le_mul (show (C.length : Int) ≤ 4096 by omega) (show evK C B ≤ 4096 by omega) (by omega) (by omega)) (by omega)⟩
section
variable {C : List Int} {B : Int}
theorem wy_5 (h : (((C.length : Int) == 0) && (B == 0)) = true) : wayP C B = 5 := by
  simp only [Bool.and_eq_true, beq_iff_eq] at h
  unfold wayP; rw [if_pos (by omega), if_pos h.2]
theorem wy_6 (h5 : (((C.length : Int) == 0) && (B == 0)) = false) (h : (C.length : Int) = 0) : wayP C B = 6 := by
  simp only [Bool.and_eq_false_iff, beq_eq_false_iff_ne] at h5
  unfold wayP; rw [if_pos (by omega), if_neg (by omega)]
theorem wy_1 (h6 : ¬ (C.length : Int) = 0) (h : (evB C && (C.getD 0 0 == B)) = true) : wayP C B = 1 := by
  simp only [Bool.and_eq_true, beq_iff_eq] at h
  unfold wayP; rw [if_neg (by omega), if_pos h]
theorem wy_2 (h6 : ¬ (C.length : Int) = 0) (h1 : (evB C && (C.getD 0 0 == B)) = false) (h : (evB C && decide ((C.length : Int) ≤ 10)) = true) : wayP C B = 2 := by
  simp only [Bool.and_eq_true, decide_eq_true_eq] at h
  have h1' : ¬ (evB C = true ∧ C.getD 0 0 = B) := fun q => by rw [q.1, q.2] at h1; simp at h1
  unfold wayP; rw [if_neg (by omega), if_neg h1', if_pos ⟨h.1, by omega⟩]
theorem wy_3 (h6 : ¬ (C.length : Int) = 0) (h1 : (evB C && (C.getD 0 0 == B)) = false) (h2 : (evB C && decide ((C.length : Int) ≤ 10)) = false) (h : (evB C && decide ((C.length : Int) * evK C B ≤ 400)) = true) : wayP C B = 3 := by
  simp only [Bool.and_eq_true, decide_eq_true_eq] at h
  have h1' : ¬ (evB C = true ∧ C.getD 0 0 = B) := fun q => by rw [q.1, q.2] at h1; simp at h1
  have h2' : ¬ (evB C = true ∧ C.length ≤ 10) := fun q => by rw [q.1] at h2; simp at h2; omega
  unfold wayP; rw [if_neg (by omega), if_neg h1', if_neg h2', if_pos h]
theorem wy_4 (h6 : ¬ (C.length : Int) = 0) (h1 : (evB C && (C.getD 0 0 == B)) = false) (h2 : (evB C && decide ((C.length : Int) ≤ 10)) = false) (h : (evB C && decide ((C.length : Int) * evK C B ≤ 400)) = false) : wayP C B = 4 := by
  have h1' : ¬ (evB C = true ∧ C.getD 0 0 = B) := fun q => by rw [q.1, q.2] at h1; simp at h1
  have h2' : ¬ (evB C = true ∧ C.length ≤ 10) := fun q => by rw [q.1] at h2; simp at h2; omega
  have h3' : ¬ (evB C = true ∧ (C.length : Int) * evK C B ≤ 400) := fun q => by rw [q.1] at h; simp at h; omega
  unfold wayP; rw [if_neg (by omega), if_neg h1', if_neg h2', if_neg h3']
end
theorem gn_1 {g : Int} {c : List (List Int)} {i : Nat} (hi : i < c.length) (h : g ≠ 0) : grd g (c.take i) ++ [([] ++ [-g]) ++ c.getD i []] = grd g (c.take (i + 1)) := by
  rw [← grd_next hi]; unfold grdL; rw [if_pos h]; rfl
theorem gn_0 {g : Int} {c : List (List Int)} {i : Nat} (hi : i < c.length) (h : g = 0) : grd g (c.take i) ++ [[] ++ c.getD i []] = grd g (c.take (i + 1)) := by
  rw [← grd_next hi]; unfold grdL; rw [if_neg (by simpa using h)]; rfl
theorem grd_tk (g : Int) (c : List (List Int)) (i : Nat) : (grd g (c.take i)).length ≤ i := by rw [grd_len, List.length_take]; omega
theorem tr_ok {k next : Int} {l : List Int} (hk1 : 1 ≤ k) (hk2 : k ≤ l.length) (h : (totR k l next).2.2.2 = 0) : totB k l next false [] = false ∧ totR k l next = (totO k l next false [], totC k l next false [], totN k l next false [], 0) := by
  unfold totR at h ⊢
  split at h
  · cases h
  · rename_i h1
    split at h
    · cases h
    · rename_i h2
      split at h
      · rename_i h3; omega
      · rename_i h3
        split at h
        · cases h
        · rename_i h4
          rw [if_neg h1, if_neg h2, if_neg h3, if_neg h4]
          exact ⟨by simpa using h4, rfl⟩
theorem tot_olen {k next : Int} {l : List Int} (hk1 : 1 ≤ k) (hk2 : k ≤ l.length) (h : totB k l next false [] = false) : ((totO k l next false []).length : Int) = k := by
  by_cases hl : l.length = 1
  · have e := (to_one (most := k) (nx := next) (c := []) (l := l) (fl := false) (by omega) (by rw [hl]; rfl)).1
    rw [e]; omega
  · have hh : (((l.length : Int) == 1) || false) = false := by
      rw [Bool.or_false, beq_eq_false_iff_ne]; omega
    cases hf : (B2 k l next false [] || decide (N2 k l next false [] + min (l.length : Int) k > 65537)) with
    | true => rw [(to_full (by omega) hh hf).2.2.1] at h; cases h
    | false =>
      rw [(to_ok (by omega) hh hf).1, outs_len]
      show ((min (l.length : Int) k).toNat : Int) = k
      omega
end Go.Proofs.YtkkapbnopmmmjaaDoor.Cn
namespace Go.Proofs.YtkkapbnopmmmjaaDoor
def okLit (ls : List Int) (x : Int) : Bool := !(wrongL 65536 x) && !(ls.any (· == x)) && !(ls.any (· == -x))
def Good (ls : List Int) (n : Nat) : Prop := ∀ i, i < n → okLit (ls.take i) (ls.getD i 0) = true
end Go.Proofs.YtkkapbnopmmmjaaDoor
namespace Go.Proofs.YtkkapbnopmmmjaaDoor
theorem norm_facts {l : LinV} (h : lcheck l 65536 = 0) : (normP l).C.length = (normP l).L.length ∧ (∀ y ∈ (normP l).L, y ≠ 0 ∧ -65536 ≤ y ∧ y ≤ 65536) ∧ (∀ c ∈ (normP l).C, 0 < c) ∧ sumF1 ((normP l).C.zip (normP l).L) ≤ 4503599627370496 := by
  have hx := (lcheck_ok h).2.2.2.2.2.1
  have hs := terms_bd h (varsZ l.L).length
  rw [List.take_length] at hs
  rw [normP, if_pos h, normW]
  split
  · exact ⟨rfl, fun y hy => (by cases hy), fun c hc => (by cases hc), by decide⟩
  · split
    · exact ⟨rfl, fun y hy => (by cases hy), fun c hc => (by cases hc), by decide⟩
    · rename_i hb _
      refine ⟨by simp, fun y hy => ?_, fun c hc => ?_, ?_⟩
      · obtain ⟨q, hq, rfl⟩ := List.mem_map.1 hy
        obtain ⟨v, hv, e⟩ := terms_var hq
        have := vars_le hx v hv
        rcases e with e | e <;> rw [e] <;> omega
      · obtain ⟨q, hq, rfl⟩ := List.mem_map.1 hc
        have := terms_pos l _ q hq
        simp only at *
        omega
      · rw [zip_map2]
        refine Int.le_trans ?_ hs.2
        generalize l.B - minsP l (varsZ l.L) = b
        generalize termsP l (varsZ l.L) = ts
        induction ts with
        | nil => simp [sumF1]
        | cons q t ih => simp only [List.map_cons, sumF1]; omega
end Go.Proofs.YtkkapbnopmmmjaaDoor
namespace Go.Proofs.YtkkapbnopmmmjaaDoor
def IncA (l : List Int) : Prop := Inc (l.map fun x => (x.natAbs : Int))
structure Canon (x : LinV) : Prop where
  len : x.C.length = x.L.length
  co : ∀ c ∈ x.C, 1 ≤ c ∧ c ≤ x.B
  inc : IncA x.L
  nil : x.C = [] → x.B = 0 ∨ x.B = 1
  full : x.C ≠ [] → 1 ≤ x.B ∧ x.B ≤ sumF1 (x.C.zip x.L)
theorem incA_terms (l : LinV) : ∀ vs : List Int, Inc vs → (∀ v ∈ vs, 0 < v) → IncA ((termsP l vs).map (·.2))
  | [], _, _ => by simp [termsP, IncA, Inc]
  | v :: t, hi, hp => by
    have ih := incA_terms l t hi.2 (fun u hu => hp u (by simp [hu]))
    have hv := hp v (by simp)
    have e : termsP l (v :: t) = termV (cf l v) (cf l (-v)) v ++ termsP l t := by simp [termsP]
    have hgt : ∀ y ∈ ((termsP l t).map (·.2)).map (fun x => (x.natAbs : Int)), v < y := fun y hy => by
      simp only [List.map_map, List.mem_map] at hy
      obtain ⟨q, hq, rfl⟩ := hy
      obtain ⟨u, hu, h⟩ := terms_var hq
      have h1 := hi.1 u hu
      simp only [Function.comp_apply]
      rcases h with h | h <;> rw [h] <;> omega
    rw [e]
    unfold termV IncA at *
    split
    · simp only [List.cons_append, List.nil_append, List.map_cons, Inc]
      refine ⟨fun y hy => ?_, ih⟩
      have := hgt y hy
      omega
    · split
      · simp only [List.cons_append, List.nil_append, List.map_cons, Inc]
        refine ⟨fun y hy => ?_, ih⟩
        have := hgt y hy
        omega
      · simpa using ih
theorem sumF1_min (B : Int) (hB : 0 ≤ B) : ∀ ts : List (Int × Int), (∀ q ∈ ts, 0 < q.1) → B ≤ sumF1 ts → B ≤ sumF1 (ts.map fun q => (min q.1 B, q.2))
  | [], _, h => by simpa [sumF1] using h
  | q :: t, hp, h => by
    have hq := hp q (by simp)
    simp only [sumF1, List.map_cons] at h ⊢
    have hnn : 0 ≤ sumF1 (t.map fun q => (min q.1 B, q.2)) := by
      have : ∀ s : List (Int × Int), (∀ q ∈ s, 0 < q.1) → 0 ≤ sumF1 (s.map fun q => (min q.1 B, q.2)) := fun s => by
        induction s with
        | nil => intro _; simp [sumF1]
        | cons u s ih => intro hs; have := ih (fun q hq => hs q (by simp [hq])); have := hs u (by simp); simp only [List.map_cons, sumF1]; omega
      exact this t (fun u hu => hp u (by simp [hu]))
    rcases Int.le_total B q.1 with h1 | h1
    · omega
    · have hle : sumF1 t - B ≤ sumF1 (t.map fun q => (min q.1 B, q.2)) - B ∨ B ≤ sumF1 (t.map fun q => (min q.1 B, q.2)) ∨ sumF1 (t.map fun q => (min q.1 B, q.2)) = sumF1 t := by
        have : ∀ s : List (Int × Int), (∀ q ∈ s, 0 < q.1) → B ≤ sumF1 (s.map fun q => (min q.1 B, q.2)) ∨ sumF1 (s.map fun q => (min q.1 B, q.2)) = sumF1 s := fun s => by
          induction s with
          | nil => intro _; right; rfl
          | cons u s ih =>
            intro hs
            have h0 := hs u (by simp)
            have hs' : ∀ q ∈ s, 0 < q.1 := fun q hq => hs q (by simp [hq])
            have hn : 0 ≤ sumF1 (s.map fun q => (min q.1 B, q.2)) := by
              clear ih
              induction s with
              | nil => simp [sumF1]
              | cons u s ih => have := ih (fun q hq => hs q (by simp at hq ⊢; rcases hq with h | h; exact .inl h; exact .inr (.inr h))) (fun q hq => hs' q (by simp [hq])); have := hs' u (by simp); simp only [List.map_cons, sumF1]; omega
            simp only [List.map_cons, sumF1]
            rcases ih hs' with h | h
            · left; omega
            · rcases Int.le_total B u.1 with h2 | h2
              · left; omega
              · right; omega
        rcases this t (fun u hu => hp u (by simp [hu])) with h | h
        · exact .inr (.inl h)
        · exact .inr (.inr h)
      omega
theorem canon0 : Canon lin0 := ⟨rfl, by simp [lin0], by simp [lin0, IncA, Inc], fun _ => .inl rfl, fun h => absurd rfl h⟩
theorem canon1 : Canon ⟨[], [], 1⟩ := ⟨rfl, by simp, by simp [IncA, Inc], fun _ => .inr rfl, fun h => absurd rfl h⟩
theorem normW_canon {l : LinV} (hz : ∀ x ∈ l.L, x ≠ 0) : Canon (normW l) := by
  have hi := incA_terms l _ (inc_varsZ l.L) (vars_pos hz)
  have hp := terms_pos l (varsZ l.L)
  unfold normW
  generalize minsP l (varsZ l.L) = m at *
  generalize termsP l (varsZ l.L) = ts at *
  split
  · exact canon0
  · split
    · exact canon1
    · refine ⟨by simp, fun c hc => ?_, hi, fun h => ?_, fun _ => ?_⟩
      · simp only [List.mem_map] at hc
        obtain ⟨q, hq, rfl⟩ := hc
        have := hp q hq
        simp only
        omega
      · simp only [List.map_eq_nil_iff] at h
        subst h
        simp only [sumF1] at *
        omega
      · simp only
        rw [zip_map2]
        exact ⟨by omega, sumF1_min _ (by omega) ts hp (by omega)⟩
theorem norm_canon (l : LinV) : Canon (normP l) := by
  unfold normP
  split
  · rename_i h
    exact normW_canon fun x hx => ((lcheck_ok h).2.2.2.2.2.1 x hx).1
  · exact canon0
theorem cfZ_inc : ∀ z : List (Int × Int), IncA (z.map (·.2)) → (∀ q ∈ z, q.2 ≠ 0) → ∀ q ∈ z, cfZ z q.2 = q.1 ∧ cfZ z (-q.2) = 0
  | [], _, _, q, hq => by simp at hq
  | h :: t, hi, hz, q, hq => by
    have hgt : ∀ u ∈ t, h.2.natAbs < u.2.natAbs := fun u hu => by
      have : (h.2.natAbs : Int) < (u.2.natAbs : Int) := hi.1 (u.2.natAbs : Int) (by simp only [List.mem_map]; exact ⟨u.2, ⟨u, hu, rfl⟩, rfl⟩)
      omega
    have h0 := hz h (by simp)
    rcases List.mem_cons.1 hq with rfl | hq
    · constructor
      · simp only [cfZ, if_true]
        rw [cfZ_none fun u hu => by have := hgt u hu; omega]
        omega
      · simp only [cfZ]
        rw [if_neg (by omega), cfZ_none fun u hu => by have := hgt u hu; omega]
        rfl
    · have ih := cfZ_inc t hi.2 (fun u hu => hz u (by simp [hu])) q hq
      have := hgt q hq
      simp only [cfZ]
      rw [if_neg (by omega), if_neg (by omega), ih.1, ih.2]
      simp
theorem vars_inc {L : List Int} (h : IncA L) : varsZ L = L.map fun x => (x.natAbs : Int) :=
  inc_ext (inc_varsZ L) h fun y => by
    rw [mem_varsZ, List.mem_map]
    constructor
    · rintro ⟨x, hx, rfl⟩; exact ⟨x, hx, rfl⟩
    · rintro ⟨x, hx, rfl⟩; exact ⟨x, hx, rfl⟩
theorem canon_terms {x : LinV} (h : Canon x) (hz : ∀ y ∈ x.L, y ≠ 0) : termsP x (varsZ x.L) = x.C.zip x.L ∧ minsP x (varsZ x.L) = 0 := by
  have hi : IncA ((x.C.zip x.L).map (·.2)) := by rw [zip_snd h.len]; exact h.inc
  have hq := cfZ_inc _ hi (fun q hq => hz q.2 (List.of_mem_zip hq).2)
  have hc : ∀ q ∈ x.C.zip x.L, 1 ≤ q.1 ∧ q.2 ≠ 0 := fun q hq => ⟨(h.co q.1 (List.of_mem_zip hq).1).1, hz q.2 (List.of_mem_zip hq).2⟩
  have hv : varsZ x.L = (x.C.zip x.L).map fun q => (q.2.natAbs : Int) := by
    rw [vars_inc h.inc]
    conv => lhs; rw [← zip_snd h.len]
    rw [List.map_map]
    rfl
  have key : ∀ z : List (Int × Int), (∀ q ∈ z, q ∈ x.C.zip x.L) → termsP x (z.map fun q => (q.2.natAbs : Int)) = z ∧ minsP x (z.map fun q => (q.2.natAbs : Int)) = 0 := fun z => by
    induction z with
    | nil => intro _; exact ⟨rfl, rfl⟩
    | cons q t ih =>
      intro hm
      obtain ⟨i1, i2⟩ := ih fun u hu => hm u (by simp [hu])
      have hq1 := hq q (hm q (by simp))
      have hc1 := hc q (hm q (by simp))
      have e : termsP x ((q :: t).map fun q => (q.2.natAbs : Int)) = termV (cf x (q.2.natAbs : Int)) (cf x (-(q.2.natAbs : Int))) (q.2.natAbs : Int) ++ termsP x (t.map fun q => (q.2.natAbs : Int)) := by simp [termsP]
      rw [e, i1]
      simp only [List.map_cons, minsP, i2]
      unfold cf termV
      rcases Int.lt_or_le 0 q.2 with hp | hp
      · have e1 : (q.2.natAbs : Int) = q.2 := by omega
        rw [e1, hq1.1, hq1.2, if_pos (by omega)]
        exact ⟨by simp, by omega⟩
      · have e1 : (q.2.natAbs : Int) = -q.2 := by omega
        have e2 : -(-q.2) = q.2 := by omega
        rw [e1, e2, hq1.1, hq1.2, if_neg (by omega), if_pos (by omega)]
        exact ⟨by simp, by omega⟩
  rw [hv]
  exact key _ fun q hq => hq
theorem canon_idem {x : LinV} (h : Canon x) (hz : ∀ y ∈ x.L, y ≠ 0) : normW x = x := by
  obtain ⟨h1, h2⟩ := canon_terms h hz
  unfold normW
  rw [h1, h2]
  by_cases hn : x.C = []
  · have hl : x.L = [] := List.eq_nil_of_length_eq_zero (by rw [← h.len, hn]; rfl)
    obtain ⟨C, L, B⟩ := x
    simp only at hn hl
    subst hn hl
    rcases h.nil rfl with hB | hB
    · simp only at hB
      subst hB
      rfl
    · simp only at hB
      subst hB
      rfl
  · obtain ⟨hb1, hb2⟩ := h.full hn
    rw [if_neg (by omega), if_neg (by omega)]
    have e1 : (x.C.zip x.L).map (fun q => min q.1 (x.B - 0)) = x.C := by
      conv => rhs; rw [← zip_fst h.len]
      refine List.map_congr_left fun q hq => ?_
      have := h.co q.1 (List.of_mem_zip hq).1
      omega
    have e2 : (x.C.zip x.L).map (·.2) = x.L := zip_snd h.len
    rw [e1, e2, Int.sub_zero]
theorem lcheck_up {l : LinV} {n m : Int} (h : lcheck l n = 0) (hm : n ≤ m) (hm2 : m ≤ 65536) : lcheck l m = 0 := by
  obtain ⟨h1, h2, h3, h4, h5, h6, h7⟩ := lcheck_ok h
  exact lcheck_mk (by omega) hm2 h3 h4 h5 (fun x hx => by have := h6 x hx; omega) h7
end Go.Proofs.YtkkapbnopmmmjaaDoor
namespace Go.Proofs.YtkkapbnopmmmjaaDoor.Cn
open Go
def sumQ (C L : List Int) (next : Int) : List Int × List (List Int) × Int × Int := match sumP C L next with | .err e => ([], [], 0, e) | .ok b c a => (b, c, a, 0)
def leastQ (l : List Int) (k : Int) : List (List Int) × Int := match leastP l k with | .err e => ([], e) | .ok c => (c, 0)
theorem sumQ_len (C L : List Int) (n : Int) : (sumQ C L n).1.length ≤ 70000 ∧ (sumQ C L n).2.1.length ≤ 7000000 ∧ ∀ c ∈ (sumQ C L n).2.1, c.length ≤ 100 := by
  unfold sumQ
  cases h : sumP C L n with
  | err e => exact ⟨Nat.zero_le _, Nat.zero_le _, fun c hc => by cases hc⟩
  | ok b c a => exact sumP_lens h
theorem leastQ_len (l : List Int) (k : Int) : (leastQ l k).1.length ≤ 64 ∧ ∀ c ∈ (leastQ l k).1, c.length ≤ l.length := by
  unfold leastQ
  cases h : leastP l k with
  | err e => exact ⟨Nat.zero_le _, fun c hc => by cases hc⟩
  | ok c =>
    unfold leastP at h
    split at h
    · cases h
    · split at h
      · cases h
      · injection h with h
        subst h
        refine ⟨leastTo_len _ _ _, fun c hc => ?_⟩
        unfold leastTo at hc
        obtain ⟨t, _, rfl⟩ := List.mem_map.1 hc
        exact clTo_len _ _ _ _
section
variable {C L : List Int} {B g next : Int}
def encT (C L : List Int) (B g next : Int) : List (List Int) × Int × Int :=
  if (totR (evK C B) L next).2.2.2 ≠ 0 then ([], 0, (totR (evK C B) L next).2.2.2)
  else ((totR (evK C B) L next).2.1 ++ grd g [((totR (evK C B) L next).1.take (evK C B).toNat).drop (evK C B - 1).toNat], (totR (evK C B) L next).2.2.1, 0)
theorem et_err (h : (totR (evK C B) L next).2.2.2 ≠ 0) : encT C L B g next = ([], 0, (totR (evK C B) L next).2.2.2) := by unfold encT; rw [if_pos h]
theorem et_ok (h : (totR (evK C B) L next).2.2.2 = 0) : encT C L B g next = ((totR (evK C B) L next).2.1 ++ grd g [((totR (evK C B) L next).1.take (evK C B).toNat).drop (evK C B - 1).toNat], (totR (evK C B) L next).2.2.1, 0) := by
  unfold encT; rw [if_neg (by omega)]
def encN (C L : List Int) (B g next : Int) : List (List Int) × Int × Int :=
  if (leastR L (evK C B) next).2.2 ≠ 0 then ([], 0, (leastR L (evK C B) next).2.2) else (grd g (leastR L (evK C B) next).1, (leastR L (evK C B) next).2.1, 0)
theorem en_err (h : (leastR L (evK C B) next).2.2 ≠ 0) : encN C L B g next = ([], 0, (leastR L (evK C B) next).2.2) := by unfold encN; rw [if_pos h]
theorem en_ok (h : (leastR L (evK C B) next).2.2 = 0) : encN C L B g next = (grd g (leastR L (evK C B) next).1, (leastR L (evK C B) next).2.1, 0) := by unfold encN; rw [if_neg (by omega)]
def encA (C L : List Int) (B g next : Int) : List (List Int) × Int × Int :=
  if (sumQ C L next).2.2.2 ≠ 0 then ([], 0, (sumQ C L next).2.2.2)
  else if (leastQ (sumQ C L next).1 B).2 ≠ 0 then ([], 0, (leastQ (sumQ C L next).1 B).2)
  else ((sumQ C L next).2.1 ++ grd g (leastQ (sumQ C L next).1 B).1, (sumQ C L next).2.2.1, 0)
theorem ea_err (h : (sumQ C L next).2.2.2 ≠ 0) : encA C L B g next = ([], 0, (sumQ C L next).2.2.2) := by unfold encA; rw [if_pos h]
theorem ea_err2 (h : (sumQ C L next).2.2.2 = 0) (h2 : (leastQ (sumQ C L next).1 B).2 ≠ 0) : encA C L B g next = ([], 0, (leastQ (sumQ C L next).1 B).2) := by unfold encA; rw [if_neg (by omega), if_pos h2]
theorem ea_ok (h : (sumQ C L next).2.2.2 = 0) (h2 : (leastQ (sumQ C L next).1 B).2 = 0) : encA C L B g next = ((sumQ C L next).2.1 ++ grd g (leastQ (sumQ C L next).1 B).1, (sumQ C L next).2.2.1, 0) := by
  unfold encA; rw [if_neg (by omega), if_neg (by omega)]
theorem tr_len {k : Int} (hx : ∀ x ∈ L, -65537 ≤ x ∧ x ≤ 65537) : (totR k L next).2.1.length ≤ 134217728 ∧ (totR k L next).1.length ≤ L.length := by
  cases hb : badT k L next with
  | true => rw [tt_arg hb]; exact ⟨Nat.zero_le _, Nat.zero_le _⟩
  | false =>
    obtain ⟨hg1, g1, g2, g3, g4, g5⟩ := tt_ok hb
    have hg := And.intro hg1 (And.intro g1 (And.intro g2 (And.intro g3 (And.intro g4 g5))))
    cases ha : apartB next L with
    | false => rw [tt_lit hg ha]; exact ⟨Nat.zero_le _, Nat.zero_le _⟩
    | true =>
      by_cases hz : L.length ≠ 0 ∧ k ≠ 0
      · cases hf : totB k L next false [] with
        | true => rw [tt_full hg ha hz hf]; exact ⟨Nat.zero_le _, Nat.zero_le _⟩
        | false =>
          rw [tt_fine hg ha hz hf]
          have h := tot_bd k g3 L.length L (next, false, []) rfl (by omega) g1 g2 hx
          refine ⟨?_, h.1⟩
          have h5 := h.2.2.2.2
          have h6 := Nat.mul_le_mul g5 g5
          show (totT k L (next, false, [])).2.2.2.length ≤ _
          simp only [List.length_nil] at h5
          omega
      · rw [tt_nil hg ha]
        · exact ⟨Nat.zero_le _, Nat.zero_le _⟩
        · rw [nil_iff]; omega
theorem nz_len (l : List Int) : (nz l).length ≤ l.length := List.length_filter_le _ _
theorem regC_el {b m ab am x : Int} {j : Nat} : ∀ c ∈ regC b m ab am x j, c.length ≤ 3 := by
  intro c hc
  unfold regC at hc
  obtain ⟨i, _, hc⟩ := List.mem_flatMap.1 hc
  rw [List.mem_append] at hc
  rcases hc with hc | hc
  · rw [List.mem_singleton.1 hc]; exact nz_len _
  · split at hc
    · rw [List.mem_singleton.1 hc]; exact nz_len _
    · cases hc
theorem cntC_el {k : Int} : ∀ (i : Nat), ∀ c ∈ cntC L k next i, c.length ≤ 3
  | 0, c, hc => by cases hc
  | i + 1, c, hc => by
    rw [cntC, List.mem_append] at hc
    rcases hc with hc | hc
    · exact cntC_el i c hc
    · exact regC_el c hc
theorem lr_len {k : Int} : (leastR L k next).1.length ≤ 40000000 ∧ ∀ c ∈ (leastR L k next).1, c.length ≤ 3 := by
  by_cases h0 : rightE next L = 0
  · by_cases h1 : k ≤ 0
    · rw [lr_0 h0 h1]; exact ⟨Nat.zero_le _, fun c hc => by cases hc⟩
    · by_cases h2 : k > (L.length : Int)
      · rw [lr_n h0 h1 h2]; exact ⟨by show 1 ≤ _; decide, fun c hc => by rw [List.mem_singleton.1 hc]; exact Nat.zero_le _⟩
      · obtain ⟨r1, r2, r3⟩ := right_0 h0
        have hc2 := cntC_len (l := L) (next := next) (show k ≤ 4096 by omega) L.length
        generalize hb : ((decide (next + ((k * (k - 1)).tdiv 2 + k * ((L.length : Int) - k + 1)) - 1 > 65536)) || decide (2 * ((k * (k - 1)).tdiv 2 + k * ((L.length : Int) - k + 1)) - (L.length : Int) + 1 > 65536)) = b
        cases b with
        | true => rw [lr_big h0 h1 h2 hb]; exact ⟨Nat.zero_le _, fun c hc => by cases hc⟩
        | false =>
          rw [lr_ok h0 h1 h2 hb]
          refine ⟨by simp only [List.length_append, List.length_singleton]; omega, fun c hc => ?_⟩
          rw [List.mem_append] at hc
          rcases hc with hc | hc
          · exact cntC_el _ c hc
          · rw [List.mem_singleton.1 hc]; exact Nat.le_trans (nz_len _) (by show 1 ≤ 3; decide)
  · rw [lr_err h0]; exact ⟨Nat.zero_le _, fun c hc => by cases hc⟩
end
def encS (C L : List Int) (B g next : Int) : List (List Int) × Int × Int :=
  if wayP C B = 1 then (grd g [L], next, 0) else if wayP C B = 2 then encT C L B g next else if wayP C B = 3 then encN C L B g next
  else if wayP C B = 4 then encA C L B g next else if wayP C B = 5 then ([], next, 0) else (grd g [[]], next, 0)
theorem way_six (C : List Int) (B : Int) : wayP C B = 1 ∨ wayP C B = 2 ∨ wayP C B = 3 ∨ wayP C B = 4 ∨ wayP C B = 5 ∨ wayP C B = 6 := by
  unfold wayP
  split
  · split <;> simp
  · split
    · simp
    · split
      · simp
      · split <;> simp
section
variable {C L : List Int} {B g next : Int}
theorem es_1 (h : wayP C B = 1) : encS C L B g next = (grd g [L], next, 0) := by unfold encS; rw [if_pos h]
theorem es_2 (h : wayP C B = 2) : encS C L B g next = encT C L B g next := by unfold encS; rw [if_neg (by omega), if_pos h]
theorem es_3 (h : wayP C B = 3) : encS C L B g next = encN C L B g next := by unfold encS; rw [if_neg (by omega), if_neg (by omega), if_pos h]
theorem es_4 (h : wayP C B = 4) : encS C L B g next = encA C L B g next := by unfold encS; rw [if_neg (by omega), if_neg (by omega), if_neg (by omega), if_pos h]
theorem es_5 (h : wayP C B = 5) : encS C L B g next = ([], next, 0) := by unfold encS; rw [if_neg (by omega), if_neg (by omega), if_neg (by omega), if_neg (by omega), if_pos h]
theorem es_6 (h : wayP C B = 6) : encS C L B g next = (grd g [[]], next, 0) := by unfold encS; rw [if_neg (by omega), if_neg (by omega), if_neg (by omega), if_neg (by omega), if_neg (by omega)]
theorem way_ev (h : wayP C B = 2 ∨ wayP C B = 3) : evB C = true := by
  unfold wayP at h
  split at h
  · split at h <;> omega
  · split at h
    · omega
    · split at h
      · rename_i e; exact e.1
      · split at h
        · rename_i e; exact e.1
        · omega
end
theorem norm_nc {C L : List Int} {B n : Int} (h : lcheck ⟨C, L, B⟩ n = 0) : NormC (normP ⟨C, L, B⟩).C (normP ⟨C, L, B⟩).B ∧ (normP ⟨C, L, B⟩).L.length = (normP ⟨C, L, B⟩).C.length ∧ (∀ x ∈ (normP ⟨C, L, B⟩).L, x ≠ 0 ∧ -65536 ≤ x ∧ x ≤ 65536) := by
  obtain ⟨h1, h2, h3⟩ := lcheck_ok h
  obtain ⟨e, hc, hl, hb0, hb1⟩ := norm_small h1 h2 h
  obtain ⟨f1, f2, f3, f4⟩ := norm_facts hc
  have hcan := norm_canon ⟨C, L, B⟩
  refine ⟨⟨Nat.le_trans hl h3.2.2.2.2, fun c hm => ?_, hb0, hb1, fun hn => ?_⟩, f1.symm, f2⟩
  · have := hcan.co c hm
    omega
  · have hf := hcan.full fun e0 => hn (by rw [e0]; rfl)
    refine ⟨hf.1, ?_⟩
    have : ∀ (X Y : List Int), X.length = Y.length → sumF1 (X.zip Y) = X.sum := by
      intro X
      induction X with
      | nil => intro Y _; rfl
      | cons x X ih =>
        intro Y hY
        cases Y with
        | nil => simp at hY
        | cons y Y => simp only [List.zip_cons_cons, sumF1, List.sum_cons, ih Y (by simpa using hY)]
    rw [this _ _ f1] at hf
    exact hf.2
def howR (C L : List Int) (B : Int) : Int × Int := if lcheck ⟨C, L, B⟩ 65536 ≠ 0 then (0, lcheck ⟨C, L, B⟩ 65536) else (wayP (normP ⟨C, L, B⟩).C (normP ⟨C, L, B⟩).B, 0)
def oneR (C L : List Int) (B g next : Int) : List (List Int) × Int × Int :=
  if next < 1 ∨ 65537 < next then ([], 0, 1) else if lcheck ⟨C, L, B⟩ (next - 1) ≠ 0 then ([], 0, lcheck ⟨C, L, B⟩ (next - 1))
  else if next ≤ g ∨ g ≤ -next then ([], 0, 140) else encS (normP ⟨C, L, B⟩).C (normP ⟨C, L, B⟩).L (normP ⟨C, L, B⟩).B g next
def allL : List (List Int × List Int × Int) → Int → List (List Int) → List (List Int) × Int × Int
  | [], n, c => (c, n, 0)
  | x :: t, n, c => if (oneR x.1 x.2.1 x.2.2 0 n).2.2 ≠ 0 then ([], 0, (oneR x.1 x.2.1 x.2.2 0 n).2.2) else allL t (oneR x.1 x.2.1 x.2.2 0 n).2.1 (c ++ (oneR x.1 x.2.1 x.2.2 0 n).1)
def allR (l : List (List Int × List Int × Int)) (next : Int) : List (List Int) × Int × Int := if next < 1 ∨ 65537 < next then ([], 0, 1) else allL l next []
section
variable {C L : List Int} {B g next : Int}
theorem on_arg (h : next < 1 ∨ 65537 < next) : oneR C L B g next = ([], 0, 1) := by unfold oneR; rw [if_pos h]
theorem on_chk (h : ¬ (next < 1 ∨ 65537 < next)) (h2 : lcheck ⟨C, L, B⟩ (next - 1) ≠ 0) : oneR C L B g next = ([], 0, lcheck ⟨C, L, B⟩ (next - 1)) := by unfold oneR; rw [if_neg h, if_pos h2]
theorem on_lit (h : ¬ (next < 1 ∨ 65537 < next)) (h2 : lcheck ⟨C, L, B⟩ (next - 1) = 0) (h3 : next ≤ g ∨ g ≤ -next) : oneR C L B g next = ([], 0, 140) := by unfold oneR; rw [if_neg h, if_neg (by omega), if_pos h3]
theorem on_ok (h : ¬ (next < 1 ∨ 65537 < next)) (h2 : lcheck ⟨C, L, B⟩ (next - 1) = 0) (h3 : ¬ (next ≤ g ∨ g ≤ -next)) : oneR C L B g next = encS (normP ⟨C, L, B⟩).C (normP ⟨C, L, B⟩).L (normP ⟨C, L, B⟩).B g next := by
  unfold oneR; rw [if_neg h, if_neg (by omega), if_neg h3]
end
theorem on_b {next : Int} : (decide (next < 1) || decide (next > 65537)) = true ↔ next < 1 ∨ 65537 < next := by
  simp only [Bool.or_eq_true, decide_eq_true_eq, gt_iff_lt, ge_iff_le]
theorem on_bF {next : Int} (h : (decide (next < 1) || decide (next > 65537)) = false) : ¬ (next < 1 ∨ 65537 < next) := fun q => by rw [on_b.2 q] at h; cases h
theorem on_l {g next : Int} : (decide (g ≥ next) || decide (g ≤ -next)) = true ↔ next ≤ g ∨ g ≤ -next := by
  simp only [Bool.or_eq_true, decide_eq_true_eq, gt_iff_lt, ge_iff_le]
theorem on_lF {g next : Int} (h : (decide (g ≥ next) || decide (g ≤ -next)) = false) : ¬ (next ≤ g ∨ g ≤ -next) := fun q => by rw [on_l.2 q] at h; cases h
theorem tr_aft {k next : Int} {L : List Int} (hx : ∀ x ∈ L, -65537 ≤ x ∧ x ≤ 65537) : 0 ≤ (totR k L next).2.2.1 ∧ (totR k L next).2.2.1 ≤ 65537 ∧ ((totR k L next).2.2.2 = 0 → next ≤ (totR k L next).2.2.1) := by
  cases hb : badT k L next with
  | true => rw [tt_arg hb]; exact ⟨by decide, by decide, fun h => by cases h⟩
  | false =>
    obtain ⟨hg1, g1, g2, g3, g4, g5⟩ := tt_ok hb
    have hg := And.intro hg1 (And.intro g1 (And.intro g2 (And.intro g3 (And.intro g4 g5))))
    cases ha : apartB next L with
    | false => rw [tt_lit hg ha]; exact ⟨by decide, by decide, fun h => by cases h⟩
    | true =>
      by_cases hz : L.length ≠ 0 ∧ k ≠ 0
      · cases hf : totB k L next false [] with
        | true => rw [tt_full hg ha hz hf]; exact ⟨by decide, by decide, fun h => by cases h⟩
        | false =>
          rw [tt_fine hg ha hz hf]
          have h := tot_bd k g3 L.length L (next, false, []) rfl (by omega) g1 g2 hx
          have h3 : next ≤ totN k L next false [] := h.2.2.1
          have h4 : totN k L next false [] ≤ 65537 := h.2.2.2.1
          exact ⟨by show 0 ≤ totN k L next false []; omega, h4, fun _ => h3⟩
      · rw [tt_nil hg ha]
        · exact ⟨by show 0 ≤ next; omega, by show next ≤ _; omega, fun _ => Int.le_refl _⟩
        · rw [nil_iff]; omega
theorem cAb_up {k next : Int} (hk : 0 ≤ k) : ∀ i : Nat, next ≤ (cAb k next i).2.2
  | 0 => Int.le_refl _
  | i + 1 => by
    have ih := cAb_up (next := next) hk i
    simp only [cAb]; omega
theorem lr_aft {k next : Int} {L : List Int} (hf : 0 ≤ next ∧ next ≤ 65537) : 0 ≤ (leastR L k next).2.1 ∧ (leastR L k next).2.1 ≤ 20000000 ∧ ((leastR L k next).2.2 = 0 → next ≤ (leastR L k next).2.1) := by
  by_cases h0 : rightE next L = 0
  · by_cases h1 : k ≤ 0
    · rw [lr_0 h0 h1]; exact ⟨hf.1, by show next ≤ _; omega, fun _ => Int.le_refl _⟩
    · by_cases h2 : k > (L.length : Int)
      · rw [lr_n h0 h1 h2]; exact ⟨hf.1, by show next ≤ _; omega, fun _ => Int.le_refl _⟩
      · obtain ⟨r1, r2, r3⟩ := right_0 h0
        generalize hb : ((decide (next + ((k * (k - 1)).tdiv 2 + k * ((L.length : Int) - k + 1)) - 1 > 65536)) || decide (2 * ((k * (k - 1)).tdiv 2 + k * ((L.length : Int) - k + 1)) - (L.length : Int) + 1 > 65536)) = b
        cases b with
        | true => rw [lr_big h0 h1 h2 hb]; exact ⟨Int.le_refl _, by show (0 : Int) ≤ _; decide, fun h => by cases h⟩
        | false =>
          rw [lr_ok h0 h1 h2 hb]
          have hc := cAb_bd (k := k) (next := next) (by omega) ⟨r1, r2⟩ L.length r3
          have hu := cAb_up (next := next) (k := k) (by omega) L.length
          exact ⟨by show 0 ≤ (cAb k next L.length).2.2; omega, by show (cAb k next L.length).2.2 ≤ _; omega, fun _ => hu⟩
  · rw [lr_err h0]; exact ⟨Int.le_refl _, by show (0 : Int) ≤ _; decide, fun h => absurd h h0⟩
theorem sumQ_aft {C L : List Int} {n : Int} : 0 ≤ (sumQ C L n).2.2.1 ∧ (sumQ C L n).2.2.1 ≤ 65537 ∧ ((sumQ C L n).2.2.2 = 0 → n ≤ (sumQ C L n).2.2.1) := by
  unfold sumQ
  cases h : sumP C L n with
  | err e =>
    refine ⟨Int.le_refl _, by show (0 : Int) ≤ _; decide, fun h0 => ?_⟩
    have h0 : e = 0 := h0
    exfalso
    rw [h0] at h
    unfold sumP at h
    split at h
    · injection h with h; cases h
    · split at h
      · injection h with h; cases h
      · split at h
        · injection h with h; cases h
        · split at h
          · injection h with h; cases h
          · cases h
  | ok b c a =>
    have := sumP_aft h
    exact ⟨by show 0 ≤ a; omega, this.2.2, fun _ => this.2.1⟩
theorem one_bd (C L : List Int) (B g next : Int) : (oneR C L B g next).1.length ≤ 200000000 ∧ (0 ≤ (oneR C L B g next).2.1 ∧ (oneR C L B g next).2.1 ≤ 20000000) ∧ ((oneR C L B g next).2.2 = 0 → 1 ≤ next ∧ next ≤ (oneR C L B g next).2.1) ∧ ((oneR C L B g next).2.2 ≠ 0 → oneR C L B g next = ([], 0, (oneR C L B g next).2.2)) := by
  have er : ∀ (e : Int), e ≠ 0 → (([] : List (List Int)), (0 : Int), e).1.length ≤ 200000000 ∧ (0 ≤ (([] : List (List Int)), (0 : Int), e).2.1 ∧ (([] : List (List Int)), (0 : Int), e).2.1 ≤ 20000000) ∧ ((([] : List (List Int)), (0 : Int), e).2.2 = 0 → 1 ≤ next ∧ next ≤ (([] : List (List Int)), (0 : Int), e).2.1) ∧ ((([] : List (List Int)), (0 : Int), e).2.2 ≠ 0 → (([] : List (List Int)), (0 : Int), e) = ([], 0, (([] : List (List Int)), (0 : Int), e).2.2)) :=
    fun e he => ⟨Nat.zero_le _, ⟨Int.le_refl _, by show (0 : Int) ≤ _; decide⟩, fun h => absurd h he, fun _ => rfl⟩
  by_cases h1 : next < 1 ∨ 65537 < next
  · rw [on_arg h1]; exact er 1 (by decide)
  · by_cases h2 : lcheck ⟨C, L, B⟩ (next - 1) = 0
    · by_cases h3 : next ≤ g ∨ g ≤ -next
      · rw [on_lit h1 h2 h3]; exact er 140 (by decide)
      · rw [on_ok h1 h2 h3]
        obtain ⟨n1, n2, n3⟩ := norm_nc h2
        generalize (normP ⟨C, L, B⟩) = x at n1 n2 n3 ⊢
        have hx : ∀ y ∈ x.L, -65537 ≤ y ∧ y ≤ 65537 := fun y hy => by have := n3 y hy; omega
        rcases way_six x.C x.B with hk | hk | hk | hk | hk | hk
        · rw [es_1 hk]; exact ⟨by show (grd g [x.L]).length ≤ _; rw [grd_len]; show 1 ≤ _; decide, ⟨by show 0 ≤ next; omega, by show next ≤ _; omega⟩, fun _ => ⟨by omega, Int.le_refl _⟩, fun h => absurd rfl h⟩
        · rw [es_2 hk]
          by_cases he : (totR (evK x.C x.B) x.L next).2.2.2 = 0
          · rw [et_ok he]
            have a := tr_len (k := evK x.C x.B) (next := next) hx
            have b := tr_aft (k := evK x.C x.B) (next := next) hx
            refine ⟨?_, ⟨b.1, by show (totR (evK x.C x.B) x.L next).2.2.1 ≤ _; omega⟩, fun _ => ⟨by omega, b.2.2 he⟩, fun h => absurd rfl h⟩
            show ((totR (evK x.C x.B) x.L next).2.1 ++ grd g _).length ≤ _
            rw [List.length_append, grd_len]; simp only [List.length_cons, List.length_nil]; omega
          · rw [et_err he]; exact er _ he
        · rw [es_3 hk]
          by_cases he : (leastR x.L (evK x.C x.B) next).2.2 = 0
          · rw [en_ok he]
            have a := lr_len (L := x.L) (next := next) (k := evK x.C x.B)
            have b := lr_aft (k := evK x.C x.B) (next := next) (L := x.L) (by omega)
            refine ⟨?_, ⟨b.1, b.2.1⟩, fun _ => ⟨by omega, b.2.2 he⟩, fun h => absurd rfl h⟩
            show (grd g _).length ≤ _
            rw [grd_len]; omega
          · rw [en_err he]; exact er _ he
        · rw [es_4 hk]
          by_cases he : (sumQ x.C x.L next).2.2.2 = 0
          · by_cases he2 : (leastQ (sumQ x.C x.L next).1 x.B).2 = 0
            · rw [ea_ok he he2]
              have a := sumQ_len x.C x.L next
              have b := sumQ_aft (C := x.C) (L := x.L) (n := next)
              have c := leastQ_len (sumQ x.C x.L next).1 x.B
              refine ⟨?_, ⟨b.1, by show (sumQ x.C x.L next).2.2.1 ≤ _; omega⟩, fun _ => ⟨by omega, b.2.2 he⟩, fun h => absurd rfl h⟩
              show ((sumQ x.C x.L next).2.1 ++ grd g _).length ≤ _
              rw [List.length_append, grd_len]; omega
            · rw [ea_err2 he he2]; exact er _ he2
          · rw [ea_err he]; exact er _ he
        · rw [es_5 hk]; exact ⟨Nat.zero_le _, ⟨by show 0 ≤ next; omega, by show next ≤ _; omega⟩, fun _ => ⟨by omega, Int.le_refl _⟩, fun h => absurd rfl h⟩
        · rw [es_6 hk]; exact ⟨by show (grd g [[]]).length ≤ _; rw [grd_len]; show 1 ≤ _; decide, ⟨by show 0 ≤ next; omega, by show next ≤ _; omega⟩, fun _ => ⟨by omega, Int.le_refl _⟩, fun h => absurd rfl h⟩
    · rw [on_chk h1 h2]; exact er _ h2
def allSt (l : List (List Int × List Int × Int)) (next : Int) : Nat → List (List Int) × Int
  | 0 => ([], next)
  | i + 1 => ((allSt l next i).1 ++ (oneR (l.getD i ([], [], 0)).1 (l.getD i ([], [], 0)).2.1 (l.getD i ([], [], 0)).2.2 0 (allSt l next i).2).1, (oneR (l.getD i ([], [], 0)).1 (l.getD i ([], [], 0)).2.1 (l.getD i ([], [], 0)).2.2 0 (allSt l next i).2).2.1)
def allE (l : List (List Int × List Int × Int)) (next : Int) (i : Nat) : Int := (oneR (l.getD i ([], [], 0)).1 (l.getD i ([], [], 0)).2.1 (l.getD i ([], [], 0)).2.2 0 (allSt l next i).2).2.2
theorem drop_getD {α : Type} {d : α} {l : List α} {i : Nat} (h : i < l.length) : l.drop i = l.getD i d :: l.drop (i + 1) := by
  rw [List.drop_eq_getElem_cons h, List.getD_eq_getElem?_getD, List.getElem?_eq_getElem h]; rfl
section
variable {l : List (List Int × List Int × Int)} {next : Int} {i : Nat}
theorem al_0 (h : ¬ (next < 1 ∨ 65537 < next)) : allR l next = allL (l.drop 0) (allSt l next 0).2 (allSt l next 0).1 := if_neg h
theorem al_err (hi : i < l.length) (hI : allR l next = allL (l.drop i) (allSt l next i).2 (allSt l next i).1) (h : allE l next i ≠ 0) : allR l next = ([], 0, allE l next i) := by
  rw [hI, drop_getD hi, allL]; exact if_pos h
theorem al_step (hi : i < l.length) (hI : allR l next = allL (l.drop i) (allSt l next i).2 (allSt l next i).1) (h : allE l next i = 0) : allR l next = allL (l.drop (i + 1)) (allSt l next (i + 1)).2 (allSt l next (i + 1)).1 := by
  rw [hI, drop_getD hi, allL]; exact if_neg (by unfold allE at h; omega)
theorem al_end (hi : i = l.length) (hI : allR l next = allL (l.drop i) (allSt l next i).2 (allSt l next i).1) : allR l next = ((allSt l next i).1, (allSt l next i).2, 0) := by
  rw [hI, hi, List.drop_length]; rfl
theorem allSt_bd (hn : -9223372036854775808 ≤ next ∧ next ≤ 9223372036854775807) : ∀ i, (allSt l next i).1.length ≤ 200000000 * i ∧ (-9223372036854775808 ≤ (allSt l next i).2 ∧ (allSt l next i).2 ≤ 9223372036854775807)
  | 0 => ⟨Nat.zero_le _, hn⟩
  | i + 1 => by
    have ih := (allSt_bd hn i).1
    have hb := one_bd (l.getD i ([], [], 0)).1 (l.getD i ([], [], 0)).2.1 (l.getD i ([], [], 0)).2.2 0 (allSt l next i).2
    refine ⟨?_, ?_⟩
    · show ((allSt l next i).1 ++ _).length ≤ _
      rw [List.length_append]; omega
    · have h2 := hb.2.1
      show _ ≤ (oneR _ _ _ 0 (allSt l next i).2).2.1 ∧ (oneR _ _ _ 0 (allSt l next i).2).2.1 ≤ _
      omega
end
end Go.Proofs.YtkkapbnopmmmjaaDoor.Cn
namespace Go.Proofs.YtkkapbnopmmmjaaDoor.Cn
open Go
section
variable {α : Type} [DecidableEq α] {a b : List α} {d : α}
theorem eqL_len (h : ¬ (a.length : Int) = b.length) : decide (a = b) = false := decide_eq_false fun e => h (by rw [e])
theorem eqL_no {i : Nat} (h : a.getD i d ≠ b.getD i d) : decide (a = b) = false := decide_eq_false fun e => h (by rw [e])
theorem eqL_yes {i : Nat} (hl : a.length = b.length) (hi : i = a.length) (h : ∀ j, j < i → a.getD j d = b.getD j d) : decide (a = b) = true := decide_eq_true (by
  apply List.ext_getElem hl
  intro j h1 h2
  have := h j (by omega)
  rw [List.getD_eq_getElem?_getD, List.getD_eq_getElem?_getD, List.getElem?_eq_getElem h1, List.getElem?_eq_getElem h2] at this
  exact this)
theorem dcT (h : (!decide (a = b)) = true) : a ≠ b := by simpa using h
theorem dcF (h : (!decide (a = b)) = false) : a = b := by simpa using h
end
theorem has_yes {l : List Int} {n : Int} {i : Nat} (hi : i < l.length) (h : l.getD i 0 = n) : l.contains n = true := by
  rw [List.contains_iff_mem, ← h]; exact getD_memL hi
theorem has_no {l : List Int} {n : Int} {i : Nat} (hi : i = l.length) (h : ∀ j, j < i → l.getD j 0 ≠ n) : l.contains n = false := by
  rw [Bool.eq_false_iff]
  intro hc
  rw [List.contains_iff_mem] at hc
  obtain ⟨j, hj, e⟩ := List.getElem_of_mem hc
  refine h j (by omega) ?_
  rw [List.getD_eq_getElem?_getD, List.getElem?_eq_getElem hj]; exact e
theorem lv18_1 : howR [1, 1] [1, 2] 1 = (1, 0) := by decide +kernel
theorem lv18_2 : howR [1, 1] [1, 2] 2 = (2, 0) := by decide +kernel
theorem lv18_3 : howR [2, 3, 4] [1, 2, 3] 5 = (4, 0) := by decide +kernel
theorem lv18_4 : oneR [1, 1] [1, 2] 1 9 10 = ([[-9, 1, 2]], 10, 0) := by decide +kernel
theorem lv18_5 : oneR [] [] 1 (-4) 10 = ([[4]], 10, 0) := by decide +kernel
theorem lv18_6 : oneR [1, 1] [1, 2] 1 10 10 = ([], 0, 140) := by decide +kernel
theorem lv18_7 : allR [([], [], 0), ([1, 1], [1, 2], 1)] 3 = ([[1, 2]], 3, 0) := by decide +kernel
end Go.Proofs.YtkkapbnopmmmjaaDoor.Cn
namespace Go.Proofs.YtkkapbnopmmmjaaDoor.Cn
open Go
theorem dn1_el {a b o : List Int} {i k : Nat} : ∀ c ∈ dn1 a b o i k, c.length ≤ 3 := fun c hc => by
  unfold dn1 at hc
  split at hc
  · rw [List.mem_singleton.1 hc]
    have h1 := at_len a i
    have h2 := at_len b k
    have h3 := neg_len (at1 o ((i : Int) + k))
    simp only [List.length_append]; omega
  · cases hc
theorem up1_el {a b o : List Int} {i k : Nat} : ∀ c ∈ up1 a b o i k, c.length ≤ 3 := fun c hc => by
  unfold up1 at hc
  split at hc
  · rw [List.mem_singleton.1 hc]
    have h1 := neg_len (at1 a ((i : Int) - 1))
    have h2 := neg_len (at1 b ((k : Int) - 1))
    have h3 := at_len o ((i : Int) + k - 1)
    simp only [List.length_append]; omega
  · cases hc
theorem cls_el {a b o : List Int} {i : Nat} : ∀ c ∈ clsT a b o i, c.length ≤ 3 := fun c hc => by
  unfold clsT at hc
  obtain ⟨j, _, hc⟩ := List.mem_flatMap.1 hc
  unfold rowT at hc
  obtain ⟨k, _, hc⟩ := List.mem_flatMap.1 hc
  rcases List.mem_append.1 hc with h | h
  · exact up1_el c h
  · exact dn1_el c h
theorem tot_el (most : Int) : ∀ (n : Nat) (l : List Int) (s : TSt), l.length = n → 1 ≤ n → (∀ c ∈ s.2.2, c.length ≤ 3) → ∀ c ∈ (totT most l s).2.2.2, c.length ≤ 3 := fun n => by
  induction n using Nat.strongRecOn with
  | _ n ih =>
    intro l s hl h1 hs
    by_cases hc : (((l.length : Int) == 1) || s.2.1) = true
    · rw [totT_one (by omega) hc]; exact hs
    · rw [totT_two (by omega) hc]
      have hl2 : 2 ≤ l.length := by
        have : ¬ l.length = 1 := fun e => hc (by rw [e]; rfl)
        omega
      have hA := ih (l.take (l.length / 2)).length (by rw [List.length_take]; omega) (l.take (l.length / 2)) s rfl (by rw [List.length_take]; omega) hs
      have hB := ih (l.drop (l.length / 2)).length (by rw [List.length_drop]; omega) (l.drop (l.length / 2)) _ rfl (by rw [List.length_drop]; omega) hA
      unfold totE
      split
      · exact hB
      · intro c hm
        rcases List.mem_append.1 hm with h | h
        · exact hB c h
        · exact cls_el c h
section
variable {C L : List Int} {B g next : Int}
theorem tr_el {k : Int} : ∀ c ∈ (totR k L next).2.1, c.length ≤ 3 := by
  intro c hc
  unfold totR at hc
  split at hc
  · cases hc
  · split at hc
    · cases hc
    · split at hc
      · cases hc
      · rename_i h3
        split at hc
        · cases hc
        · exact tot_el k L.length L (next, false, []) rfl (by omega) (fun c hc => by cases hc) c hc
theorem grd_el {c : List (List Int)} {n : Nat} (h : ∀ x ∈ c, x.length ≤ n) : ∀ x ∈ grd g c, x.length ≤ n + 1 := fun x hx => by
  unfold grd at hx
  obtain ⟨y, hy, rfl⟩ := List.mem_map.1 hx
  have := h y hy
  unfold grdL
  split <;> simp <;> omega
theorem one_el : ∀ c ∈ (oneR C L B g next).1, c.length ≤ 100000 := by
  intro c hc
  by_cases h1 : next < 1 ∨ 65537 < next
  · rw [on_arg h1] at hc; cases hc
  · by_cases h2 : lcheck ⟨C, L, B⟩ (next - 1) = 0
    · by_cases h3 : next ≤ g ∨ g ≤ -next
      · rw [on_lit h1 h2 h3] at hc; cases hc
      · rw [on_ok h1 h2 h3] at hc
        obtain ⟨n1, n2, n3⟩ := norm_nc h2
        generalize (normP ⟨C, L, B⟩) = x at n1 n2 n3 hc
        have hl := n1.1
        rcases way_six x.C x.B with hk | hk | hk | hk | hk | hk
        · rw [es_1 hk] at hc
          have := grd_el (g := g) (c := [x.L]) (n := 4096) (fun y hy => by rw [List.mem_singleton.1 hy]; omega) c hc
          omega
        · rw [es_2 hk] at hc
          by_cases he : (totR (evK x.C x.B) x.L next).2.2.2 = 0
          · rw [et_ok he] at hc
            rcases List.mem_append.1 hc with h | h
            · have := tr_el c h; omega
            · have hx : ∀ y ∈ x.L, -65537 ≤ y ∧ y ≤ 65537 := fun y hy => by have := n3 y hy; omega
              have a := tr_len (k := evK x.C x.B) (next := next) hx
              have := grd_el (g := g) (n := 4096) (fun y hy => by rw [List.mem_singleton.1 hy, List.length_drop, List.length_take]; omega) c h
              omega
          · rw [et_err he] at hc; cases hc
        · rw [es_3 hk] at hc
          by_cases he : (leastR x.L (evK x.C x.B) next).2.2 = 0
          · rw [en_ok he] at hc
            have := grd_el (g := g) lr_len.2 c hc
            omega
          · rw [en_err he] at hc; cases hc
        · rw [es_4 hk] at hc
          by_cases he : (sumQ x.C x.L next).2.2.2 = 0
          · have b := sumQ_len x.C x.L next
            have q := leastQ_len (sumQ x.C x.L next).1 x.B
            by_cases he2 : (leastQ (sumQ x.C x.L next).1 x.B).2 = 0
            · rw [ea_ok he he2] at hc
              rcases List.mem_append.1 hc with h | h
              · have := b.2.2 c h; omega
              · have := grd_el (g := g) q.2 c h
                omega
            · rw [ea_err2 he he2] at hc; cases hc
          · rw [ea_err he] at hc; cases hc
        · rw [es_5 hk] at hc; cases hc
        · rw [es_6 hk] at hc
          have := grd_el (g := g) (c := [[]]) (n := 0) (fun y hy => by rw [List.mem_singleton.1 hy]; exact Nat.le_refl _) c hc
          omega
    · rw [on_chk h1 h2] at hc; cases hc
end
section
variable {l : List (List Int × List Int × Int)} {next : Int}
end
section
variable {l : List (List Int × List Int × Int)} {next : Int} {i : Nat}
end
def few18 (C L : List Int) (B t : Int) : Bool := (decide ((C.length : Int) ≤ t) && (decide ((L.length : Int) ≤ t) && (decide (B ≤ 100) && decide (-100 ≤ B)))) && C.all fun c => decide (c ≤ 20) && decide (-20 ≤ c)
theorem nz_chk {C L : List Int} {B n : Int} (hF : few18 C L B 20 = true) (h : lcheck ⟨C, L, B⟩ n = 0) : lcheck (normP ⟨C, L, B⟩) n = 0 := by
  unfold few18 at hF
  simp only [Bool.and_eq_true, decide_eq_true_eq, List.all_eq_true] at hF
  obtain ⟨⟨f1, f2, f3, f4⟩, f5⟩ := hF
  obtain ⟨h1, h2, h3, h4, h5, h6, h7⟩ := lcheck_ok h
  obtain ⟨e, hc2, hl, hb0, hb1⟩ := norm_small h1 h2 h
  have ha := absG_le (C.zip L) (varsZ L) (inc_varsZ _) (vars_pos fun x hx => (h6 x hx).1)
  have hs := absS_le 20 (C.zip L) (fun q hq => by have := f5 q.1 (List.of_mem_zip hq).1; omega)
  have hz : (C.zip L).length ≤ 20 := by rw [List.length_zip]; omega
  have hm := mins_abs ⟨C, L, B⟩ (varsZ L)
  have ht := sumF1_abs ⟨C, L, B⟩ (varsZ L)
  have htl := terms_len ⟨C, L, B⟩ (varsZ L)
  have hvl := varsZ_len L
  have hm2 : (minsP ⟨C, L, B⟩ (varsZ L)).natAbs ≤ 400 := by
    have : absG (C.zip L) (varsZ L) ≤ 400 := by omega
    exact Nat.le_trans hm this
  rw [e]
  unfold normW
  split
  · exact lcheck_mk h1 h2 rfl (by decide) (fun c hc => by cases hc) (fun c hc => by cases hc) (by decide)
  · split
    · exact lcheck_mk h1 h2 rfl (by decide) (fun c hc => by cases hc) (fun c hc => by cases hc) (by decide)
    · rename_i b1 b2
      refine lcheck_mk h1 h2 (by simp) ?_ (fun c hc => ?_) (fun y hy => ?_) ?_
      · show -1099511627776 ≤ B - minsP ⟨C, L, B⟩ (varsZ L) ∧ B - minsP ⟨C, L, B⟩ (varsZ L) ≤ 1099511627776
        omega
      · obtain ⟨q, hq, rfl⟩ := List.mem_map.1 hc
        have := terms_pos ⟨C, L, B⟩ _ q hq
        have hB : B - minsP ⟨C, L, B⟩ (varsZ L) ≤ 1099511627776 := by omega
        have hB0 : 0 < B - minsP ⟨C, L, B⟩ (varsZ L) := by
          have : ¬ B - minsP ⟨C, L, B⟩ (varsZ L) ≤ 0 := b1
          omega
        simp only at *
        omega
      · obtain ⟨q, hq, rfl⟩ := List.mem_map.1 hy
        obtain ⟨v, hv, ev⟩ := terms_var hq
        have := vars_le h6 v hv
        rcases ev with ev | ev <;> rw [ev] <;> omega
      · simp only [List.length_map]
        exact Nat.le_trans htl (Nat.le_trans hvl h7)
theorem lcheck_up {x : LinV} {n : Int} (h : lcheck x n = 0) : lcheck x 65536 = 0 := by
  obtain ⟨h1, h2, h3, h4, h5, h6, h7⟩ := lcheck_ok h
  exact lcheck_mk (by decide) (by decide) h3 h4 h5 (fun y hy => by have := h6 y hy; omega) h7
theorem nz_same {C L : List Int} {B n : Int} (hF : few18 C L B 20 = true) (h : lcheck ⟨C, L, B⟩ n = 0) : normP (normP ⟨C, L, B⟩) = normP ⟨C, L, B⟩ := by
  have h2 := lcheck_up (nz_chk hF h)
  have e : normP (normP ⟨C, L, B⟩) = normW (normP ⟨C, L, B⟩) := if_pos h2
  rw [e]
  exact canon_idem (norm_canon _) fun y hy => ((norm_nc h).2.2 y hy).1
section
variable {C L : List Int} {B g next : Int}
theorem one_ok (h : (oneR C L B g next).2.2 = 0) : ¬ (next < 1 ∨ 65537 < next) ∧ lcheck ⟨C, L, B⟩ (next - 1) = 0 ∧ ¬ (next ≤ g ∨ g ≤ -next) := by
  by_cases h1 : next < 1 ∨ 65537 < next
  · rw [on_arg h1] at h; cases h
  · by_cases h2 : lcheck ⟨C, L, B⟩ (next - 1) = 0
    · by_cases h3 : next ≤ g ∨ g ≤ -next
      · rw [on_lit h1 h2 h3] at h; cases h
      · exact ⟨h1, h2, h3⟩
    · rw [on_chk h1 h2] at h; exact absurd h h2
theorem ntF {b : Bool} (h : (!b) = false) : b = true := by cases b <;> simp_all
theorem how_ok {x : LinV} (h : lcheck x 65536 = 0) : howR x.C x.L x.B = (wayP (normP x).C (normP x).B, 0) := if_neg (fun q => q h)
theorem nz_one (hF : few18 C L B 20 = true) (h : (oneR C L B g next).2.2 = 0) :
    howR C L B = (wayP (normP ⟨C, L, B⟩).C (normP ⟨C, L, B⟩).B, 0) ∧ howR (normP ⟨C, L, B⟩).C (normP ⟨C, L, B⟩).L (normP ⟨C, L, B⟩).B = (wayP (normP ⟨C, L, B⟩).C (normP ⟨C, L, B⟩).B, 0) ∧
    oneR (normP ⟨C, L, B⟩).C (normP ⟨C, L, B⟩).L (normP ⟨C, L, B⟩).B g next = oneR C L B g next ∧ normP (normP ⟨C, L, B⟩) = normP ⟨C, L, B⟩ := by
  obtain ⟨h1, h2, h3⟩ := one_ok h
  have hs := nz_same hF h2
  have hc := nz_chk hF h2
  refine ⟨how_ok (x := ⟨C, L, B⟩) (lcheck_up h2), ?_, ?_, hs⟩
  · have := how_ok (x := normP ⟨C, L, B⟩) (lcheck_up hc)
    rw [hs] at this
    exact this
  · rw [on_ok (C := (normP ⟨C, L, B⟩).C) (L := (normP ⟨C, L, B⟩).L) (B := (normP ⟨C, L, B⟩).B) h1 hc h3, on_ok h1 h2 h3]
    show encS (normP (normP ⟨C, L, B⟩)).C (normP (normP ⟨C, L, B⟩)).L (normP (normP ⟨C, L, B⟩)).B g next = _
    rw [hs]
end
theorem nz_fin {C L : List Int} {B g next w : Int} {x : LinV} (q1 : howR C L B = (w, 0)) (q2 : howR x.C x.L x.B = (w, 0)) (q3 : oneR x.C x.L x.B g next = oneR C L B g next) (q4 : normP x = x) (h0 : (oneR C L B g next).2.2 = 0) :
    ((((((((howR C L B).2 == 0) && ((howR x.C x.L x.B).2 == 0)) && ((howR C L B).1 == (howR x.C x.L x.B).1)) && ((oneR x.C x.L x.B g next).2.2 == 0)) && ((oneR C L B g next).2.1 == (oneR x.C x.L x.B g next).2.1)) && decide ((oneR C L B g next).1 = (oneR x.C x.L x.B g next).1)) && sameP ⟨(normP x).C, (normP x).L, (normP x).B⟩ ⟨x.C, x.L, x.B⟩) = true := by
  rw [q1, q2, q3, h0, q4]
  simp [sameP]
theorem nz_vc {x y : LinV} {g next : Int} (h4 : y = x) (h1 : NormC x.C x.B) (h2 : x.L.length = x.C.length) : y.C.length ≤ maxLen ∧ y.L.length ≤ maxLen := by
  rw [h4]; have := h1.1; unfold maxLen; omega
section
variable {C : List Int} {B : Int}
theorem fw_no1 {L : List Int} {t : Int} (h : (((decide ((C.length : Int) > t) || decide ((L.length : Int) > t)) || decide (B > 100)) || decide (B < -100)) = true) : few18 C L B t = false := by
  simp only [Bool.or_eq_true, decide_eq_true_eq] at h
  unfold few18
  rw [Bool.and_eq_false_iff]; left
  simp only [Bool.and_eq_false_iff, decide_eq_false_iff_not]; omega
theorem fw_pre {L : List Int} {t : Int} (h : (((decide ((C.length : Int) > t) || decide ((L.length : Int) > t)) || decide (B > 100)) || decide (B < -100)) = false) : (C.length : Int) ≤ t ∧ (L.length : Int) ≤ t ∧ B ≤ 100 ∧ -100 ≤ B := by
  simp only [Bool.or_eq_false_iff, decide_eq_false_iff_not] at h
  omega
theorem fw_no2 {L : List Int} {t : Int} {i : Nat} (hi : i < C.length) (h : (decide (C.getD i 0 > 20) || decide (C.getD i 0 < -20)) = true) : few18 C L B t = false := by
  simp only [Bool.or_eq_true, decide_eq_true_eq] at h
  unfold few18
  rw [Bool.and_eq_false_iff]; right
  refine List.all_eq_false.2 ⟨_, getD_memL (d := (0 : Int)) hi, ?_⟩
  simp only [Bool.and_eq_true, decide_eq_true_eq]; omega
theorem fw_st {i : Nat} (h : (decide (C.getD i 0 > 20) || decide (C.getD i 0 < -20)) = false) : C.getD i 0 ≤ 20 ∧ -20 ≤ C.getD i 0 := by
  simp only [Bool.or_eq_false_iff, decide_eq_false_iff_not] at h
  omega
theorem fw_yes {L : List Int} {t : Int} {i : Nat} (hq : (C.length : Int) ≤ t ∧ (L.length : Int) ≤ t ∧ B ≤ 100 ∧ -100 ≤ B) (hi : i = C.length) (h : ∀ j, j < i → C.getD j 0 ≤ 20 ∧ -20 ≤ C.getD j 0) : few18 C L B t = true := by
  unfold few18
  rw [Bool.and_eq_true]
  refine ⟨by simp only [Bool.and_eq_true, decide_eq_true_eq]; omega, List.all_eq_true.2 fun x hx => ?_⟩
  obtain ⟨j, hj, rfl⟩ := List.getElem_of_mem hx
  have := h j (by omega)
  rw [List.getD_eq_getElem?_getD, List.getElem?_eq_getElem hj] at this
  simp only [Bool.and_eq_true, decide_eq_true_eq]; exact this
end
end Go.Proofs.YtkkapbnopmmmjaaDoor.Cn
namespace Go.Proofs.YtkkapbnopmmmjaaDoor
end Go.Proofs.YtkkapbnopmmmjaaDoor
namespace Go.Proofs.YtkkapbnopmmmjaaDoor
section
variable {lits : List Int} (hg : Good lits lits.length)
include hg
end
section
variable {l : LinV} {lits : List Int} (hc : lcheck l 65536 = 0) (hu : unlikeP 65536 lits = true)
include hc hu
end
end Go.Proofs.YtkkapbnopmmmjaaDoor
namespace Go.Proofs.YtkkapbnopmmmjaaDoor.En
theorem getD_mem {l : List Int} {k : Nat} (h : k < l.length) : l.getD k 0 ∈ l := by
  have : l.getD k 0 = l[k] := by simp [List.getD, List.getElem?_eq_getElem h]
  rw [this]; exact List.getElem_mem h
theorem mem_getD {l : List Int} {x : Int} (h : x ∈ l) : ∃ k, k < l.length ∧ l.getD k 0 = x := by
  obtain ⟨k, hk, rfl⟩ := List.mem_iff_getElem.1 h
  exact ⟨k, hk, by simp [List.getD, List.getElem?_eq_getElem hk]⟩
def OkTo (C L : List Int) (n : Int) (k : Nat) : Prop := ∀ j, j < k → -1099511627776 ≤ C.getD j 0 ∧ C.getD j 0 ≤ 1099511627776 ∧ L.getD j 0 ≠ 0 ∧ -n ≤ L.getD j 0 ∧ L.getD j 0 ≤ n
theorem OkTo.succ {C L : List Int} {n : Int} {k : Nat} (h : OkTo C L n k) (hk : -1099511627776 ≤ C.getD k 0 ∧ C.getD k 0 ≤ 1099511627776 ∧ L.getD k 0 ≠ 0 ∧ -n ≤ L.getD k 0 ∧ L.getD k 0 ≤ n) : OkTo C L n (k + 1) := by
  intro j hj
  by_cases e : j = k
  · subst e; exact hk
  · exact h j (by omega)
end Go.Proofs.YtkkapbnopmmmjaaDoor.En
namespace Go.Proofs.YtkkapbnopmmmjaaDoor.En
section
variable {l : LinV} {vs : List Int} {k : Nat}
end
theorem allSucc {a b : List Int} {k : Nat} (h : ∀ j, j < k → a.getD j 0 = b.getD j 0) (hk : a.getD k 0 = b.getD k 0) : ∀ j, j < k + 1 → a.getD j 0 = b.getD j 0 := fun j hj => by
  by_cases e : j = k
  · rw [e]; exact hk
  · exact h j (by omega)
theorem ext_getD {a b : List Int} (hl : a.length = b.length) (h : ∀ j, j < a.length → a.getD j 0 = b.getD j 0) : a = b := by
  refine List.ext_getElem hl fun j h1 h2 => ?_
  have := h j h1
  simpa [List.getD, List.getElem?_eq_getElem h1, List.getElem?_eq_getElem h2] using this
section
variable {C L C' L' : List Int} {B B' : Int} {k : Nat}
theorem same_no1 (h : C.length ≠ C'.length ∨ L.length ≠ L'.length ∨ B ≠ B') : sameP ⟨C, L, B⟩ ⟨C', L', B'⟩ = false := by
  cases hs : sameP ⟨C, L, B⟩ ⟨C', L', B'⟩ with
  | false => rfl
  | true =>
    have := sameP_iff.1 hs
    cases this
    simp at h
theorem same_noC (h : C.getD k 0 ≠ C'.getD k 0) : sameP ⟨C, L, B⟩ ⟨C', L', B'⟩ = false := by
  cases hs : sameP ⟨C, L, B⟩ ⟨C', L', B'⟩ with
  | false => rfl
  | true => have := sameP_iff.1 hs; cases this; exact absurd rfl h
theorem same_noL (h : L.getD k 0 ≠ L'.getD k 0) : sameP ⟨C, L, B⟩ ⟨C', L', B'⟩ = false := by
  cases hs : sameP ⟨C, L, B⟩ ⟨C', L', B'⟩ with
  | false => rfl
  | true => have := sameP_iff.1 hs; cases this; exact absurd rfl h
theorem same_yes (h1 : C.length = C'.length) (h2 : L.length = L'.length) (h3 : B = B') (h4 : ∀ j, j < C.length → C.getD j 0 = C'.getD j 0) (h5 : ∀ j, j < L.length → L.getD j 0 = L'.getD j 0) : sameP ⟨C, L, B⟩ ⟨C', L', B'⟩ = true := by
  refine sameP_iff.2 ?_
  rw [ext_getD h1 h4, ext_getD h2 h5, h3]
end
end Go.Proofs.YtkkapbnopmmmjaaDoor.En
namespace Go.Proofs.YtkkapbnopmmmjaaDoor.En
section
variable {p : Int → Bool} {C L : List Int} {k : Nat}
end
theorem has_no {l : List Int} {x : Int} {k : Nat} (hk : l.length ≤ k) (h : ∀ j, j < k → l.getD j 0 ≠ x) : l.contains x = false := by
  cases hc : l.contains x with
  | false => rfl
  | true =>
    obtain ⟨j, hj, e⟩ := mem_getD (List.contains_iff_mem.1 hc)
    exact absurd e (h j (by omega))
theorem has_yes {l : List Int} {x : Int} {k : Nat} (hk : k < l.length) (h : l.getD k 0 = x) : l.contains x = true := by
  rw [List.contains_iff_mem, ← h]; exact getD_mem hk
section
variable {lits C L : List Int} {s : Int} {k : Nat}
end
end Go.Proofs.YtkkapbnopmmmjaaDoor.En
