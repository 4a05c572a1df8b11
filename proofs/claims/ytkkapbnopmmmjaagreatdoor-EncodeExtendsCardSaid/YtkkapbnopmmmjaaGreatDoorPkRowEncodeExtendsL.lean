/- Lemmas and contracts for the row. -/
import Derived.Test.YtkkapbnopmmmjaaGreatDoorPkRowEncodeExtendsB
import Derived.MapKept
import Derived.Test.YtkkapbnopmmmjaaGreatDoorPkRowEncodeExtendsA
set_option linter.unusedVariables false
set_option linter.unusedSimpArgs false
set_option linter.unnecessarySimpa false
namespace Go.Proofs.YtkkapbnopmmmjaaGreatDoor
open Go.RowKit
def keyIs (k : Int) (e : MapEntry) : Bool := match e.key with | .int .i64 a => a == k | _ => false
def lookM (es : List MapEntry) (k : Int) : Option Value := (es.find? (keyIs k)).map (·.val)
def intKeys (es : List MapEntry) : Prop := ∀ e ∈ es, ∃ a, e.key = .int .i64 a
def MapI (w : World) (m : Nat) (f : Int → Option Value) : Prop := ∃ es clock, w.heap[m]? = some (.map es clock) ∧ intKeys es.toList ∧ ∀ k, lookM es.toList k = f k
def upd (f : Int → Option Value) (k : Int) (v : Value) : Int → Option Value := fun j => if j = k then some v else f j
theorem findNow_spec (k : Int) (q : IntKind) : ∀ (es : List MapEntry) (i0 : Nat), intKeys es →
    (∃ j, ∃ h : j < es.length, es[j].key = .int .i64 k ∧ (∀ j' (h' : j' < j), keyIs k (es[j']'(by omega)) = false) ∧ Instr.findNow (.int q) (.int .i64 k) es i0 = some (some (i0 + j, es[j].val)) ∧ lookM es k = some es[j].val) ∨
    (Instr.findNow (.int q) (.int .i64 k) es i0 = some none ∧ (∀ e ∈ es, keyIs k e = false) ∧ lookM es k = none)
  | [], _, _ => .inr ⟨rfl, by simp, rfl⟩
  | e :: es, i0, hk => by
    obtain ⟨a, ha⟩ := hk e (by simp)
    by_cases hak : a = k
    · subst hak
      refine .inl ⟨0, by simp, ha, fun j' h' => by omega, ?_, ?_⟩
      · simp [Instr.findNow, ha, Instr.sameNow]
      · simp [lookM, keyIs, ha]
    · have hf : keyIs k e = false := by simp [keyIs, ha, hak]
      have hs : Instr.sameNow (.int q) (.int .i64 k) e.key = some false := by
        simp only [ha, Instr.sameNow, if_true]
        congr 1
        simp
        exact fun h => hak h.symm
      rcases findNow_spec k q es (i0 + 1) (fun e he => hk e (by simp [he])) with ⟨j, h, h1, h2, h3, h4⟩ | ⟨h3, h2, h4⟩
      · refine .inl ⟨j + 1, by simpa using h, by simpa using h1, fun j' h' => ?_, ?_, ?_⟩
        · rcases j' with _ | j'
          · simpa using hf
          · simpa using h2 j' (by omega)
        · simp only [Instr.findNow, hs, h3, List.getElem_cons_succ]
          congr 3
          omega
        · simp only [lookM, List.find?_cons, hf] at h4 ⊢
          simpa using h4
      · refine .inr ⟨?_, fun e' he' => ?_, ?_⟩
        · simp only [Instr.findNow, hs, h3]
        · rcases List.mem_cons.1 he' with rfl | he'
          · exact hf
          · exact h2 e' he'
        · simp only [lookM, List.find?_cons, hf] at h4 ⊢
          simpa using h4
section
variable {P : Program} {w : World} {m : Nat} {f : Int → Option Value}
theorem run_key (kt : TypeId) (hkt : P.underlying kt = some (.int .i64)) (em : Bool) (n : Nat) (k : Int) : (Instr.checkKey em (n + 1) kt (.int .i64 k)).run P w = .ok () w := by simp [Instr.checkKey, run_underlying hkt]
theorem run_look (t kt et : TypeId) (z : Value) (ht : P.underlying t = some (.map kt et)) (hkt : P.underlying kt = some (.int .i64)) (hz : ∀ w : World, (zeroValue et).run P w = .ok z w) (h : MapI w m f) (k : Int) :
    (Instr.lookup t (.map (some m)) (.int .i64 k) false).run P w = .ok ((f k).getD z) w := by
  obtain ⟨es, clock, hb, hk, hf⟩ := h
  have hc := fun em : Bool => run_key (P := P) (w := w) kt hkt em 9999 k
  have hg : (getObj m).run P w = .ok (.map es clock) w := by simp [getObj, Sem.run, hb]
  rcases findNow_spec k .i64 es.toList 0 hk with ⟨j, hj, h1, h2, h3, h4⟩ | ⟨h3, h2, h4⟩
  · rw [← hf k, h4]
    simp [Instr.lookup, run_underlying ht, hg, hc, Instr.findKey, run_underlying hkt, h3]
  · rw [← hf k, h4]
    simp [Instr.lookup, run_underlying ht, hg, hc, Instr.findKey, run_underlying hkt, h3, hz]
theorem lookM_modify (es : List MapEntry) (k k' : Int) (v : Value) (j : Nat) (hj : j < es.length) (h1 : es[j].key = .int .i64 k) (h2 : ∀ j' (h' : j' < j), keyIs k (es[j']'(by omega)) = false) :
    lookM (es.modify j fun e => { e with key := .int .i64 k, val := v }) k' = if k' = k then some v else lookM es k' := by
  induction es generalizing j with
  | nil => simp at hj
  | cons e es ih =>
    rcases j with _ | j
    · simp only [List.getElem_cons_zero] at h1
      simp only [List.modify_zero_cons, lookM, List.find?_cons]
      by_cases hk : k' = k
      · subst hk
        simp [keyIs]
      · have e1 : keyIs k' { e with key := .int .i64 k, val := v } = false := by simp [keyIs]; exact fun h => hk h.symm
        have e2 : keyIs k' e = false := by simp [keyIs, h1]; exact fun h => hk h.symm
        simp [e1, e2, hk]
    · have h0 := h2 0 (by omega)
      simp only [List.getElem_cons_zero] at h0
      have := ih j (by simpa using hj) (by simpa using h1) (fun j' h' => by simpa using h2 (j' + 1) (by omega))
      simp only [List.modify_succ_cons, lookM, List.find?_cons] at this ⊢
      by_cases hk : k' = k
      · subst hk
        simp only [h0, if_true] at this ⊢
        exact this
      · rw [if_neg hk] at this ⊢
        cases keyIs k' e
        · exact this
        · rfl
theorem lookM_push (es : List MapEntry) (k k' : Int) (v : Value) (c : Nat) (h2 : ∀ e ∈ es, keyIs k e = false) :
    lookM (es ++ [{ key := .int .i64 k, val := v, born := c }]) k' = if k' = k then some v else lookM es k' := by
  simp only [lookM, List.find?_append]
  by_cases hk : k' = k
  · subst hk
    rw [List.find?_eq_none.2 (fun e he => by simp [h2 e he])]
    simp [keyIs]
  · rw [if_neg hk]
    have : keyIs k' { key := .int .i64 k, val := v, born := c } = false := by simp [keyIs]; exact fun h => hk h.symm
    simp [this]
theorem run_upd (t kt et : TypeId) (ht : P.underlying t = some (.map kt et)) (hkt : P.underlying kt = some (.int .i64)) (h : MapI w m f) (k : Int) (v : Value) :
    ∃ w', (Instr.mapUpdate t (.map (some m)) (.int .i64 k) v).run P w = .ok () w' ∧ MapI w' m (upd f k v) ∧ w.grownBy w' (some m) ∧ w'.heap.size = w.heap.size := by
  obtain ⟨es, clock, hb, hk, hf⟩ := h
  have hc := fun em : Bool => run_key (P := P) (w := w) kt hkt em 9999 k
  have hg : (getObj m).run P w = .ok (.map es clock) w := by simp [getObj, Sem.run, hb]
  have hs : ∀ o : Obj, (setObj m o).run P w = .ok () { w with heap := w.heap.setIfInBounds m o } := fun o => by simp [setObj, Sem.run, hb]
  have hlt : m < w.heap.size := (Array.getElem?_eq_some_iff.1 hb).1
  have hgr : ∀ o : Obj, w.grownBy { w with heap := w.heap.setIfInBounds m o } (some m) := fun o =>
    ⟨rfl, rfl, rfl, by simp, fun j hj hne => by simp only [Array.getElem?_setIfInBounds]; rw [if_neg (fun e => hne (by rw [e]))]⟩
  rcases findNow_spec k .i64 es.toList 0 hk with ⟨j, hj, h1, h2, h3, h4⟩ | ⟨h3, h2, h4⟩
  · have hj' : j < es.size := by simpa using hj
    have hkey : ((es[j]?).map (·.key)).getD (.int .i64 k) = .int .i64 k := by
      rw [Array.getElem?_eq_getElem hj']
      simpa using h1
    refine ⟨{ w with heap := w.heap.setIfInBounds m (.map (es.modify j fun e => { e with key := .int .i64 k, val := v }) clock) }, ?_, ⟨es.modify j fun e => { e with key := .int .i64 k, val := v }, clock, by simp [hlt], ?_, fun k' => ?_⟩, hgr _, by simp⟩
    · simp [Instr.mapUpdate, run_underlying ht, hg, hc, Instr.findKey, run_underlying hkt, h3, hkey, Instr.keyThatStays, Instr.sameBits, hs]
    · intro e he
      simp only [Array.toList_modify] at he
      obtain ⟨i, hi, rfl⟩ := List.mem_iff_getElem.1 he
      rw [List.getElem_modify]
      split
      · exact ⟨k, rfl⟩
      · exact hk _ (List.getElem_mem _)
    · rw [Array.toList_modify, lookM_modify es.toList k k' v j hj h1 h2, upd]
      split
      · rfl
      · exact hf k'
  · refine ⟨{ w with heap := w.heap.setIfInBounds m (.map (es.push { key := .int .i64 k, val := v, born := clock }) (clock + 1)) }, ?_, ⟨es.push { key := .int .i64 k, val := v, born := clock }, clock + 1, by simp [hlt], ?_, fun k' => ?_⟩, hgr _, by simp⟩
    · simp [Instr.mapUpdate, run_underlying ht, hg, hc, Instr.findKey, run_underlying hkt, h3, hs]
    · intro e he
      rw [Array.toList_push, List.mem_append] at he
      rcases he with he | he
      · exact hk e he
      · simp at he; subst he; exact ⟨k, rfl⟩
    · rw [Array.toList_push, lookM_push es.toList k k' v clock h2, upd]
      split
      · rfl
      · exact hf k'
theorem MapI.made (w : World) : MapI (w.alloc (.map #[] 0)) w.heap.size (fun _ => none) := ⟨#[], 0, heap_alloc_new w _, by intro e he; simp at he, fun k => rfl⟩
theorem MapI.lt (h : MapI w m f) : m < w.heap.size := by
  obtain ⟨es, clock, hb, _⟩ := h
  exact (Array.getElem?_eq_some_iff.1 hb).1
theorem MapI.kp {M : Nat → Prop} {w' : World} (h : MapI w m f) (hk : Kp M w w') (hm : ¬ M m) : MapI w' m f := by
  have hlt := h.lt
  obtain ⟨es, clock, hb, h2⟩ := h
  exact ⟨es, clock, (hk.block m hlt hm).trans hb, h2⟩
theorem MapI.ne_blk {g : Nat} {t : TypeId} {cs : Array Value} (h : MapI w m f) (hg : Blk w g t cs) : m ≠ g := by
  rintro rfl
  obtain ⟨es, clock, hb, h2⟩ := h
  unfold Blk at hg
  rw [hb] at hg
  cases hg
end
end Go.Proofs.YtkkapbnopmmmjaaGreatDoor
namespace Go.Proofs.YtkkapbnopmmmjaaGreatDoor
open Go.RowKit
def pairV (e : MapEntry) : Value × Value := (e.key, e.val)
def pv (p : Int × Value) : Value × Value := (.int .i64 p.1, p.2)
def MapV (w : World) (m : Nat) (kvs : List (Int × Value)) : Prop := ∃ es clock, w.heap[m]? = some (.map es clock) ∧ es.toList.map pairV = kvs.map pv ∧ (kvs.map (·.1)).Nodup
def findV (kvs : List (Int × Value)) (k : Int) : Option Value := (kvs.find? fun p => p.1 == k).map (·.2)
theorem pairs_keysV : ∀ {es : List MapEntry} {kvs : List (Int × Value)}, es.map pairV = kvs.map pv → intKeys es
  | [], _, _ => fun e he => by cases he
  | e :: es, [], h => by simp at h
  | e :: es, p :: kvs, h => by
    simp only [List.map_cons, List.cons.injEq] at h
    intro x hx
    rcases List.mem_cons.1 hx with rfl | hx
    · exact ⟨p.1, congrArg Prod.fst h.1⟩
    · exact pairs_keysV h.2 x hx
theorem pairs_lookV : ∀ {es : List MapEntry} {kvs : List (Int × Value)}, es.map pairV = kvs.map pv → ∀ k, lookM es k = findV kvs k
  | [], [], _, k => rfl
  | [], p :: kvs, h, k => by simp at h
  | e :: es, [], h, k => by simp at h
  | e :: es, p :: kvs, h, k => by
    simp only [List.map_cons, List.cons.injEq] at h
    have h1 : e.key = .int .i64 p.1 := congrArg Prod.fst h.1
    have h2 : e.val = p.2 := congrArg Prod.snd h.1
    have ih := pairs_lookV h.2 k
    unfold lookM findV at ih ⊢
    rw [List.find?_cons, List.find?_cons]
    have h3 : keyIs k e = (p.1 == k) := by simp [keyIs, h1]
    rw [h3]
    cases p.1 == k with
    | true => simp [h2]
    | false => exact ih
section
variable {P : Program} {w w' : World} {m : Nat} {kvs : List (Int × Value)}
theorem MapV.mapI (h : MapV w m kvs) : MapI w m (findV kvs) := by
  obtain ⟨es, clock, hb, hp, _⟩ := h
  exact ⟨es, clock, hb, pairs_keysV hp, fun k => pairs_lookV hp k⟩
theorem MapV.lt (h : MapV w m kvs) : m < w.heap.size := by
  obtain ⟨es, clock, hb, _⟩ := h
  exact (Array.getElem?_eq_some_iff.1 hb).1
theorem MapV.keep (h : MapV w m kvs) (hk : w'.heap[m]? = w.heap[m]?) : MapV w' m kvs := by
  obtain ⟨es, clock, hb, h2⟩ := h
  exact ⟨es, clock, hk.trans hb, h2⟩
theorem MapV.made (w : World) : MapV (w.alloc (.map #[] 0)) w.heap.size [] := ⟨#[], 0, heap_alloc_new w _, rfl, List.nodup_nil⟩
theorem MapV.cnt (h : MapV w m kvs) : ∃ es clock, w.heap[m]? = some (.map es clock) ∧ es.size = kvs.length := by
  obtain ⟨es, clock, hb, hp, _⟩ := h
  exact ⟨es, clock, hb, by have := congrArg List.length hp; simpa using this⟩
theorem lookT (t kt et : TypeId) (z : Value) (ht : P.underlying t = some (.map kt et)) (hkt : P.underlying kt = some (.int .i64)) (hz : ∀ w : World, (zeroValue et).run P w = .ok z w) {f : Int → Option Value} (h : MapI w m f) (k : Int) :
    (Instr.lookup t (.map (some m)) (.int .i64 k) true).run P w = .ok (.tuple #[(f k).getD z, .bool (f k).isSome]) w := by
  obtain ⟨es, clock, hb, hk, hf⟩ := h
  have hc := fun em : Bool => run_key (P := P) (w := w) kt hkt em 9999 k
  have hg : (getObj m).run P w = .ok (.map es clock) w := by simp [getObj, Sem.run, hb]
  rcases findNow_spec k .i64 es.toList 0 hk with ⟨j, hj, h1, h2, h3, h4⟩ | ⟨h3, h2, h4⟩
  · rw [← hf k, h4]
    simp [Instr.lookup, run_underlying ht, hg, hc, Instr.findKey, run_underlying hkt, h3]
  · rw [← hf k, h4]
    simp [Instr.lookup, run_underlying ht, hg, hc, Instr.findKey, run_underlying hkt, h3, hz]
theorem run_updV (t kt et : TypeId) (ht : P.underlying t = some (.map kt et)) (hkt : P.underlying kt = some (.int .i64)) (h : MapV w m kvs) (k : Int) (v : Value) (hv : findV kvs k = none ∨ findV kvs k = some v) :
    ∃ o : Obj, (Instr.mapUpdate t (.map (some m)) (.int .i64 k) v).run P w = .ok () { w with heap := w.heap.setIfInBounds m o } ∧ MapV { w with heap := w.heap.setIfInBounds m o } m (if findV kvs k = none then kvs ++ [(k, v)] else kvs) := by
  obtain ⟨es, clock, hb, hp, hnd⟩ := h
  have hk := pairs_keysV hp
  have hc := fun em : Bool => run_key (P := P) (w := w) kt hkt em 9999 k
  have hg : (getObj m).run P w = .ok (.map es clock) w := by simp [getObj, Sem.run, hb]
  have hs : ∀ o : Obj, (setObj m o).run P w = .ok () { w with heap := w.heap.setIfInBounds m o } := fun o => by simp [setObj, Sem.run, hb]
  have hlt : m < w.heap.size := (Array.getElem?_eq_some_iff.1 hb).1
  have hlook := pairs_lookV hp k
  rcases findNow_spec k .i64 es.toList 0 hk with ⟨j, hj, h1, h2, h3, h4⟩ | ⟨h3, h2, h4⟩
  · have hj' : j < es.size := by simpa using hj
    have hkey : ((es[j]?).map (·.key)).getD (.int .i64 k) = .int .i64 k := by
      rw [Array.getElem?_eq_getElem hj']
      simpa using h1
    have hfv : findV kvs k = some es.toList[j].val := hlook.symm.trans h4
    have hval : es.toList[j].val = v := by
      rcases hv with hv | hv
      · rw [hv] at hfv; cases hfv
      · rw [hv] at hfv; exact (Option.some.inj hfv).symm
    refine ⟨.map (es.modify j fun e => { e with key := .int .i64 k, val := v }) clock, ?_, ?_⟩
    · simp [Instr.mapUpdate, run_underlying ht, hg, hc, Instr.findKey, run_underlying hkt, h3, hkey, Instr.keyThatStays, Instr.sameBits, hs]
    · rw [if_neg (by rw [hfv]; exact Option.some_ne_none _)]
      refine ⟨es.modify j fun e => { e with key := .int .i64 k, val := v }, clock, by simp [hlt], ?_, hnd⟩
      rw [← hp, Array.toList_modify]
      apply List.ext_getElem
      · simp
      · intro i a b
        rw [List.getElem_map, List.getElem_map, List.getElem_modify]
        split
        · rename_i hji
          subst hji
          unfold pairV
          rw [h1, hval]
        · rfl
  · have hfv : findV kvs k = none := hlook.symm.trans h4
    refine ⟨.map (es.push { key := .int .i64 k, val := v, born := clock }) (clock + 1), ?_, ?_⟩
    · simp [Instr.mapUpdate, run_underlying ht, hg, hc, Instr.findKey, run_underlying hkt, h3, hs]
    · rw [if_pos hfv]
      refine ⟨es.push { key := .int .i64 k, val := v, born := clock }, clock + 1, by simp [hlt], ?_, ?_⟩
      · rw [Array.toList_push, List.map_append, List.map_append, hp]
        rfl
      · rw [List.map_append, List.nodup_append]
        refine ⟨hnd, by simp, fun x hx y hy => ?_⟩
        rw [List.map_singleton, List.mem_singleton] at hy
        subst hy
        rintro rfl
        obtain ⟨p, hp1, hp2⟩ := List.mem_map.1 hx
        unfold findV at hfv
        rw [Option.map_eq_none_iff, List.find?_eq_none] at hfv
        exact hfv p hp1 (by simpa using hp2)
def setV (ks : List Int) : List (Int × Value) := ks.map fun k => (k, .bool true)
def addK (ks : List Int) (k : Int) : List Int := bif ks.contains k then ks else ks ++ [k]
theorem findV_set : ∀ (ks : List Int) (k : Int), findV (setV ks) k = if ks.contains k then some (.bool true) else none
  | [], k => rfl
  | a :: ks, k => by
    have ih := findV_set ks k
    unfold findV setV at ih ⊢
    rw [List.map_cons, List.find?_cons]
    by_cases h : a = k
    · subst h; simp
    · have h1 : (a == k) = false := by simpa using h
      have h2 : (k == a) = false := by simpa using fun e : k = a => h e.symm
      simp only [h1, List.contains_cons, h2, Bool.false_or]
      exact ih
theorem addK_mem {ks : List Int} {k x : Int} : x ∈ addK ks k ↔ x ∈ ks ∨ x = k := by
  unfold addK
  cases h : ks.contains k with
  | true =>
    have hk : k ∈ ks := List.contains_iff_mem.1 h
    exact ⟨fun h => .inl h, fun h => h.elim id (fun e => e ▸ hk)⟩
  | false => simp
theorem addK_contains (ks : List Int) (k x : Int) : (addK ks k).contains x = (ks.contains x || x == k) := by
  rw [Bool.eq_iff_iff, List.contains_iff_mem, addK_mem, Bool.or_eq_true, List.contains_iff_mem, beq_iff_eq]
theorem run_updS (t kt et : TypeId) (ht : P.underlying t = some (.map kt et)) (hkt : P.underlying kt = some (.int .i64)) {ks : List Int} (h : MapV w m (setV ks)) (k : Int) :
    ∃ o : Obj, (Instr.mapUpdate t (.map (some m)) (.int .i64 k) (.bool true)).run P w = .ok () { w with heap := w.heap.setIfInBounds m o } ∧ MapV { w with heap := w.heap.setIfInBounds m o } m (setV (addK ks k)) := by
  have hf := findV_set ks k
  obtain ⟨o, h1, h2⟩ := run_updV t kt et ht hkt h k (.bool true) (by rw [hf]; cases ks.contains k <;> simp)
  refine ⟨o, h1, ?_⟩
  unfold addK
  cases hc : ks.contains k with
  | true => rw [hc] at hf; rw [if_neg (by rw [hf]; simp)] at h2; exact h2
  | false =>
    rw [hc] at hf
    rw [if_pos (by rw [hf]; simp)] at h2
    have e : setV ks ++ [(k, Value.bool true)] = setV (ks ++ [k]) := by simp [setV]
    rw [e] at h2
    exact h2
theorem findV_not {ks : List Int} {vs : List Value} {k : Int} (h : k ∉ ks) : findV (ks.zip vs) k = none := by
  unfold findV
  rw [Option.map_eq_none_iff, List.find?_eq_none]
  intro p hp
  have := (List.of_mem_zip hp).1
  simpa using fun e : p.1 = k => h (e ▸ this)
end
end Go.Proofs.YtkkapbnopmmmjaaGreatDoor
namespace Go.Proofs.YtkkapbnopmmmjaaGreatDoor.Cn
open Go
def seenK (l : List Int) : List Int := l.foldl (fun ks x => addK ks (max x (-x))) (addK [] 0)
theorem seen_next {l : List Int} {i : Nat} (h : i < l.length) : addK (seenK (l.take i)) (max (l.getD i 0) (-(l.getD i 0))) = seenK (l.take (i + 1)) := by
  unfold seenK; rw [take_sD (d := 0) h, List.foldl_append]; rfl
theorem seen_fold (z : Int) : ∀ (l ks : List Int), (l.foldl (fun ks x => addK ks (max x (-x))) ks).contains z = (ks.contains z || l.any fun x => z == max x (-x))
  | [], ks => by simp
  | x :: l, ks => by
    rw [List.foldl_cons, seen_fold z l, addK_contains, List.any_cons, Bool.or_assoc]
theorem seen_has (l : List Int) (z : Int) : (seenK l).contains z = (z == 0 || l.any fun x => z == max x (-x)) := by
  unfold seenK
  rw [seen_fold, addK_contains]
  rfl
def apAt (next : Int) (l : List Int) (i : Nat) : Bool := !((decide (max (l.getD i 0) (-(l.getD i 0)) < 0) || decide (max (l.getD i 0) (-(l.getD i 0)) ≥ next)) || (seenK (l.take i)).contains (max (l.getD i 0) (-(l.getD i 0))))
def apartB (next : Int) (l : List Int) : Bool := (List.range l.length).all (apAt next l)
theorem ap_no {next : Int} {l : List Int} {i : Nat} (hi : i < l.length) (h : apAt next l i = false) : apartB next l = false := List.all_eq_false.2 ⟨i, List.mem_range.2 hi, by rw [h]; simp⟩
theorem ap_yes {next : Int} {l : List Int} {i : Nat} (hi : i = l.length) (h : ∀ j, j < i → apAt next l j = true) : apartB next l = true := List.all_eq_true.2 fun j hj => h j (by rw [hi]; exact List.mem_range.1 hj)
theorem notT {b : Bool} (h : b = true) : (!b) = false := by rw [h]; rfl
theorem notF {b : Bool} (h : b = false) : (!b) = true := by rw [h]; rfl
theorem flat_next {ps : List (List Int)} {i : Nat} (h : i < ps.length) : (ps.take i).flatten ++ ps.getD i [] = (ps.take (i + 1)).flatten := by
  rw [take_sD (d := []) h, List.flatten_append]; simp
theorem flat3 {ps : List (List Int)} (h1 : ps.length ≤ 3) (h2 : ∀ x ∈ ps, x.length ≤ 3) : ∀ i, (ps.take i).flatten.length ≤ 9 := fun i => by
  have key : ∀ l : List (List Int), (∀ x ∈ l, x.length ≤ 3) → l.flatten.length ≤ 3 * l.length := fun l => by
    induction l with
    | nil => intro _; exact Nat.le_refl _
    | cons x l ih =>
      intro h
      have := ih fun y hy => h y (List.mem_cons_of_mem _ hy)
      have h0 := h x List.mem_cons_self
      simp only [List.flatten_cons, List.length_append, List.length_cons]; omega
  have := key (ps.take i) fun x hx => h2 x (List.mem_of_mem_take hx)
  rw [List.length_take] at this
  omega
def at1 (l : List Int) (n : Int) : List Int := if n < 0 ∨ (l.length : Int) ≤ n then [] else [l.getD n.toNat 0]
def neg1 : List Int → List Int
  | [] => []
  | x :: _ => [-x]
theorem at_out {l : List Int} {n : Int} (h : n < 0 ∨ (l.length : Int) ≤ n) : at1 l n = [] := if_pos h
theorem at_in2 {l : List Int} {n : Int} (h0 : 0 ≤ n) (h1 : n < l.length) : (l.take (n + 1).toNat).drop n.toNat = at1 l n := by
  unfold at1
  rw [if_neg (by omega), show (n + 1).toNat = n.toNat + 1 by omega]
  have : n.toNat < l.length := by omega
  rw [List.take_add_one, List.getElem?_eq_getElem this, List.drop_append]
  simp [List.getD, List.getElem?_eq_getElem this, List.drop_eq_nil_of_le, Nat.min_eq_left (Nat.le_of_lt this)]
theorem at_len (l : List Int) (n : Int) : (at1 l n).length ≤ 1 := by unfold at1; split <;> simp
theorem at_mem {l : List Int} {n x : Int} (h : x ∈ at1 l n) : x ∈ l := by
  unfold at1 at h
  split at h
  · cases h
  · rw [List.mem_singleton.1 h]; exact getD_memL (by omega)
theorem neg_nil {l : List Int} (h : (l.length : Int) = 0) : neg1 l = [] := by
  cases l with
  | nil => rfl
  | cons x l => simp at h; omega
theorem neg_one {l : List Int} (h : ¬ (l.length : Int) = 0) : neg1 l = [-(l.getD 0 0)] := by
  cases l with
  | nil => exact absurd rfl h
  | cons x l => rfl
theorem neg_len (l : List Int) : (neg1 l).length ≤ 1 := by cases l <;> simp [neg1]
def outsT (next : Int) (many : Nat) : List Int := (List.range many).map fun i : Nat => next + (i : Int)
theorem outs_len (next : Int) (many : Nat) : (outsT next many).length = many := by unfold outsT; rw [List.length_map, List.length_range]
theorem outs_get {next : Int} {many i : Nat} (h : i < many) : (outsT next many).getD i 0 = next + i := by
  unfold outsT
  rw [List.getD_eq_getElem?_getD, List.getElem?_map, List.getElem?_range h]; rfl
theorem outs_mem {next x : Int} {many : Nat} (h : x ∈ outsT next many) : next ≤ x ∧ x < next + many := by
  unfold outsT at h
  obtain ⟨i, hi, rfl⟩ := List.mem_map.1 h
  have := List.mem_range.1 hi
  omega
def up1 (a b o : List Int) (i k : Nat) : List (List Int) := if 0 < i + k ∧ i + k ≤ o.length then [neg1 (at1 a ((i : Int) - 1)) ++ neg1 (at1 b ((k : Int) - 1)) ++ at1 o ((i : Int) + k - 1)] else []
def dn1 (a b o : List Int) (i k : Nat) : List (List Int) := if i + k < o.length then [at1 a i ++ at1 b k ++ neg1 (at1 o ((i : Int) + k))] else []
def rowT (a b o : List Int) (i k : Nat) : List (List Int) := (List.range k).flatMap fun j => up1 a b o i j ++ dn1 a b o i j
def clsT (a b o : List Int) (i : Nat) : List (List Int) := (List.range i).flatMap fun i => rowT a b o i (b.length + 1)
theorem row_next (a b o : List Int) (i k : Nat) : rowT a b o i k ++ up1 a b o i k ++ dn1 a b o i k = rowT a b o i (k + 1) := by
  unfold rowT
  rw [List.range_succ, List.flatMap_append]; simp
theorem cls_next (a b o : List Int) (i : Nat) : clsT a b o i ++ rowT a b o i (b.length + 1) = clsT a b o (i + 1) := by
  unfold clsT
  rw [List.range_succ, List.flatMap_append]; simp
theorem up_yes {a b o : List Int} {i k : Nat} (h1 : 0 < i + k) (h2 : i + k ≤ o.length) : up1 a b o i k = [neg1 (at1 a ((i : Int) - 1)) ++ neg1 (at1 b ((k : Int) - 1)) ++ at1 o ((i : Int) + k - 1)] := if_pos ⟨h1, h2⟩
theorem up_no {a b o : List Int} {i k : Nat} (h : ¬ (0 < i + k ∧ i + k ≤ o.length)) : up1 a b o i k = [] := if_neg h
theorem dn_yes {a b o : List Int} {i k : Nat} (h : i + k < o.length) : dn1 a b o i k = [at1 a i ++ at1 b k ++ neg1 (at1 o ((i : Int) + k))] := if_pos h
theorem dn_no {a b o : List Int} {i k : Nat} (h : ¬ i + k < o.length) : dn1 a b o i k = [] := if_neg h
theorem row_len (a b o : List Int) (i : Nat) : ∀ k, (rowT a b o i k).length ≤ 2 * k
  | 0 => Nat.le_refl _
  | k + 1 => by
    rw [← row_next]
    have := row_len a b o i k
    have h1 : (up1 a b o i k).length ≤ 1 := by unfold up1; split <;> simp
    have h2 : (dn1 a b o i k).length ≤ 1 := by unfold dn1; split <;> simp
    simp only [List.length_append]; omega
theorem cls_len (a b o : List Int) : ∀ i, (clsT a b o i).length ≤ 2 * (b.length + 1) * i
  | 0 => Nat.le_refl _
  | i + 1 => by
    rw [← cls_next, List.length_append]
    have h1 := cls_len a b o i
    have h2 := row_len a b o i (b.length + 1)
    rw [Nat.mul_add]; omega
abbrev TSt := Int × Bool × List (List Int)
def totE (most : Int) (l a b : List Int) (s : TSt) : List Int × TSt :=
  if (s.2.1 || decide (s.1 + min (l.length : Int) most > 65537)) = true then ([], (s.1, true, s.2.2))
  else (outsT s.1 (min (l.length : Int) most).toNat, (s.1 + min (l.length : Int) most, false, s.2.2 ++ clsT a b (outsT s.1 (min (l.length : Int) most).toNat) (a.length + 1)))
def totF (most : Int) : Nat → List Int → TSt → List Int × TSt
  | 0, l, s => (l, s)
  | n + 1, l, s => if (((l.length : Int) == 1) || s.2.1) = true then (l, s) else
    totE most l (totF most n (l.take (l.length / 2)) s).1 (totF most n (l.drop (l.length / 2)) (totF most n (l.take (l.length / 2)) s).2).1 (totF most n (l.drop (l.length / 2)) (totF most n (l.take (l.length / 2)) s).2).2
theorem totF_fuel (most : Int) : ∀ (n m : Nat) (l : List Int) (s : TSt), 1 ≤ l.length → l.length ≤ n → l.length ≤ m → totF most n l s = totF most m l s
  | 0, m, l, s, h0, h1, h2 => by omega
  | n + 1, 0, l, s, h0, h1, h2 => by omega
  | n + 1, m + 1, l, s, h0, h1, h2 => by
    rw [totF, totF]
    split
    · rfl
    · rename_i hc
      have hl : ¬ l.length = 1 := fun e => hc (by rw [e]; rfl)
      rw [totF_fuel most n m (l.take (l.length / 2)) s (by rw [List.length_take]; omega) (by rw [List.length_take]; omega) (by rw [List.length_take]; omega),
        totF_fuel most n m (l.drop (l.length / 2)) _ (by rw [List.length_drop]; omega) (by rw [List.length_drop]; omega) (by rw [List.length_drop]; omega)]
def totT (most : Int) (l : List Int) (s : TSt) : List Int × TSt := totF most l.length l s
theorem totT_one {most : Int} {l : List Int} {s : TSt} (h0 : 1 ≤ l.length) (h : (((l.length : Int) == 1) || s.2.1) = true) : totT most l s = (l, s) := by
  unfold totT
  obtain ⟨k, hk⟩ : ∃ k, l.length = k + 1 := ⟨l.length - 1, by omega⟩
  rw [hk, totF, if_pos h]
theorem totT_two {most : Int} {l : List Int} {s : TSt} (h0 : 1 ≤ l.length) (h : ¬ (((l.length : Int) == 1) || s.2.1) = true) : totT most l s =
    totE most l (totT most (l.take (l.length / 2)) s).1 (totT most (l.drop (l.length / 2)) (totT most (l.take (l.length / 2)) s).2).1 (totT most (l.drop (l.length / 2)) (totT most (l.take (l.length / 2)) s).2).2 := by
  have hl : ¬ l.length = 1 := fun e => h (by rw [e]; rfl)
  unfold totT
  obtain ⟨k, hk⟩ : ∃ k, l.length = k + 1 := ⟨l.length - 1, by omega⟩
  have e : totF most l.length l s = totF most (k + 1) l s := by rw [hk]
  rw [e, totF, if_neg h, totF_fuel most k (l.take (l.length / 2)).length (l.take (l.length / 2)) s (by rw [List.length_take]; omega) (by rw [List.length_take]; omega) (Nat.le_refl _),
    totF_fuel most k (l.drop (l.length / 2)).length (l.drop (l.length / 2)) _ (by rw [List.length_drop]; omega) (by rw [List.length_drop]; omega) (Nat.le_refl _)]
theorem tot_bd (most : Int) (hm0 : 0 ≤ most) : ∀ (n : Nat) (l : List Int) (s : TSt), l.length = n → 1 ≤ n → 1 ≤ s.1 → s.1 ≤ 65537 → (∀ x ∈ l, -65537 ≤ x ∧ x ≤ 65537) →
    (totT most l s).1.length ≤ n ∧ (∀ x ∈ (totT most l s).1, -65537 ≤ x ∧ x ≤ 65537) ∧ s.1 ≤ (totT most l s).2.1 ∧ (totT most l s).2.1 ≤ 65537 ∧ (totT most l s).2.2.2.length ≤ s.2.2.length + 8 * (n * n) := fun n => by
  induction n using Nat.strongRecOn with
  | _ n ih =>
    intro l s hl h1 hs1 hs2 hx
    by_cases hc : (((l.length : Int) == 1) || s.2.1) = true
    · rw [totT_one (by omega) hc]
      exact ⟨by rw [hl]; exact Nat.le_refl _, hx, Int.le_refl _, hs2, Nat.le_add_right _ _⟩
    · have hl2 : ¬ l.length = 1 := fun e => hc (by rw [e]; rfl)
      rw [totT_two (by omega) hc]
      have hA := ih (l.take (l.length / 2)).length (by rw [List.length_take]; omega) (l.take (l.length / 2)) s rfl (by rw [List.length_take]; omega) hs1 hs2 (fun x h => hx x (List.mem_of_mem_take h))
      generalize totT most (l.take (l.length / 2)) s = A at hA ⊢
      obtain ⟨a1, a2, a3, a4, a5⟩ := hA
      have hB := ih (l.drop (l.length / 2)).length (by rw [List.length_drop]; omega) (l.drop (l.length / 2)) A.2 rfl (by rw [List.length_drop]; omega) (by omega) a4 (fun x h => hx x (List.mem_of_mem_drop h))
      generalize totT most (l.drop (l.length / 2)) A.2 = B at hB ⊢
      obtain ⟨b1, b2, b3, b4, b5⟩ := hB
      rw [List.length_take] at a1 a5
      rw [List.length_drop] at b1 b5
      have hmin : min (l.length / 2) l.length = l.length / 2 := by omega
      rw [hmin] at a1 a5
      have hsq : (l.length / 2) * (l.length / 2) + (l.length - l.length / 2) * (l.length - l.length / 2) + 2 * ((l.length / 2) * (l.length - l.length / 2)) = n * n := by
        have e : l.length / 2 + (l.length - l.length / 2) = n := by omega
        rw [← e]
        generalize l.length / 2 = p
        generalize l.length - p = q
        rw [Nat.add_mul, Nat.mul_add, Nat.mul_add, Nat.mul_comm q p]; omega
      unfold totE
      split
      · refine ⟨Nat.zero_le _, fun x hx => (by cases hx), (by show s.1 ≤ B.2.1; omega), b4, ?_⟩
        show B.2.2.2.length ≤ _
        omega
      · rename_i hf
        simp only [Bool.or_eq_true, decide_eq_true_eq, not_or] at hf
        refine ⟨?_, fun x hx => ?_, ?_, ?_, ?_⟩
        · show (outsT _ _).length ≤ n
          rw [outs_len]; omega
        · have := outs_mem hx; omega
        · show s.1 ≤ B.2.1 + min (l.length : Int) most; omega
        · show B.2.1 + min (l.length : Int) most ≤ 65537; omega
        · show (B.2.2.2 ++ clsT A.1 B.1 _ _).length ≤ _
          rw [List.length_append]
          have hcl := cls_len A.1 B.1 (outsT B.2.1 (min (l.length : Int) most).toNat) (A.1.length + 1)
          have h4 : 2 * (B.1.length + 1) * (A.1.length + 1) ≤ 2 * (2 * (l.length - l.length / 2)) * (2 * (l.length / 2)) := Nat.mul_le_mul (by omega) (by omega)
          have h5 : 2 * (2 * (l.length - l.length / 2)) * (2 * (l.length / 2)) = 8 * ((l.length / 2) * (l.length - l.length / 2)) := by
            rw [show 2 * (2 * (l.length - l.length / 2)) = 4 * (l.length - l.length / 2) by omega, Nat.mul_mul_mul_comm, Nat.mul_comm (l.length - _)]
          omega
def totO (most : Int) (l : List Int) (nx : Int) (fl : Bool) (c : List (List Int)) : List Int := (totT most l (nx, fl, c)).1
def totN (most : Int) (l : List Int) (nx : Int) (fl : Bool) (c : List (List Int)) : Int := (totT most l (nx, fl, c)).2.1
def totB (most : Int) (l : List Int) (nx : Int) (fl : Bool) (c : List (List Int)) : Bool := (totT most l (nx, fl, c)).2.2.1
def totC (most : Int) (l : List Int) (nx : Int) (fl : Bool) (c : List (List Int)) : List (List Int) := (totT most l (nx, fl, c)).2.2.2
theorem half_1 (l : List Int) : (l.take ((l.length : Int).tdiv 2).toNat).drop 0 = l.take (l.length / 2) := by
  rw [List.drop_zero, show ((l.length : Int).tdiv 2).toNat = l.length / 2 by rw [Int.tdiv_eq_ediv_of_nonneg (by omega)]; omega]
theorem half_2 (l : List Int) : (l.take l.length).drop ((l.length : Int).tdiv 2).toNat = l.drop (l.length / 2) := by
  rw [List.take_length, show ((l.length : Int).tdiv 2).toNat = l.length / 2 by rw [Int.tdiv_eq_ediv_of_nonneg (by omega)]; omega]
section
variable {most nx : Int} {l : List Int} {fl : Bool} {c : List (List Int)}
theorem to_one (h0 : 1 ≤ l.length) (h : (((l.length : Int) == 1) || fl) = true) : totO most l nx fl c = l ∧ totN most l nx fl c = nx ∧ totB most l nx fl c = fl ∧ totC most l nx fl c = c := by
  unfold totO totN totB totC
  rw [totT_one h0 h]
  exact ⟨rfl, rfl, rfl, rfl⟩
abbrev L1 (l : List Int) : List Int := (l.take ((l.length : Int).tdiv 2).toNat).drop 0
abbrev L2 (l : List Int) : List Int := (l.take l.length).drop ((l.length : Int).tdiv 2).toNat
abbrev O1 (most : Int) (l : List Int) (nx : Int) (fl : Bool) (c : List (List Int)) : List Int := totO most (L1 l) nx fl c
abbrev N1 (most : Int) (l : List Int) (nx : Int) (fl : Bool) (c : List (List Int)) : Int := totN most (L1 l) nx fl c
abbrev B1 (most : Int) (l : List Int) (nx : Int) (fl : Bool) (c : List (List Int)) : Bool := totB most (L1 l) nx fl c
abbrev C1 (most : Int) (l : List Int) (nx : Int) (fl : Bool) (c : List (List Int)) : List (List Int) := totC most (L1 l) nx fl c
abbrev O2 (most : Int) (l : List Int) (nx : Int) (fl : Bool) (c : List (List Int)) : List Int := totO most (L2 l) (N1 most l nx fl c) (B1 most l nx fl c) (C1 most l nx fl c)
abbrev N2 (most : Int) (l : List Int) (nx : Int) (fl : Bool) (c : List (List Int)) : Int := totN most (L2 l) (N1 most l nx fl c) (B1 most l nx fl c) (C1 most l nx fl c)
abbrev B2 (most : Int) (l : List Int) (nx : Int) (fl : Bool) (c : List (List Int)) : Bool := totB most (L2 l) (N1 most l nx fl c) (B1 most l nx fl c) (C1 most l nx fl c)
abbrev C2 (most : Int) (l : List Int) (nx : Int) (fl : Bool) (c : List (List Int)) : List (List Int) := totC most (L2 l) (N1 most l nx fl c) (B1 most l nx fl c) (C1 most l nx fl c)
theorem to_two (h0 : 1 ≤ l.length) (h : (((l.length : Int) == 1) || fl) = false) : totT most l (nx, fl, c) = totE most l (O1 most l nx fl c) (O2 most l nx fl c) (N2 most l nx fl c, B2 most l nx fl c, C2 most l nx fl c) := by
  rw [totT_two h0 (by rw [h]; simp)]
  unfold O1 O2 N2 B2 C2 N1 B1 C1 L1 L2 totO totN totB totC
  rw [half_1, half_2]
theorem to_full (h0 : 1 ≤ l.length) (h : (((l.length : Int) == 1) || fl) = false) (hf : (B2 most l nx fl c || decide (N2 most l nx fl c + min (l.length : Int) most > 65537)) = true) :
    totO most l nx fl c = [] ∧ totN most l nx fl c = N2 most l nx fl c ∧ totB most l nx fl c = true ∧ totC most l nx fl c = C2 most l nx fl c := by
  have e := to_two (most := most) (nx := nx) (c := c) h0 h
  unfold totE at e
  rw [if_pos hf] at e
  refine ⟨?_, ?_, ?_, ?_⟩
  · show (totT most l (nx, fl, c)).1 = _; rw [e]
  · show (totT most l (nx, fl, c)).2.1 = _; rw [e]
  · show (totT most l (nx, fl, c)).2.2.1 = _; rw [e]
  · show (totT most l (nx, fl, c)).2.2.2 = _; rw [e]
abbrev MN (most : Int) (l : List Int) : Nat := (min (l.length : Int) most).toNat
abbrev OT (most : Int) (l : List Int) (nx : Int) (fl : Bool) (c : List (List Int)) : List Int := outsT (N2 most l nx fl c) (MN most l)
theorem to_ok (h0 : 1 ≤ l.length) (h : (((l.length : Int) == 1) || fl) = false) (hf : (B2 most l nx fl c || decide (N2 most l nx fl c + min (l.length : Int) most > 65537)) = false) :
    totO most l nx fl c = OT most l nx fl c ∧ totN most l nx fl c = N2 most l nx fl c + min (l.length : Int) most ∧ totB most l nx fl c = false ∧ totC most l nx fl c = C2 most l nx fl c ++ clsT (O1 most l nx fl c) (O2 most l nx fl c) (OT most l nx fl c) ((O1 most l nx fl c).length + 1) := by
  have e := to_two (most := most) (nx := nx) (c := c) h0 h
  unfold totE at e
  rw [if_neg (by rw [hf]; simp)] at e
  refine ⟨?_, ?_, ?_, ?_⟩
  · show (totT most l (nx, fl, c)).1 = _; rw [e]
  · show (totT most l (nx, fl, c)).2.1 = _; rw [e]
  · show (totT most l (nx, fl, c)).2.2.1 = _; rw [e]
  · show (totT most l (nx, fl, c)).2.2.2 = _; rw [e]
theorem to_bd (hm0 : 0 ≤ most) (h2 : 2 ≤ l.length) (hn1 : 1 ≤ nx) (hn2 : nx ≤ 65537) (hx : ∀ x ∈ l, -65537 ≤ x ∧ x ≤ 65537) :
    ((L1 l).length = l.length / 2 ∧ (L2 l).length = l.length - l.length / 2 ∧ (∀ x ∈ L1 l, -65537 ≤ x ∧ x ≤ 65537) ∧ ∀ x ∈ L2 l, -65537 ≤ x ∧ x ≤ 65537) ∧
    ((O1 most l nx fl c).length ≤ l.length / 2 ∧ (∀ x ∈ O1 most l nx fl c, -65537 ≤ x ∧ x ≤ 65537) ∧ nx ≤ N1 most l nx fl c ∧ N1 most l nx fl c ≤ 65537 ∧ (C1 most l nx fl c).length ≤ c.length + 8 * ((l.length / 2) * (l.length / 2))) ∧
    ((O2 most l nx fl c).length ≤ l.length - l.length / 2 ∧ (∀ x ∈ O2 most l nx fl c, -65537 ≤ x ∧ x ≤ 65537) ∧ nx ≤ N2 most l nx fl c ∧ N2 most l nx fl c ≤ 65537 ∧ (C2 most l nx fl c).length + 16 * ((l.length / 2) * (l.length - l.length / 2)) ≤ c.length + 8 * (l.length * l.length)) ∧
    c.length + 8 * ((l.length / 2) * (l.length / 2)) + 8 * ((l.length - l.length / 2) * (l.length - l.length / 2)) + 16 * ((l.length / 2) * (l.length - l.length / 2)) = c.length + 8 * (l.length * l.length) := by
  have e1 : (L1 l).length = l.length / 2 := by rw [show L1 l = l.take (l.length / 2) from half_1 l, List.length_take]; omega
  have e2 : (L2 l).length = l.length - l.length / 2 := by rw [show L2 l = l.drop (l.length / 2) from half_2 l, List.length_drop]
  have e3 : ∀ x ∈ L1 l, -65537 ≤ x ∧ x ≤ 65537 := fun x h => hx x (by rw [show L1 l = l.take (l.length / 2) from half_1 l] at h; exact List.mem_of_mem_take h)
  have e4 : ∀ x ∈ L2 l, -65537 ≤ x ∧ x ≤ 65537 := fun x h => hx x (by rw [show L2 l = l.drop (l.length / 2) from half_2 l] at h; exact List.mem_of_mem_drop h)
  have hsq : (l.length / 2) * (l.length / 2) + (l.length - l.length / 2) * (l.length - l.length / 2) + 2 * ((l.length / 2) * (l.length - l.length / 2)) = l.length * l.length := by
    have e : l.length / 2 + (l.length - l.length / 2) = l.length := by omega
    generalize l.length / 2 = p at e ⊢
    generalize l.length - p = q at e ⊢
    rw [← e, Nat.add_mul, Nat.mul_add, Nat.mul_add, Nat.mul_comm q p]; omega
  obtain ⟨a1, a2, a3, a4, a5⟩ := tot_bd most hm0 (L1 l).length (L1 l) (nx, fl, c) rfl (by omega) hn1 hn2 e3
  obtain ⟨b1, b2, b3, b4, b5⟩ := tot_bd most hm0 (L2 l).length (L2 l) (N1 most l nx fl c, B1 most l nx fl c, C1 most l nx fl c) rfl (by omega) (by show 1 ≤ (totT most (L1 l) (nx, fl, c)).2.1; exact Int.le_trans hn1 a3) a4 e4
  rw [e1] at a1 a5
  rw [e2] at b1 b5
  refine ⟨⟨e1, e2, e3, e4⟩, ⟨a1, a2, a3, a4, a5⟩, ⟨b1, b2, Int.le_trans a3 b3, b4, ?_⟩, by omega⟩
  have h1 : (C1 most l nx fl c).length ≤ c.length + 8 * ((l.length / 2) * (l.length / 2)) := a5
  have h2 : (C2 most l nx fl c).length ≤ (C1 most l nx fl c).length + 8 * ((l.length - l.length / 2) * (l.length - l.length / 2)) := b5
  omega
end
theorem half_i (l : List Int) : (l.length : Int).tdiv 2 = ((l.length / 2 : Nat) : Int) := by rw [Int.tdiv_eq_ediv_of_nonneg (by omega)]; omega
theorem len2 {l : List Int} {fl : Bool} (h0 : 1 ≤ l.length) (h : (((l.length : Int) == 1) || fl) = false) : 2 ≤ l.length := by
  simp only [Bool.or_eq_false_iff, beq_eq_false_iff_ne] at h
  omega
theorem to_full2 {most m2 nx : Int} {l : List Int} {fl : Bool} {c : List (List Int)} (hm : m2 = most) (h0 : 1 ≤ l.length) (h : (((l.length : Int) == 1) || fl) = false) (hf : (B2 m2 l nx fl c || decide (N2 m2 l nx fl c + min (l.length : Int) most > 65537)) = true) :
    totO most l nx fl c = [] ∧ totN most l nx fl c = N2 m2 l nx fl c ∧ totB most l nx fl c = true ∧ totC most l nx fl c = C2 m2 l nx fl c := by
  subst hm; exact to_full h0 h hf
theorem to_ok2 {most m2 nx : Int} {l : List Int} {fl : Bool} {c : List (List Int)} (hm : m2 = most) (h0 : 1 ≤ l.length) (h : (((l.length : Int) == 1) || fl) = false) (hf : (B2 m2 l nx fl c || decide (N2 m2 l nx fl c + min (l.length : Int) most > 65537)) = false) :
    totO most l nx fl c = outsT (N2 m2 l nx fl c) (MN most l) ∧ totN most l nx fl c = N2 m2 l nx fl c + min (l.length : Int) most ∧ totB most l nx fl c = false ∧ totC most l nx fl c = C2 m2 l nx fl c ++ clsT (O1 m2 l nx fl c) (O2 m2 l nx fl c) (outsT (N2 m2 l nx fl c) (MN most l)) ((O1 m2 l nx fl c).length + 1) := by
  subst hm; exact to_ok h0 h hf
theorem or_le {b : Bool} {x : Int} (h : (b || decide (x > 65537)) = false) : b = false ∧ x ≤ 65537 := by
  simp only [Bool.or_eq_false_iff, decide_eq_false_iff_not] at h
  exact ⟨h.1, by omega⟩
theorem outs_rl {n : Int} {m i : Nat} (h : i ≤ m) : (outsT n i ++ List.replicate (m - i) (0 : Int)).length = m := by
  rw [List.length_append, outs_len, List.length_replicate]; omega
theorem cl_bd {a b o : List Int} {c : List (List Int)} {j k : Nat} (h1 : j ≤ 4097) (h2 : k ≤ 4097) (h3 : b.length ≤ 4096) : ((c ++ clsT a b o j) ++ rowT a b o j k).length ≤ c.length + 33600000 := by
  have e1 := cls_len a b o j
  have e2 := row_len a b o j k
  have e3 : 2 * (b.length + 1) * j ≤ 2 * 4097 * 4097 := Nat.mul_le_mul (by omega) h1
  simp only [List.length_append]; omega
theorem nx_c {a b o : List Int} {X : List (List Int)} {j k : Nat} {u d : List (List Int)} (hu : up1 a b o j k = u) (hd : dn1 a b o j k = d) : ((X ++ rowT a b o j k) ++ u) ++ d = X ++ rowT a b o j (k + 1) := by
  rw [← row_next, ← hu, ← hd]; simp
theorem nx_u {a b o : List Int} {X : List (List Int)} {j k : Nat} {u : List (List Int)} (hu : up1 a b o j k = u) (hd : dn1 a b o j k = []) : (X ++ rowT a b o j k) ++ u = X ++ rowT a b o j (k + 1) := by
  have := nx_c (X := X) hu hd; simpa using this
theorem nx_d {a b o : List Int} {X : List (List Int)} {j k : Nat} {d : List (List Int)} (hu : up1 a b o j k = []) (hd : dn1 a b o j k = d) : (X ++ rowT a b o j k) ++ d = X ++ rowT a b o j (k + 1) := by
  have := nx_c (X := X) hu hd; simpa using this
theorem nx_0 {a b o : List Int} {X : List (List Int)} {j k : Nat} (hu : up1 a b o j k = []) (hd : dn1 a b o j k = []) : X ++ rowT a b o j k = X ++ rowT a b o j (k + 1) := by
  have := nx_c (X := X) hu hd; simpa using this
theorem nx_r {a b o : List Int} {C : List (List Int)} {j k : Nat} (hk : k = b.length + 1) : (C ++ clsT a b o j) ++ rowT a b o j k = C ++ clsT a b o (j + 1) := by
  rw [hk, List.append_assoc, cls_next]
theorem up_y {a b o : List Int} {m : Int} {i k : Nat} (hm : (o.length : Int) = m) (h : (decide ((i : Int) + (k : Int) > 0) && decide ((i : Int) + (k : Int) ≤ m)) = true) : up1 a b o i k = [[neg1 (at1 a ((i : Int) - 1)), neg1 (at1 b ((k : Int) - 1)), at1 o ((i : Int) + (k : Int) - 1)].flatten] := by
  simp only [Bool.and_eq_true, decide_eq_true_eq] at h
  rw [up_yes (by omega) (by omega)]; simp
theorem up_n {a b o : List Int} {m : Int} {i k : Nat} (hm : (o.length : Int) = m) (h : (decide ((i : Int) + (k : Int) > 0) && decide ((i : Int) + (k : Int) ≤ m)) = false) : up1 a b o i k = [] := by
  simp only [Bool.and_eq_false_iff, decide_eq_false_iff_not] at h
  exact up_no (by omega)
theorem dn_y {a b o : List Int} {m : Int} {i k : Nat} (hm : (o.length : Int) = m) (h : (i : Int) + (k : Int) < m) : dn1 a b o i k = [[at1 a i, at1 b k, neg1 (at1 o ((i : Int) + (k : Int)))].flatten] := by
  rw [dn_yes (by omega)]; simp
theorem dn_n {a b o : List Int} {m : Int} {i k : Nat} (hm : (o.length : Int) = m) (h : ¬ (i : Int) + (k : Int) < m) : dn1 a b o i k = [] := dn_no (by omega)
theorem tri_len {x y z : List Int} (hx : x.length ≤ 1) (hy : y.length ≤ 1) (hz : z.length ≤ 1) : ∀ w ∈ [x, y, z], w.length ≤ 3 := fun w hw => by
  rcases List.mem_cons.1 hw with rfl | hw
  · omega
  · rcases List.mem_cons.1 hw with rfl | hw
    · omega
    · rw [List.mem_singleton.1 hw]; omega
theorem outs_fill {n : Int} {m i : Nat} (h : i < m) : (outsT n i ++ List.replicate (m - i) (0 : Int)).set i (n + i) = outsT n (i + 1) ++ List.replicate (m - (i + 1)) 0 := by
  obtain ⟨k, hk⟩ : ∃ k, m - i = k + 1 := ⟨m - i - 1, by omega⟩
  rw [hk, show m - (i + 1) = k by omega, List.replicate_succ]
  have e : outsT n (i + 1) = outsT n i ++ [n + i] := by unfold outsT; rw [List.range_succ, List.map_append]; rfl
  have hl := outs_len n i
  rw [List.set_append_right _ _ (by omega), hl, Nat.sub_self, e, List.append_assoc]; rfl
theorem outs_full {n : Int} {m i : Nat} (h : i = m) : outsT n i ++ List.replicate (m - i) (0 : Int) = outsT n m := by rw [h, Nat.sub_self]; simp
theorem to_len {most nx : Int} {l : List Int} {fl : Bool} {c : List (List Int)} (hm0 : 0 ≤ most) (h2 : l.length ≠ 0) (hn1 : 1 ≤ nx) (hn2 : nx ≤ 65537) (hx : ∀ x ∈ l, -65537 ≤ x ∧ x ≤ 65537) : (totO most l nx fl c).length ≤ l.length := (tot_bd most hm0 l.length l (nx, fl, c) rfl (by omega) hn1 hn2 hx).1
def badT (most : Int) (l : List Int) (next : Int) : Bool := bif (decide (next < 1)) then (decide (next < 1)) else (bif (decide (next > 65537)) then (decide (next > 65537)) else (bif (decide (most < 0)) then (decide (most < 0)) else (bif (decide (most > 1099511627776)) then (decide (most > 1099511627776)) else (decide ((l.length : Int) > 4096)))))
theorem badT_iff {most : Int} {l : List Int} {next : Int} : badT most l next = true ↔ next < 1 ∨ 65537 < next ∨ most < 0 ∨ 1099511627776 < most ∨ 4096 < l.length := by
  unfold badT
  by_cases h1 : next < 1
  · simp [h1]
  by_cases h2 : next > 65537
  · simp [h1, h2]
  by_cases h3 : most < 0
  · simp [h1, h2, h3]
  by_cases h4 : most > 1099511627776
  · simp [h1, h2, h3, h4]
  simp only [h1, h2, h3, h4, decide_false, cond_false, decide_eq_true_eq, false_or]
  omega
def totR (most : Int) (l : List Int) (next : Int) : List Int × List (List Int) × Int × Int :=
  if badT most l next = true then ([], [], 0, 1) else if apartB next l = false then ([], [], 0, 140) else if l.length = 0 ∨ most = 0 then ([], [], next, 0)
  else if totB most l next false [] = true then ([], [], 0, 2) else (totO most l next false [], totC most l next false [], totN most l next false [], 0)
section
variable {most next : Int} {l : List Int}
theorem ntT2 {b : Bool} (h : (!b) = true) : b = false := by cases b <;> simp_all
theorem ntF2 {b : Bool} (h : (!b) = false) : b = true := by cases b <;> simp_all
theorem tt_arg (h : badT most l next = true) : totR most l next = ([], [], 0, 1) := if_pos h
theorem tt_ok (h : badT most l next = false) : ¬ badT most l next = true ∧ 1 ≤ next ∧ next ≤ 65537 ∧ 0 ≤ most ∧ most ≤ 1099511627776 ∧ l.length ≤ 4096 := by
  have h2 : ¬ badT most l next = true := by rw [h]; simp
  refine ⟨h2, ?_⟩
  rw [badT_iff] at h2
  omega
theorem tt_lit (hg : ¬ badT most l next = true ∧ 1 ≤ next ∧ next ≤ 65537 ∧ 0 ≤ most ∧ most ≤ 1099511627776 ∧ l.length ≤ 4096) (h : apartB next l = false) : totR most l next = ([], [], 0, 140) := by
  unfold totR; rw [if_neg hg.1, if_pos h]
theorem nil_iff {n m : Int} : (bif (n == 0) then (n == 0) else (m == 0)) = true ↔ n = 0 ∨ m = 0 := by
  by_cases h : n = 0
  · simp [h]
  · simp [h]
theorem tt_nil (hg : ¬ badT most l next = true ∧ 1 ≤ next ∧ next ≤ 65537 ∧ 0 ≤ most ∧ most ≤ 1099511627776 ∧ l.length ≤ 4096) (ha : apartB next l = true) (h : (bif ((l.length : Int) == 0) then ((l.length : Int) == 0) else (most == 0)) = true) : totR most l next = ([], [], next, 0) := by
  unfold totR
  have := nil_iff.1 h
  rw [if_neg hg.1, if_neg (by rw [ha]; simp), if_pos (by omega)]
theorem tt_nz (h : (bif ((l.length : Int) == 0) then ((l.length : Int) == 0) else (most == 0)) = false) : l.length ≠ 0 ∧ most ≠ 0 := by
  have h2 : ¬ (bif ((l.length : Int) == 0) then ((l.length : Int) == 0) else (most == 0)) = true := by rw [h]; simp
  rw [nil_iff] at h2
  omega
theorem tt_full (hg : ¬ badT most l next = true ∧ 1 ≤ next ∧ next ≤ 65537 ∧ 0 ≤ most ∧ most ≤ 1099511627776 ∧ l.length ≤ 4096) (ha : apartB next l = true) (hz : l.length ≠ 0 ∧ most ≠ 0) (h : totB most l next false [] = true) : totR most l next = ([], [], 0, 2) := by
  unfold totR
  rw [if_neg hg.1, if_neg (by rw [ha]; simp), if_neg (by omega), if_pos h]
theorem tt_fine (hg : ¬ badT most l next = true ∧ 1 ≤ next ∧ next ≤ 65537 ∧ 0 ≤ most ∧ most ≤ 1099511627776 ∧ l.length ≤ 4096) (ha : apartB next l = true) (hz : l.length ≠ 0 ∧ most ≠ 0) (h : totB most l next false [] = false) : totR most l next = (totO most l next false [], totC most l next false [], totN most l next false [], 0) := by
  unfold totR
  rw [if_neg hg.1, if_neg (by rw [ha]; simp), if_neg (by omega), if_neg (by rw [h]; simp)]
end
end Go.Proofs.YtkkapbnopmmmjaaGreatDoor.Cn
namespace Go.Proofs.YtkkapbnopmmmjaaGreatDoor.Cn
open Go
def seenC (l : List Int) : List Int := l.foldl (fun ks x => addK ks (max x (-x))) []
theorem seenC_next {l : List Int} {i : Nat} (h : i < l.length) : addK (seenC (l.take i)) (max (l.getD i 0) (-(l.getD i 0))) = seenC (l.take (i + 1)) := by
  unfold seenC; rw [take_sD (d := 0) h, List.foldl_append]; rfl
theorem seenC_has (l : List Int) (z : Int) : (seenC l).contains z = l.any fun x => z == max x (-x) := by
  unfold seenC; rw [seen_fold]; rfl
def rtAt (next : Int) (l : List Int) (i : Nat) : Bool := !((decide (max (l.getD i 0) (-(l.getD i 0)) ≤ 0) || decide (max (l.getD i 0) (-(l.getD i 0)) ≥ next)) || (seenC (l.take i)).contains (max (l.getD i 0) (-(l.getD i 0))))
theorem rt_ap {next : Int} {l : List Int} {i : Nat} : rtAt next l i = apAt next l i := by
  unfold rtAt apAt
  rw [seen_has, seenC_has]
  generalize (List.any (l.take i) fun x => max (l.getD i 0) (-(l.getD i 0)) == max x (-x)) = b
  congr 1
  by_cases h0 : max (l.getD i 0) (-(l.getD i 0)) = 0
  · rw [h0]; simp
  · have h1 : ¬ max (l.getD i 0) (-(l.getD i 0)) < 0 := by omega
    have h2 : ¬ max (l.getD i 0) (-(l.getD i 0)) ≤ 0 := by omega
    have h3 : (max (l.getD i 0) (-(l.getD i 0)) == 0) = false := beq_eq_false_iff_ne.2 h0
    rw [decide_eq_false h1, decide_eq_false h2, h3]; rfl
def rightE (next : Int) (l : List Int) : Int := if next < 1 ∨ 65537 < next ∨ 4096 < l.length then 1 else if apartB next l = true then 0 else 140
theorem rt_arg {next : Int} {l : List Int} (h : ((decide (next < 1) || decide (next > 65537)) || decide ((l.length : Int) > 4096)) = true) : rightE next l = 1 := by
  simp only [Bool.or_eq_true, decide_eq_true_eq] at h
  unfold rightE; rw [if_pos (by omega)]
theorem rt_ok {next : Int} {l : List Int} (h : ((decide (next < 1) || decide (next > 65537)) || decide ((l.length : Int) > 4096)) = false) : 1 ≤ next ∧ next ≤ 65537 ∧ l.length ≤ 4096 := by
  simp only [Bool.or_eq_false_iff, decide_eq_false_iff_not] at h
  omega
theorem rt_bad {next : Int} {l : List Int} {i : Nat} (h : 1 ≤ next ∧ next ≤ 65537 ∧ l.length ≤ 4096) (hi : i < l.length) (hq : rtAt next l i = false) : rightE next l = 140 := by
  unfold rightE
  rw [if_neg (by omega), if_neg]
  rw [ap_no hi (by rw [← rt_ap]; exact hq)]; simp
theorem rt_fine {next : Int} {l : List Int} {i : Nat} (h : 1 ≤ next ∧ next ≤ 65537 ∧ l.length ≤ 4096) (hi : i = l.length) (hq : ∀ j, j < i → rtAt next l j = true) : rightE next l = 0 := by
  unfold rightE
  rw [if_neg (by omega), if_pos (ap_yes hi fun j hj => by rw [← rt_ap]; exact hq j hj)]
def regV (b m j : Int) : Int := if j < 1 ∨ m < j then 0 else b + j - 1
def nz (l : List Int) : List Int := l.filter fun x => !(x == 0)
def regC (b m ab am x : Int) (j : Nat) : List (List Int) := (List.range j).flatMap fun i : Nat =>
  [nz [-(regV b m ((i : Int) + 1)), regV ab am ((i : Int) + 1), x]] ++ if (i : Int) + 1 > 1 then [nz [-(regV b m ((i : Int) + 1)), regV ab am ((i : Int) + 1), regV ab am ((i : Int) + 1 - 1)]] else []
theorem reg_next {b m ab am x : Int} {j : Nat} : regC b m ab am x (j + 1) = regC b m ab am x j ++ ([nz [-(regV b m ((j : Int) + 1)), regV ab am ((j : Int) + 1), x]] ++ if (j : Int) + 1 > 1 then [nz [-(regV b m ((j : Int) + 1)), regV ab am ((j : Int) + 1), regV ab am ((j : Int) + 1 - 1)]] else []) := by
  unfold regC
  rw [List.range_succ, List.flatMap_append]; simp
def cAb (k next : Int) : Nat → Int × Int × Int
  | 0 => (0, 0, next)
  | i + 1 => ((cAb k next i).2.2, min ((i : Int) + 1) k, (cAb k next i).2.2 + min ((i : Int) + 1) k)
def cntC (l : List Int) (k next : Int) : Nat → List (List Int)
  | 0 => []
  | i + 1 => cntC l k next i ++ regC (cAb k next i).2.2 (min ((i : Int) + 1) k) (cAb k next i).1 (cAb k next i).2.1 (l.getD i 0) (min ((i : Int) + 1) k).toNat
def leastR (l : List Int) (k next : Int) : List (List Int) × Int × Int :=
  if rightE next l ≠ 0 then ([], 0, rightE next l) else if k ≤ 0 then ([], next, 0) else if (l.length : Int) < k then ([[]], next, 0)
  else if ((decide (next + ((k * (k - 1)).tdiv 2 + k * ((l.length : Int) - k + 1)) - 1 > 65536)) || decide (2 * ((k * (k - 1)).tdiv 2 + k * ((l.length : Int) - k + 1)) - (l.length : Int) + 1 > 65536)) = true then ([], 0, 2)
  else (cntC l k next l.length ++ [nz [regV (cAb k next l.length).1 (cAb k next l.length).2.1 k]], (cAb k next l.length).2.2, 0)
theorem reg_out {b m j : Int} (h : (decide (j < 1) || decide (j > m)) = true) : regV b m j = 0 := by
  simp only [Bool.or_eq_true, decide_eq_true_eq] at h
  unfold regV; rw [if_pos (by omega)]
theorem reg_in {b m j : Int} (h : (decide (j < 1) || decide (j > m)) = false) : regV b m j = b + j - 1 := by
  simp only [Bool.or_eq_false_iff, decide_eq_false_iff_not] at h
  unfold regV; rw [if_neg (by omega)]
theorem regV_bd {b m j B : Int} (hb : -B ≤ b ∧ b ≤ B) (hj : -B ≤ j ∧ j ≤ B) (hB : 1 ≤ B) : -(3 * B) ≤ regV b m j ∧ regV b m j ≤ 3 * B := by
  unfold regV; split <;> omega
theorem cAb_bd {k next : Int} (hk : 0 ≤ k ∧ k ≤ 4096) (hn : 1 ≤ next ∧ next ≤ 65537) : ∀ i : Nat, i ≤ 4096 → 0 ≤ (cAb k next i).1 ∧ (cAb k next i).1 ≤ 65537 + 4096 * i ∧ 0 ≤ (cAb k next i).2.1 ∧ (cAb k next i).2.1 ≤ 4096 ∧ 1 ≤ (cAb k next i).2.2 ∧ (cAb k next i).2.2 ≤ 65537 + 4096 * i
  | 0, _ => by simp only [cAb]; omega
  | i + 1, h => by
    have ih := cAb_bd hk hn i (by omega)
    simp only [cAb]
    omega
theorem regC_len (b m ab am x : Int) : ∀ j, (regC b m ab am x j).length ≤ 2 * j
  | 0 => Nat.le_refl _
  | j + 1 => by
    rw [reg_next]
    have := regC_len b m ab am x j
    split <;> simp only [List.length_append, List.length_cons, List.length_nil] <;> omega
theorem cntC_len {l : List Int} {k next : Int} (hk : k ≤ 4096) : ∀ i : Nat, (cntC l k next i).length ≤ 8192 * i
  | 0 => Nat.le_refl _
  | i + 1 => by
    rw [cntC, List.length_append]
    have ih := cntC_len (l := l) (next := next) hk i
    have := regC_len (cAb k next i).2.2 (min ((i : Int) + 1) k) (cAb k next i).1 (cAb k next i).2.1 (l.getD i 0) (min ((i : Int) + 1) k).toNat
    omega
theorem rn_1 {X : List (List Int)} {b m ab am x : Int} {j : Nat} (h : (j : Int) + 1 > 1) : ((X ++ regC b m ab am x j) ++ [nz [-(regV b m ((j : Int) + 1)), regV ab am ((j : Int) + 1), x]]) ++ [nz [-(regV b m ((j : Int) + 1)), regV ab am ((j : Int) + 1), regV ab am ((j : Int) + 1 - 1)]] = X ++ regC b m ab am x (j + 1) := by
  rw [reg_next, if_pos h]; simp
theorem rn_0 {X : List (List Int)} {b m ab am x : Int} {j : Nat} (h : ¬ (j : Int) + 1 > 1) : (X ++ regC b m ab am x j) ++ [nz [-(regV b m ((j : Int) + 1)), regV ab am ((j : Int) + 1), x]] = X ++ regC b m ab am x (j + 1) := by
  rw [reg_next, if_neg h]; simp
theorem cnt_next {l : List Int} {k next : Int} {i j : Nat} (h : j = (min ((i : Int) + 1) k).toNat) : cntC l k next i ++ regC (cAb k next i).2.2 (min ((i : Int) + 1) k) (cAb k next i).1 (cAb k next i).2.1 (l.getD i 0) j = cntC l k next (i + 1) := by
  rw [h, cntC]
theorem kk_bd {k n : Int} (h0 : 0 < k) (h1 : k ≤ n) (h2 : n ≤ 4096) : 0 ≤ k * (k - 1) ∧ k * (k - 1) ≤ 16777216 ∧ 0 ≤ k * (n - k + 1) ∧ k * (n - k + 1) ≤ 16777216 ∧ 0 ≤ (k * (k - 1)).tdiv 2 ∧ (k * (k - 1)).tdiv 2 ≤ 16777216 := by
  have a1 : 0 ≤ k * (k - 1) := Int.mul_nonneg (by omega) (by omega)
  have a2 : k * (k - 1) ≤ 4096 * 4096 := Int.mul_le_mul (by omega) (by omega) (by omega) (by omega)
  have a3 : 0 ≤ k * (n - k + 1) := Int.mul_nonneg (by omega) (by omega)
  have a4 : k * (n - k + 1) ≤ 4096 * 4096 := Int.mul_le_mul (by omega) (by omega) (by omega) (by omega)
  have a5 : (k * (k - 1)).tdiv 2 = k * (k - 1) / 2 := Int.tdiv_eq_ediv_of_nonneg a1
  rw [a5]
  omega
section
variable {l : List Int} {k next : Int}
theorem lr_err (h : rightE next l ≠ 0) : leastR l k next = ([], 0, rightE next l) := by unfold leastR; rw [if_pos h]
theorem lr_0 (h : rightE next l = 0) (hk : k ≤ 0) : leastR l k next = ([], next, 0) := by unfold leastR; rw [if_neg (by omega), if_pos hk]
theorem lr_n (h : rightE next l = 0) (hk : ¬ k ≤ 0) (hn : k > (l.length : Int)) : leastR l k next = ([[]], next, 0) := by unfold leastR; rw [if_neg (by omega), if_neg hk, if_pos (by omega)]
theorem lr_big (h : rightE next l = 0) (hk : ¬ k ≤ 0) (hn : ¬ k > (l.length : Int)) (hb : ((decide (next + ((k * (k - 1)).tdiv 2 + k * ((l.length : Int) - k + 1)) - 1 > 65536)) || decide (2 * ((k * (k - 1)).tdiv 2 + k * ((l.length : Int) - k + 1)) - (l.length : Int) + 1 > 65536)) = true) : leastR l k next = ([], 0, 2) := by
  unfold leastR; rw [if_neg (by omega), if_neg hk, if_neg (by omega), if_pos hb]
theorem lr_ok (h : rightE next l = 0) (hk : ¬ k ≤ 0) (hn : ¬ k > (l.length : Int)) (hb : ((decide (next + ((k * (k - 1)).tdiv 2 + k * ((l.length : Int) - k + 1)) - 1 > 65536)) || decide (2 * ((k * (k - 1)).tdiv 2 + k * ((l.length : Int) - k + 1)) - (l.length : Int) + 1 > 65536)) = false) :
    leastR l k next = (cntC l k next l.length ++ [nz [regV (cAb k next l.length).1 (cAb k next l.length).2.1 k]], (cAb k next l.length).2.2, 0) := by
  unfold leastR; rw [if_neg (by omega), if_neg hk, if_neg (by omega), if_neg (by rw [hb]; simp)]
theorem right_0 (h : rightE next l = 0) : 1 ≤ next ∧ next ≤ 65537 ∧ l.length ≤ 4096 := by
  unfold rightE at h
  split at h
  · cases h
  · omega
end
end Go.Proofs.YtkkapbnopmmmjaaGreatDoor.Cn
namespace Go.Proofs.YtkkapbnopmmmjaaGreatDoor.Cn
open Go
def evB (C : List Int) : Bool := (C.all fun c => c == C.getD 0 0) && !(C.length == 0)
def evK (C : List Int) (B : Int) : Int := if evB C = true then (B - 1).tdiv (C.getD 0 0) + 1 else 0
def wayP (C : List Int) (B : Int) : Int :=
  if C.length = 0 then (if B = 0 then 5 else 6) else if evB C = true ∧ C.getD 0 0 = B then 1 else if evB C = true ∧ C.length ≤ 10 then 2 else if evB C = true ∧ (C.length : Int) * evK C B ≤ 400 then 3 else 4
def NormC (C : List Int) (B : Int) : Prop := C.length ≤ 4096 ∧ (∀ c ∈ C, 1 ≤ c ∧ c ≤ 4503599627370496) ∧ 0 ≤ B ∧ B ≤ 4503599627370496 ∧ (C.length ≠ 0 → 1 ≤ B ∧ B ≤ C.sum)
theorem sum_all {c : Int} : ∀ {C : List Int}, (∀ x ∈ C, x = c) → C.sum = C.length * c
  | [], _ => by simp
  | x :: C, h => by
    rw [List.sum_cons, sum_all fun y hy => h y (List.mem_cons_of_mem _ hy), h x List.mem_cons_self, List.length_cons, Int.natCast_add, Int.add_mul]
    omega
theorem ev_fact {C : List Int} {B : Int} (h : NormC C B) (he : evB C = true) : C.length ≠ 0 ∧ 1 ≤ C.getD 0 0 ∧ C.getD 0 0 ≤ 4503599627370496 ∧ 1 ≤ evK C B ∧ evK C B ≤ C.length ∧ B ≤ evK C B * C.getD 0 0 ∧ (evK C B - 1) * C.getD 0 0 < B := by
  obtain ⟨h1, h2, h3, h4, h5⟩ := h
  have he' := he
  unfold evB at he
  simp only [Bool.and_eq_true, List.all_eq_true, beq_iff_eq, Bool.not_eq_true', beq_eq_false_iff_ne] at he
  obtain ⟨e1, e2⟩ := he
  have hc := h2 _ (getD_memL (d := (0 : Int)) (show 0 < C.length by omega))
  have hs := sum_all e1
  have hB := h5 e2
  have ek : evK C B = (B - 1) / C.getD 0 0 + 1 := by
    unfold evK; rw [if_pos he', Int.tdiv_eq_ediv_of_nonneg (by omega)]
  generalize C.getD 0 0 = c at *
  have hq := Int.mul_ediv_add_emod (B - 1) c
  have hr0 := Int.emod_nonneg (B - 1) (show c ≠ 0 by omega)
  have hr1 := Int.emod_lt_of_pos (B - 1) (show 0 < c by omega)
  have hq0 : 0 ≤ (B - 1) / c := Int.ediv_nonneg (by omega) (by omega)
  have hqn : (B - 1) / c < C.length := by
    refine Int.ediv_lt_of_lt_mul (by omega) ?_
    omega
  rw [ek]
  have m1 : ((B - 1) / c + 1) * c = c * ((B - 1) / c) + c := by rw [Int.add_mul, Int.mul_comm]; omega
  have m2 : ((B - 1) / c + 1 - 1) * c = c * ((B - 1) / c) := by rw [Int.add_sub_cancel, Int.mul_comm]
  rw [m1, m2]
  refine ⟨e2, hc.1, hc.2, by omega, by omega, by omega, by omega⟩
def grdL (g : Int) (l : List Int) : List Int := if g ≠ 0 then [-g] ++ l else l
def grd (g : Int) (c : List (List Int)) : List (List Int) := c.map (grdL g)
theorem grd_next {g : Int} {c : List (List Int)} {i : Nat} (h : i < c.length) : grd g (c.take i) ++ [grdL g (c.getD i [])] = grd g (c.take (i + 1)) := by
  unfold grd; rw [take_sD (d := []) h, List.map_append]; rfl
theorem grd_len (g : Int) (c : List (List Int)) : (grd g c).length = c.length := by unfold grd; rw [List.length_map]
theorem ev_no {C : List Int} {B : Int} {i : Nat} (hi : i < C.length) (h : C.getD i 0 ≠ C.getD 0 0) : evK C B = 0 ∧ evB C = false := by
  have e : evB C = false := by
    unfold evB
    rw [Bool.and_eq_false_iff]
    exact .inl (List.all_eq_false.2 ⟨_, getD_memL (d := (0 : Int)) hi, by simpa using h⟩)
  exact ⟨by unfold evK; rw [e]; rfl, e⟩
theorem ev_nil {C : List Int} {B : Int} (h : (C.length : Int) = 0) : evK C B = 0 ∧ evB C = false := by
  have e : evB C = false := by
    unfold evB
    rw [Bool.and_eq_false_iff]
    exact .inr (by simp; cases C with | nil => rfl | cons x l => simp at h; omega)
  exact ⟨by unfold evK; rw [e]; rfl, e⟩
theorem ev_yes {C : List Int} {B : Int} {i : Nat} (hi : i = C.length) (h : ∀ j, j < i → C.getD j 0 = C.getD 0 0) (h0 : ¬ (C.length : Int) = 0) : evK C B = (B - 1).tdiv (C.getD 0 0) + 1 ∧ evB C = true := by
  have e : evB C = true := by
    unfold evB
    rw [Bool.and_eq_true]
    refine ⟨List.all_eq_true.2 fun x hx => ?_, by simpa using h0⟩
    obtain ⟨j, hj, rfl⟩ := List.getElem_of_mem hx
    have := h j (by omega)
    rw [List.getD_eq_getElem?_getD, List.getElem?_eq_getElem hj] at this
    simpa using this
  exact ⟨by unfold evK; rw [e]; rfl, e⟩
theorem nc_bd {C : List Int} {B : Int} (h : NormC C B) : 0 ≤ B ∧ B ≤ 4503599627370496 := ⟨h.2.2.1, h.2.2.2.1⟩
theorem nc_0 {C : List Int} {B : Int} (h : NormC C B) (h0 : ¬ (C.length : Int) = 0) : 1 ≤ C.getD 0 0 ∧ 1 ≤ B ∧ 0 ≤ (B - 1).tdiv (C.getD 0 0) ∧ (B - 1).tdiv (C.getD 0 0) ≤ 4503599627370496 := by
  have hc := h.2.1 _ (getD_memL (d := (0 : Int)) (show 0 < C.length by omega))
  have hB := (h.2.2.2.2 (by omega)).1
  have hb := nc_bd h
  refine ⟨hc.1, hB, ?_⟩
  rw [Int.tdiv_eq_ediv_of_nonneg (by omega)]
  exact ⟨Int.ediv_nonneg (by omega) (by omega), Int.le_trans (Int.ediv_le_self _ (by omega)) (by omega)⟩
theorem nk_bd {C : List Int} {B : Int} (h : NormC C B) (he : evB C = true) : 0 ≤ (C.length : Int) * evK C B ∧ (C.length : Int) * evK C B ≤ 16777216 := by
  obtain ⟨f1, f2, f3, f4, f5, f6, f7⟩ := ev_fact h he
  have h1 := h.1
  exact ⟨Int.mul_nonneg (by omega) (by omega), Int.le_trans (Int.mul_le_mul (show (C.length : Int) ≤ 4096 by omega) (show evK C B ≤ 4096 by omega) (by omega) (by omega)) (by omega)⟩
section
variable {C : List Int} {B : Int}
theorem wy_5 (h : (((C.length : Int) == 0) && (B == 0)) = true) : wayP C B = 5 := by
  simp only [Bool.and_eq_true, beq_iff_eq] at h
  unfold wayP; rw [if_pos (by omega), if_pos h.2]
theorem wy_6 (h5 : (((C.length : Int) == 0) && (B == 0)) = false) (h : (C.length : Int) = 0) : wayP C B = 6 := by
  simp only [Bool.and_eq_false_iff, beq_eq_false_iff_ne] at h5
  unfold wayP; rw [if_pos (by omega), if_neg (by omega)]
theorem wy_1 (h6 : ¬ (C.length : Int) = 0) (h : (evB C && (C.getD 0 0 == B)) = true) : wayP C B = 1 := by
  simp only [Bool.and_eq_true, beq_iff_eq] at h
  unfold wayP; rw [if_neg (by omega), if_pos h]
theorem wy_2 (h6 : ¬ (C.length : Int) = 0) (h1 : (evB C && (C.getD 0 0 == B)) = false) (h : (evB C && decide ((C.length : Int) ≤ 10)) = true) : wayP C B = 2 := by
  simp only [Bool.and_eq_true, decide_eq_true_eq] at h
  have h1' : ¬ (evB C = true ∧ C.getD 0 0 = B) := fun q => by rw [q.1, q.2] at h1; simp at h1
  unfold wayP; rw [if_neg (by omega), if_neg h1', if_pos ⟨h.1, by omega⟩]
theorem wy_3 (h6 : ¬ (C.length : Int) = 0) (h1 : (evB C && (C.getD 0 0 == B)) = false) (h2 : (evB C && decide ((C.length : Int) ≤ 10)) = false) (h : (evB C && decide ((C.length : Int) * evK C B ≤ 400)) = true) : wayP C B = 3 := by
  simp only [Bool.and_eq_true, decide_eq_true_eq] at h
  have h1' : ¬ (evB C = true ∧ C.getD 0 0 = B) := fun q => by rw [q.1, q.2] at h1; simp at h1
  have h2' : ¬ (evB C = true ∧ C.length ≤ 10) := fun q => by rw [q.1] at h2; simp at h2; omega
  unfold wayP; rw [if_neg (by omega), if_neg h1', if_neg h2', if_pos h]
theorem wy_4 (h6 : ¬ (C.length : Int) = 0) (h1 : (evB C && (C.getD 0 0 == B)) = false) (h2 : (evB C && decide ((C.length : Int) ≤ 10)) = false) (h : (evB C && decide ((C.length : Int) * evK C B ≤ 400)) = false) : wayP C B = 4 := by
  have h1' : ¬ (evB C = true ∧ C.getD 0 0 = B) := fun q => by rw [q.1, q.2] at h1; simp at h1
  have h2' : ¬ (evB C = true ∧ C.length ≤ 10) := fun q => by rw [q.1] at h2; simp at h2; omega
  have h3' : ¬ (evB C = true ∧ (C.length : Int) * evK C B ≤ 400) := fun q => by rw [q.1] at h; simp at h; omega
  unfold wayP; rw [if_neg (by omega), if_neg h1', if_neg h2', if_neg h3']
end
theorem gn_1 {g : Int} {c : List (List Int)} {i : Nat} (hi : i < c.length) (h : g ≠ 0) : grd g (c.take i) ++ [([] ++ [-g]) ++ c.getD i []] = grd g (c.take (i + 1)) := by
  rw [← grd_next hi]; unfold grdL; rw [if_pos h]; rfl
theorem gn_0 {g : Int} {c : List (List Int)} {i : Nat} (hi : i < c.length) (h : g = 0) : grd g (c.take i) ++ [[] ++ c.getD i []] = grd g (c.take (i + 1)) := by
  rw [← grd_next hi]; unfold grdL; rw [if_neg (by simpa using h)]; rfl
theorem grd_tk (g : Int) (c : List (List Int)) (i : Nat) : (grd g (c.take i)).length ≤ i := by rw [grd_len, List.length_take]; omega
theorem tr_ok {k next : Int} {l : List Int} (hk1 : 1 ≤ k) (hk2 : k ≤ l.length) (h : (totR k l next).2.2.2 = 0) : totB k l next false [] = false ∧ totR k l next = (totO k l next false [], totC k l next false [], totN k l next false [], 0) := by
  unfold totR at h ⊢
  split at h
  · cases h
  · rename_i h1
    split at h
    · cases h
    · rename_i h2
      split at h
      · rename_i h3; omega
      · rename_i h3
        split at h
        · cases h
        · rename_i h4
          rw [if_neg h1, if_neg h2, if_neg h3, if_neg h4]
          exact ⟨by simpa using h4, rfl⟩
theorem tot_olen {k next : Int} {l : List Int} (hk1 : 1 ≤ k) (hk2 : k ≤ l.length) (h : totB k l next false [] = false) : ((totO k l next false []).length : Int) = k := by
  by_cases hl : l.length = 1
  · have e := (to_one (most := k) (nx := next) (c := []) (l := l) (fl := false) (by omega) (by rw [hl]; rfl)).1
    rw [e]; omega
  · have hh : (((l.length : Int) == 1) || false) = false := by
      rw [Bool.or_false, beq_eq_false_iff_ne]; omega
    cases hf : (B2 k l next false [] || decide (N2 k l next false [] + min (l.length : Int) k > 65537)) with
    | true => rw [(to_full (by omega) hh hf).2.2.1] at h; cases h
    | false =>
      rw [(to_ok (by omega) hh hf).1, outs_len]
      show ((min (l.length : Int) k).toNat : Int) = k
      omega
end Go.Proofs.YtkkapbnopmmmjaaGreatDoor.Cn
namespace Go.Proofs.YtkkapbnopmmmjaaGreatDoor
def okLit (ls : List Int) (x : Int) : Bool := !(wrongL 65536 x) && !(ls.any (· == x)) && !(ls.any (· == -x))
def Good (ls : List Int) (n : Nat) : Prop := ∀ i, i < n → okLit (ls.take i) (ls.getD i 0) = true
end Go.Proofs.YtkkapbnopmmmjaaGreatDoor
namespace Go.Proofs.YtkkapbnopmmmjaaGreatDoor
theorem norm_facts {l : LinV} (h : lcheck l 65536 = 0) : (normP l).C.length = (normP l).L.length ∧ (∀ y ∈ (normP l).L, y ≠ 0 ∧ -65536 ≤ y ∧ y ≤ 65536) ∧ (∀ c ∈ (normP l).C, 0 < c) ∧ sumF1 ((normP l).C.zip (normP l).L) ≤ 4503599627370496 := by
  have hx := (lcheck_ok h).2.2.2.2.2.1
  have hs := terms_bd h (varsZ l.L).length
  rw [List.take_length] at hs
  rw [normP, if_pos h, normW]
  split
  · exact ⟨rfl, fun y hy => (by cases hy), fun c hc => (by cases hc), by decide⟩
  · split
    · exact ⟨rfl, fun y hy => (by cases hy), fun c hc => (by cases hc), by decide⟩
    · rename_i hb _
      refine ⟨by simp, fun y hy => ?_, fun c hc => ?_, ?_⟩
      · obtain ⟨q, hq, rfl⟩ := List.mem_map.1 hy
        obtain ⟨v, hv, e⟩ := terms_var hq
        have := vars_le hx v hv
        rcases e with e | e <;> rw [e] <;> omega
      · obtain ⟨q, hq, rfl⟩ := List.mem_map.1 hc
        have := terms_pos l _ q hq
        simp only at *
        omega
      · rw [zip_map2]
        refine Int.le_trans ?_ hs.2
        generalize l.B - minsP l (varsZ l.L) = b
        generalize termsP l (varsZ l.L) = ts
        induction ts with
        | nil => simp [sumF1]
        | cons q t ih => simp only [List.map_cons, sumF1]; omega
end Go.Proofs.YtkkapbnopmmmjaaGreatDoor
namespace Go.Proofs.YtkkapbnopmmmjaaGreatDoor
def IncA (l : List Int) : Prop := Inc (l.map fun x => (x.natAbs : Int))
structure Canon (x : LinV) : Prop where
  len : x.C.length = x.L.length
  co : ∀ c ∈ x.C, 1 ≤ c ∧ c ≤ x.B
  inc : IncA x.L
  nil : x.C = [] → x.B = 0 ∨ x.B = 1
  full : x.C ≠ [] → 1 ≤ x.B ∧ x.B ≤ sumF1 (x.C.zip x.L)
theorem incA_terms (l : LinV) : ∀ vs : List Int, Inc vs → (∀ v ∈ vs, 0 < v) → IncA ((termsP l vs).map (·.2))
  | [], _, _ => by simp [termsP, IncA, Inc]
  | v :: t, hi, hp => by
    have ih := incA_terms l t hi.2 (fun u hu => hp u (by simp [hu]))
    have hv := hp v (by simp)
    have e : termsP l (v :: t) = termV (cf l v) (cf l (-v)) v ++ termsP l t := by simp [termsP]
    have hgt : ∀ y ∈ ((termsP l t).map (·.2)).map (fun x => (x.natAbs : Int)), v < y := fun y hy => by
      simp only [List.map_map, List.mem_map] at hy
      obtain ⟨q, hq, rfl⟩ := hy
      obtain ⟨u, hu, h⟩ := terms_var hq
      have h1 := hi.1 u hu
      simp only [Function.comp_apply]
      rcases h with h | h <;> rw [h] <;> omega
    rw [e]
    unfold termV IncA at *
    split
    · simp only [List.cons_append, List.nil_append, List.map_cons, Inc]
      refine ⟨fun y hy => ?_, ih⟩
      have := hgt y hy
      omega
    · split
      · simp only [List.cons_append, List.nil_append, List.map_cons, Inc]
        refine ⟨fun y hy => ?_, ih⟩
        have := hgt y hy
        omega
      · simpa using ih
theorem sumF1_min (B : Int) (hB : 0 ≤ B) : ∀ ts : List (Int × Int), (∀ q ∈ ts, 0 < q.1) → B ≤ sumF1 ts → B ≤ sumF1 (ts.map fun q => (min q.1 B, q.2))
  | [], _, h => by simpa [sumF1] using h
  | q :: t, hp, h => by
    have hq := hp q (by simp)
    simp only [sumF1, List.map_cons] at h ⊢
    have hnn : 0 ≤ sumF1 (t.map fun q => (min q.1 B, q.2)) := by
      have : ∀ s : List (Int × Int), (∀ q ∈ s, 0 < q.1) → 0 ≤ sumF1 (s.map fun q => (min q.1 B, q.2)) := fun s => by
        induction s with
        | nil => intro _; simp [sumF1]
        | cons u s ih => intro hs; have := ih (fun q hq => hs q (by simp [hq])); have := hs u (by simp); simp only [List.map_cons, sumF1]; omega
      exact this t (fun u hu => hp u (by simp [hu]))
    rcases Int.le_total B q.1 with h1 | h1
    · omega
    · have hle : sumF1 t - B ≤ sumF1 (t.map fun q => (min q.1 B, q.2)) - B ∨ B ≤ sumF1 (t.map fun q => (min q.1 B, q.2)) ∨ sumF1 (t.map fun q => (min q.1 B, q.2)) = sumF1 t := by
        have : ∀ s : List (Int × Int), (∀ q ∈ s, 0 < q.1) → B ≤ sumF1 (s.map fun q => (min q.1 B, q.2)) ∨ sumF1 (s.map fun q => (min q.1 B, q.2)) = sumF1 s := fun s => by
          induction s with
          | nil => intro _; right; rfl
          | cons u s ih =>
            intro hs
            have h0 := hs u (by simp)
            have hs' : ∀ q ∈ s, 0 < q.1 := fun q hq => hs q (by simp [hq])
            have hn : 0 ≤ sumF1 (s.map fun q => (min q.1 B, q.2)) := by
              clear ih
              induction s with
              | nil => simp [sumF1]
              | cons u s ih => have := ih (fun q hq => hs q (by simp at hq ⊢; rcases hq with h | h; exact .inl h; exact .inr (.inr h))) (fun q hq => hs' q (by simp [hq])); have := hs' u (by simp); simp only [List.map_cons, sumF1]; omega
            simp only [List.map_cons, sumF1]
            rcases ih hs' with h | h
            · left; omega
            · rcases Int.le_total B u.1 with h2 | h2
              · left; omega
              · right; omega
        rcases this t (fun u hu => hp u (by simp [hu])) with h | h
        · exact .inr (.inl h)
        · exact .inr (.inr h)
      omega
theorem canon0 : Canon lin0 := ⟨rfl, by simp [lin0], by simp [lin0, IncA, Inc], fun _ => .inl rfl, fun h => absurd rfl h⟩
theorem canon1 : Canon ⟨[], [], 1⟩ := ⟨rfl, by simp, by simp [IncA, Inc], fun _ => .inr rfl, fun h => absurd rfl h⟩
theorem normW_canon {l : LinV} (hz : ∀ x ∈ l.L, x ≠ 0) : Canon (normW l) := by
  have hi := incA_terms l _ (inc_varsZ l.L) (vars_pos hz)
  have hp := terms_pos l (varsZ l.L)
  unfold normW
  generalize minsP l (varsZ l.L) = m at *
  generalize termsP l (varsZ l.L) = ts at *
  split
  · exact canon0
  · split
    · exact canon1
    · refine ⟨by simp, fun c hc => ?_, hi, fun h => ?_, fun _ => ?_⟩
      · simp only [List.mem_map] at hc
        obtain ⟨q, hq, rfl⟩ := hc
        have := hp q hq
        simp only
        omega
      · simp only [List.map_eq_nil_iff] at h
        subst h
        simp only [sumF1] at *
        omega
      · simp only
        rw [zip_map2]
        exact ⟨by omega, sumF1_min _ (by omega) ts hp (by omega)⟩
theorem norm_canon (l : LinV) : Canon (normP l) := by
  unfold normP
  split
  · rename_i h
    exact normW_canon fun x hx => ((lcheck_ok h).2.2.2.2.2.1 x hx).1
  · exact canon0
theorem lcheck_up {l : LinV} {n m : Int} (h : lcheck l n = 0) (hm : n ≤ m) (hm2 : m ≤ 65536) : lcheck l m = 0 := by
  obtain ⟨h1, h2, h3, h4, h5, h6, h7⟩ := lcheck_ok h
  exact lcheck_mk (by omega) hm2 h3 h4 h5 (fun x hx => by have := h6 x hx; omega) h7
end Go.Proofs.YtkkapbnopmmmjaaGreatDoor
namespace Go.Proofs.YtkkapbnopmmmjaaGreatDoor.Cn
open Go
def sumQ (C L : List Int) (next : Int) : List Int × List (List Int) × Int × Int := match sumP C L next with | .err e => ([], [], 0, e) | .ok b c a => (b, c, a, 0)
def leastQ (l : List Int) (k : Int) : List (List Int) × Int := match leastP l k with | .err e => ([], e) | .ok c => (c, 0)
theorem sumQ_len (C L : List Int) (n : Int) : (sumQ C L n).1.length ≤ 70000 ∧ (sumQ C L n).2.1.length ≤ 7000000 ∧ ∀ c ∈ (sumQ C L n).2.1, c.length ≤ 100 := by
  unfold sumQ
  cases h : sumP C L n with
  | err e => exact ⟨Nat.zero_le _, Nat.zero_le _, fun c hc => by cases hc⟩
  | ok b c a => exact sumP_lens h
theorem leastQ_len (l : List Int) (k : Int) : (leastQ l k).1.length ≤ 64 ∧ ∀ c ∈ (leastQ l k).1, c.length ≤ l.length := by
  unfold leastQ
  cases h : leastP l k with
  | err e => exact ⟨Nat.zero_le _, fun c hc => by cases hc⟩
  | ok c =>
    unfold leastP at h
    split at h
    · cases h
    · split at h
      · cases h
      · injection h with h
        subst h
        refine ⟨leastTo_len _ _ _, fun c hc => ?_⟩
        unfold leastTo at hc
        obtain ⟨t, _, rfl⟩ := List.mem_map.1 hc
        exact clTo_len _ _ _ _
section
variable {C L : List Int} {B g next : Int}
def encT (C L : List Int) (B g next : Int) : List (List Int) × Int × Int :=
  if (totR (evK C B) L next).2.2.2 ≠ 0 then ([], 0, (totR (evK C B) L next).2.2.2)
  else ((totR (evK C B) L next).2.1 ++ grd g [((totR (evK C B) L next).1.take (evK C B).toNat).drop (evK C B - 1).toNat], (totR (evK C B) L next).2.2.1, 0)
theorem et_err (h : (totR (evK C B) L next).2.2.2 ≠ 0) : encT C L B g next = ([], 0, (totR (evK C B) L next).2.2.2) := by unfold encT; rw [if_pos h]
theorem et_ok (h : (totR (evK C B) L next).2.2.2 = 0) : encT C L B g next = ((totR (evK C B) L next).2.1 ++ grd g [((totR (evK C B) L next).1.take (evK C B).toNat).drop (evK C B - 1).toNat], (totR (evK C B) L next).2.2.1, 0) := by
  unfold encT; rw [if_neg (by omega)]
def encN (C L : List Int) (B g next : Int) : List (List Int) × Int × Int :=
  if (leastR L (evK C B) next).2.2 ≠ 0 then ([], 0, (leastR L (evK C B) next).2.2) else (grd g (leastR L (evK C B) next).1, (leastR L (evK C B) next).2.1, 0)
theorem en_err (h : (leastR L (evK C B) next).2.2 ≠ 0) : encN C L B g next = ([], 0, (leastR L (evK C B) next).2.2) := by unfold encN; rw [if_pos h]
theorem en_ok (h : (leastR L (evK C B) next).2.2 = 0) : encN C L B g next = (grd g (leastR L (evK C B) next).1, (leastR L (evK C B) next).2.1, 0) := by unfold encN; rw [if_neg (by omega)]
def encA (C L : List Int) (B g next : Int) : List (List Int) × Int × Int :=
  if (sumQ C L next).2.2.2 ≠ 0 then ([], 0, (sumQ C L next).2.2.2)
  else if (leastQ (sumQ C L next).1 B).2 ≠ 0 then ([], 0, (leastQ (sumQ C L next).1 B).2)
  else ((sumQ C L next).2.1 ++ grd g (leastQ (sumQ C L next).1 B).1, (sumQ C L next).2.2.1, 0)
theorem ea_err (h : (sumQ C L next).2.2.2 ≠ 0) : encA C L B g next = ([], 0, (sumQ C L next).2.2.2) := by unfold encA; rw [if_pos h]
theorem ea_err2 (h : (sumQ C L next).2.2.2 = 0) (h2 : (leastQ (sumQ C L next).1 B).2 ≠ 0) : encA C L B g next = ([], 0, (leastQ (sumQ C L next).1 B).2) := by unfold encA; rw [if_neg (by omega), if_pos h2]
theorem ea_ok (h : (sumQ C L next).2.2.2 = 0) (h2 : (leastQ (sumQ C L next).1 B).2 = 0) : encA C L B g next = ((sumQ C L next).2.1 ++ grd g (leastQ (sumQ C L next).1 B).1, (sumQ C L next).2.2.1, 0) := by
  unfold encA; rw [if_neg (by omega), if_neg (by omega)]
theorem tr_len {k : Int} (hx : ∀ x ∈ L, -65537 ≤ x ∧ x ≤ 65537) : (totR k L next).2.1.length ≤ 134217728 ∧ (totR k L next).1.length ≤ L.length := by
  cases hb : badT k L next with
  | true => rw [tt_arg hb]; exact ⟨Nat.zero_le _, Nat.zero_le _⟩
  | false =>
    obtain ⟨hg1, g1, g2, g3, g4, g5⟩ := tt_ok hb
    have hg := And.intro hg1 (And.intro g1 (And.intro g2 (And.intro g3 (And.intro g4 g5))))
    cases ha : apartB next L with
    | false => rw [tt_lit hg ha]; exact ⟨Nat.zero_le _, Nat.zero_le _⟩
    | true =>
      by_cases hz : L.length ≠ 0 ∧ k ≠ 0
      · cases hf : totB k L next false [] with
        | true => rw [tt_full hg ha hz hf]; exact ⟨Nat.zero_le _, Nat.zero_le _⟩
        | false =>
          rw [tt_fine hg ha hz hf]
          have h := tot_bd k g3 L.length L (next, false, []) rfl (by omega) g1 g2 hx
          refine ⟨?_, h.1⟩
          have h5 := h.2.2.2.2
          have h6 := Nat.mul_le_mul g5 g5
          show (totT k L (next, false, [])).2.2.2.length ≤ _
          simp only [List.length_nil] at h5
          omega
      · rw [tt_nil hg ha]
        · exact ⟨Nat.zero_le _, Nat.zero_le _⟩
        · rw [nil_iff]; omega
theorem nz_len (l : List Int) : (nz l).length ≤ l.length := List.length_filter_le _ _
theorem regC_el {b m ab am x : Int} {j : Nat} : ∀ c ∈ regC b m ab am x j, c.length ≤ 3 := by
  intro c hc
  unfold regC at hc
  obtain ⟨i, _, hc⟩ := List.mem_flatMap.1 hc
  rw [List.mem_append] at hc
  rcases hc with hc | hc
  · rw [List.mem_singleton.1 hc]; exact nz_len _
  · split at hc
    · rw [List.mem_singleton.1 hc]; exact nz_len _
    · cases hc
theorem cntC_el {k : Int} : ∀ (i : Nat), ∀ c ∈ cntC L k next i, c.length ≤ 3
  | 0, c, hc => by cases hc
  | i + 1, c, hc => by
    rw [cntC, List.mem_append] at hc
    rcases hc with hc | hc
    · exact cntC_el i c hc
    · exact regC_el c hc
theorem lr_len {k : Int} : (leastR L k next).1.length ≤ 40000000 ∧ ∀ c ∈ (leastR L k next).1, c.length ≤ 3 := by
  by_cases h0 : rightE next L = 0
  · by_cases h1 : k ≤ 0
    · rw [lr_0 h0 h1]; exact ⟨Nat.zero_le _, fun c hc => by cases hc⟩
    · by_cases h2 : k > (L.length : Int)
      · rw [lr_n h0 h1 h2]; exact ⟨by show 1 ≤ _; decide, fun c hc => by rw [List.mem_singleton.1 hc]; exact Nat.zero_le _⟩
      · obtain ⟨r1, r2, r3⟩ := right_0 h0
        have hc2 := cntC_len (l := L) (next := next) (show k ≤ 4096 by omega) L.length
        generalize hb : ((decide (next + ((k * (k - 1)).tdiv 2 + k * ((L.length : Int) - k + 1)) - 1 > 65536)) || decide (2 * ((k * (k - 1)).tdiv 2 + k * ((L.length : Int) - k + 1)) - (L.length : Int) + 1 > 65536)) = b
        cases b with
        | true => rw [lr_big h0 h1 h2 hb]; exact ⟨Nat.zero_le _, fun c hc => by cases hc⟩
        | false =>
          rw [lr_ok h0 h1 h2 hb]
          refine ⟨by simp only [List.length_append, List.length_singleton]; omega, fun c hc => ?_⟩
          rw [List.mem_append] at hc
          rcases hc with hc | hc
          · exact cntC_el _ c hc
          · rw [List.mem_singleton.1 hc]; exact Nat.le_trans (nz_len _) (by show 1 ≤ 3; decide)
  · rw [lr_err h0]; exact ⟨Nat.zero_le _, fun c hc => by cases hc⟩
end
def encS (C L : List Int) (B g next : Int) : List (List Int) × Int × Int :=
  if wayP C B = 1 then (grd g [L], next, 0) else if wayP C B = 2 then encT C L B g next else if wayP C B = 3 then encN C L B g next
  else if wayP C B = 4 then encA C L B g next else if wayP C B = 5 then ([], next, 0) else (grd g [[]], next, 0)
theorem way_six (C : List Int) (B : Int) : wayP C B = 1 ∨ wayP C B = 2 ∨ wayP C B = 3 ∨ wayP C B = 4 ∨ wayP C B = 5 ∨ wayP C B = 6 := by
  unfold wayP
  split
  · split <;> simp
  · split
    · simp
    · split
      · simp
      · split <;> simp
section
variable {C L : List Int} {B g next : Int}
theorem es_1 (h : wayP C B = 1) : encS C L B g next = (grd g [L], next, 0) := by unfold encS; rw [if_pos h]
theorem es_2 (h : wayP C B = 2) : encS C L B g next = encT C L B g next := by unfold encS; rw [if_neg (by omega), if_pos h]
theorem es_3 (h : wayP C B = 3) : encS C L B g next = encN C L B g next := by unfold encS; rw [if_neg (by omega), if_neg (by omega), if_pos h]
theorem es_4 (h : wayP C B = 4) : encS C L B g next = encA C L B g next := by unfold encS; rw [if_neg (by omega), if_neg (by omega), if_neg (by omega), if_pos h]
theorem es_5 (h : wayP C B = 5) : encS C L B g next = ([], next, 0) := by unfold encS; rw [if_neg (by omega), if_neg (by omega), if_neg (by omega), if_neg (by omega), if_pos h]
theorem es_6 (h : wayP C B = 6) : encS C L B g next = (grd g [[]], next, 0) := by unfold encS; rw [if_neg (by omega), if_neg (by omega), if_neg (by omega), if_neg (by omega), if_neg (by omega)]
theorem way_ev (h : wayP C B = 2 ∨ wayP C B = 3) : evB C = true := by
  unfold wayP at h
  split at h
  · split at h <;> omega
  · split at h
    · omega
    · split at h
      · rename_i e; exact e.1
      · split at h
        · rename_i e; exact e.1
        · omega
end
theorem norm_nc {C L : List Int} {B n : Int} (h : lcheck ⟨C, L, B⟩ n = 0) : NormC (normP ⟨C, L, B⟩).C (normP ⟨C, L, B⟩).B ∧ (normP ⟨C, L, B⟩).L.length = (normP ⟨C, L, B⟩).C.length ∧ (∀ x ∈ (normP ⟨C, L, B⟩).L, x ≠ 0 ∧ -65536 ≤ x ∧ x ≤ 65536) := by
  obtain ⟨h1, h2, h3⟩ := lcheck_ok h
  obtain ⟨e, hc, hl, hb0, hb1⟩ := norm_small h1 h2 h
  obtain ⟨f1, f2, f3, f4⟩ := norm_facts hc
  have hcan := norm_canon ⟨C, L, B⟩
  refine ⟨⟨Nat.le_trans hl h3.2.2.2.2, fun c hm => ?_, hb0, hb1, fun hn => ?_⟩, f1.symm, f2⟩
  · have := hcan.co c hm
    omega
  · have hf := hcan.full fun e0 => hn (by rw [e0]; rfl)
    refine ⟨hf.1, ?_⟩
    have : ∀ (X Y : List Int), X.length = Y.length → sumF1 (X.zip Y) = X.sum := by
      intro X
      induction X with
      | nil => intro Y _; rfl
      | cons x X ih =>
        intro Y hY
        cases Y with
        | nil => simp at hY
        | cons y Y => simp only [List.zip_cons_cons, sumF1, List.sum_cons, ih Y (by simpa using hY)]
    rw [this _ _ f1] at hf
    exact hf.2
def howR (C L : List Int) (B : Int) : Int × Int := if lcheck ⟨C, L, B⟩ 65536 ≠ 0 then (0, lcheck ⟨C, L, B⟩ 65536) else (wayP (normP ⟨C, L, B⟩).C (normP ⟨C, L, B⟩).B, 0)
def oneR (C L : List Int) (B g next : Int) : List (List Int) × Int × Int :=
  if next < 1 ∨ 65537 < next then ([], 0, 1) else if lcheck ⟨C, L, B⟩ (next - 1) ≠ 0 then ([], 0, lcheck ⟨C, L, B⟩ (next - 1))
  else if next ≤ g ∨ g ≤ -next then ([], 0, 140) else encS (normP ⟨C, L, B⟩).C (normP ⟨C, L, B⟩).L (normP ⟨C, L, B⟩).B g next
def allL : List (List Int × List Int × Int) → Int → List (List Int) → List (List Int) × Int × Int
  | [], n, c => (c, n, 0)
  | x :: t, n, c => if (oneR x.1 x.2.1 x.2.2 0 n).2.2 ≠ 0 then ([], 0, (oneR x.1 x.2.1 x.2.2 0 n).2.2) else allL t (oneR x.1 x.2.1 x.2.2 0 n).2.1 (c ++ (oneR x.1 x.2.1 x.2.2 0 n).1)
def allR (l : List (List Int × List Int × Int)) (next : Int) : List (List Int) × Int × Int := if next < 1 ∨ 65537 < next then ([], 0, 1) else allL l next []
section
variable {C L : List Int} {B g next : Int}
theorem on_arg (h : next < 1 ∨ 65537 < next) : oneR C L B g next = ([], 0, 1) := by unfold oneR; rw [if_pos h]
theorem on_chk (h : ¬ (next < 1 ∨ 65537 < next)) (h2 : lcheck ⟨C, L, B⟩ (next - 1) ≠ 0) : oneR C L B g next = ([], 0, lcheck ⟨C, L, B⟩ (next - 1)) := by unfold oneR; rw [if_neg h, if_pos h2]
theorem on_lit (h : ¬ (next < 1 ∨ 65537 < next)) (h2 : lcheck ⟨C, L, B⟩ (next - 1) = 0) (h3 : next ≤ g ∨ g ≤ -next) : oneR C L B g next = ([], 0, 140) := by unfold oneR; rw [if_neg h, if_neg (by omega), if_pos h3]
theorem on_ok (h : ¬ (next < 1 ∨ 65537 < next)) (h2 : lcheck ⟨C, L, B⟩ (next - 1) = 0) (h3 : ¬ (next ≤ g ∨ g ≤ -next)) : oneR C L B g next = encS (normP ⟨C, L, B⟩).C (normP ⟨C, L, B⟩).L (normP ⟨C, L, B⟩).B g next := by
  unfold oneR; rw [if_neg h, if_neg (by omega), if_neg h3]
end
theorem on_b {next : Int} : (decide (next < 1) || decide (next > 65537)) = true ↔ next < 1 ∨ 65537 < next := by
  simp only [Bool.or_eq_true, decide_eq_true_eq, gt_iff_lt, ge_iff_le]
theorem on_bF {next : Int} (h : (decide (next < 1) || decide (next > 65537)) = false) : ¬ (next < 1 ∨ 65537 < next) := fun q => by rw [on_b.2 q] at h; cases h
theorem on_l {g next : Int} : (decide (g ≥ next) || decide (g ≤ -next)) = true ↔ next ≤ g ∨ g ≤ -next := by
  simp only [Bool.or_eq_true, decide_eq_true_eq, gt_iff_lt, ge_iff_le]
theorem on_lF {g next : Int} (h : (decide (g ≥ next) || decide (g ≤ -next)) = false) : ¬ (next ≤ g ∨ g ≤ -next) := fun q => by rw [on_l.2 q] at h; cases h
theorem tr_aft {k next : Int} {L : List Int} (hx : ∀ x ∈ L, -65537 ≤ x ∧ x ≤ 65537) : 0 ≤ (totR k L next).2.2.1 ∧ (totR k L next).2.2.1 ≤ 65537 ∧ ((totR k L next).2.2.2 = 0 → next ≤ (totR k L next).2.2.1) := by
  cases hb : badT k L next with
  | true => rw [tt_arg hb]; exact ⟨by decide, by decide, fun h => by cases h⟩
  | false =>
    obtain ⟨hg1, g1, g2, g3, g4, g5⟩ := tt_ok hb
    have hg := And.intro hg1 (And.intro g1 (And.intro g2 (And.intro g3 (And.intro g4 g5))))
    cases ha : apartB next L with
    | false => rw [tt_lit hg ha]; exact ⟨by decide, by decide, fun h => by cases h⟩
    | true =>
      by_cases hz : L.length ≠ 0 ∧ k ≠ 0
      · cases hf : totB k L next false [] with
        | true => rw [tt_full hg ha hz hf]; exact ⟨by decide, by decide, fun h => by cases h⟩
        | false =>
          rw [tt_fine hg ha hz hf]
          have h := tot_bd k g3 L.length L (next, false, []) rfl (by omega) g1 g2 hx
          have h3 : next ≤ totN k L next false [] := h.2.2.1
          have h4 : totN k L next false [] ≤ 65537 := h.2.2.2.1
          exact ⟨by show 0 ≤ totN k L next false []; omega, h4, fun _ => h3⟩
      · rw [tt_nil hg ha]
        · exact ⟨by show 0 ≤ next; omega, by show next ≤ _; omega, fun _ => Int.le_refl _⟩
        · rw [nil_iff]; omega
theorem cAb_up {k next : Int} (hk : 0 ≤ k) : ∀ i : Nat, next ≤ (cAb k next i).2.2
  | 0 => Int.le_refl _
  | i + 1 => by
    have ih := cAb_up (next := next) hk i
    simp only [cAb]; omega
theorem lr_aft {k next : Int} {L : List Int} (hf : 0 ≤ next ∧ next ≤ 65537) : 0 ≤ (leastR L k next).2.1 ∧ (leastR L k next).2.1 ≤ 20000000 ∧ ((leastR L k next).2.2 = 0 → next ≤ (leastR L k next).2.1) := by
  by_cases h0 : rightE next L = 0
  · by_cases h1 : k ≤ 0
    · rw [lr_0 h0 h1]; exact ⟨hf.1, by show next ≤ _; omega, fun _ => Int.le_refl _⟩
    · by_cases h2 : k > (L.length : Int)
      · rw [lr_n h0 h1 h2]; exact ⟨hf.1, by show next ≤ _; omega, fun _ => Int.le_refl _⟩
      · obtain ⟨r1, r2, r3⟩ := right_0 h0
        generalize hb : ((decide (next + ((k * (k - 1)).tdiv 2 + k * ((L.length : Int) - k + 1)) - 1 > 65536)) || decide (2 * ((k * (k - 1)).tdiv 2 + k * ((L.length : Int) - k + 1)) - (L.length : Int) + 1 > 65536)) = b
        cases b with
        | true => rw [lr_big h0 h1 h2 hb]; exact ⟨Int.le_refl _, by show (0 : Int) ≤ _; decide, fun h => by cases h⟩
        | false =>
          rw [lr_ok h0 h1 h2 hb]
          have hc := cAb_bd (k := k) (next := next) (by omega) ⟨r1, r2⟩ L.length r3
          have hu := cAb_up (next := next) (k := k) (by omega) L.length
          exact ⟨by show 0 ≤ (cAb k next L.length).2.2; omega, by show (cAb k next L.length).2.2 ≤ _; omega, fun _ => hu⟩
  · rw [lr_err h0]; exact ⟨Int.le_refl _, by show (0 : Int) ≤ _; decide, fun h => absurd h h0⟩
theorem sumQ_aft {C L : List Int} {n : Int} : 0 ≤ (sumQ C L n).2.2.1 ∧ (sumQ C L n).2.2.1 ≤ 65537 ∧ ((sumQ C L n).2.2.2 = 0 → n ≤ (sumQ C L n).2.2.1) := by
  unfold sumQ
  cases h : sumP C L n with
  | err e =>
    refine ⟨Int.le_refl _, by show (0 : Int) ≤ _; decide, fun h0 => ?_⟩
    have h0 : e = 0 := h0
    exfalso
    rw [h0] at h
    unfold sumP at h
    split at h
    · injection h with h; cases h
    · split at h
      · injection h with h; cases h
      · split at h
        · injection h with h; cases h
        · split at h
          · injection h with h; cases h
          · cases h
  | ok b c a =>
    have := sumP_aft h
    exact ⟨by show 0 ≤ a; omega, this.2.2, fun _ => this.2.1⟩
theorem one_bd (C L : List Int) (B g next : Int) : (oneR C L B g next).1.length ≤ 200000000 ∧ (0 ≤ (oneR C L B g next).2.1 ∧ (oneR C L B g next).2.1 ≤ 20000000) ∧ ((oneR C L B g next).2.2 = 0 → 1 ≤ next ∧ next ≤ (oneR C L B g next).2.1) ∧ ((oneR C L B g next).2.2 ≠ 0 → oneR C L B g next = ([], 0, (oneR C L B g next).2.2)) := by
  have er : ∀ (e : Int), e ≠ 0 → (([] : List (List Int)), (0 : Int), e).1.length ≤ 200000000 ∧ (0 ≤ (([] : List (List Int)), (0 : Int), e).2.1 ∧ (([] : List (List Int)), (0 : Int), e).2.1 ≤ 20000000) ∧ ((([] : List (List Int)), (0 : Int), e).2.2 = 0 → 1 ≤ next ∧ next ≤ (([] : List (List Int)), (0 : Int), e).2.1) ∧ ((([] : List (List Int)), (0 : Int), e).2.2 ≠ 0 → (([] : List (List Int)), (0 : Int), e) = ([], 0, (([] : List (List Int)), (0 : Int), e).2.2)) :=
    fun e he => ⟨Nat.zero_le _, ⟨Int.le_refl _, by show (0 : Int) ≤ _; decide⟩, fun h => absurd h he, fun _ => rfl⟩
  by_cases h1 : next < 1 ∨ 65537 < next
  · rw [on_arg h1]; exact er 1 (by decide)
  · by_cases h2 : lcheck ⟨C, L, B⟩ (next - 1) = 0
    · by_cases h3 : next ≤ g ∨ g ≤ -next
      · rw [on_lit h1 h2 h3]; exact er 140 (by decide)
      · rw [on_ok h1 h2 h3]
        obtain ⟨n1, n2, n3⟩ := norm_nc h2
        generalize (normP ⟨C, L, B⟩) = x at n1 n2 n3 ⊢
        have hx : ∀ y ∈ x.L, -65537 ≤ y ∧ y ≤ 65537 := fun y hy => by have := n3 y hy; omega
        rcases way_six x.C x.B with hk | hk | hk | hk | hk | hk
        · rw [es_1 hk]; exact ⟨by show (grd g [x.L]).length ≤ _; rw [grd_len]; show 1 ≤ _; decide, ⟨by show 0 ≤ next; omega, by show next ≤ _; omega⟩, fun _ => ⟨by omega, Int.le_refl _⟩, fun h => absurd rfl h⟩
        · rw [es_2 hk]
          by_cases he : (totR (evK x.C x.B) x.L next).2.2.2 = 0
          · rw [et_ok he]
            have a := tr_len (k := evK x.C x.B) (next := next) hx
            have b := tr_aft (k := evK x.C x.B) (next := next) hx
            refine ⟨?_, ⟨b.1, by show (totR (evK x.C x.B) x.L next).2.2.1 ≤ _; omega⟩, fun _ => ⟨by omega, b.2.2 he⟩, fun h => absurd rfl h⟩
            show ((totR (evK x.C x.B) x.L next).2.1 ++ grd g _).length ≤ _
            rw [List.length_append, grd_len]; simp only [List.length_cons, List.length_nil]; omega
          · rw [et_err he]; exact er _ he
        · rw [es_3 hk]
          by_cases he : (leastR x.L (evK x.C x.B) next).2.2 = 0
          · rw [en_ok he]
            have a := lr_len (L := x.L) (next := next) (k := evK x.C x.B)
            have b := lr_aft (k := evK x.C x.B) (next := next) (L := x.L) (by omega)
            refine ⟨?_, ⟨b.1, b.2.1⟩, fun _ => ⟨by omega, b.2.2 he⟩, fun h => absurd rfl h⟩
            show (grd g _).length ≤ _
            rw [grd_len]; omega
          · rw [en_err he]; exact er _ he
        · rw [es_4 hk]
          by_cases he : (sumQ x.C x.L next).2.2.2 = 0
          · by_cases he2 : (leastQ (sumQ x.C x.L next).1 x.B).2 = 0
            · rw [ea_ok he he2]
              have a := sumQ_len x.C x.L next
              have b := sumQ_aft (C := x.C) (L := x.L) (n := next)
              have c := leastQ_len (sumQ x.C x.L next).1 x.B
              refine ⟨?_, ⟨b.1, by show (sumQ x.C x.L next).2.2.1 ≤ _; omega⟩, fun _ => ⟨by omega, b.2.2 he⟩, fun h => absurd rfl h⟩
              show ((sumQ x.C x.L next).2.1 ++ grd g _).length ≤ _
              rw [List.length_append, grd_len]; omega
            · rw [ea_err2 he he2]; exact er _ he2
          · rw [ea_err he]; exact er _ he
        · rw [es_5 hk]; exact ⟨Nat.zero_le _, ⟨by show 0 ≤ next; omega, by show next ≤ _; omega⟩, fun _ => ⟨by omega, Int.le_refl _⟩, fun h => absurd rfl h⟩
        · rw [es_6 hk]; exact ⟨by show (grd g [[]]).length ≤ _; rw [grd_len]; show 1 ≤ _; decide, ⟨by show 0 ≤ next; omega, by show next ≤ _; omega⟩, fun _ => ⟨by omega, Int.le_refl _⟩, fun h => absurd rfl h⟩
    · rw [on_chk h1 h2]; exact er _ h2
def allSt (l : List (List Int × List Int × Int)) (next : Int) : Nat → List (List Int) × Int
  | 0 => ([], next)
  | i + 1 => ((allSt l next i).1 ++ (oneR (l.getD i ([], [], 0)).1 (l.getD i ([], [], 0)).2.1 (l.getD i ([], [], 0)).2.2 0 (allSt l next i).2).1, (oneR (l.getD i ([], [], 0)).1 (l.getD i ([], [], 0)).2.1 (l.getD i ([], [], 0)).2.2 0 (allSt l next i).2).2.1)
def allE (l : List (List Int × List Int × Int)) (next : Int) (i : Nat) : Int := (oneR (l.getD i ([], [], 0)).1 (l.getD i ([], [], 0)).2.1 (l.getD i ([], [], 0)).2.2 0 (allSt l next i).2).2.2
theorem drop_getD {α : Type} {d : α} {l : List α} {i : Nat} (h : i < l.length) : l.drop i = l.getD i d :: l.drop (i + 1) := by
  rw [List.drop_eq_getElem_cons h, List.getD_eq_getElem?_getD, List.getElem?_eq_getElem h]; rfl
section
variable {l : List (List Int × List Int × Int)} {next : Int} {i : Nat}
theorem al_0 (h : ¬ (next < 1 ∨ 65537 < next)) : allR l next = allL (l.drop 0) (allSt l next 0).2 (allSt l next 0).1 := if_neg h
theorem al_err (hi : i < l.length) (hI : allR l next = allL (l.drop i) (allSt l next i).2 (allSt l next i).1) (h : allE l next i ≠ 0) : allR l next = ([], 0, allE l next i) := by
  rw [hI, drop_getD hi, allL]; exact if_pos h
theorem al_step (hi : i < l.length) (hI : allR l next = allL (l.drop i) (allSt l next i).2 (allSt l next i).1) (h : allE l next i = 0) : allR l next = allL (l.drop (i + 1)) (allSt l next (i + 1)).2 (allSt l next (i + 1)).1 := by
  rw [hI, drop_getD hi, allL]; exact if_neg (by unfold allE at h; omega)
theorem al_end (hi : i = l.length) (hI : allR l next = allL (l.drop i) (allSt l next i).2 (allSt l next i).1) : allR l next = ((allSt l next i).1, (allSt l next i).2, 0) := by
  rw [hI, hi, List.drop_length]; rfl
theorem allSt_bd (hn : -9223372036854775808 ≤ next ∧ next ≤ 9223372036854775807) : ∀ i, (allSt l next i).1.length ≤ 200000000 * i ∧ (-9223372036854775808 ≤ (allSt l next i).2 ∧ (allSt l next i).2 ≤ 9223372036854775807)
  | 0 => ⟨Nat.zero_le _, hn⟩
  | i + 1 => by
    have ih := (allSt_bd hn i).1
    have hb := one_bd (l.getD i ([], [], 0)).1 (l.getD i ([], [], 0)).2.1 (l.getD i ([], [], 0)).2.2 0 (allSt l next i).2
    refine ⟨?_, ?_⟩
    · show ((allSt l next i).1 ++ _).length ≤ _
      rw [List.length_append]; omega
    · have h2 := hb.2.1
      show _ ≤ (oneR _ _ _ 0 (allSt l next i).2).2.1 ∧ (oneR _ _ _ 0 (allSt l next i).2).2.1 ≤ _
      omega
end
end Go.Proofs.YtkkapbnopmmmjaaGreatDoor.Cn
namespace Go.Proofs.YtkkapbnopmmmjaaGreatDoor.Cn
open Go
section
variable {α : Type} [DecidableEq α] {a b : List α} {d : α}
theorem eqL_len (h : ¬ (a.length : Int) = b.length) : decide (a = b) = false := decide_eq_false fun e => h (by rw [e])
theorem eqL_no {i : Nat} (h : a.getD i d ≠ b.getD i d) : decide (a = b) = false := decide_eq_false fun e => h (by rw [e])
theorem eqL_yes {i : Nat} (hl : a.length = b.length) (hi : i = a.length) (h : ∀ j, j < i → a.getD j d = b.getD j d) : decide (a = b) = true := decide_eq_true (by
  apply List.ext_getElem hl
  intro j h1 h2
  have := h j (by omega)
  rw [List.getD_eq_getElem?_getD, List.getD_eq_getElem?_getD, List.getElem?_eq_getElem h1, List.getElem?_eq_getElem h2] at this
  exact this)
theorem dcT (h : (!decide (a = b)) = true) : a ≠ b := by simpa using h
theorem dcF (h : (!decide (a = b)) = false) : a = b := by simpa using h
end
theorem has_yes {l : List Int} {n : Int} {i : Nat} (hi : i < l.length) (h : l.getD i 0 = n) : l.contains n = true := by
  rw [List.contains_iff_mem, ← h]; exact getD_memL hi
theorem has_no {l : List Int} {n : Int} {i : Nat} (hi : i = l.length) (h : ∀ j, j < i → l.getD j 0 ≠ n) : l.contains n = false := by
  rw [Bool.eq_false_iff]
  intro hc
  rw [List.contains_iff_mem] at hc
  obtain ⟨j, hj, e⟩ := List.getElem_of_mem hc
  refine h j (by omega) ?_
  rw [List.getD_eq_getElem?_getD, List.getElem?_eq_getElem hj]; exact e
theorem lv18_1 : howR [1, 1] [1, 2] 1 = (1, 0) := by decide +kernel
theorem lv18_2 : howR [1, 1] [1, 2] 2 = (2, 0) := by decide +kernel
theorem lv18_3 : howR [2, 3, 4] [1, 2, 3] 5 = (4, 0) := by decide +kernel
theorem lv18_4 : oneR [1, 1] [1, 2] 1 9 10 = ([[-9, 1, 2]], 10, 0) := by decide +kernel
theorem lv18_5 : oneR [] [] 1 (-4) 10 = ([[4]], 10, 0) := by decide +kernel
theorem lv18_6 : oneR [1, 1] [1, 2] 1 10 10 = ([], 0, 140) := by decide +kernel
theorem lv18_7 : allR [([], [], 0), ([1, 1], [1, 2], 1)] 3 = ([[1, 2]], 3, 0) := by decide +kernel
end Go.Proofs.YtkkapbnopmmmjaaGreatDoor.Cn
namespace Go.Proofs.YtkkapbnopmmmjaaGreatDoor.Cn
open Go
theorem dn1_el {a b o : List Int} {i k : Nat} : ∀ c ∈ dn1 a b o i k, c.length ≤ 3 := fun c hc => by
  unfold dn1 at hc
  split at hc
  · rw [List.mem_singleton.1 hc]
    have h1 := at_len a i
    have h2 := at_len b k
    have h3 := neg_len (at1 o ((i : Int) + k))
    simp only [List.length_append]; omega
  · cases hc
theorem up1_el {a b o : List Int} {i k : Nat} : ∀ c ∈ up1 a b o i k, c.length ≤ 3 := fun c hc => by
  unfold up1 at hc
  split at hc
  · rw [List.mem_singleton.1 hc]
    have h1 := neg_len (at1 a ((i : Int) - 1))
    have h2 := neg_len (at1 b ((k : Int) - 1))
    have h3 := at_len o ((i : Int) + k - 1)
    simp only [List.length_append]; omega
  · cases hc
theorem cls_el {a b o : List Int} {i : Nat} : ∀ c ∈ clsT a b o i, c.length ≤ 3 := fun c hc => by
  unfold clsT at hc
  obtain ⟨j, _, hc⟩ := List.mem_flatMap.1 hc
  unfold rowT at hc
  obtain ⟨k, _, hc⟩ := List.mem_flatMap.1 hc
  rcases List.mem_append.1 hc with h | h
  · exact up1_el c h
  · exact dn1_el c h
theorem tot_el (most : Int) : ∀ (n : Nat) (l : List Int) (s : TSt), l.length = n → 1 ≤ n → (∀ c ∈ s.2.2, c.length ≤ 3) → ∀ c ∈ (totT most l s).2.2.2, c.length ≤ 3 := fun n => by
  induction n using Nat.strongRecOn with
  | _ n ih =>
    intro l s hl h1 hs
    by_cases hc : (((l.length : Int) == 1) || s.2.1) = true
    · rw [totT_one (by omega) hc]; exact hs
    · rw [totT_two (by omega) hc]
      have hl2 : 2 ≤ l.length := by
        have : ¬ l.length = 1 := fun e => hc (by rw [e]; rfl)
        omega
      have hA := ih (l.take (l.length / 2)).length (by rw [List.length_take]; omega) (l.take (l.length / 2)) s rfl (by rw [List.length_take]; omega) hs
      have hB := ih (l.drop (l.length / 2)).length (by rw [List.length_drop]; omega) (l.drop (l.length / 2)) _ rfl (by rw [List.length_drop]; omega) hA
      unfold totE
      split
      · exact hB
      · intro c hm
        rcases List.mem_append.1 hm with h | h
        · exact hB c h
        · exact cls_el c h
section
variable {C L : List Int} {B g next : Int}
theorem tr_el {k : Int} : ∀ c ∈ (totR k L next).2.1, c.length ≤ 3 := by
  intro c hc
  unfold totR at hc
  split at hc
  · cases hc
  · split at hc
    · cases hc
    · split at hc
      · cases hc
      · rename_i h3
        split at hc
        · cases hc
        · exact tot_el k L.length L (next, false, []) rfl (by omega) (fun c hc => by cases hc) c hc
theorem grd_el {c : List (List Int)} {n : Nat} (h : ∀ x ∈ c, x.length ≤ n) : ∀ x ∈ grd g c, x.length ≤ n + 1 := fun x hx => by
  unfold grd at hx
  obtain ⟨y, hy, rfl⟩ := List.mem_map.1 hx
  have := h y hy
  unfold grdL
  split <;> simp <;> omega
theorem one_el : ∀ c ∈ (oneR C L B g next).1, c.length ≤ 100000 := by
  intro c hc
  by_cases h1 : next < 1 ∨ 65537 < next
  · rw [on_arg h1] at hc; cases hc
  · by_cases h2 : lcheck ⟨C, L, B⟩ (next - 1) = 0
    · by_cases h3 : next ≤ g ∨ g ≤ -next
      · rw [on_lit h1 h2 h3] at hc; cases hc
      · rw [on_ok h1 h2 h3] at hc
        obtain ⟨n1, n2, n3⟩ := norm_nc h2
        generalize (normP ⟨C, L, B⟩) = x at n1 n2 n3 hc
        have hl := n1.1
        rcases way_six x.C x.B with hk | hk | hk | hk | hk | hk
        · rw [es_1 hk] at hc
          have := grd_el (g := g) (c := [x.L]) (n := 4096) (fun y hy => by rw [List.mem_singleton.1 hy]; omega) c hc
          omega
        · rw [es_2 hk] at hc
          by_cases he : (totR (evK x.C x.B) x.L next).2.2.2 = 0
          · rw [et_ok he] at hc
            rcases List.mem_append.1 hc with h | h
            · have := tr_el c h; omega
            · have hx : ∀ y ∈ x.L, -65537 ≤ y ∧ y ≤ 65537 := fun y hy => by have := n3 y hy; omega
              have a := tr_len (k := evK x.C x.B) (next := next) hx
              have := grd_el (g := g) (n := 4096) (fun y hy => by rw [List.mem_singleton.1 hy, List.length_drop, List.length_take]; omega) c h
              omega
          · rw [et_err he] at hc; cases hc
        · rw [es_3 hk] at hc
          by_cases he : (leastR x.L (evK x.C x.B) next).2.2 = 0
          · rw [en_ok he] at hc
            have := grd_el (g := g) lr_len.2 c hc
            omega
          · rw [en_err he] at hc; cases hc
        · rw [es_4 hk] at hc
          by_cases he : (sumQ x.C x.L next).2.2.2 = 0
          · have b := sumQ_len x.C x.L next
            have q := leastQ_len (sumQ x.C x.L next).1 x.B
            by_cases he2 : (leastQ (sumQ x.C x.L next).1 x.B).2 = 0
            · rw [ea_ok he he2] at hc
              rcases List.mem_append.1 hc with h | h
              · have := b.2.2 c h; omega
              · have := grd_el (g := g) q.2 c h
                omega
            · rw [ea_err2 he he2] at hc; cases hc
          · rw [ea_err he] at hc; cases hc
        · rw [es_5 hk] at hc; cases hc
        · rw [es_6 hk] at hc
          have := grd_el (g := g) (c := [[]]) (n := 0) (fun y hy => by rw [List.mem_singleton.1 hy]; exact Nat.le_refl _) c hc
          omega
    · rw [on_chk h1 h2] at hc; cases hc
end
section
variable {l : List (List Int × List Int × Int)} {next : Int}
end
section
variable {l : List (List Int × List Int × Int)} {next : Int} {i : Nat}
end
def few18 (C L : List Int) (B t : Int) : Bool := (decide ((C.length : Int) ≤ t) && (decide ((L.length : Int) ≤ t) && (decide (B ≤ 100) && decide (-100 ≤ B)))) && C.all fun c => decide (c ≤ 20) && decide (-20 ≤ c)
theorem lcheck_up {x : LinV} {n : Int} (h : lcheck x n = 0) : lcheck x 65536 = 0 := by
  obtain ⟨h1, h2, h3, h4, h5, h6, h7⟩ := lcheck_ok h
  exact lcheck_mk (by decide) (by decide) h3 h4 h5 (fun y hy => by have := h6 y hy; omega) h7
section
variable {C L : List Int} {B g next : Int}
theorem one_ok (h : (oneR C L B g next).2.2 = 0) : ¬ (next < 1 ∨ 65537 < next) ∧ lcheck ⟨C, L, B⟩ (next - 1) = 0 ∧ ¬ (next ≤ g ∨ g ≤ -next) := by
  by_cases h1 : next < 1 ∨ 65537 < next
  · rw [on_arg h1] at h; cases h
  · by_cases h2 : lcheck ⟨C, L, B⟩ (next - 1) = 0
    · by_cases h3 : next ≤ g ∨ g ≤ -next
      · rw [on_lit h1 h2 h3] at h; cases h
      · exact ⟨h1, h2, h3⟩
    · rw [on_chk h1 h2] at h; exact absurd h h2
end
section
variable {C : List Int} {B : Int}
theorem fw_no1 {L : List Int} {t : Int} (h : (((decide ((C.length : Int) > t) || decide ((L.length : Int) > t)) || decide (B > 100)) || decide (B < -100)) = true) : few18 C L B t = false := by
  simp only [Bool.or_eq_true, decide_eq_true_eq] at h
  unfold few18
  rw [Bool.and_eq_false_iff]; left
  simp only [Bool.and_eq_false_iff, decide_eq_false_iff_not]; omega
theorem fw_pre {L : List Int} {t : Int} (h : (((decide ((C.length : Int) > t) || decide ((L.length : Int) > t)) || decide (B > 100)) || decide (B < -100)) = false) : (C.length : Int) ≤ t ∧ (L.length : Int) ≤ t ∧ B ≤ 100 ∧ -100 ≤ B := by
  simp only [Bool.or_eq_false_iff, decide_eq_false_iff_not] at h
  omega
theorem fw_no2 {L : List Int} {t : Int} {i : Nat} (hi : i < C.length) (h : (decide (C.getD i 0 > 20) || decide (C.getD i 0 < -20)) = true) : few18 C L B t = false := by
  simp only [Bool.or_eq_true, decide_eq_true_eq] at h
  unfold few18
  rw [Bool.and_eq_false_iff]; right
  refine List.all_eq_false.2 ⟨_, getD_memL (d := (0 : Int)) hi, ?_⟩
  simp only [Bool.and_eq_true, decide_eq_true_eq]; omega
theorem fw_st {i : Nat} (h : (decide (C.getD i 0 > 20) || decide (C.getD i 0 < -20)) = false) : C.getD i 0 ≤ 20 ∧ -20 ≤ C.getD i 0 := by
  simp only [Bool.or_eq_false_iff, decide_eq_false_iff_not] at h
  omega
theorem fw_yes {L : List Int} {t : Int} {i : Nat} (hq : (C.length : Int) ≤ t ∧ (L.length : Int) ≤ t ∧ B ≤ 100 ∧ -100 ≤ B) (hi : i = C.length) (h : ∀ j, j < i → C.getD j 0 ≤ 20 ∧ -20 ≤ C.getD j 0) : few18 C L B t = true := by
  unfold few18
  rw [Bool.and_eq_true]
  refine ⟨by simp only [Bool.and_eq_true, decide_eq_true_eq]; omega, List.all_eq_true.2 fun x hx => ?_⟩
  obtain ⟨j, hj, rfl⟩ := List.getElem_of_mem hx
  have := h j (by omega)
  rw [List.getD_eq_getElem?_getD, List.getElem?_eq_getElem hj] at this
  simp only [Bool.and_eq_true, decide_eq_true_eq]; exact this
end
end Go.Proofs.YtkkapbnopmmmjaaGreatDoor.Cn
namespace Go.Proofs.YtkkapbnopmmmjaaGreatDoor.Cn
open Go
def HV (v : Int → Bool) : Prop := ∀ x : Int, x ≠ 0 → v (-x) = !v x
def cntV (v : Int → Bool) (l : List Int) : Nat := (l.filter v).length
section
variable {v : Int → Bool}
theorem cntV_app (a b : List Int) : cntV v (a ++ b) = cntV v a + cntV v b := by unfold cntV; rw [List.filter_append, List.length_append]
theorem cntV_le (l : List Int) : cntV v l ≤ l.length := List.length_filter_le _ _
theorem cntV_take {l : List Int} {i : Nat} (h : i < l.length) : cntV v (l.take (i + 1)) = cntV v (l.take i) + if v (l.getD i 0) = true then 1 else 0 := by
  rw [take_sD (d := 0) h, cntV_app]
  unfold cntV
  congr 1
  by_cases hv : v (l.getD i 0) = true
  · rw [if_pos hv, List.filter_cons_of_pos hv]; rfl
  · rw [if_neg hv, List.filter_cons_of_neg hv]; rfl
theorem tot_pre (most : Int) : ∀ (n : Nat) (l : List Int) (s : TSt), l.length = n → 1 ≤ n → ∃ r, (totT most l s).2.2.2 = s.2.2 ++ r := fun n => by
  induction n using Nat.strongRecOn with
  | _ n ih =>
    intro l s hl h1
    by_cases hc : (((l.length : Int) == 1) || s.2.1) = true
    · rw [totT_one (by omega) hc]; exact ⟨[], (List.append_nil _).symm⟩
    · rw [totT_two (by omega) hc]
      have hl2 : 2 ≤ l.length := by
        have : ¬ l.length = 1 := fun e => hc (by rw [e]; rfl)
        omega
      obtain ⟨ra, hA⟩ := ih (l.take (l.length / 2)).length (by rw [List.length_take]; omega) (l.take (l.length / 2)) s rfl (by rw [List.length_take]; omega)
      obtain ⟨rb, hB⟩ := ih (l.drop (l.length / 2)).length (by rw [List.length_drop]; omega) (l.drop (l.length / 2)) (totT most (l.take (l.length / 2)) s).2 rfl (by rw [List.length_drop]; omega)
      unfold totE
      split
      · exact ⟨ra ++ rb, by show (totT most (l.drop (l.length / 2)) (totT most (l.take (l.length / 2)) s).2).2.2.2 = _; rw [hB, hA, List.append_assoc]⟩
      · exact ⟨_, by
          show (totT most (l.drop (l.length / 2)) (totT most (l.take (l.length / 2)) s).2).2.2.2 ++ _ = _
          rw [hB, hA, List.append_assoc, List.append_assoc]⟩
theorem tot_nx (most : Int) (hm : 0 ≤ most) : ∀ (n : Nat) (l : List Int) (s : TSt), l.length = n → 1 ≤ n → s.1 ≤ (totT most l s).2.1 := fun n => by
  induction n using Nat.strongRecOn with
  | _ n ih =>
    intro l s hl h1
    by_cases hc : (((l.length : Int) == 1) || s.2.1) = true
    · rw [totT_one (by omega) hc]; exact Int.le_refl _
    · rw [totT_two (by omega) hc]
      have hl2 : 2 ≤ l.length := by
        have : ¬ l.length = 1 := fun e => hc (by rw [e]; rfl)
        omega
      have hA := ih (l.take (l.length / 2)).length (by rw [List.length_take]; omega) (l.take (l.length / 2)) s rfl (by rw [List.length_take]; omega)
      have hB := ih (l.drop (l.length / 2)).length (by rw [List.length_drop]; omega) (l.drop (l.length / 2)) (totT most (l.take (l.length / 2)) s).2 rfl (by rw [List.length_drop]; omega)
      unfold totE
      split
      · show s.1 ≤ (totT most (l.drop (l.length / 2)) (totT most (l.take (l.length / 2)) s).2).2.1; omega
      · show s.1 ≤ (totT most (l.drop (l.length / 2)) (totT most (l.take (l.length / 2)) s).2).2.1 + _; omega
theorem tot_fl (most : Int) : ∀ (n : Nat) (l : List Int) (s : TSt), l.length = n → 1 ≤ n → (totT most l s).2.2.1 = false → s.2.1 = false := fun n => by
  induction n using Nat.strongRecOn with
  | _ n ih =>
    intro l s hl h1 hf
    by_cases hc : (((l.length : Int) == 1) || s.2.1) = true
    · rw [totT_one (by omega) hc] at hf; exact hf
    · rw [Bool.not_eq_true, Bool.or_eq_false_iff] at hc; exact hc.2
theorem totE_fl {most : Int} {l a b : List Int} {s : TSt} (h : (totE most l a b s).2.2.1 = false) : s.2.1 = false ∧ totE most l a b s = (outsT s.1 (min (l.length : Int) most).toNat, (s.1 + min (l.length : Int) most, false, s.2.2 ++ clsT a b (outsT s.1 (min (l.length : Int) most).toNat) (a.length + 1))) := by
  unfold totE at h ⊢
  split at h
  · cases h
  · rename_i hc
    rw [if_neg hc]
    rw [Bool.not_eq_true, Bool.or_eq_false_iff] at hc
    exact ⟨hc.1, rfl⟩
theorem tot_oln {most : Int} (hm : 1 ≤ most) {l : List Int} {s : TSt} (h1 : 1 ≤ l.length) (hf : (totT most l s).2.2.1 = false) : ((totT most l s).1.length : Int) = min (l.length : Int) most := by
  by_cases hc : (((l.length : Int) == 1) || s.2.1) = true
  · rw [totT_one h1 hc] at hf ⊢
    have hf : s.2.1 = false := hf
    rw [hf, Bool.or_false, beq_iff_eq] at hc
    show (l.length : Int) = _; omega
  · rw [totT_two h1 hc] at hf ⊢
    rw [(totE_fl hf).2]
    show ((outsT _ _).length : Int) = _
    rw [outs_len]; omega
theorem at_in {l : List Int} {i : Nat} (h : i < l.length) : at1 l (i : Int) = [l.getD i 0] := by
  unfold at1; rw [if_neg (by omega)]; rfl
theorem at_mem1 {l : List Int} {i : Nat} {x : Int} (h : x ∈ at1 l (i : Int)) : i < l.length ∧ x = l.getD i 0 := by
  by_cases hi : i < l.length
  · rw [at_in hi] at h; exact ⟨hi, List.mem_singleton.1 h⟩
  · rw [at_out (.inr (by omega))] at h; cases h
theorem tot_snd (hv : HV v) (most : Int) (hm : 1 ≤ most) : ∀ (n : Nat) (l : List Int) (s : TSt), l.length = n → 1 ≤ n → 1 ≤ s.1 → (totT most l s).2.2.1 = false → (∀ c ∈ (totT most l s).2.2.2, c.any v = true) →
    ∀ j, j < (totT most l s).1.length → v ((totT most l s).1.getD j 0) = true → j + 1 ≤ cntV v l := fun n => by
  induction n using Nat.strongRecOn with
  | _ n ih =>
    intro l s hl h1 hs hf hcl j hj hvj
    by_cases hc : (((l.length : Int) == 1) || s.2.1) = true
    · rw [totT_one (by omega) hc] at hf hj hvj
      have hf : s.2.1 = false := hf
      rw [hf, Bool.or_false, beq_iff_eq] at hc
      match l, hc with
      | [x], _ =>
        have hj0 : j = 0 := by
          have : j < 1 := hj
          omega
        subst hj0
        have hx : v x = true := hvj
        unfold cntV
        rw [List.filter_cons_of_pos hx]; simp
    · have hl2 : 2 ≤ l.length := by
        have : ¬ l.length = 1 := fun e => hc (by rw [e]; rfl)
        omega
      rw [totT_two (by omega) hc] at hf hj hvj hcl
      obtain ⟨fB, eE⟩ := totE_fl hf
      rw [eE] at hj hvj hcl
      have lA : (l.take (l.length / 2)).length = l.length / 2 := by rw [List.length_take]; omega
      have lB : (l.drop (l.length / 2)).length = l.length - l.length / 2 := List.length_drop
      have nA := tot_nx most (by omega) (l.take (l.length / 2)).length (l.take (l.length / 2)) s rfl (by omega)
      have nB := tot_nx most (by omega) (l.drop (l.length / 2)).length (l.drop (l.length / 2)) (totT most (l.take (l.length / 2)) s).2 rfl (by omega)
      have fA := tot_fl most (l.drop (l.length / 2)).length (l.drop (l.length / 2)) (totT most (l.take (l.length / 2)) s).2 rfl (by omega) fB
      have oA := tot_oln hm (l := l.take (l.length / 2)) (s := s) (by omega) fA
      have oB := tot_oln hm (l := l.drop (l.length / 2)) (s := (totT most (l.take (l.length / 2)) s).2) (by omega) fB
      obtain ⟨rb, pB⟩ := tot_pre most (l.drop (l.length / 2)).length (l.drop (l.length / 2)) (totT most (l.take (l.length / 2)) s).2 rfl (by omega)
      have iA := ih (l.take (l.length / 2)).length (by omega) (l.take (l.length / 2)) s rfl (by omega) hs fA
      have iB := ih (l.drop (l.length / 2)).length (by omega) (l.drop (l.length / 2)) (totT most (l.take (l.length / 2)) s).2 rfl (by omega) (by omega) fB
      generalize totT most (l.drop (l.length / 2)) (totT most (l.take (l.length / 2)) s).2 = RB at *
      generalize totT most (l.take (l.length / 2)) s = RA at *
      have hB2 : ∀ c ∈ RB.2.2.2, c.any v = true := fun c hm => hcl c (List.mem_append_left _ hm)
      have hA2 : ∀ c ∈ RA.2.2.2, c.any v = true := fun c hm => hB2 c (by rw [pB]; exact List.mem_append_left _ hm)
      replace iA := iA hA2
      replace iB := iB hB2
      have hcnt : cntV v l = cntV v (l.take (l.length / 2)) + cntV v (l.drop (l.length / 2)) := by rw [← cntV_app, List.take_append_drop]
      have hjm : j < (min (l.length : Int) most).toNat := by simpa only [outs_len] using hj
      have hvo : v (RB.2.1 + j) = true := by
        have := hvj
        simp only at this
        rwa [outs_get hjm] at this
      apply Decidable.byContradiction
      intro hno
      obtain ⟨i, k, e1, e2, e3, e4, e5⟩ : ∃ i k : Nat, i ≤ RA.1.length ∧ k ≤ RB.1.length ∧ i + k = j ∧ (i < RA.1.length → cntV v (l.take (l.length / 2)) ≤ i) ∧ (k < RB.1.length → cntV v (l.drop (l.length / 2)) ≤ k) := by
        by_cases hq : min (cntV v (l.take (l.length / 2))) RA.1.length ≤ j - RB.1.length
        · exact ⟨j - RB.1.length, j - (j - RB.1.length), by omega, by omega, by omega, by omega, by omega⟩
        · exact ⟨min (cntV v (l.take (l.length / 2))) RA.1.length, j - min (cntV v (l.take (l.length / 2))) RA.1.length, by omega, by omega, by omega, by omega, by omega⟩
      have hmem : at1 RA.1 (i : Int) ++ at1 RB.1 (k : Int) ++ neg1 (at1 (outsT RB.2.1 (min (l.length : Int) most).toNat) ((i : Int) + k)) ∈ clsT RA.1 RB.1 (outsT RB.2.1 (min (l.length : Int) most).toNat) (RA.1.length + 1) := by
        unfold clsT
        refine List.mem_flatMap.2 ⟨i, List.mem_range.2 (by omega), ?_⟩
        unfold rowT
        refine List.mem_flatMap.2 ⟨k, List.mem_range.2 (by omega), List.mem_append_right _ ?_⟩
        rw [dn_yes (by rw [outs_len]; omega)]
        exact List.mem_singleton.2 rfl
      have hh := hcl _ (List.mem_append_right _ hmem)
      rw [List.any_eq_true] at hh
      obtain ⟨x, hx, hvx⟩ := hh
      rcases List.mem_append.1 hx with hx | hx
      · rcases List.mem_append.1 hx with hx | hx
        · obtain ⟨h5, rfl⟩ := at_mem1 hx
          have := iA i h5 hvx
          have := e4 h5
          omega
        · obtain ⟨h5, rfl⟩ := at_mem1 hx
          have := iB k h5 hvx
          have := e5 h5
          omega
      · rw [show ((i : Int) + k) = ((j : Nat) : Int) by omega, at_in (by rw [outs_len]; exact hjm), outs_get hjm] at hx
        have hx : x = -(RB.2.1 + j) := List.mem_singleton.1 hx
        rw [hx, hv _ (by omega), hvo] at hvx
        cases hvx
theorem any_nz {l : List Int} (h : (nz l).any v = true) : ∃ x ∈ l, x ≠ 0 ∧ v x = true := by
  rw [List.any_eq_true] at h
  obtain ⟨x, hx, hvx⟩ := h
  unfold nz at hx
  rw [List.mem_filter] at hx
  exact ⟨x, hx.1, by simpa using hx.2, hvx⟩
theorem reg_nz {b m j : Int} (h : regV b m j ≠ 0) : 1 ≤ j ∧ j ≤ m := by
  unfold regV at h
  split at h
  · exact absurd rfl h
  · omega
theorem cntV_mono {l : List Int} (i : Nat) : cntV v (l.take i) ≤ cntV v (l.take (i + 1)) := by
  by_cases h : i < l.length
  · rw [cntV_take h]; omega
  · rw [List.take_of_length_le (by omega), List.take_of_length_le (by omega)]; exact Nat.le_refl _
theorem cnt_snd (hv : HV v) {l : List Int} {k next : Int} (hk : 0 ≤ k) (hn : 1 ≤ next) : ∀ i : Nat, (∀ c ∈ cntC l k next i, c.any v = true) → ∀ j : Int, 1 ≤ j → j ≤ (cAb k next i).2.1 → v (regV (cAb k next i).1 (cAb k next i).2.1 j) = true → j ≤ cntV v (l.take i)
  | 0, _, j, h1, h2, _ => by
    have : j ≤ 0 := h2
    omega
  | i + 1, hc, j, h1, h2, h3 => by
    have ih := cnt_snd hv hk hn (l := l) i (fun c hm => hc c (by rw [cntC]; exact List.mem_append_left _ hm))
    have hm := cntV_mono (v := v) (l := l) i
    obtain ⟨j0, rfl⟩ : ∃ j0 : Nat, j = (j0 : Int) + 1 := ⟨(j - 1).toNat, by omega⟩
    have hup := cAb_up (next := next) hk i
    have h2' : (j0 : Int) + 1 ≤ min ((i : Int) + 1) k := h2
    have h3' : v (regV (cAb k next i).2.2 (min ((i : Int) + 1) k) ((j0 : Int) + 1)) = true := h3
    have hr : regV (cAb k next i).2.2 (min ((i : Int) + 1) k) ((j0 : Int) + 1) = (cAb k next i).2.2 + ((j0 : Int) + 1) - 1 := by unfold regV; rw [if_neg (by omega)]
    rw [hr] at h3'
    have hneg : ∀ y : Int, y = -((cAb k next i).2.2 + ((j0 : Int) + 1) - 1) → v y = true → False := fun y hy hvy => by
      rw [hy, hv _ (by omega), h3'] at hvy; cases hvy
    have mem1 : nz [-(regV (cAb k next i).2.2 (min ((i : Int) + 1) k) ((j0 : Int) + 1)), regV (cAb k next i).1 (cAb k next i).2.1 ((j0 : Int) + 1), l.getD i 0] ∈ cntC l k next (i + 1) := by
      rw [cntC]
      refine List.mem_append_right _ ?_
      unfold regC
      exact List.mem_flatMap.2 ⟨j0, List.mem_range.2 (by omega), List.mem_append_left _ (List.mem_singleton.2 rfl)⟩
    obtain ⟨x, hx, hx0, hvx⟩ := any_nz (hc _ mem1)
    rw [hr] at hx
    rcases List.mem_cons.1 hx with rfl | hx
    · exact (hneg _ rfl hvx).elim
    · rcases List.mem_cons.1 hx with rfl | hx
      · have := reg_nz hx0
        have := ih _ h1 this.2 hvx
        omega
      · have hxe : x = l.getD i 0 := List.mem_singleton.1 hx
        subst hxe
        have hi : i < l.length := by
          apply Decidable.byContradiction
          intro hno
          apply hx0
          rw [List.getD_eq_getElem?_getD, List.getElem?_eq_none (by omega)]; rfl
        rw [cntV_take hi, if_pos hvx]
        by_cases hj1 : (j0 : Int) + 1 > 1
        · have mem2 : nz [-(regV (cAb k next i).2.2 (min ((i : Int) + 1) k) ((j0 : Int) + 1)), regV (cAb k next i).1 (cAb k next i).2.1 ((j0 : Int) + 1), regV (cAb k next i).1 (cAb k next i).2.1 ((j0 : Int) + 1 - 1)] ∈ cntC l k next (i + 1) := by
            rw [cntC]
            refine List.mem_append_right _ ?_
            unfold regC
            refine List.mem_flatMap.2 ⟨j0, List.mem_range.2 (by omega), List.mem_append_right _ ?_⟩
            rw [if_pos hj1]
            exact List.mem_singleton.2 rfl
          obtain ⟨y, hy, hy0, hvy⟩ := any_nz (hc _ mem2)
          rw [hr] at hy
          rcases List.mem_cons.1 hy with rfl | hy
          · exact (hneg _ rfl hvy).elim
          · rcases List.mem_cons.1 hy with rfl | hy
            · have := reg_nz hy0
              have := ih _ h1 this.2 hvy
              omega
            · have hye := List.mem_singleton.1 hy
              subst hye
              have h9 := reg_nz hy0
              have := ih _ h9.1 h9.2 hvy
              omega
        · omega
theorem grd_any {g : Int} {cs : List (List Int)} (h : ∀ c ∈ grd g cs, c.any v = true) : (g ≠ 0 ∧ v (-g) = true) ∨ ∀ c ∈ cs, c.any v = true := by
  by_cases hg : g ≠ 0 ∧ v (-g) = true
  · exact .inl hg
  · refine .inr fun c hc => ?_
    have := h (grdL g c) (List.mem_map.2 ⟨c, hc, rfl⟩)
    unfold grdL at this
    split at this
    · rename_i h0
      rw [List.any_append, Bool.or_eq_true] at this
      rcases this with h1 | h1
      · simp at h1; exact absurd ⟨h0, h1⟩ hg
      · exact h1
    · exact this
theorem lsum_even {c : Int} : ∀ {C L : List Int}, C.length = L.length → (∀ x ∈ C, x = c) → lsumZ v (C.zip L) = c * cntV v L
  | [], [], _, _ => by simp [lsumZ, cntV]
  | x :: C, y :: L, hl, hc => by
    have ih := lsum_even (C := C) (L := L) (by simpa using hl) fun z hz => hc z (List.mem_cons_of_mem _ hz)
    have hx := hc x List.mem_cons_self
    rw [List.zip_cons_cons, lsumZ, ih, hx]
    unfold cntV
    by_cases hy : v y = true
    · rw [if_pos hy, List.filter_cons_of_pos hy, List.length_cons]
      rw [Int.natCast_add, Int.mul_add]
      simp; omega
    · rw [if_neg hy, List.filter_cons_of_neg hy]; omega
  | [], y :: L, hl, _ => by simp at hl
  | x :: C, [], hl, _ => by simp at hl
theorem ev_mem {C : List Int} (he : evB C = true) : ∀ x ∈ C, x = C.getD 0 0 := fun x hx => by
  unfold evB at he
  rw [Bool.and_eq_true] at he
  simpa using List.all_eq_true.1 he.1 x hx
theorem even_ge {C L : List Int} {B : Int} (hn : NormC C B) (hl : L.length = C.length) (he : evB C = true) (hc : evK C B ≤ cntV v L) : B ≤ lsumZ v (C.zip L) := by
  obtain ⟨f1, f2, f3, f4, f5, f6, f7⟩ := ev_fact hn he
  rw [lsum_even hl.symm (ev_mem he)]
  have := Int.mul_le_mul_of_nonneg_right hc (show 0 ≤ C.getD 0 0 by omega)
  rw [Int.mul_comm (C.getD 0 0)]
  omega
end
theorem litV_T (b : List Bool) (x : Int) : litV b x = litT b x := by
  unfold litV litT mayP
  congr 1
  by_cases h : x ≠ 0 ∧ -65536 ≤ x ∧ x ≤ 65536
  · rw [decide_eq_true h]; simp; omega
  · rw [decide_eq_false h]; simp; omega
theorem lval_HV (b : List Bool) : HV (lval b) := fun x hx => lval_neg hx
theorem litV_lval {b : List Bool} {x : Int} (h : litV b x = true) : lval b x = true := by
  unfold litV at h
  rw [Bool.and_eq_true] at h
  exact h.2
theorem hold_lval {b : List Bool} {c : List Int} (h : holdsV b c = true) : c.any (lval b) = true := by
  unfold holdsV at h
  rw [List.any_eq_true] at h ⊢
  obtain ⟨x, hx, hv⟩ := h
  exact ⟨x, hx, litV_lval hv⟩
theorem hold_T {b : List Bool} {c : List Int} (h : holdsV b c = true) : c.any (litT b) = true := by
  unfold holdsV at h
  rw [List.any_eq_true] at h ⊢
  obtain ⟨x, hx, hv⟩ := h
  exact ⟨x, hx, by rw [← litV_T]; exact hv⟩
theorem getD_take {b : List Bool} {i n : Nat} (h : i < n) : (b.take n).getD i false = b.getD i false := by
  rw [List.getD_eq_getElem?_getD, List.getD_eq_getElem?_getD, List.getElem?_take, if_pos h]
theorem forced_true {cs : List (List Int)} {lit : Int} {n : Nat} {b : List Bool} (hb : n ≤ b.length) (hcs : ∀ c ∈ cs, c.any (litT b) = true) (hf : forcedB cs lit n (b.take n) = true) : litT b lit = true := by
  unfold forcedB at hf
  rw [List.any_eq_true] at hf
  obtain ⟨c, hc, h2⟩ := hf
  rw [Bool.and_eq_true] at h2
  have h3 := hcs c hc
  rw [List.any_eq_true] at h3
  obtain ⟨x, hx, hv⟩ := h3
  have ho := h2.2
  unfold otherB at ho
  have hox := List.all_eq_true.1 ho x hx
  rw [Bool.or_eq_true] at hox
  rcases hox with e | e
  · rw [beq_iff_eq] at e; rw [← e]; exact hv
  · exfalso
    unfold okO at e
    simp only [Bool.and_eq_true, decide_eq_true_eq] at e
    obtain ⟨e1, e2, e3, e4⟩ := e
    have hxn : x.natAbs < n := by omega
    rw [getD_take hxn] at e4
    unfold litT at hv
    rw [Bool.and_eq_true] at hv
    have hv2 := hv.2
    rw [decide_eq_true (show x.natAbs < b.length by omega), Bool.true_and] at hv2
    rw [beq_iff_eq] at hv2
    rw [hv2] at e4
    simp at e4
theorem litT_pos {b : List Bool} {n : Nat} (h1 : 1 ≤ n) (hb : n < b.length) (h : litT b (n : Int) = true) : b.getD n false = true := by
  unfold litT at h
  rw [Bool.and_eq_true] at h
  have h2 := h.2
  rw [decide_eq_true (show (0 : Int) < n by omega), show ((n : Int)).natAbs = n from rfl, decide_eq_true hb] at h2
  simpa using h2
theorem litT_neg1 {b : List Bool} {n : Nat} (h1 : 1 ≤ n) (hb : n < b.length) (h : litT b (-(n : Int)) = true) : b.getD n false = false := by
  unfold litT at h
  rw [Bool.and_eq_true] at h
  have h2 := h.2
  rw [decide_eq_false (show ¬ (0 : Int) < -(n : Int) by omega), Int.natAbs_neg, show ((n : Int)).natAbs = n from rfl, decide_eq_true hb] at h2
  simpa using h2
theorem told_agree {cs : List (List Int)} {b : List Bool} (hcs : ∀ c ∈ cs, c.any (litT b) = true) : ∀ (m n : Nat) (F : List Bool), 1 ≤ n → n + m ≤ b.length → toldP cs (b.take n) n m = (F, true) → F = b.take (n + m)
  | 0, n, F, _, _, h => by
    rw [toldP] at h
    injection h with h _
    rw [← h]; rfl
  | m + 1, n, F, h1, hb, h => by
    rw [toldP] at h
    split at h
    · injection h with _ h; cases h
    · rename_i hne
      have hx : forcedB cs n n (b.take n) = b.getD n false := by
        cases hf : forcedB cs (n : Int) n (b.take n) with
        | true => exact (litT_pos h1 (by omega) (forced_true (by omega) hcs hf)).symm
        | false =>
          rw [hf] at hne
          have hf2 : forcedB cs (-(n : Int)) n (b.take n) = true := by
            cases h9 : forcedB cs (-(n : Int)) n (b.take n) with
            | true => rfl
            | false => exact absurd h9.symm hne
          exact (litT_neg1 h1 (by omega) (forced_true (by omega) hcs hf2)).symm
      rw [hx] at h
      have e : b.take n ++ [b.getD n false] = b.take (n + 1) := by
        rw [List.take_add_one, List.getD_eq_getElem?_getD, List.getElem?_eq_getElem (show n < b.length by omega)]; rfl
      rw [e] at h
      have := told_agree hcs m (n + 1) F (by omega) (by omega) (by exact_mod_cast h)
      rw [this]; congr 1; omega
theorem litT_take {b : List Bool} {n : Nat} {x : Int} (h : x.natAbs < n) : litT (b.take n) x = litT b x := by
  unfold litT
  rw [getD_take h]
  congr 2
  congr 1
  rw [List.length_take, decide_eq_decide]
  omega
theorem lval_take {b : List Bool} {n : Nat} {x : Int} (h : x.natAbs < n) : lval (b.take n) x = lval b x := by
  unfold lval
  rw [getD_take h]
  congr 2
  rw [List.length_take, decide_eq_decide]
  omega
theorem lsum_congr {p q : Int → Bool} : ∀ {z : List (Int × Int)}, (∀ y ∈ z, p y.2 = q y.2) → lsumZ p z = lsumZ q z
  | [], _ => rfl
  | y :: z, h => by
    rw [lsumZ, lsumZ, h y List.mem_cons_self, lsum_congr fun w hw => h w (List.mem_cons_of_mem _ hw)]
theorem add_snd {C L : List Int} {next : Int} {bits : List Int} {cs : List (List Int)} {after : Int} {b : List Bool} {K : Int} (h : sumP C L next = .ok bits cs after) (hb : after ≤ b.length) (hK : 0 ≤ K) (hK2 : K ≤ 4503599627370496)
    (hcs : ∀ c ∈ cs, c.any (litT b) = true) (hls : ∀ c ∈ leastTo bits K.toNat 64, c.any (litT b) = true) : K ≤ lsumZ (lval b) (C.zip L) := by
  obtain ⟨hlen, hn1, hn2, hq, _⟩ := sumP_ok h
  obtain ⟨_, z2, z3, z4, z5, _, _, _, zb, zc, _⟩ := sumP_size h
  have hgl : ((b.take next.toNat).length : Int) = next := by rw [List.length_take]; omega
  obtain ⟨F, t1, t2, t3, t4, t5⟩ := sumP_cor h (b.take next.toNat) hgl
  have hF : F = b.take (next.toNat + (after - next).toNat) := told_agree hcs (after - next).toNat next.toNat F (by omega) (by omega) (by rw [show ((next.toNat : Nat) : Int) = next by omega]; exact t1)
  rw [show next.toNat + (after - next).toNat = after.toNat by omega] at hF
  have hbv : bvOf bits F = bvOf bits b := by
    funext i
    unfold bvOf
    have : bits.getD i 0 = 0 ∨ bits.getD i 0 ∈ bits := by
      by_cases hi : i < bits.length
      · right; exact getD_memL hi
      · left; rw [List.getD_eq_getElem?_getD, List.getElem?_eq_none (by omega)]; rfl
    rcases this with e | e
    · rw [e, litT_zero, litT_zero]
    · rcases zb _ e with e0 | e0
      · rw [e0, litT_zero, litT_zero]
      · rw [hF, litT_take (by obtain ⟨_, h1, h2⟩ := e0; omega)]
  have hlc := least_correct bits b K.toNat (by omega)
  rw [List.all_eq_true.2 hls] at hlc
  have hle := of_decide_eq_true hlc.symm
  rw [← hbv] at hle
  have hsz : sumZ (b.take next.toNat) (C.zip L) = lsumZ (lval b) (C.zip L) := by
    rw [sumZ_lsum fun q hqm => by
      obtain ⟨a1, a2, a3⟩ := (hq q hqm).2.2
      exact ⟨a1, by omega, by omega⟩]
    exact lsum_congr fun q hqm => lval_take (by obtain ⟨a1, a2, a3⟩ := (hq q hqm).2.2; omega)
  rw [← hsz, ← t5, ← t4]
  omega
theorem enc_snd {C L : List Int} {B g next : Int} {b : List Bool} (hn : NormC C B) (hl : L.length = C.length) (hx : ∀ x ∈ L, x ≠ 0 ∧ -65536 ≤ x ∧ x ≤ 65536) (hnx : 1 ≤ next ∧ next ≤ 65537) (h0 : (encS C L B g next).2.2 = 0) (hb : (encS C L B g next).2.1 ≤ b.length)
    (hc : ∀ c ∈ (encS C L B g next).1, holdsV b c = true) : B ≤ lsumZ (lval b) (C.zip L) ∨ (g ≠ 0 ∧ lval b (-g) = true) := by
  have hv := lval_HV b
  have hx2 : ∀ y ∈ L, -65537 ≤ y ∧ y ≤ 65537 := fun y hy => by have := hx y hy; omega
  rcases way_six C B with hk | hk | hk | hk | hk | hk
  · rw [es_1 hk] at hc
    rcases grd_any (v := lval b) (g := g) (cs := [L]) (fun c hm => hold_lval (hc c hm)) with h | h
    · exact .inr h
    · left
      have hL := h L List.mem_cons_self
      rw [List.any_eq_true] at hL
      obtain ⟨x, hxm, hvx⟩ := hL
      have hw : C.length ≠ 0 ∧ evB C = true ∧ C.getD 0 0 = B := by
        unfold wayP at hk
        split at hk
        · split at hk <;> omega
        · rename_i hC
          split at hk
          · rename_i e; exact ⟨hC, e.1, e.2⟩
          · split at hk
            · omega
            · split at hk <;> omega
      rw [lsum_even hl.symm (ev_mem hw.2.1), hw.2.2]
      have : 1 ≤ cntV (lval b) L := List.length_pos_of_mem (List.mem_filter.2 ⟨hxm, hvx⟩)
      have hB := (hn.2.2.2.2 hw.1).1
      have := Int.mul_le_mul_of_nonneg_left (show (1 : Int) ≤ cntV (lval b) L by omega) (show 0 ≤ B by omega)
      omega
  · have he := way_ev (.inl hk)
    obtain ⟨f1, f2, f3, f4, f5, f6, f7⟩ := ev_fact hn he
    rw [es_2 hk] at hc h0
    have e0 : (totR (evK C B) L next).2.2.2 = 0 := by
      apply Decidable.byContradiction
      intro e
      rw [et_err e] at h0; exact e h0
    rw [et_ok e0] at hc
    have hok := tr_ok f4 (by omega) e0
    have hol := tot_olen f4 (by omega) hok.1
    rcases grd_any (v := lval b) (g := g) (fun c hm => hold_lval (hc c (List.mem_append_right _ hm))) with h | h
    · exact .inr h
    · left
      have hl1 := h _ List.mem_cons_self
      rw [hok.2] at hl1
      have hone : ((totO (evK C B) L next false []).take (evK C B).toNat).drop (evK C B - 1).toNat = [(totO (evK C B) L next false []).getD (evK C B - 1).toNat 0] := by
        rw [show (evK C B).toNat = (evK C B - 1).toNat + 1 by omega, take_sD (d := 0) (by omega), List.drop_left']
        rw [List.length_take]; omega
      simp only at hl1
      rw [hone] at hl1
      have hl2 : lval b ((totO (evK C B) L next false []).getD (evK C B - 1).toNat 0) = true := by simpa using hl1
      have hcs : ∀ c ∈ totC (evK C B) L next false [], c.any (lval b) = true := fun c hm => hold_lval (hc c (List.mem_append_left _ (by rw [hok.2]; exact hm)))
      have := tot_snd hv (evK C B) f4 L.length L (next, false, []) rfl (by omega) hnx.1 hok.1 hcs (evK C B - 1).toNat (by show _ < (totO (evK C B) L next false []).length; omega) hl2
      exact even_ge hn hl he (by omega)
  · have he := way_ev (.inr hk)
    obtain ⟨f1, f2, f3, f4, f5, f6, f7⟩ := ev_fact hn he
    rw [es_3 hk] at hc h0
    have e0 : (leastR L (evK C B) next).2.2 = 0 := by
      apply Decidable.byContradiction
      intro e
      rw [en_err e] at h0; exact e h0
    rw [en_ok e0] at hc
    rcases grd_any (v := lval b) (g := g) (fun c hm => hold_lval (hc c hm)) with h | h
    · exact .inr h
    · left
      have hr0 : rightE next L = 0 := by
        apply Decidable.byContradiction
        intro e
        rw [lr_err e] at e0; exact e e0
      have h1 : ¬ evK C B ≤ 0 := by omega
      have h2 : ¬ evK C B > (L.length : Int) := by omega
      generalize hbg : ((decide (next + ((evK C B * (evK C B - 1)).tdiv 2 + evK C B * ((L.length : Int) - evK C B + 1)) - 1 > 65536)) || decide (2 * ((evK C B * (evK C B - 1)).tdiv 2 + evK C B * ((L.length : Int) - evK C B + 1)) - (L.length : Int) + 1 > 65536)) = bb at *
      cases bb with
      | true => rw [lr_big hr0 h1 h2 hbg] at e0; cases e0
      | false =>
        rw [lr_ok hr0 h1 h2 hbg] at h
        obtain ⟨n0, hn0⟩ : ∃ n0, L.length = n0 + 1 := ⟨L.length - 1, by omega⟩
        have hlast := h _ (List.mem_append_right _ List.mem_cons_self)
        obtain ⟨y, hy, hy0, hvy⟩ := any_nz hlast
        rw [List.mem_singleton.1 hy] at hy0 hvy
        have h9 := reg_nz hy0
        have := cnt_snd hv (k := evK C B) (next := next) (by omega) hnx.1 L.length (fun c hm => h c (List.mem_append_left _ hm)) (evK C B) f4 h9.2 hvy
        rw [List.take_length] at this
        exact even_ge hn hl he this
  · rw [es_4 hk] at hc h0 hb
    by_cases e0 : (sumQ C L next).2.2.2 = 0
    · by_cases e1 : (leastQ (sumQ C L next).1 B).2 = 0
      · rw [ea_ok e0 e1] at hc hb
        cases hs : sumP C L next with
        | err e =>
          have hq : sumQ C L next = ([], [], 0, e) := by unfold sumQ; rw [hs]
          have h9 := sumQ_aft (C := C) (L := L) (n := next)
          have := h9.2.2 e0
          rw [hq] at this
          have : next ≤ 0 := this
          omega
        | ok bits cs after =>
          have hq : sumQ C L next = (bits, cs, after, 0) := by unfold sumQ; rw [hs]
          rw [hq] at hc hb e1
          rcases grd_any (v := litT b) (g := g) (fun c hm => hold_T (hc c (List.mem_append_right _ hm))) with h | h
          · right
            refine ⟨h.1, ?_⟩
            have h2 := h.2
            rw [← litV_T] at h2
            exact litV_lval h2
          · left
            cases hls : leastP bits B with
            | err e =>
              have hq2 : leastQ bits B = ([], e) := by unfold leastQ; rw [hls]
              rw [hq2] at e1
              have e1 : e = 0 := e1
              rw [e1] at hls
              unfold leastP at hls
              split at hls
              · injection hls with hls; cases hls
              · split at hls
                · injection hls with hls; cases hls
                · cases hls
            | ok more =>
              have hq2 : leastQ bits B = (more, 0) := by unfold leastQ; rw [hls]
              rw [hq2] at h
              have hm : more = leastTo bits B.toNat 64 := by
                unfold leastP at hls
                split at hls
                · cases hls
                · split at hls
                  · cases hls
                  · injection hls with hls; exact hls.symm
              rw [hm] at h
              exact add_snd hs hb hn.2.2.1 hn.2.2.2.1 (fun c hm => hold_T (hc c (List.mem_append_left _ hm))) h
      · rw [ea_err2 e0 e1] at h0; exact absurd h0 e1
    · rw [ea_err e0] at h0; exact absurd h0 e0
  · left
    have hw : C.length = 0 ∧ B = 0 := by
      unfold wayP at hk
      split at hk
      · rename_i h1
        split at hk
        · rename_i h2; exact ⟨h1, h2⟩
        · omega
      · split at hk
        · omega
        · split at hk
          · omega
          · split at hk <;> omega
    rw [hw.2, List.eq_nil_of_length_eq_zero hw.1]; exact Int.le_refl _
  · rw [es_6 hk] at hc
    rcases grd_any (v := lval b) (g := g) (cs := [[]]) (fun c hm => hold_lval (hc c hm)) with h | h
    · exact .inr h
    · have := h [] List.mem_cons_self
      simp at this
theorem one_snd {C L : List Int} {B g next : Int} {b : List Bool} (h0 : (oneR C L B g next).2.2 = 0) (hb : (oneR C L B g next).2.1 ≤ b.length) (hc : ∀ c ∈ (oneR C L B g next).1, holdsV b c = true) : lvalue ⟨C, L, B⟩ b = true ∨ (g ≠ 0 ∧ lval b (-g) = true) := by
  obtain ⟨h1, h2, h3⟩ := one_ok h0
  rw [on_ok h1 h2 h3] at h0 hb hc
  obtain ⟨n1, n2, n3⟩ := norm_nc h2
  have hup := lcheck_up h2
  obtain ⟨_, _, q3, _, _, q6, _⟩ := lcheck_ok h2
  rcases enc_snd n1 n2 n3 (by omega) h0 hb hc with h | h
  · left
    unfold lvalue
    rw [decide_eq_true hup, Bool.true_and, ← norm_equiv (lval b) ⟨C, L, B⟩ q3 (fun y hy => (q6 y hy).1) (fun y hy => lval_neg hy)]
    have e : normP ⟨C, L, B⟩ = normW ⟨C, L, B⟩ := if_pos hup
    rw [← e]
    exact decide_eq_true h
  · exact .inr h
end Go.Proofs.YtkkapbnopmmmjaaGreatDoor.Cn
namespace Go.Proofs.YtkkapbnopmmmjaaGreatDoor.Cn
open Go
def LitB (n x : Int) : Prop := x ≠ 0 ∧ (x.natAbs : Int) < n
def Agr (n : Int) (F G : Nat → Bool) : Prop := ∀ i : Nat, (i : Int) < n → F i = G i
section
variable {F G : Nat → Bool} {n m x : Int} {l c : List Int}
theorem LitB.up (h : LitB n x) (hn : n ≤ m) : LitB m x := ⟨h.1, by have := h.2; omega⟩
theorem LitB.neg (h : LitB n x) : LitB n (-x) := ⟨by have := h.1; omega, by have := h.2; omega⟩
theorem litF_ag (h : Agr n F G) (hx : LitB n x) : litF F x = litF G x := by unfold litF; rw [h x.natAbs hx.2]
theorem any_ag (h : Agr n F G) : ∀ {c : List Int}, (∀ x ∈ c, LitB n x) → c.any (litF F) = c.any (litF G)
  | [], _ => rfl
  | x :: c, hc => by rw [List.any_cons, List.any_cons, litF_ag h (hc x List.mem_cons_self), any_ag h fun y hy => hc y (List.mem_cons_of_mem _ hy)]
theorem cnt_ag (h : Agr n F G) : ∀ {l : List Int}, (∀ x ∈ l, LitB n x) → cntV (litF F) l = cntV (litF G) l
  | [], _ => rfl
  | x :: l, hl => by
    have ih := cnt_ag h (l := l) fun y hy => hl y (List.mem_cons_of_mem _ hy)
    have hx := litF_ag h (hl x List.mem_cons_self)
    unfold cntV at ih ⊢
    by_cases hv : litF F x = true
    · rw [List.filter_cons_of_pos hv, List.filter_cons_of_pos (hx ▸ hv), List.length_cons, List.length_cons, ih]
    · rw [List.filter_cons_of_neg hv, List.filter_cons_of_neg (hx ▸ hv), ih]
theorem litF_HV (F : Nat → Bool) : HV (litF F) := fun x hx => by
  unfold litF
  rw [Int.natAbs_neg]
  by_cases h : 0 < x
  · rw [decide_eq_true h, decide_eq_false (by omega)]; cases F x.natAbs <;> rfl
  · rw [decide_eq_false h, decide_eq_true (by omega)]; cases F x.natAbs <;> rfl
theorem litF_nat {k : Nat} (h : 1 ≤ k) : litF F (k : Int) = F k := by
  unfold litF
  rw [decide_eq_true (by omega), show ((k : Int)).natAbs = k from rfl]; cases F k <;> rfl
theorem any_1 (h : litF F x = true) (hm : x ∈ c) : c.any (litF F) = true := List.any_eq_true.2 ⟨x, hm, h⟩
theorem cls_com {a b o : List Int} {cA cB lA lB : Nat} {most : Int} (hv : HV (litF F)) (hm : 1 ≤ most) (ha0 : ∀ x ∈ a, x ≠ 0) (hb0 : ∀ x ∈ b, x ≠ 0) (ho0 : ∀ x ∈ o, x ≠ 0)
    (lena : (a.length : Int) = min (lA : Int) most) (lenb : (b.length : Int) = min (lB : Int) most) (leno : (o.length : Int) = min ((lA + lB : Nat) : Int) most) (hcA : cA ≤ lA) (hcB : cB ≤ lB)
    (va : ∀ j, j < a.length → litF F (a.getD j 0) = decide (j + 1 ≤ cA)) (vb : ∀ j, j < b.length → litF F (b.getD j 0) = decide (j + 1 ≤ cB)) (vo : ∀ j, j < o.length → litF F (o.getD j 0) = decide (j + 1 ≤ cA + cB)) :
    ∀ c ∈ clsT a b o (a.length + 1), c.any (litF F) = true := by
  intro c hc
  unfold clsT at hc
  obtain ⟨i, hi, hc⟩ := List.mem_flatMap.1 hc
  unfold rowT at hc
  obtain ⟨k, hk, hc⟩ := List.mem_flatMap.1 hc
  rw [List.mem_range] at hi hk
  have neg_in : ∀ {p : List Int} {j : Nat}, j < p.length → neg1 (at1 p (j : Int)) = [-(p.getD j 0)] := fun hj => by rw [at_in hj]; rfl
  rcases List.mem_append.1 hc with hc | hc
  · by_cases h : 0 < i + k ∧ i + k ≤ o.length
    · rw [up_yes h.1 h.2, List.mem_singleton] at hc
      subst hc
      by_cases hA : i ≤ cA
      · by_cases hB : k ≤ cB
        · have e : ((i : Int) + k - 1) = ((i + k - 1 : Nat) : Int) := by omega
          refine any_1 (x := o.getD (i + k - 1) 0) (by rw [vo _ (by omega)]; exact decide_eq_true (by omega)) (List.mem_append_right _ ?_)
          rw [e, at_in (by omega)]; exact List.mem_singleton.2 rfl
        · have e : ((k : Int) - 1) = ((k - 1 : Nat) : Int) := by omega
          have hx := vb (k - 1) (by omega)
          rw [decide_eq_false (by omega)] at hx
          refine any_1 (x := -(b.getD (k - 1) 0)) (by rw [hv _ (hb0 _ (getD_memL (by omega))), hx]; rfl) (List.mem_append_left _ (List.mem_append_right _ ?_))
          rw [e, neg_in (by omega)]; exact List.mem_singleton.2 rfl
      · have e : ((i : Int) - 1) = ((i - 1 : Nat) : Int) := by omega
        have hx := va (i - 1) (by omega)
        rw [decide_eq_false (by omega)] at hx
        refine any_1 (x := -(a.getD (i - 1) 0)) (by rw [hv _ (ha0 _ (getD_memL (by omega))), hx]; rfl) (List.mem_append_left _ (List.mem_append_left _ ?_))
        rw [e, neg_in (by omega)]; exact List.mem_singleton.2 rfl
    · rw [up_no h] at hc; cases hc
  · by_cases h : i + k < o.length
    · rw [dn_yes h, List.mem_singleton] at hc
      subst hc
      by_cases hA : i < a.length ∧ i + 1 ≤ cA
      · refine any_1 (x := a.getD i 0) (by rw [va _ hA.1]; exact decide_eq_true hA.2) (List.mem_append_left _ (List.mem_append_left _ ?_))
        rw [at_in hA.1]; exact List.mem_singleton.2 rfl
      · by_cases hB : k < b.length ∧ k + 1 ≤ cB
        · refine any_1 (x := b.getD k 0) (by rw [vb _ hB.1]; exact decide_eq_true hB.2) (List.mem_append_left _ (List.mem_append_right _ ?_))
          rw [at_in hB.1]; exact List.mem_singleton.2 rfl
        · have e : ((i : Int) + k) = ((i + k : Nat) : Int) := by omega
          have hx := vo (i + k) h
          rw [decide_eq_false (by omega)] at hx
          refine any_1 (x := -(o.getD (i + k) 0)) (by rw [hv _ (ho0 _ (getD_memL h)), hx]; rfl) (List.mem_append_right _ ?_)
          rw [e, neg_in h]; exact List.mem_singleton.2 rfl
    · rw [dn_no h] at hc; cases hc
theorem cls_rng {a b o : List Int} {N : Int} (ha : ∀ x ∈ a, LitB N x) (hb : ∀ x ∈ b, LitB N x) (ho : ∀ x ∈ o, LitB N x) : ∀ i, ∀ c ∈ clsT a b o i, ∀ x ∈ c, LitB N x := by
  intro i c hc x hx
  unfold clsT at hc
  obtain ⟨i, _, hc⟩ := List.mem_flatMap.1 hc
  unfold rowT at hc
  obtain ⟨k, _, hc⟩ := List.mem_flatMap.1 hc
  have hn : ∀ {p : List Int} {j : Int}, (∀ x ∈ p, LitB N x) → x ∈ neg1 (at1 p j) → LitB N x := fun {p j} hp h => by
    cases hq : at1 p j with
    | nil => rw [hq] at h; cases h
    | cons y t =>
      rw [hq] at h
      rw [List.mem_singleton.1 h]
      exact (hp y (at_mem (by rw [hq]; exact List.mem_cons_self))).neg
  rcases List.mem_append.1 hc with hc | hc
  · by_cases h : 0 < i + k ∧ i + k ≤ o.length
    · rw [up_yes h.1 h.2, List.mem_singleton] at hc
      subst hc
      rcases List.mem_append.1 hx with hx | hx
      · rcases List.mem_append.1 hx with hx | hx
        · exact hn ha hx
        · exact hn hb hx
      · exact ho x (at_mem hx)
    · rw [up_no h] at hc; cases hc
  · by_cases h : i + k < o.length
    · rw [dn_yes h, List.mem_singleton] at hc
      subst hc
      rcases List.mem_append.1 hx with hx | hx
      · rcases List.mem_append.1 hx with hx | hx
        · exact ha x (at_mem hx)
        · exact hb x (at_mem hx)
      · exact hn ho hx
    · rw [dn_no h] at hc; cases hc
theorem tot_com (most : Int) (hm : 1 ≤ most) : ∀ (n : Nat) (l : List Int) (s : TSt), l.length = n → 1 ≤ n → 1 ≤ s.1 → (∀ x ∈ l, LitB s.1 x) → (totT most l s).2.2.1 = false →
    (∀ x ∈ (totT most l s).1, LitB (totT most l s).2.1 x) ∧ s.1 ≤ (totT most l s).2.1 ∧ ((∀ c ∈ s.2.2, ∀ x ∈ c, LitB s.1 x) → ∀ c ∈ (totT most l s).2.2.2, ∀ x ∈ c, LitB (totT most l s).2.1 x) ∧
    ∀ F0 : Nat → Bool, ∃ F, Agr s.1 F F0 ∧ (∀ j, j < (totT most l s).1.length → litF F ((totT most l s).1.getD j 0) = decide (j + 1 ≤ cntV (litF F) l)) ∧
      ((∀ c ∈ s.2.2, ∀ x ∈ c, LitB s.1 x) → (∀ c ∈ s.2.2, c.any (litF F0) = true) → ∀ c ∈ (totT most l s).2.2.2, c.any (litF F) = true) := fun n => by
  induction n using Nat.strongRecOn with
  | _ n ih =>
    intro l s hl h1 hs hx hf
    by_cases hc : (((l.length : Int) == 1) || s.2.1) = true
    · rw [totT_one (by omega) hc] at hf ⊢
      have hf : s.2.1 = false := hf
      rw [hf, Bool.or_false, beq_iff_eq] at hc
      refine ⟨hx, Int.le_refl _, fun h => h, fun F0 => ⟨F0, fun _ _ => rfl, fun j hj => ?_, fun _ h => h⟩⟩
      match l, hc with
      | [y], _ =>
        have hj0 : j = 0 := by
          have : j < 1 := hj
          omega
        subst hj0
        show litF F0 y = _
        unfold cntV
        by_cases hy : litF F0 y = true
        · rw [List.filter_cons_of_pos hy, hy]; rfl
        · rw [List.filter_cons_of_neg hy]; simpa using hy
    · have hl2 : 2 ≤ l.length := by
        have : ¬ l.length = 1 := fun e => hc (by rw [e]; rfl)
        omega
      rw [totT_two (by omega) hc] at hf ⊢
      obtain ⟨fB, eE⟩ := totE_fl hf
      rw [eE]
      have lA : (l.take (l.length / 2)).length = l.length / 2 := by rw [List.length_take]; omega
      have lB : (l.drop (l.length / 2)).length = l.length - l.length / 2 := List.length_drop
      have nA := tot_nx most (by omega) (l.take (l.length / 2)).length (l.take (l.length / 2)) s rfl (by omega)
      have fA := tot_fl most (l.drop (l.length / 2)).length (l.drop (l.length / 2)) (totT most (l.take (l.length / 2)) s).2 rfl (by omega) fB
      have oA := tot_oln hm (l := l.take (l.length / 2)) (s := s) (by omega) fA
      have oB := tot_oln hm (l := l.drop (l.length / 2)) (s := (totT most (l.take (l.length / 2)) s).2) (by omega) fB
      have hxA : ∀ x ∈ l.take (l.length / 2), LitB s.1 x := fun x h => hx x (List.mem_of_mem_take h)
      have hxB : ∀ x ∈ l.drop (l.length / 2), LitB s.1 x := fun x h => hx x (List.mem_of_mem_drop h)
      obtain ⟨A1, A2, A3, A4⟩ := ih (l.take (l.length / 2)).length (by omega) (l.take (l.length / 2)) s rfl (by omega) hs hxA fA
      obtain ⟨B1, B2, B3, B4⟩ := ih (l.drop (l.length / 2)).length (by omega) (l.drop (l.length / 2)) (totT most (l.take (l.length / 2)) s).2 rfl (by omega) (by omega) (fun x h => (hxB x h).up nA) fB
      generalize totT most (l.drop (l.length / 2)) (totT most (l.take (l.length / 2)) s).2 = RB at *
      generalize totT most (l.take (l.length / 2)) s = RA at *
      obtain ⟨m, hmm⟩ : ∃ m : Nat, (m : Int) = min (l.length : Int) most := ⟨(min (l.length : Int) most).toNat, by omega⟩
      rw [← hmm, Int.toNat_natCast]
      simp only
      have hoR : ∀ x ∈ outsT RB.2.1 m, LitB (RB.2.1 + (m : Int)) x := fun x h => by
        have := outs_mem h
        exact ⟨by omega, by omega⟩
      have hRB : RB.2.1 ≤ RB.2.1 + (m : Int) := by omega
      refine ⟨hoR, by omega, fun h c hc => ?_, fun F0 => ?_⟩
      · rcases List.mem_append.1 hc with hc | hc
        · exact fun x hx => (B3 (A3 h) c hc x hx).up hRB
        · exact cls_rng (fun x hx => (A1 x hx).up (by omega)) (fun x hx => (B1 x hx).up hRB) hoR _ c hc
      · obtain ⟨FA, a1, a2, a3⟩ := A4 F0
        obtain ⟨FB, b1, b2, b3⟩ := B4 FA
        have hlB : ∀ x ∈ l, LitB RB.2.1 x := fun x h => (hx x h).up (by omega)
        obtain ⟨F, hF⟩ : ∃ F : Nat → Bool, F = fun i : Nat => if RB.2.1 ≤ (i : Int) then decide ((i : Int) - RB.2.1 + 1 ≤ cntV (litF FB) l) else FB i := ⟨_, rfl⟩
        have ag : Agr RB.2.1 F FB := fun i hi => by rw [hF]; exact if_neg (by omega)
        have agA : Agr RA.2.1 F FA := fun i hi => (ag i (by omega)).trans (b1 i hi)
        have agS : Agr s.1 F F0 := fun i hi => (agA i (by omega)).trans (a1 i hi)
        have hcn : cntV (litF F) l = cntV (litF FB) l := cnt_ag ag hlB
        have cA := cnt_ag agA (l := l.take (l.length / 2)) fun x h => (hxA x h).up nA
        have cB := cnt_ag ag (l := l.drop (l.length / 2)) fun x h => (hxB x h).up (by omega)
        have hcnt : cntV (litF F) l = cntV (litF F) (l.take (l.length / 2)) + cntV (litF F) (l.drop (l.length / 2)) := by rw [← cntV_app, List.take_append_drop]
        have leA := cntV_le (v := litF F) (l.take (l.length / 2))
        rw [lA] at leA
        have leB := cntV_le (v := litF F) (l.drop (l.length / 2))
        rw [lB] at leB
        have vo : ∀ j, j < (outsT RB.2.1 m).length → litF F ((outsT RB.2.1 m).getD j 0) = decide (j + 1 ≤ cntV (litF F) l) := fun j hj => by
          rw [outs_len] at hj
          rw [outs_get hj, show RB.2.1 + (j : Int) = ((RB.2.1.toNat + j : Nat) : Int) by omega, litF_nat (by omega), hcn]
          rw [hF]
          simp only
          rw [if_pos (by omega), decide_eq_decide]
          omega
        refine ⟨F, agS, vo, fun h1 h2 c hc => ?_⟩
        rcases List.mem_append.1 hc with hc | hc
        · rw [any_ag ag (B3 (A3 h1) c hc)]
          exact b3 (A3 h1) (a3 h1 h2) c hc
        · refine cls_com (cA := cntV (litF F) (l.take (l.length / 2))) (cB := cntV (litF F) (l.drop (l.length / 2))) (lA := l.length / 2) (lB := l.length - l.length / 2) (litF_HV F) hm (fun x h => (A1 x h).1) (fun x h => (B1 x h).1) (fun x h => (hoR x h).1) (by rw [← lA]; exact oA) (by rw [← lB]; exact oB) (by rw [outs_len, hmm]; congr 1; omega) leA leB (fun j hj => ?_) (fun j hj => ?_) (fun j hj => by rw [vo j hj, hcnt]) c hc
          · rw [litF_ag agA (A1 _ (getD_memL hj)), a2 j hj, cA]
          · rw [litF_ag ag (B1 _ (getD_memL hj)), b2 j hj, cB]
end
end Go.Proofs.YtkkapbnopmmmjaaGreatDoor.Cn
namespace Go.Proofs.YtkkapbnopmmmjaaGreatDoor.Cn
open Go
theorem told_pre {cs : List (List Int)} : ∀ (m : Nat) (n : Int) (b F : List Bool), toldP cs b n m = (F, true) → F.take b.length = b
  | 0, n, b, F, h => by
    rw [toldP] at h
    injection h with h _
    rw [← h, List.take_length]
  | m + 1, n, b, F, h => by
    rw [toldP] at h
    split at h
    · injection h with _ h; cases h
    · have := told_pre m _ _ F h
      have h2 := congrArg (List.take b.length) this
      rw [List.take_take, List.length_append, Nat.min_eq_left (by omega), List.take_append_of_le_length (Nat.le_refl _), List.take_length] at h2
      exact h2
theorem litT_F {F : List Bool} {x n : Int} (hF : (F.length : Int) = n) (hn : n ≤ 65537) (hx : LitB n x) : litT F x = litF (fun i => F.getD i false) x := by
  unfold litT litF
  obtain ⟨h1, h2⟩ := hx
  rw [decide_eq_true (show x ≠ 0 ∧ -65536 ≤ x ∧ x ≤ 65536 by omega), decide_eq_true (show x.natAbs < F.length by omega)]
  simp
theorem lok_B {n x : Int} (h : LitOk n x) : LitB n x := ⟨h.1, by have := h.2; omega⟩
theorem anyT_F {F : List Bool} {n : Int} (hF : (F.length : Int) = n) (hn : n ≤ 65537) : ∀ {c : List Int}, (∀ x ∈ c, LitB n x) → c.any (litT F) = c.any (litF fun i => F.getD i false)
  | [], _ => rfl
  | x :: c, hc => by rw [List.any_cons, List.any_cons, litT_F hF hn (hc x List.mem_cons_self), anyT_F hF hn fun y hy => hc y (List.mem_cons_of_mem _ hy)]
theorem least_rng {bits : List Int} {K : Nat} {N : Int} (hb : ∀ b ∈ bits, b = 0 ∨ LitOk N b) : ∀ c ∈ leastTo bits K 64, ∀ x ∈ c, LitB N x := by
  intro c hc x hx
  unfold leastTo at hc
  obtain ⟨t, _, rfl⟩ := List.mem_map.1 hc
  unfold clTo at hx
  obtain ⟨j, hj, rfl⟩ := List.mem_map.1 hx
  obtain ⟨hj1, hj2⟩ := List.mem_filter.1 hj
  rw [List.mem_range] at hj1
  unfold lcond at hj2
  rw [Bool.and_eq_true, bne_iff_ne] at hj2
  rcases hb _ (getD_memL (d := (0 : Int)) hj1) with h | h
  · exact absurd h hj2.1
  · exact lok_B h
theorem sumZ_F {F0 : Nat → Bool} {g : List Bool} {n : Int} (hg : (g.length : Int) = n) (hn : n ≤ 65537) (he : ∀ i, i < g.length → g.getD i false = F0 i) : ∀ {z : List (Int × Int)}, (∀ q ∈ z, LitB n q.2) → sumZ g z = lsumZ (litF F0) z := by
  intro z hz
  rw [sumZ_lsum fun q hq => by have := hz q hq; exact ⟨this.1, by have := this.2; omega, by have := this.2; omega⟩]
  refine lsum_congr fun q hq => ?_
  have h := hz q hq
  rw [← litT_lval ⟨h.1, by have := h.2; omega, by have := h.2; omega⟩, litT_F hg hn h]
  exact litF_ag (n := n) (fun i hi => he i (by omega)) h
theorem add_com {C L : List Int} {next : Int} {bits : List Int} {cs : List (List Int)} {after : Int} {K : Int} (h : sumP C L next = .ok bits cs after) (hK : 0 ≤ K) (hK2 : K ≤ 4503599627370496) :
    next ≤ after ∧ (∀ c ∈ cs, ∀ x ∈ c, LitB after x) ∧ (∀ c ∈ leastTo bits K.toNat 64, ∀ x ∈ c, LitB after x) ∧
    ∀ F0 : Nat → Bool, ∃ F, Agr next F F0 ∧ (∀ c ∈ cs, c.any (litF F) = true) ∧ (K ≤ lsumZ (litF F0) (C.zip L) → ∀ c ∈ leastTo bits K.toNat 64, c.any (litF F) = true) := by
  obtain ⟨hlen, hn1, hn2, hq, _⟩ := sumP_ok h
  obtain ⟨_, _, z3, z4, z5, _, _, _, zb, zc, _⟩ := sumP_size h
  have rc : ∀ c ∈ cs, ∀ x ∈ c, LitB after x := fun c hc x hx => lok_B (zc c hc x hx)
  have rl := least_rng (K := K.toNat) zb
  refine ⟨z3, rc, rl, fun F0 => ?_⟩
  obtain ⟨g, hg⟩ : ∃ g : List Bool, g = (List.range next.toNat).map F0 := ⟨_, rfl⟩
  have hgl : (g.length : Int) = next := by rw [hg, List.length_map, List.length_range]; omega
  have hge : ∀ i, i < g.length → g.getD i false = F0 i := fun i hi => by
    rw [List.getD_eq_getElem?_getD, List.getElem?_eq_getElem hi]
    show g[i] = _
    simp only [hg]
    rw [List.getElem_map, List.getElem_range]
  obtain ⟨F, t1, t2, t3, t4, t5⟩ := sumP_cor h g hgl
  have hpre := told_pre _ _ _ _ t1
  refine ⟨fun i => F.getD i false, fun i hi => ?_, fun c hc => ?_, fun hle c hc => ?_⟩
  · show F.getD i false = F0 i
    rw [← hge i (by omega), ← hpre, getD_take (by omega)]
  · rw [← anyT_F t2 z4 (rc c hc)]; exact t3 c hc
  · rw [← anyT_F t2 z4 (rl c hc)]
    have hlc := least_correct bits F K.toNat (by omega)
    have hz := sumZ_F (F0 := F0) hgl hn2 hge (z := C.zip L) fun q hqm => lok_B (hq q hqm).2.2
    rw [decide_eq_true (show K.toNat ≤ numB (bvOf bits F) bits.length by omega)] at hlc
    exact List.all_eq_true.1 hlc c hc
def totFr (rows : Int → List Int) (k : Int) : Nat → Nat
  | 0 => 0
  | m + 1 => totFr rows k m + (rows (k + m)).length
theorem totFr_tail (rows : Int → List Int) (k : Int) : ∀ m, totFr rows k (m + 1) = (rows k).length + totFr rows (k + 1) m
  | 0 => by simp [totFr]
  | m + 1 => by
    rw [totFr, totFr_tail rows k m, totFr]
    rw [show k + 1 + (m : Int) = k + ((m + 1 : Nat) : Int) by omega]; omega
theorem totFr_step {k : Int} {s : Ps} : ∀ m, totFr (stepA k s).rows (k + 1) m ≤ totFr s.rows (k + 1) m + min m 1
  | 0 => Nat.le_refl _
  | m + 1 => by
    have ih := totFr_step (k := k) (s := s) m
    rw [totFr, totFr]
    have e : (stepA k s).rows (k + 1 + (m : Int)) = if m = 0 then s.rows (k + 1) ++ [s.nx + 1] else s.rows (k + 1 + (m : Int)) := by
      show updr (updr (setr s.rows k ((s.rows k).drop 3)) k s.nx) (k + 1) (s.nx + 1) (k + 1 + (m : Int)) = _
      unfold updr setr
      by_cases hm : m = 0
      · subst hm
        rw [if_pos (show k + 1 + ((0 : Nat) : Int) = k + 1 by omega), if_neg (show ¬ k + 1 = k by omega), if_neg (show ¬ k + 1 = k by omega), if_pos rfl]
      · rw [if_neg hm, if_neg (by omega), if_neg (by omega), if_neg (by omega)]
    rw [e]
    by_cases hm : m = 0
    · subst hm; rw [if_pos rfl]; simp [totFr]
    · rw [if_neg hm]; omega
theorem step_len {k : Int} {s : Ps} (h : 1 < (s.rows k).length) : ((stepA k s).rows k).length / 2 + 1 = (s.rows k).length / 2 := by
  have e : (stepA k s).rows k = (s.rows k).drop 3 ++ [s.nx] := by
    show updr (updr (setr s.rows k ((s.rows k).drop 3)) k s.nx) (k + 1) (s.nx + 1) k = _
    unfold updr setr
    rw [if_neg (by omega), if_pos rfl, if_pos rfl]
  rw [e, List.length_append, List.length_drop, List.length_singleton]
  omega
theorem sumF_few : ∀ (f : Nat) (k : Int) (s : Ps) (o : List Int) (r : List Int × List (List Int) × Int) (R : Nat), (∀ m, totFr s.rows (k + 1) m ≤ R) → sumF f k s o = some r → r.2.2 ≤ s.nx + 2 * ((2 * ((s.rows k).length / 2) + R : Nat) : Int)
  | 0, _, _, _, _, _, _, h => by simp [sumF] at h
  | f + 1, k, s, o, r, R, hR, h => by
    rw [sumF] at h
    by_cases h1 : k < s.top
    · rw [if_pos h1] at h
      by_cases h2 : 1 < (s.rows k).length
      · rw [if_pos h2] at h
        split at h
        · cases h
        · have ih := sumF_few f k (stepA k s) o r (R + 1) (fun m => by have := totFr_step (k := k) (s := s) m; have := hR m; omega) h
          have hs := step_len h2
          have hx : (stepA k s).nx = s.nx + 2 := rfl
          rw [hx] at ih
          omega
      · rw [if_neg h2] at h
        have h3 := hR 1
        have h4 : (s.rows (k + 1)).length ≤ R := by
          have e : totFr s.rows (k + 1) 1 = (s.rows (k + 1)).length := by simp [totFr]
          omega
        have ih := sumF_few f (k + 1) s (o ++ [(s.rows k).headD 0]) r (R - (s.rows (k + 1)).length) (fun m => by
          have := totFr_tail s.rows (k + 1) m
          have := hR (m + 1)
          omega) h
        omega
    · rw [if_neg h1] at h
      injection h with h
      subst h
      show s.nx ≤ _
      omega
theorem popTo_small {n : Nat} (h : n < 256) : ∀ j, popTo n j ≤ min j 8
  | 0 => Nat.le_refl _
  | j + 1 => by
    have ih := popTo_small h j
    rw [popTo_succ]
    by_cases hj : j < 8
    · split <;> omega
    · have : n.testBit j = false := Nat.testBit_lt_two_pow (Nat.lt_of_lt_of_le h (Nat.pow_le_pow_right (n := 2) (by decide) (show 8 ≤ j by omega)))
      rw [this, if_neg Bool.false_ne_true]; omega
theorem totFr_R (rows : Int → List Int) : ∀ m, totFr rows 0 m = Go.Proofs.YtkkapbnopmmmjaaGreatDoor.totR rows m
  | 0 => rfl
  | m + 1 => by rw [totFr, totR_succ, totFr_R rows m, Int.zero_add]
theorem totR_up (rows : Int → List Int) (m : Nat) : ∀ j, Go.Proofs.YtkkapbnopmmmjaaGreatDoor.totR rows m ≤ Go.Proofs.YtkkapbnopmmmjaaGreatDoor.totR rows (m + j)
  | 0 => Nat.le_refl _
  | j + 1 => by rw [show m + (j + 1) = (m + j) + 1 by omega, totR_succ]; have := totR_up rows m j; omega
theorem totR_64 {rows : Int → List Int} (h : ∀ j : Nat, 64 ≤ j → rows (j : Int) = []) : ∀ j, Go.Proofs.YtkkapbnopmmmjaaGreatDoor.totR rows (64 + j) = Go.Proofs.YtkkapbnopmmmjaaGreatDoor.totR rows 64
  | 0 => rfl
  | j + 1 => by rw [show 64 + (j + 1) = (64 + j) + 1 by omega, totR_succ, totR_64 h j, h (64 + j) (by omega), List.length_nil, Nat.add_zero]
theorem sumP_few {C L : List Int} {next : Int} {bits : List Int} {cs : List (List Int)} {after : Int} (h : sumP C L next = .ok bits cs after) (hc : ∀ c ∈ C, c ≤ 255) : after ≤ next + 16 * (C.length : Int) := by
  obtain ⟨hlen, hn1, hn2, hq, hr⟩ := sumP_ok h
  have hA := totR_feedAll (C.zip L) fd0
  have h0 : Go.Proofs.YtkkapbnopmmmjaaGreatDoor.totR fd0.1 64 = 0 := by
    have key : ∀ m, Go.Proofs.YtkkapbnopmmmjaaGreatDoor.totR fd0.1 m = 0 := fun m => by
      induction m with
      | zero => rfl
      | succ m ih => rw [totR_succ, ih]; rfl
    exact key 64
  have hS : ∀ z : List (Int × Int), (∀ q ∈ z, 0 ≤ q.1 ∧ q.1 ≤ 255) → (z.map fun q => popTo q.1.toNat 64).sum ≤ 8 * z.length := fun z => by
    induction z with
    | nil => intro _; exact Nat.le_refl _
    | cons q z ih =>
      intro hz
      have h1 := hz q List.mem_cons_self
      have h2 := popTo_small (n := q.1.toNat) (by omega) 64
      have h3 := ih fun p hp => hz p (List.mem_cons_of_mem _ hp)
      simp only [List.map_cons, List.sum_cons, List.length_cons]
      omega
  have hS2 := hS (C.zip L) fun q hqm => ⟨(hq q hqm).1, hc _ (List.of_mem_zip hqm).1⟩
  have hzl : (C.zip L).length = C.length := by rw [List.length_zip]; omega
  have he : ∀ j : Nat, 64 ≤ j → (feedAll fd0 (C.zip L)).1 (j : Int) = [] := fun j hj => by
    have hl := len_feedAll (j : Int) (C.zip L) fd0
    rw [cntB_zero (j : Int) (by omega) _ (fun q hqm => ⟨(hq q hqm).1, (hq q hqm).2.1⟩)] at hl
    exact List.eq_nil_of_length_eq_zero hl
  have hall : ∀ m, totFr (feedAll fd0 (C.zip L)).1 0 m ≤ 8 * C.length := fun m => by
    rw [totFr_R]
    by_cases hm : m ≤ 64
    · have := totR_up (feedAll fd0 (C.zip L)).1 m (64 - m)
      rw [show m + (64 - m) = 64 by omega] at this
      omega
    · have := totR_64 he (m - 64)
      rw [show 64 + (m - 64) = m by omega] at this
      omega
  have h00 : ((feedAll fd0 (C.zip L)).1 0).length ≤ 8 * C.length := by
    have := hall 1
    have e : totFr (feedAll fd0 (C.zip L)).1 0 1 = ((feedAll fd0 (C.zip L)).1 0).length := by simp [totFr]
    omega
  have := sumF_few fuel0 0 { rows := (feedAll fd0 (C.zip L)).1, cs := [], nx := next, top := (feedAll fd0 (C.zip L)).2 } [] _ (8 * C.length - ((feedAll fd0 (C.zip L)).1 0).length) (fun m => by
    have h1 := totFr_tail (feedAll fd0 (C.zip L)).1 0 m
    have h2 := hall (m + 1)
    show totFr (feedAll fd0 (C.zip L)).1 (0 + 1) m ≤ _
    omega) hr
  simp only at this
  omega
theorem tot_nb (most : Int) : ∀ (n : Nat) (l : List Int) (s : TSt), l.length = n → 1 ≤ n → (totT most l s).2.1 ≤ s.1 + ((n * n : Nat) : Int) := fun n => by
  induction n using Nat.strongRecOn with
  | _ n ih =>
    intro l s hl h1
    by_cases hc : (((l.length : Int) == 1) || s.2.1) = true
    · rw [totT_one (by omega) hc]; show s.1 ≤ _; omega
    · rw [totT_two (by omega) hc]
      have hl2 : 2 ≤ l.length := by
        have : ¬ l.length = 1 := fun e => hc (by rw [e]; rfl)
        omega
      have hA := ih (l.length / 2) (by omega) (l.take (l.length / 2)) s (by rw [List.length_take]; omega) (by omega)
      have hB := ih (l.length - l.length / 2) (by omega) (l.drop (l.length / 2)) (totT most (l.take (l.length / 2)) s).2 List.length_drop (by omega)
      have hsq : (l.length / 2) * (l.length / 2) + (l.length - l.length / 2) * (l.length - l.length / 2) + l.length ≤ n * n := by
        subst hl
        have hn : l.length = l.length / 2 + (l.length - l.length / 2) := by omega
        have ha1 : 1 ≤ l.length / 2 := by omega
        have hb1 : 1 ≤ l.length - l.length / 2 := by omega
        generalize l.length / 2 = a at *
        generalize l.length - a = b at *
        rw [hn]
        have h1 := Nat.mul_le_mul ha1 (Nat.le_refl b)
        have h2 := Nat.mul_le_mul (Nat.le_refl a) hb1
        rw [Nat.add_mul, Nat.mul_add, Nat.mul_add, Nat.mul_comm b a]
        omega
      unfold totE
      generalize (l.length / 2) * (l.length / 2) = p at *
      generalize (l.length - l.length / 2) * (l.length - l.length / 2) = q at *
      generalize n * n = w at *
      split
      · show (totT most (l.drop (l.length / 2)) (totT most (l.take (l.length / 2)) s).2).2.1 ≤ _; omega
      · show (totT most (l.drop (l.length / 2)) (totT most (l.take (l.length / 2)) s).2).2.1 + _ ≤ _; omega
end Go.Proofs.YtkkapbnopmmmjaaGreatDoor.Cn
namespace Go.Proofs.YtkkapbnopmmmjaaGreatDoor.Cn
open Go
def padK (a : List Bool) (n : Int) (i : Nat) : List Bool := (List.range (n.toNat + 1)).map fun j => decide (1 ≤ j) && (decide (j ≤ i) && a.getD j false)
def padL (a : List Bool) (n : Int) : List Bool := (List.range (n.toNat + 1)).map fun j => decide (1 ≤ j) && a.getD j false
section
variable {a : List Bool} {n : Int} {i : Nat}
theorem padK_len : (padK a n i).length = n.toNat + 1 := by unfold padK; rw [List.length_map, List.length_range]
theorem padL_len : (padL a n).length = n.toNat + 1 := by unfold padL; rw [List.length_map, List.length_range]
theorem padK_0 {m : Nat} (h : m = n.toNat + 1) : List.replicate m false = padK a n 0 := by
  subst h
  unfold padK
  apply List.ext_getElem (by simp)
  intro j h1 h2
  rw [List.getElem_replicate, List.getElem_map, List.getElem_range]
  by_cases hj : 1 ≤ j
  · rw [decide_eq_false (show ¬ j ≤ 0 by omega)]; simp
  · rw [decide_eq_false hj]; simp
theorem padK_next {m : Nat} (hm : m = i + 1) : (padK a n i).set m (a.getD m false) = padK a n (i + 1) := by
  subst hm
  unfold padK
  apply List.ext_getElem (by simp)
  intro j h1 h2
  rw [List.getElem_set, List.getElem_map, List.getElem_map, List.getElem_range]
  by_cases hj : i + 1 = j
  · subst hj
    rw [if_pos rfl, decide_eq_true (show 1 ≤ i + 1 by omega), decide_eq_true (show i + 1 ≤ i + 1 by omega)]; simp
  · rw [if_neg hj]
    congr 2
    rw [decide_eq_decide]; omega
theorem padK_all (h : ¬ ((i : Int) + 1 ≤ n ∧ (i : Int) + 1 < a.length)) : padK a n i = padL a n := by
  unfold padK padL
  apply List.map_congr_left
  intro j hj
  have hj := List.mem_range.1 hj
  by_cases hji : j ≤ i
  · rw [decide_eq_true hji]; simp
  · rw [decide_eq_false hji]
    have : a.getD j false = false := by rw [List.getD_eq_getElem?_getD, List.getElem?_eq_none (by omega)]; rfl
    rw [this]; simp
end
def litW (a : List Bool) (x : Int) : Bool := if x < 0 then (decide (-x < (a.length : Int)) && !(a.getD (-x).toNat false)) else ((decide (x > 0) && decide (x < (a.length : Int))) && a.getD x.toNat false)
theorem litW_n {a : List Bool} {x : Int} (h : x < 0) : litW a x = (decide (-x < (a.length : Int)) && !(a.getD (-x).toNat false)) := if_pos h
theorem litW_p {a : List Bool} {x : Int} (h : ¬ x < 0) : litW a x = ((decide (x > 0) && decide (x < (a.length : Int))) && a.getD x.toNat false) := if_neg h
theorem snd_err {C L : List Int} {B g next : Int} (h : (oneR C L B g next).2.2 ≠ 0) : ((((oneR C L B g next).1.length : Int) == 0) && ((oneR C L B g next).2.1 == 0)) = true := by
  rw [(one_bd C L B g next).2.2.2 h]; rfl
end Go.Proofs.YtkkapbnopmmmjaaGreatDoor.Cn
namespace Go.Proofs.YtkkapbnopmmmjaaGreatDoor.Cn
open Go
section
variable {v : Int → Bool} {g N : Int} {cs : List (List Int)}
theorem grd_yes (h : (g ≠ 0 ∧ v (-g) = true) ∨ ∀ c ∈ cs, c.any v = true) : ∀ c ∈ grd g cs, c.any v = true := by
  intro c hc
  obtain ⟨d, hd, rfl⟩ := List.mem_map.1 hc
  unfold grdL
  by_cases hg : g ≠ 0
  · rw [if_pos hg, List.any_append, Bool.or_eq_true]
    rcases h with h | h
    · left; rw [List.any_cons, h.2]; rfl
    · right; exact h d hd
  · rw [if_neg hg]
    rcases h with h | h
    · exact absurd h.1 hg
    · exact h d hd
theorem grd_rng (hg : g = 0 ∨ LitB N g) (h : ∀ c ∈ cs, ∀ x ∈ c, LitB N x) : ∀ c ∈ grd g cs, ∀ x ∈ c, LitB N x := by
  intro c hc x hx
  obtain ⟨d, hd, rfl⟩ := List.mem_map.1 hc
  unfold grdL at hx
  by_cases h0 : g ≠ 0
  · rw [if_pos h0] at hx
    rcases List.mem_append.1 hx with hx | hx
    · rw [List.mem_singleton.1 hx]
      rcases hg with hg | hg
      · exact absurd hg h0
      · exact hg.neg
    · exact h d hd x hx
  · rw [if_neg h0] at hx; exact h d hd x hx
theorem even_le {C L : List Int} {B : Int} (hn : NormC C B) (hl : L.length = C.length) (he : evB C = true) (hc : B ≤ lsumZ v (C.zip L)) : evK C B ≤ cntV v L := by
  obtain ⟨f1, f2, f3, f4, f5, f6, f7⟩ := ev_fact hn he
  rw [lsum_even hl.symm (ev_mem he)] at hc
  apply Decidable.byContradiction
  intro hno
  have := Int.mul_le_mul_of_nonneg_left (show (cntV v L : Int) ≤ evK C B - 1 by omega) (show 0 ≤ C.getD 0 0 by omega)
  rw [Int.mul_comm (C.getD 0 0) (evK C B - 1)] at this
  omega
end
theorem enc_com {C L : List Int} {B g next : Int} (hn : NormC C B) (hb : ∀ c ∈ C, c ≤ 255) (hl : L.length = C.length) (hx : ∀ x ∈ L, LitB next x) (hnx : 1 ≤ next ∧ next ≤ 65537) (hg : g = 0 ∨ LitB next g) (hlen : C.length ≤ 10) (h0 : (encS C L B g next).2.2 = 0) :
    (next ≤ (encS C L B g next).2.1 ∧ (encS C L B g next).2.1 ≤ next + 16 * (C.length : Int)) ∧ (∀ c ∈ (encS C L B g next).1, ∀ x ∈ c, LitB (encS C L B g next).2.1 x) ∧
    ∀ F0 : Nat → Bool, (B ≤ lsumZ (litF F0) (C.zip L) ∨ (g ≠ 0 ∧ litF F0 (-g) = true)) → ∃ F, Agr next F F0 ∧ ∀ c ∈ (encS C L B g next).1, c.any (litF F) = true := by
  have hgg : ∀ {F F0 : Nat → Bool}, Agr next F F0 → (g ≠ 0 ∧ litF F0 (-g) = true) → (g ≠ 0 ∧ litF F (-g) = true) := fun ha h => ⟨h.1, by
    rcases hg with e | e
    · exact absurd e h.1
    · rw [litF_ag ha e.neg]; exact h.2⟩
  rcases way_six C B with hk | hk | hk | hk | hk | hk
  · rw [es_1 hk]
    refine ⟨⟨Int.le_refl _, by show next ≤ _; omega⟩, grd_rng hg fun c hc => by rw [List.mem_singleton.1 hc]; exact hx, fun F0 h => ⟨F0, fun _ _ => rfl, grd_yes ?_⟩⟩
    rcases h with h | h
    · right
      intro c hc
      rw [List.mem_singleton.1 hc]
      have hw : C.length ≠ 0 ∧ evB C = true ∧ C.getD 0 0 = B := by
        unfold wayP at hk
        split at hk
        · split at hk <;> omega
        · rename_i hC
          split at hk
          · rename_i e; exact ⟨hC, e.1, e.2⟩
          · split at hk
            · omega
            · split at hk <;> omega
      have h1 := even_le hn hl hw.2.1 h
      obtain ⟨f1, f2, f3, f4, f5, f6, f7⟩ := ev_fact hn hw.2.1
      have h2 : 0 < cntV (litF F0) L := by omega
      obtain ⟨x, hxm⟩ := List.exists_mem_of_length_pos h2
      obtain ⟨h3, h4⟩ := List.mem_filter.1 hxm
      exact any_1 h4 h3
    · exact .inl h
  · have he := way_ev (.inl hk)
    obtain ⟨f1, f2, f3, f4, f5, f6, f7⟩ := ev_fact hn he
    rw [es_2 hk] at h0 ⊢
    have e0 : (totR (evK C B) L next).2.2.2 = 0 := by
      apply Decidable.byContradiction
      intro e
      rw [et_err e] at h0; exact e h0
    rw [et_ok e0]
    have hok := tr_ok f4 (by omega) e0
    have hol := tot_olen f4 (by omega) hok.1
    have hone : ((totO (evK C B) L next false []).take (evK C B).toNat).drop (evK C B - 1).toNat = [(totO (evK C B) L next false []).getD (evK C B - 1).toNat 0] := by
      rw [show (evK C B).toNat = (evK C B - 1).toNat + 1 by omega, take_sD (d := 0) (by omega), List.drop_left']
      rw [List.length_take]; omega
    obtain ⟨t1, t2, t3, t4⟩ := tot_com (evK C B) f4 L.length L (next, false, []) rfl (by omega) hnx.1 hx hok.1
    have hnb := tot_nb (evK C B) L.length L (next, false, []) rfl (by omega)
    have hsq : L.length * L.length ≤ 16 * L.length := Nat.mul_le_mul_right _ (by omega)
    have hkl : (evK C B - 1).toNat < (totO (evK C B) L next false []).length := by omega
    rw [hok.2]
    show (next ≤ totN (evK C B) L next false [] ∧ totN (evK C B) L next false [] ≤ _) ∧ (∀ c ∈ totC (evK C B) L next false [] ++ grd g _, ∀ x ∈ c, LitB (totN (evK C B) L next false []) x) ∧ _
    rw [hone]
    have t2' : next ≤ totN (evK C B) L next false [] := t2
    have hnb' : totN (evK C B) L next false [] ≤ next + ((L.length * L.length : Nat) : Int) := hnb
    refine ⟨⟨t2', by omega⟩, fun c hc => ?_, fun F0 h => ?_⟩
    · rcases List.mem_append.1 hc with hc | hc
      · exact t3 (fun c hc => by cases hc) c hc
      · refine grd_rng (hg.imp id fun h => h.up t2') (fun d hd x hx => ?_) c hc
        rw [List.mem_singleton.1 hd] at hx
        rw [List.mem_singleton.1 hx]
        exact t1 _ (getD_memL hkl)
    · obtain ⟨F, a1, a2, a3⟩ := t4 F0
      refine ⟨F, a1, fun c hc => ?_⟩
      rcases List.mem_append.1 hc with hc | hc
      · exact a3 (fun c hc => by cases hc) (fun c hc => by cases hc) c hc
      · refine grd_yes (v := litF F) ?_ c hc
        rcases h with h | h
        · right
          intro d hd
          rw [List.mem_singleton.1 hd]
          have h1 := even_le hn hl he h
          rw [← cnt_ag a1 hx] at h1
          refine any_1 (x := (totO (evK C B) L next false []).getD (evK C B - 1).toNat 0) ?_ (List.mem_singleton.2 rfl)
          have := a2 (evK C B - 1).toNat hkl
          rw [decide_eq_true (by omega)] at this
          exact this
        · exact .inl (hgg a1 h)
  · exfalso
    unfold wayP at hk
    split at hk
    · split at hk <;> omega
    · split at hk
      · omega
      · split at hk
        · omega
        · rename_i h2
          split at hk
          · rename_i h3; exact h2 ⟨h3.1, hlen⟩
          · omega
  · rw [es_4 hk] at h0 ⊢
    by_cases e0 : (sumQ C L next).2.2.2 = 0
    · by_cases e1 : (leastQ (sumQ C L next).1 B).2 = 0
      · rw [ea_ok e0 e1]
        cases hs : sumP C L next with
        | err e =>
          have hq : sumQ C L next = ([], [], 0, e) := by unfold sumQ; rw [hs]
          have h9 := sumQ_aft (C := C) (L := L) (n := next)
          have := h9.2.2 e0
          rw [hq] at this
          have : next ≤ 0 := this
          omega
        | ok bits cs after =>
          have hq : sumQ C L next = (bits, cs, after, 0) := by unfold sumQ; rw [hs]
          rw [hq] at e1 ⊢
          cases hls : leastP bits B with
          | err e =>
            have hq2 : leastQ bits B = ([], e) := by unfold leastQ; rw [hls]
            rw [hq2] at e1
            have e1 : e = 0 := e1
            rw [e1] at hls
            unfold leastP at hls
            split at hls
            · injection hls with hls; cases hls
            · split at hls
              · injection hls with hls; cases hls
              · cases hls
          | ok more =>
            have hq2 : leastQ bits B = (more, 0) := by unfold leastQ; rw [hls]
            rw [hq2]
            have hm : more = leastTo bits B.toNat 64 := by
              unfold leastP at hls
              split at hls
              · cases hls
              · split at hls
                · cases hls
                · injection hls with hls; exact hls.symm
            subst hm
            obtain ⟨a1, a2, a3, a4⟩ := add_com hs hn.2.2.1 hn.2.2.2.1
            have a5 := sumP_few hs hb
            refine ⟨⟨a1, a5⟩, fun c hc => ?_, fun F0 h => ?_⟩
            · rcases List.mem_append.1 hc with hc | hc
              · exact a2 c hc
              · exact grd_rng (hg.imp id fun h => h.up a1) a3 c hc
            · obtain ⟨F, b1, b2, b3⟩ := a4 F0
              refine ⟨F, b1, fun c hc => ?_⟩
              rcases List.mem_append.1 hc with hc | hc
              · exact b2 c hc
              · refine grd_yes (v := litF F) ?_ c hc
                rcases h with h | h
                · exact .inr (b3 h)
                · exact .inl (hgg b1 h)
      · rw [ea_err2 e0 e1] at h0; exact absurd h0 e1
    · rw [ea_err e0] at h0; exact absurd h0 e0
  · rw [es_5 hk]
    exact ⟨⟨Int.le_refl _, by show next ≤ _; omega⟩, fun c hc => (by cases hc), fun F0 _ => ⟨F0, fun _ _ => rfl, fun c hc => (by cases hc)⟩⟩
  · rw [es_6 hk]
    refine ⟨⟨Int.le_refl _, by show next ≤ _; omega⟩, grd_rng hg fun c hc x hx => (by rw [List.mem_singleton.1 hc] at hx; cases hx), fun F0 h => ⟨F0, fun _ _ => rfl, grd_yes ?_⟩⟩
    rcases h with h | h
    · exfalso
      have hw : C.length = 0 ∧ B ≠ 0 := by
        unfold wayP at hk
        split at hk
        · rename_i h1
          split at hk
          · omega
          · rename_i h2; exact ⟨h1, h2⟩
        · split at hk
          · omega
          · split at hk
            · omega
            · split at hk <;> omega
      rw [List.eq_nil_of_length_eq_zero hw.1] at h
      have h : B ≤ 0 := h
      have := hn.2.2.1
      have := hw.2
      omega
    · exact .inl h
def valF (F : Nat → Bool) (C L : List Int) (B : Int) : Bool := decide ((normP ⟨C, L, B⟩).B ≤ lsumZ (litF F) ((normP ⟨C, L, B⟩).C.zip (normP ⟨C, L, B⟩).L))
section
variable {C L : List Int} {B g next m : Int}
theorem nrm_fac {t : Int} (hF : few18 C L B t = true) (ht : t ≤ 6) {n : Int} (h : lcheck ⟨C, L, B⟩ n = 0) :
    NormC (normP ⟨C, L, B⟩).C (normP ⟨C, L, B⟩).B ∧ (∀ c ∈ (normP ⟨C, L, B⟩).C, c ≤ 255) ∧ (normP ⟨C, L, B⟩).L.length = (normP ⟨C, L, B⟩).C.length ∧ (∀ x ∈ (normP ⟨C, L, B⟩).L, LitB (n + 1) x) ∧ ((normP ⟨C, L, B⟩).C.length : Int) ≤ t := by
  obtain ⟨n1, n2, n3⟩ := norm_nc h
  unfold few18 at hF
  simp only [Bool.and_eq_true, decide_eq_true_eq, List.all_eq_true] at hF
  obtain ⟨⟨f1, f2, f3, f4⟩, f5⟩ := hF
  obtain ⟨h1, h2, h3, h4, h5, h6, h7⟩ := lcheck_ok h
  obtain ⟨e, hc2, hl, hb0, hb1⟩ := norm_small h1 h2 h
  have ha := absG_le (C.zip L) (varsZ L) (inc_varsZ _) (vars_pos fun x hx => (h6 x hx).1)
  have hs := absS_le 20 (C.zip L) (fun q hq => by have := f5 q.1 (List.of_mem_zip hq).1; omega)
  have hz : (C.zip L).length ≤ 6 := by rw [List.length_zip]; omega
  have hm := mins_abs ⟨C, L, B⟩ (varsZ L)
  have hm2 : (minsP ⟨C, L, B⟩ (varsZ L)).natAbs ≤ 120 := by
    have : absG (C.zip L) (varsZ L) ≤ 120 := by omega
    exact Nat.le_trans hm this
  have hB : (normP ⟨C, L, B⟩).B ≤ 255 := by
    rw [e]
    unfold normW
    split
    · show (0 : Int) ≤ 255; decide
    · split
      · show (1 : Int) ≤ 255; decide
      · show B - minsP ⟨C, L, B⟩ (varsZ L) ≤ 255; omega
  have hcan := norm_canon ⟨C, L, B⟩
  refine ⟨n1, fun c hc => by have := hcan.co c hc; omega, n2, fun y hy => ?_, ?_⟩
  · rw [e] at hy
    unfold normW at hy
    split at hy
    · cases hy
    · split at hy
      · cases hy
      · obtain ⟨q, hq, rfl⟩ := List.mem_map.1 hy
        obtain ⟨v, hv, ev⟩ := terms_var hq
        have := vars_le h6 v hv
        rcases ev with ev | ev <;> rw [ev] <;> exact ⟨by omega, by omega⟩
  · have : (normP ⟨C, L, B⟩).C.length ≤ L.length := hl
    omega
theorem val_eq {F : Nat → Bool} {b : List Bool} (h : lcheck ⟨C, L, B⟩ (m - 1) = 0) (hx : ∀ x ∈ (normP ⟨C, L, B⟩).L, LitB m x) (hb : m ≤ b.length) (ha : ∀ i : Nat, 1 ≤ i → (i : Int) < m → F i = b.getD i false) : lvalue ⟨C, L, B⟩ b = valF F C L B := by
  have hup := lcheck_up h
  obtain ⟨_, _, q3, _, _, q6, _⟩ := lcheck_ok h
  have e : normP ⟨C, L, B⟩ = normW ⟨C, L, B⟩ := if_pos hup
  unfold lvalue
  rw [decide_eq_true hup, Bool.true_and, ← norm_equiv (lval b) ⟨C, L, B⟩ q3 (fun y hy => (q6 y hy).1) (fun y hy => lval_neg hy), ← e]
  unfold lholds valF
  rw [lsum_congr fun q hq => ?_]
  have h1 := hx q.2 (List.of_mem_zip hq).2
  unfold lval litF
  rw [decide_eq_true (show q.2.natAbs < b.length by have := h1.2; omega), Bool.true_and, ha q.2.natAbs (by have := h1.1; omega) h1.2]
theorem one_com {t : Int} (hF : few18 C L B t = true) (ht : t ≤ 6) (hck : lcheck ⟨C, L, B⟩ (m - 1) = 0) (hm : m ≤ next) (hnb : next ≤ 60000) (h0 : (oneR C L B g next).2.2 = 0) :
    (next ≤ (oneR C L B g next).2.1 ∧ (oneR C L B g next).2.1 ≤ next + 16 * t) ∧ (∀ c ∈ (oneR C L B g next).1, ∀ x ∈ c, LitB (oneR C L B g next).2.1 x) ∧ (g = 0 ∨ LitB next g) ∧
    (∀ F0 : Nat → Bool, (valF F0 C L B = true ∨ (g ≠ 0 ∧ litF F0 (-g) = true)) → ∃ F, Agr next F F0 ∧ ∀ c ∈ (oneR C L B g next).1, c.any (litF F) = true) ∧
    ∀ F : Nat → Bool, (∀ c ∈ (oneR C L B g next).1, c.any (litF F) = true) → valF F C L B = true ∨ (g ≠ 0 ∧ litF F (-g) = true) := by
  have h0' := h0
  obtain ⟨h1, h2, h3⟩ := one_ok h0
  obtain ⟨n1, n2, n3, n4, n5⟩ := nrm_fac hF ht hck
  have n4' : ∀ x ∈ (normP ⟨C, L, B⟩).L, LitB m x := fun x hx => by have := n4 x hx; rwa [Int.sub_add_cancel] at this
  have hg : g = 0 ∨ LitB next g := by
    by_cases e : g = 0
    · exact .inl e
    · exact .inr ⟨e, by omega⟩
  have hob := one_bd C L B g next
  have hup := hob.2.2.1 h0
  rw [on_ok h1 h2 h3] at h0
  obtain ⟨c1, c2, c3⟩ := enc_com n1 n2 n3 (fun x hx => (n4' x hx).up hm) (by omega) hg (by omega) h0
  rw [← on_ok h1 h2 h3] at c1 c2 c3
  refine ⟨⟨c1.1, by omega⟩, c2, hg, fun F0 h => c3 F0 (h.imp of_decide_eq_true id), fun F hs => ?_⟩
  obtain ⟨A, hA⟩ : ∃ A : Nat, (A : Int) = (oneR C L B g next).2.1 := ⟨(oneR C L B g next).2.1.toNat, by omega⟩
  obtain ⟨b, hb⟩ : ∃ b : List Bool, b = (List.range A).map F := ⟨_, rfl⟩
  have hbl : b.length = A := by rw [hb, List.length_map, List.length_range]
  have hbg : ∀ i, i < b.length → b.getD i false = F i := fun i hi => by
    rw [List.getD_eq_getElem?_getD, List.getElem?_eq_getElem hi]
    show b[i] = _
    simp only [hb]
    rw [List.getElem_map, List.getElem_range]
  have hag : Agr (b.length : Int) (fun i => b.getD i false) F := fun i hi => hbg i (by omega)
  have hAA : (A : Int) ≤ 65537 := by rw [hA]; omega
  have := one_snd (b := b) h0' (by rw [hbl, hA]; exact Int.le_refl _) (fun c hc => by
    have hr : ∀ x ∈ c, LitB (b.length : Int) x := fun x hx => by rw [hbl, hA]; exact c2 c hc x hx
    have e1 : holdsV b c = c.any (litT b) := by
      unfold holdsV
      congr 1
      funext x; exact litV_T b x
    rw [e1, anyT_F rfl (by omega) hr, any_ag hag hr]
    exact hs c hc)
  rcases this with h | h
  · left
    rw [val_eq (F := F) hck n4' (by omega) (fun i _ hi => (hbg i (by omega)).symm)] at h
    exact h
  · right
    refine ⟨h.1, ?_⟩
    rcases hg with e | e
    · exact absurd e h.1
    · have h2 := h.2
      unfold lval at h2
      unfold litF
      rw [Int.natAbs_neg] at h2 ⊢
      have h9 : g.natAbs < b.length := by have := e.2; omega
      rw [decide_eq_true h9, Bool.true_and, hbg _ h9] at h2
      exact h2
end
def knV (a : List Bool) (next after : Int) : List Int := (List.range after.toNat).map fun i : Nat => if 1 ≤ i ∧ (i : Int) < next then (if a.getD i false = true then 1 else 2) else 0
section
variable {a : List Bool} {next after : Int}
theorem knV_len : (knV a next after).length = after.toNat := by unfold knV; rw [List.length_map, List.length_range]
theorem knV_get {i : Nat} (h : i < after.toNat) : (knV a next after).getD i 0 = if 1 ≤ i ∧ (i : Int) < next then (if a.getD i false = true then 1 else 2) else 0 := by
  unfold knV
  rw [List.getD_eq_getElem?_getD, List.getElem?_map, List.getElem?_range h]; rfl
theorem knV_ok : OkA (knV a next after) := fun i => by
  by_cases h : i < after.toNat
  · rw [knV_get h]
    split
    · split <;> omega
    · omega
  · rw [List.getD_eq_getElem?_getD, List.getElem?_eq_none (by rw [knV_len]; omega)]
    exact ⟨Int.le_refl _, by decide⟩
theorem padL_get {n : Int} {i : Nat} (h1 : 1 ≤ i) (h : (i : Int) ≤ n) : (padL a n).getD i false = a.getD i false := by
  unfold padL
  rw [List.getD_eq_getElem?_getD, List.getElem?_map, List.getElem?_range (by omega)]
  simp only [Option.map_some, Option.getD_some]
  rw [decide_eq_true h1, Bool.true_and]
theorem kn_ext {F : Nat → Bool} (h : next ≤ after) : Ext (knV a next after) F ↔ ∀ i : Nat, 1 ≤ i → (i : Int) < next → F i = a.getD i false := by
  constructor
  · intro he i h1 h2
    have := he i h1
    rw [knV_get (by omega), if_pos ⟨h1, h2⟩] at this
    by_cases ha : a.getD i false = true
    · rw [if_pos ha] at this; rw [ha]; exact this.1 rfl
    · rw [if_neg ha] at this
      rw [this.2 rfl]; simpa using ha
  · intro he i h1
    by_cases h2 : i < after.toNat
    · rw [knV_get h2]
      by_cases h3 : 1 ≤ i ∧ (i : Int) < next
      · rw [if_pos h3, he i h3.1 h3.2]
        by_cases ha : a.getD i false = true
        · rw [if_pos ha]; exact ⟨fun _ => ha, fun h => by omega⟩
        · rw [if_neg ha]; exact ⟨fun h => by omega, fun _ => by simpa using ha⟩
      · rw [if_neg h3]; exact ⟨fun h => by omega, fun h => by omega⟩
    · rw [List.getD_eq_getElem?_getD, List.getElem?_eq_none (by rw [knV_len]; omega)]
      exact ⟨fun h => (by cases h), fun h => (by cases h)⟩
theorem okc_rng {N : Int} {cs : List (List Int)} (h : ∀ c ∈ cs, ∀ x ∈ c, LitB N x) : OkC N.toNat cs := fun c hc x hx => ⟨(h c hc x hx).1, by have := (h c hc x hx).2; omega⟩
theorem litW_F {b : List Bool} {x : Int} (h : LitB b.length x) : litW b x = litF (fun i => b.getD i false) x := by
  obtain ⟨h1, h2⟩ := h
  show _ = (b.getD x.natAbs false == decide (0 < x))
  by_cases h0 : x < 0
  · rw [litW_n h0, decide_eq_true (show -x < (b.length : Int) by omega), Bool.true_and, show (-x).toNat = x.natAbs by omega, decide_eq_false (show ¬ 0 < x by omega)]
    cases b.getD x.natAbs false <;> rfl
  · rw [litW_p h0, decide_eq_true (show x > 0 by omega), decide_eq_true (show x < (b.length : Int) by omega), Bool.true_and, Bool.true_and, show x.toNat = x.natAbs by omega]
    cases b.getD x.natAbs false <;> rfl
variable {C L : List Int} {B g : Int}
theorem ext_fin (hF : few18 C L B 6 = true) (hnx : next ≤ 40) (h0 : (oneR C L B g next).2.2 = 0) :
    (1 ≤ next ∧ next ≤ (oneR C L B g next).2.1 ∧ (oneR C L B g next).2.1 ≤ 300) ∧ OkC (oneR C L B g next).2.1.toNat (oneR C L B g next).1 ∧
    satE (oneR C L B g next).1 (knV a next (oneR C L B g next).2.1) = (!((g == 0) || litW (padL a (next - 1)) g) || lvalue ⟨C, L, B⟩ (padL a (next - 1))) := by
  obtain ⟨h1, h2, h3⟩ := one_ok h0
  obtain ⟨c1, c2, c3, c4, c5⟩ := one_com (m := next) hF (Int.le_refl _) h2 (Int.le_refl _) (by omega) h0
  obtain ⟨n1, n2, n3, n4, n5⟩ := nrm_fac hF (Int.le_refl _) h2
  rw [Int.sub_add_cancel] at n4
  have hpl : ((padL a (next - 1)).length : Int) = next := by rw [padL_len]; omega
  have hok := okc_rng c2
  refine ⟨⟨by omega, c1.1, by omega⟩, hok, ?_⟩
  have hag : ∀ {F : Nat → Bool}, Ext (knV a next (oneR C L B g next).2.1) F → ∀ i : Nat, 1 ≤ i → (i : Int) < next → F i = (padL a (next - 1)).getD i false := fun he i q1 q2 => by
    rw [padL_get q1 (by omega)]; exact (kn_ext c1.1).1 he i q1 q2
  rw [Bool.eq_iff_iff, sat_iff knV_ok (by rw [knV_len]; exact hok), Bool.or_eq_true]
  have hguard : ∀ {F : Nat → Bool}, (∀ i : Nat, 1 ≤ i → (i : Int) < next → F i = (padL a (next - 1)).getD i false) → ((g ≠ 0 ∧ litF F (-g) = true) ↔ (!((g == 0) || litW (padL a (next - 1)) g)) = true) := fun {F} hf => by
    rcases c3 with e | e
    · rw [e]; simp
    · have h9 : (g == 0) = false := beq_eq_false_iff_ne.2 e.1
      rw [h9, Bool.false_or, litW_F (by rw [hpl]; exact e), litF_HV F g e.1]
      have : litF F g = litF (fun i => (padL a (next - 1)).getD i false) g := by
        unfold litF
        rw [hf g.natAbs (by have := e.1; omega) e.2]
      rw [this]
      exact ⟨fun h => h.2, fun h => ⟨e.1, h⟩⟩
  constructor
  · rintro ⟨F, he, hs⟩
    have hf := hag he
    rcases c5 F hs with h | h
    · right; rw [val_eq (F := F) h2 n4 (by omega) hf]; exact h
    · left; exact (hguard hf).1 h
  · intro h
    have hf : ∀ i : Nat, 1 ≤ i → (i : Int) < next → (fun i => (padL a (next - 1)).getD i false) i = (padL a (next - 1)).getD i false := fun i _ _ => rfl
    obtain ⟨F, hF1, hF2⟩ := c4 (fun i => (padL a (next - 1)).getD i false) (by
      rcases h with h | h
      · right; exact (hguard hf).2 h
      · left; rw [← val_eq h2 n4 (by omega) hf]; exact h)
    refine ⟨F, (kn_ext c1.1).2 fun i q1 q2 => ?_, hF2⟩
    rw [hF1 i q2]
    exact padL_get q1 (by omega)
end
section
variable {a : List Bool} {next : Int} {l : List (List Int × List Int × Int)}
end
end Go.Proofs.YtkkapbnopmmmjaaGreatDoor.Cn
namespace Go.Proofs.YtkkapbnopmmmjaaGreatDoor.Cn
open Go
def knK (a : List Bool) (after : Int) (n : Nat) : List Int := (List.range after.toNat).map fun j : Nat => if 1 ≤ j ∧ j ≤ n then (if a.getD j false = true then 1 else 2) else 0
section
variable {a : List Bool} {after next : Int} {n : Nat}
theorem knK_len : (knK a after n).length = after.toNat := by unfold knK; rw [List.length_map, List.length_range]
theorem knK_0 {m : Nat} (h : m = after.toNat) : List.replicate m (0 : Int) = knK a after 0 := by
  subst h
  unfold knK
  apply List.ext_getElem (by simp)
  intro j h1 h2
  rw [List.getElem_replicate, List.getElem_map, List.getElem_range, if_neg (by omega)]
theorem knK_set {m : Nat} {y : Int} (hm : m = n + 1) (hy : (if a.getD m false = true then 1 else 2) = y) : (knK a after n).set m y = knK a after (n + 1) := by
  subst hm
  unfold knK
  apply List.ext_getElem (by simp)
  intro j h1 h2
  rw [List.getElem_set, List.getElem_map, List.getElem_map, List.getElem_range]
  by_cases hj : n + 1 = j
  · subst hj
    rw [if_pos rfl, if_pos (show 1 ≤ n + 1 ∧ n + 1 ≤ n + 1 by omega), hy]
  · rw [if_neg hj]
    by_cases h3 : 1 ≤ j ∧ j ≤ n
    · rw [if_pos h3, if_pos (show 1 ≤ j ∧ j ≤ n + 1 by omega)]
    · rw [if_neg h3, if_neg (show ¬ (1 ≤ j ∧ j ≤ n + 1) by omega)]
theorem knK_1 {m : Nat} (hm : m = n + 1) (h : (decide (((n : Int) + 1) < (a.length : Int)) && a.getD m false) = true) : ((knK a after n).set m 2).set m 1 = knK a after (n + 1) := by
  rw [List.set_set]
  rw [Bool.and_eq_true] at h
  exact knK_set hm (if_pos h.2)
theorem knK_2 {m : Nat} (hm : m = n + 1) (h : (decide (((n : Int) + 1) < (a.length : Int)) && a.getD m false) = false) : (knK a after n).set m 2 = knK a after (n + 1) := by
  refine knK_set hm (if_neg fun h9 => ?_)
  rw [Bool.and_eq_false_iff] at h
  rcases h with h | h
  · rw [decide_eq_false_iff_not] at h
    rw [List.getD_eq_getElem?_getD, List.getElem?_eq_none (by omega)] at h9
    cases h9
  · rw [h] at h9; cases h9
theorem knK_fin (hI : n = 0 ∨ (n : Int) < next) (h : ¬ ((n : Int) + 1) < next) : knK a after n = knV a next after := by
  unfold knK knV
  apply List.map_congr_left
  intro j hj
  by_cases h3 : 1 ≤ j ∧ j ≤ n
  · rw [if_pos h3, if_pos (show 1 ≤ j ∧ (j : Int) < next by omega)]
  · rw [if_neg h3, if_neg (show ¬ (1 ≤ j ∧ (j : Int) < next) by omega)]
theorem ft_dead {x n : Int} (h0 : x ≠ 0) (h : x.natAbs < n.toNat) (hd : (((x == 0) || decide (x ≥ n)) || decide (-x ≥ n)) = true) : False := by
  simp only [Bool.or_eq_true, beq_iff_eq, decide_eq_true_eq] at hd
  omega
theorem ex_few {f : Bool} {x : Int} {k : Int} (h : ((!f) || decide (x > k)) = false) : f = true ∧ x ≤ k := by
  rw [Bool.or_eq_false_iff, decide_eq_false_iff_not] at h
  refine ⟨by cases f; cases h.1; rfl, by omega⟩
theorem ex_dead {A N k : Int} (h1 : N ≤ A) (h2 : A ≤ k) (h : ((decide (A < N) || decide (A > k)) || (!true)) = true) : False := by
  simp only [Bool.or_eq_true, decide_eq_true_eq, Bool.not_true] at h
  rcases h with (h | h) | h
  · omega
  · omega
  · cases h
theorem lit_fit {g next : Int} (h : ¬ (next ≤ g ∨ g ≤ -next)) (hn : next ≤ 40) : -9223372036854775807 ≤ g ∧ g ≤ 9223372036854775807 := by omega
end
section
variable {l : List (List Int × List Int × Int)} {next : Int} {i : Nat}
end
end Go.Proofs.YtkkapbnopmmmjaaGreatDoor.Cn
