/- Lemmas and contracts for the row. -/
import Derived.Test.YtbpbndlgfiammaaGreatDoorPkRowProofTidyB
import Derived.MapKept
set_option linter.unusedVariables false
set_option linter.unusedSimpArgs false
set_option linter.unnecessarySimpa false
namespace Go.Proofs.YtbpbndlgfiammaaGreatDoor
open Go.RowKit
def keyIs (k : Int) (e : MapEntry) : Bool := match e.key with | .int .i64 a => a == k | _ => false
def lookM (es : List MapEntry) (k : Int) : Option Value := (es.find? (keyIs k)).map (·.val)
def intKeys (es : List MapEntry) : Prop := ∀ e ∈ es, ∃ a, e.key = .int .i64 a
def MapI (w : World) (m : Nat) (f : Int → Option Value) : Prop := ∃ es clock, w.heap[m]? = some (.map es clock) ∧ intKeys es.toList ∧ ∀ k, lookM es.toList k = f k
def upd (f : Int → Option Value) (k : Int) (v : Value) : Int → Option Value := fun j => if j = k then some v else f j
theorem findNow_spec (k : Int) (q : IntKind) : ∀ (es : List MapEntry) (i0 : Nat), intKeys es →
    (∃ j, ∃ h : j < es.length, es[j].key = .int .i64 k ∧ (∀ j' (h' : j' < j), keyIs k (es[j']'(by omega)) = false) ∧ Instr.findNow (.int q) (.int .i64 k) es i0 = some (some (i0 + j, es[j].val)) ∧ lookM es k = some es[j].val) ∨
    (Instr.findNow (.int q) (.int .i64 k) es i0 = some none ∧ (∀ e ∈ es, keyIs k e = false) ∧ lookM es k = none)
  | [], _, _ => .inr ⟨rfl, by simp, rfl⟩
  | e :: es, i0, hk => by
    obtain ⟨a, ha⟩ := hk e (by simp)
    by_cases hak : a = k
    · subst hak
      refine .inl ⟨0, by simp, ha, fun j' h' => by omega, ?_, ?_⟩
      · simp [Instr.findNow, ha, Instr.sameNow]
      · simp [lookM, keyIs, ha]
    · have hf : keyIs k e = false := by simp [keyIs, ha, hak]
      have hs : Instr.sameNow (.int q) (.int .i64 k) e.key = some false := by
        simp only [ha, Instr.sameNow, if_true]
        congr 1
        simp
        exact fun h => hak h.symm
      rcases findNow_spec k q es (i0 + 1) (fun e he => hk e (by simp [he])) with ⟨j, h, h1, h2, h3, h4⟩ | ⟨h3, h2, h4⟩
      · refine .inl ⟨j + 1, by simpa using h, by simpa using h1, fun j' h' => ?_, ?_, ?_⟩
        · rcases j' with _ | j'
          · simpa using hf
          · simpa using h2 j' (by omega)
        · simp only [Instr.findNow, hs, h3, List.getElem_cons_succ]
          congr 3
          omega
        · simp only [lookM, List.find?_cons, hf] at h4 ⊢
          simpa using h4
      · refine .inr ⟨?_, fun e' he' => ?_, ?_⟩
        · simp only [Instr.findNow, hs, h3]
        · rcases List.mem_cons.1 he' with rfl | he'
          · exact hf
          · exact h2 e' he'
        · simp only [lookM, List.find?_cons, hf] at h4 ⊢
          simpa using h4
section
variable {P : Program} {w : World} {m : Nat} {f : Int → Option Value}
theorem run_key (kt : TypeId) (hkt : P.underlying kt = some (.int .i64)) (em : Bool) (n : Nat) (k : Int) : (Instr.checkKey em (n + 1) kt (.int .i64 k)).run P w = .ok () w := by simp [Instr.checkKey, run_underlying hkt]
theorem run_look (t kt et : TypeId) (z : Value) (ht : P.underlying t = some (.map kt et)) (hkt : P.underlying kt = some (.int .i64)) (hz : ∀ w : World, (zeroValue et).run P w = .ok z w) (h : MapI w m f) (k : Int) :
    (Instr.lookup t (.map (some m)) (.int .i64 k) false).run P w = .ok ((f k).getD z) w := by
  obtain ⟨es, clock, hb, hk, hf⟩ := h
  have hc := fun em : Bool => run_key (P := P) (w := w) kt hkt em 9999 k
  have hg : (getObj m).run P w = .ok (.map es clock) w := by simp [getObj, Sem.run, hb]
  rcases findNow_spec k .i64 es.toList 0 hk with ⟨j, hj, h1, h2, h3, h4⟩ | ⟨h3, h2, h4⟩
  · rw [← hf k, h4]
    simp [Instr.lookup, run_underlying ht, hg, hc, Instr.findKey, run_underlying hkt, h3]
  · rw [← hf k, h4]
    simp [Instr.lookup, run_underlying ht, hg, hc, Instr.findKey, run_underlying hkt, h3, hz]
theorem lookM_modify (es : List MapEntry) (k k' : Int) (v : Value) (j : Nat) (hj : j < es.length) (h1 : es[j].key = .int .i64 k) (h2 : ∀ j' (h' : j' < j), keyIs k (es[j']'(by omega)) = false) :
    lookM (es.modify j fun e => { e with key := .int .i64 k, val := v }) k' = if k' = k then some v else lookM es k' := by
  induction es generalizing j with
  | nil => simp at hj
  | cons e es ih =>
    rcases j with _ | j
    · simp only [List.getElem_cons_zero] at h1
      simp only [List.modify_zero_cons, lookM, List.find?_cons]
      by_cases hk : k' = k
      · subst hk
        simp [keyIs]
      · have e1 : keyIs k' { e with key := .int .i64 k, val := v } = false := by simp [keyIs]; exact fun h => hk h.symm
        have e2 : keyIs k' e = false := by simp [keyIs, h1]; exact fun h => hk h.symm
        simp [e1, e2, hk]
    · have h0 := h2 0 (by omega)
      simp only [List.getElem_cons_zero] at h0
      have := ih j (by simpa using hj) (by simpa using h1) (fun j' h' => by simpa using h2 (j' + 1) (by omega))
      simp only [List.modify_succ_cons, lookM, List.find?_cons] at this ⊢
      by_cases hk : k' = k
      · subst hk
        simp only [h0, if_true] at this ⊢
        exact this
      · rw [if_neg hk] at this ⊢
        cases keyIs k' e
        · exact this
        · rfl
theorem lookM_push (es : List MapEntry) (k k' : Int) (v : Value) (c : Nat) (h2 : ∀ e ∈ es, keyIs k e = false) :
    lookM (es ++ [{ key := .int .i64 k, val := v, born := c }]) k' = if k' = k then some v else lookM es k' := by
  simp only [lookM, List.find?_append]
  by_cases hk : k' = k
  · subst hk
    rw [List.find?_eq_none.2 (fun e he => by simp [h2 e he])]
    simp [keyIs]
  · rw [if_neg hk]
    have : keyIs k' { key := .int .i64 k, val := v, born := c } = false := by simp [keyIs]; exact fun h => hk h.symm
    simp [this]
theorem run_upd (t kt et : TypeId) (ht : P.underlying t = some (.map kt et)) (hkt : P.underlying kt = some (.int .i64)) (h : MapI w m f) (k : Int) (v : Value) :
    ∃ w', (Instr.mapUpdate t (.map (some m)) (.int .i64 k) v).run P w = .ok () w' ∧ MapI w' m (upd f k v) ∧ w.grownBy w' (some m) ∧ w'.heap.size = w.heap.size := by
  obtain ⟨es, clock, hb, hk, hf⟩ := h
  have hc := fun em : Bool => run_key (P := P) (w := w) kt hkt em 9999 k
  have hg : (getObj m).run P w = .ok (.map es clock) w := by simp [getObj, Sem.run, hb]
  have hs : ∀ o : Obj, (setObj m o).run P w = .ok () { w with heap := w.heap.setIfInBounds m o } := fun o => by simp [setObj, Sem.run, hb]
  have hlt : m < w.heap.size := (Array.getElem?_eq_some_iff.1 hb).1
  have hgr : ∀ o : Obj, w.grownBy { w with heap := w.heap.setIfInBounds m o } (some m) := fun o =>
    ⟨rfl, rfl, rfl, by simp, fun j hj hne => by simp only [Array.getElem?_setIfInBounds]; rw [if_neg (fun e => hne (by rw [e]))]⟩
  rcases findNow_spec k .i64 es.toList 0 hk with ⟨j, hj, h1, h2, h3, h4⟩ | ⟨h3, h2, h4⟩
  · have hj' : j < es.size := by simpa using hj
    have hkey : ((es[j]?).map (·.key)).getD (.int .i64 k) = .int .i64 k := by
      rw [Array.getElem?_eq_getElem hj']
      simpa using h1
    refine ⟨{ w with heap := w.heap.setIfInBounds m (.map (es.modify j fun e => { e with key := .int .i64 k, val := v }) clock) }, ?_, ⟨es.modify j fun e => { e with key := .int .i64 k, val := v }, clock, by simp [hlt], ?_, fun k' => ?_⟩, hgr _, by simp⟩
    · simp [Instr.mapUpdate, run_underlying ht, hg, hc, Instr.findKey, run_underlying hkt, h3, hkey, Instr.keyThatStays, Instr.sameBits, hs]
    · intro e he
      simp only [Array.toList_modify] at he
      obtain ⟨i, hi, rfl⟩ := List.mem_iff_getElem.1 he
      rw [List.getElem_modify]
      split
      · exact ⟨k, rfl⟩
      · exact hk _ (List.getElem_mem _)
    · rw [Array.toList_modify, lookM_modify es.toList k k' v j hj h1 h2, upd]
      split
      · rfl
      · exact hf k'
  · refine ⟨{ w with heap := w.heap.setIfInBounds m (.map (es.push { key := .int .i64 k, val := v, born := clock }) (clock + 1)) }, ?_, ⟨es.push { key := .int .i64 k, val := v, born := clock }, clock + 1, by simp [hlt], ?_, fun k' => ?_⟩, hgr _, by simp⟩
    · simp [Instr.mapUpdate, run_underlying ht, hg, hc, Instr.findKey, run_underlying hkt, h3, hs]
    · intro e he
      rw [Array.toList_push, List.mem_append] at he
      rcases he with he | he
      · exact hk e he
      · simp at he; subst he; exact ⟨k, rfl⟩
    · rw [Array.toList_push, lookM_push es.toList k k' v clock h2, upd]
      split
      · rfl
      · exact hf k'
theorem MapI.made (w : World) : MapI (w.alloc (.map #[] 0)) w.heap.size (fun _ => none) := ⟨#[], 0, heap_alloc_new w _, by intro e he; simp at he, fun k => rfl⟩
theorem MapI.lt (h : MapI w m f) : m < w.heap.size := by
  obtain ⟨es, clock, hb, _⟩ := h
  exact (Array.getElem?_eq_some_iff.1 hb).1
theorem MapI.kp {M : Nat → Prop} {w' : World} (h : MapI w m f) (hk : Kp M w w') (hm : ¬ M m) : MapI w' m f := by
  have hlt := h.lt
  obtain ⟨es, clock, hb, h2⟩ := h
  exact ⟨es, clock, (hk.block m hlt hm).trans hb, h2⟩
end
end Go.Proofs.YtbpbndlgfiammaaGreatDoor
namespace Go.Proofs.YtbpbndlgfiammaaGreatDoor
open Go.RowKit
def pairV (e : MapEntry) : Value × Value := (e.key, e.val)
def pv (p : Int × Value) : Value × Value := (.int .i64 p.1, p.2)
def MapV (w : World) (m : Nat) (kvs : List (Int × Value)) : Prop := ∃ es clock, w.heap[m]? = some (.map es clock) ∧ es.toList.map pairV = kvs.map pv ∧ (kvs.map (·.1)).Nodup
def findV (kvs : List (Int × Value)) (k : Int) : Option Value := (kvs.find? fun p => p.1 == k).map (·.2)
theorem pairs_keysV : ∀ {es : List MapEntry} {kvs : List (Int × Value)}, es.map pairV = kvs.map pv → intKeys es
  | [], _, _ => fun e he => by cases he
  | e :: es, [], h => by simp at h
  | e :: es, p :: kvs, h => by
    simp only [List.map_cons, List.cons.injEq] at h
    intro x hx
    rcases List.mem_cons.1 hx with rfl | hx
    · exact ⟨p.1, congrArg Prod.fst h.1⟩
    · exact pairs_keysV h.2 x hx
theorem pairs_lookV : ∀ {es : List MapEntry} {kvs : List (Int × Value)}, es.map pairV = kvs.map pv → ∀ k, lookM es k = findV kvs k
  | [], [], _, k => rfl
  | [], p :: kvs, h, k => by simp at h
  | e :: es, [], h, k => by simp at h
  | e :: es, p :: kvs, h, k => by
    simp only [List.map_cons, List.cons.injEq] at h
    have h1 : e.key = .int .i64 p.1 := congrArg Prod.fst h.1
    have h2 : e.val = p.2 := congrArg Prod.snd h.1
    have ih := pairs_lookV h.2 k
    unfold lookM findV at ih ⊢
    rw [List.find?_cons, List.find?_cons]
    have h3 : keyIs k e = (p.1 == k) := by simp [keyIs, h1]
    rw [h3]
    cases p.1 == k with
    | true => simp [h2]
    | false => exact ih
section
variable {P : Program} {w w' : World} {m : Nat} {kvs : List (Int × Value)}
theorem MapV.mapI (h : MapV w m kvs) : MapI w m (findV kvs) := by
  obtain ⟨es, clock, hb, hp, _⟩ := h
  exact ⟨es, clock, hb, pairs_keysV hp, fun k => pairs_lookV hp k⟩
theorem MapV.lt (h : MapV w m kvs) : m < w.heap.size := by
  obtain ⟨es, clock, hb, _⟩ := h
  exact (Array.getElem?_eq_some_iff.1 hb).1
theorem MapV.keep (h : MapV w m kvs) (hk : w'.heap[m]? = w.heap[m]?) : MapV w' m kvs := by
  obtain ⟨es, clock, hb, h2⟩ := h
  exact ⟨es, clock, hk.trans hb, h2⟩
theorem MapV.made (w : World) : MapV (w.alloc (.map #[] 0)) w.heap.size [] := ⟨#[], 0, heap_alloc_new w _, rfl, List.nodup_nil⟩
theorem MapV.cnt (h : MapV w m kvs) : ∃ es clock, w.heap[m]? = some (.map es clock) ∧ es.size = kvs.length := by
  obtain ⟨es, clock, hb, hp, _⟩ := h
  exact ⟨es, clock, hb, by have := congrArg List.length hp; simpa using this⟩
theorem lookT (t kt et : TypeId) (z : Value) (ht : P.underlying t = some (.map kt et)) (hkt : P.underlying kt = some (.int .i64)) (hz : ∀ w : World, (zeroValue et).run P w = .ok z w) {f : Int → Option Value} (h : MapI w m f) (k : Int) :
    (Instr.lookup t (.map (some m)) (.int .i64 k) true).run P w = .ok (.tuple #[(f k).getD z, .bool (f k).isSome]) w := by
  obtain ⟨es, clock, hb, hk, hf⟩ := h
  have hc := fun em : Bool => run_key (P := P) (w := w) kt hkt em 9999 k
  have hg : (getObj m).run P w = .ok (.map es clock) w := by simp [getObj, Sem.run, hb]
  rcases findNow_spec k .i64 es.toList 0 hk with ⟨j, hj, h1, h2, h3, h4⟩ | ⟨h3, h2, h4⟩
  · rw [← hf k, h4]
    simp [Instr.lookup, run_underlying ht, hg, hc, Instr.findKey, run_underlying hkt, h3]
  · rw [← hf k, h4]
    simp [Instr.lookup, run_underlying ht, hg, hc, Instr.findKey, run_underlying hkt, h3, hz]
theorem run_updV (t kt et : TypeId) (ht : P.underlying t = some (.map kt et)) (hkt : P.underlying kt = some (.int .i64)) (h : MapV w m kvs) (k : Int) (v : Value) (hv : findV kvs k = none ∨ findV kvs k = some v) :
    ∃ o : Obj, (Instr.mapUpdate t (.map (some m)) (.int .i64 k) v).run P w = .ok () { w with heap := w.heap.setIfInBounds m o } ∧ MapV { w with heap := w.heap.setIfInBounds m o } m (if findV kvs k = none then kvs ++ [(k, v)] else kvs) := by
  obtain ⟨es, clock, hb, hp, hnd⟩ := h
  have hk := pairs_keysV hp
  have hc := fun em : Bool => run_key (P := P) (w := w) kt hkt em 9999 k
  have hg : (getObj m).run P w = .ok (.map es clock) w := by simp [getObj, Sem.run, hb]
  have hs : ∀ o : Obj, (setObj m o).run P w = .ok () { w with heap := w.heap.setIfInBounds m o } := fun o => by simp [setObj, Sem.run, hb]
  have hlt : m < w.heap.size := (Array.getElem?_eq_some_iff.1 hb).1
  have hlook := pairs_lookV hp k
  rcases findNow_spec k .i64 es.toList 0 hk with ⟨j, hj, h1, h2, h3, h4⟩ | ⟨h3, h2, h4⟩
  · have hj' : j < es.size := by simpa using hj
    have hkey : ((es[j]?).map (·.key)).getD (.int .i64 k) = .int .i64 k := by
      rw [Array.getElem?_eq_getElem hj']
      simpa using h1
    have hfv : findV kvs k = some es.toList[j].val := hlook.symm.trans h4
    have hval : es.toList[j].val = v := by
      rcases hv with hv | hv
      · rw [hv] at hfv; cases hfv
      · rw [hv] at hfv; exact (Option.some.inj hfv).symm
    refine ⟨.map (es.modify j fun e => { e with key := .int .i64 k, val := v }) clock, ?_, ?_⟩
    · simp [Instr.mapUpdate, run_underlying ht, hg, hc, Instr.findKey, run_underlying hkt, h3, hkey, Instr.keyThatStays, Instr.sameBits, hs]
    · rw [if_neg (by rw [hfv]; exact Option.some_ne_none _)]
      refine ⟨es.modify j fun e => { e with key := .int .i64 k, val := v }, clock, by simp [hlt], ?_, hnd⟩
      rw [← hp, Array.toList_modify]
      apply List.ext_getElem
      · simp
      · intro i a b
        rw [List.getElem_map, List.getElem_map, List.getElem_modify]
        split
        · rename_i hji
          subst hji
          unfold pairV
          rw [h1, hval]
        · rfl
  · have hfv : findV kvs k = none := hlook.symm.trans h4
    refine ⟨.map (es.push { key := .int .i64 k, val := v, born := clock }) (clock + 1), ?_, ?_⟩
    · simp [Instr.mapUpdate, run_underlying ht, hg, hc, Instr.findKey, run_underlying hkt, h3, hs]
    · rw [if_pos hfv]
      refine ⟨es.push { key := .int .i64 k, val := v, born := clock }, clock + 1, by simp [hlt], ?_, ?_⟩
      · rw [Array.toList_push, List.map_append, List.map_append, hp]
        rfl
      · rw [List.map_append, List.nodup_append]
        refine ⟨hnd, by simp, fun x hx y hy => ?_⟩
        rw [List.map_singleton, List.mem_singleton] at hy
        subst hy
        rintro rfl
        obtain ⟨p, hp1, hp2⟩ := List.mem_map.1 hx
        unfold findV at hfv
        rw [Option.map_eq_none_iff, List.find?_eq_none] at hfv
        exact hfv p hp1 (by simpa using hp2)
def setV (ks : List Int) : List (Int × Value) := ks.map fun k => (k, .bool true)
def addK (ks : List Int) (k : Int) : List Int := bif ks.contains k then ks else ks ++ [k]
theorem findV_set : ∀ (ks : List Int) (k : Int), findV (setV ks) k = if ks.contains k then some (.bool true) else none
  | [], k => rfl
  | a :: ks, k => by
    have ih := findV_set ks k
    unfold findV setV at ih ⊢
    rw [List.map_cons, List.find?_cons]
    by_cases h : a = k
    · subst h; simp
    · have h1 : (a == k) = false := by simpa using h
      have h2 : (k == a) = false := by simpa using fun e : k = a => h e.symm
      simp only [h1, List.contains_cons, h2, Bool.false_or]
      exact ih
theorem addK_mem {ks : List Int} {k x : Int} : x ∈ addK ks k ↔ x ∈ ks ∨ x = k := by
  unfold addK
  cases h : ks.contains k with
  | true =>
    have hk : k ∈ ks := List.contains_iff_mem.1 h
    exact ⟨fun h => .inl h, fun h => h.elim id (fun e => e ▸ hk)⟩
  | false => simp
theorem addK_contains (ks : List Int) (k x : Int) : (addK ks k).contains x = (ks.contains x || x == k) := by
  rw [Bool.eq_iff_iff, List.contains_iff_mem, addK_mem, Bool.or_eq_true, List.contains_iff_mem, beq_iff_eq]
theorem addK_len (ks : List Int) (k : Int) : (addK ks k).length ≤ ks.length + 1 := by
  unfold addK
  cases ks.contains k <;> simp
theorem run_updS (t kt et : TypeId) (ht : P.underlying t = some (.map kt et)) (hkt : P.underlying kt = some (.int .i64)) {ks : List Int} (h : MapV w m (setV ks)) (k : Int) :
    ∃ o : Obj, (Instr.mapUpdate t (.map (some m)) (.int .i64 k) (.bool true)).run P w = .ok () { w with heap := w.heap.setIfInBounds m o } ∧ MapV { w with heap := w.heap.setIfInBounds m o } m (setV (addK ks k)) := by
  have hf := findV_set ks k
  obtain ⟨o, h1, h2⟩ := run_updV t kt et ht hkt h k (.bool true) (by rw [hf]; cases ks.contains k <;> simp)
  refine ⟨o, h1, ?_⟩
  unfold addK
  cases hc : ks.contains k with
  | true => rw [hc] at hf; rw [if_neg (by rw [hf]; simp)] at h2; exact h2
  | false =>
    rw [hc] at hf
    rw [if_pos (by rw [hf]; simp)] at h2
    have e : setV ks ++ [(k, Value.bool true)] = setV (ks ++ [k]) := by simp [setV]
    rw [e] at h2
    exact h2
theorem findV_not {ks : List Int} {vs : List Value} {k : Int} (h : k ∉ ks) : findV (ks.zip vs) k = none := by
  unfold findV
  rw [Option.map_eq_none_iff, List.find?_eq_none]
  intro p hp
  have := (List.of_mem_zip hp).1
  simpa using fun e : p.1 = k => h (e ▸ this)
end
end Go.Proofs.YtbpbndlgfiammaaGreatDoor
namespace Go.Proofs.YtbpbndlgfiammaaGreatDoor.Cn
open Go
def opn (t : Int → Bool) (l : List Int) : List Int := l.filter fun x => mayP x 65536 && !t (-x)
def lookV (t : Int → Bool) (l : List Int) : Int × Bool := match opn t l with
  | [] => (0, true)
  | y :: m => if (y :: m).any t = true then (0, false) else if m.all (fun x => x == y) = true then (y, false) else (0, false)
def addT (t : Int → Bool) (y : Int) : Int → Bool := fun z => t z || z == y
inductive Rup (c : List (List Int)) : (Int → Bool) → Prop
  | conf (t : Int → Bool) (l : List Int) : l ∈ c → (lookV t l).2 = true → Rup c t
  | unit (t : Int → Bool) (l : List Int) : l ∈ c → (lookV t l).1 ≠ 0 → Rup c (addT t (lookV t l).1) → Rup c t
theorem opn_mem {t : Int → Bool} {l : List Int} {x : Int} : x ∈ opn t l ↔ x ∈ l ∧ mayP x 65536 = true ∧ t (-x) = false := by
  unfold opn; rw [List.mem_filter]; simp
theorem look_conf {t : Int → Bool} {l : List Int} : (lookV t l).2 = true ↔ ∀ x ∈ l, mayP x 65536 = true → t (-x) = true := by
  unfold lookV
  cases ho : opn t l with
  | nil =>
    refine ⟨fun _ x hx hm => ?_, fun _ => rfl⟩
    cases ht : t (-x) with
    | true => rfl
    | false => have := opn_mem.2 ⟨hx, hm, ht⟩; rw [ho] at this; cases this
  | cons y m =>
    have hy : y ∈ opn t l := by rw [ho]; exact List.mem_cons_self
    obtain ⟨h1, h2, h3⟩ := opn_mem.1 hy
    constructor
    · intro h
      exfalso
      simp only at h
      split at h
      · cases h
      · split at h <;> cases h
    · intro h
      have := h y h1 h2
      rw [h3] at this; cases this
theorem may_ne {x n : Int} (h : mayP x n = true) : x ≠ 0 := (mayP_iff.1 h).1
def UnitV (t : Int → Bool) (l : List Int) (y : Int) : Prop := (y ∈ l ∧ mayP y 65536 = true ∧ t (-y) = false ∧ t y = false) ∧ ∀ x ∈ l, mayP x 65536 = true → t (-x) = true ∨ x = y
theorem look_unit {t : Int → Bool} {l : List Int} (h : (lookV t l).1 ≠ 0) : UnitV t l (lookV t l).1 := by
  unfold lookV at h ⊢
  cases ho : opn t l with
  | nil => rw [ho] at h; exact absurd rfl h
  | cons y m =>
    rw [ho] at h
    have hy : y ∈ opn t l := by rw [ho]; exact List.mem_cons_self
    obtain ⟨h1, h2, h3⟩ := opn_mem.1 hy
    by_cases ha : (y :: m).any t = true
    · simp only [ha, if_true] at h; exact absurd rfl h
    · by_cases hb : m.all (fun x => x == y) = true
      · simp only [ha, hb, if_true, if_false]
        have ha' : ∀ x ∈ y :: m, t x = false := fun x hx => by
          cases ht : t x with
          | false => rfl
          | true => exact absurd (List.any_eq_true.2 ⟨x, hx, ht⟩) ha
        refine ⟨⟨h1, h2, h3, ha' y List.mem_cons_self⟩, fun x hx hm => ?_⟩
        cases ht : t (-x) with
        | true => exact .inl rfl
        | false =>
          have hx2 := opn_mem.2 ⟨hx, hm, ht⟩
          rw [ho] at hx2
          rcases List.mem_cons.1 hx2 with e | e
          · exact .inr e
          · exact .inr (by simpa using (List.all_eq_true.1 hb) x e)
      · simp only [ha, hb, if_false] at h; exact absurd rfl h
theorem unit_look {t : Int → Bool} {l : List Int} {y : Int} (h : UnitV t l y) : lookV t l = (y, false) := by
  obtain ⟨⟨h1, h2, h3, h4⟩, h5⟩ := h
  have hy : y ∈ opn t l := opn_mem.2 ⟨h1, h2, h3⟩
  have hall : ∀ x ∈ opn t l, x = y := fun x hx => by
    obtain ⟨q1, q2, q3⟩ := opn_mem.1 hx
    rcases h5 x q1 q2 with h | h
    · rw [q3] at h; cases h
    · exact h
  unfold lookV
  cases ho : opn t l with
  | nil => rw [ho] at hy; cases hy
  | cons z m =>
    rw [ho] at hall
    have hz : z = y := hall z List.mem_cons_self
    subst hz
    have ha : ¬ (z :: m).any t = true := fun h => by
      obtain ⟨x, hx, ht⟩ := List.any_eq_true.1 h
      rw [hall x hx, h4] at ht; cases ht
    have hb : m.all (fun x => x == z) = true := List.all_eq_true.2 fun x hx => by simpa using hall x (List.mem_cons_of_mem _ hx)
    show (if (z :: m).any t = true then ((0 : Int), false) else if m.all (fun x => x == z) = true then (z, false) else (0, false)) = (z, false)
    rw [if_neg ha, if_pos hb]
theorem look_cases (t : Int → Bool) (l : List Int) : (lookV t l).2 = true ∨ (lookV t l).1 ≠ 0 ∨ lookV t l = (0, false) := by
  cases h2 : (lookV t l).2 with
  | true => exact .inl rfl
  | false =>
    by_cases h1 : (lookV t l).1 = 0
    · exact .inr (.inr (by rw [← h1, ← h2]))
    · exact .inr (.inl h1)
theorem Rup.mono {c : List (List Int)} {t : Int → Bool} (h : Rup c t) : ∀ {c' : List (List Int)} {t' : Int → Bool}, (∀ l ∈ c, ∃ l' ∈ c', ∀ x, x ∈ l ↔ x ∈ l') → (∀ z, t z = true → t' z = true) → Rup c' t' := by
  induction h with
  | conf t l hl hc =>
    intro c' t' hcc ht
    obtain ⟨l', hl', he⟩ := hcc l hl
    exact .conf t' l' hl' (look_conf.2 fun x hx hm => ht _ (look_conf.1 hc x ((he x).2 hx) hm))
  | unit t l hl hy _ ih =>
    intro c' t' hcc ht
    obtain ⟨l', hl', he⟩ := hcc l hl
    obtain ⟨⟨h1, h2, h3, h4⟩, h5⟩ := look_unit hy
    generalize (lookV t l).1 = y at *
    cases hny : t' (-y) with
    | true =>
      refine .conf t' l' hl' (look_conf.2 fun x hx hm => ?_)
      rcases h5 x ((he x).2 hx) hm with h | h
      · exact ht _ h
      · rw [h]; exact hny
    | false =>
      cases hty : t' y with
      | true =>
        refine ih hcc fun z hz => ?_
        simp only [addT, Bool.or_eq_true, beq_iff_eq] at hz
        rcases hz with hz | hz
        · exact ht z hz
        · rw [hz]; exact hty
      | false =>
        have hu : UnitV t' l' y := ⟨⟨(he y).1 h1, h2, hny, hty⟩, fun x hx hm => by
          rcases h5 x ((he x).2 hx) hm with h | h
          · exact .inl (ht _ h)
          · exact .inr h⟩
        have hl := unit_look hu
        refine .unit t' l' hl' (by rw [hl]; exact may_ne h2) (ih hcc fun z hz => ?_)
        rw [hl]
        simp only [addT, Bool.or_eq_true, beq_iff_eq] at hz ⊢
        rcases hz with hz | hz
        · exact .inl (ht z hz)
        · exact .inr hz
theorem Rup.mono_t {c : List (List Int)} {t t' : Int → Bool} (h : Rup c t) (ht : ∀ z, t z = true → t' z = true) : Rup c t' := h.mono (fun l hl => ⟨l, hl, fun _ => Iff.rfl⟩) ht
theorem rup_closed {c : List (List Int)} {t : Int → Bool} (h : ∀ l ∈ c, lookV t l = (0, false)) : ¬ Rup c t := fun hr => by
  cases hr with
  | conf _ l hl hc => rw [h l hl] at hc; cases hc
  | unit _ l hl hy _ => rw [h l hl] at hy; exact hy rfl
def negT (l : List Int) : Int → Bool := fun z => l.any fun x => mayP x 65536 && z == -x
def contra (l : List Int) : Bool := l.any fun x => mayP x 65536 && l.contains (-x)
theorem negT_iff {l : List Int} {z : Int} : negT l z = true ↔ mayP z 65536 = true ∧ -z ∈ l := by
  unfold negT
  rw [List.any_eq_true]
  constructor
  · rintro ⟨x, hx, h⟩
    simp only [Bool.and_eq_true, beq_iff_eq] at h
    obtain ⟨h1, rfl⟩ := h
    rw [mayP_iff] at h1 ⊢
    exact ⟨⟨by omega, by omega, by omega⟩, by rw [Int.neg_neg]; exact hx⟩
  · rintro ⟨h1, h2⟩
    refine ⟨-z, h2, ?_⟩
    simp only [Bool.and_eq_true, beq_iff_eq, Int.neg_neg, and_true]
    rw [mayP_iff] at h1 ⊢
    exact ⟨by omega, by omega, by omega⟩
theorem may_neg {x n : Int} : mayP (-x) n = mayP x n := by
  rw [Bool.eq_iff_iff, mayP_iff, mayP_iff]; constructor <;> rintro ⟨h1, h2, h3⟩ <;> exact ⟨by omega, by omega, by omega⟩
theorem contra_iff {l : List Int} : contra l = true ↔ ∃ x ∈ l, mayP x 65536 = true ∧ -x ∈ l := by
  unfold contra; rw [List.any_eq_true]; simp
def Cons (t : Int → Bool) : Prop := ∀ z, t z = true → t (-z) = false
theorem cons_neg {l : List Int} (h : contra l = false) : Cons (negT l) := fun z hz => by
  cases h2 : negT l (-z) with
  | false => rfl
  | true =>
    have h3 := (negT_iff.1 hz)
    have h4 := (negT_iff.1 h2).2
    rw [Int.neg_neg] at h4
    have := contra_iff.2 ⟨z, h4, h3.1, h3.2⟩
    rw [h] at this; cases this
theorem cons_add {t : Int → Bool} {l : List Int} {y : Int} (h : Cons t) (hu : UnitV t l y) : Cons (addT t y) := fun z hz => by
  obtain ⟨⟨_, h2, h3, h4⟩, _⟩ := hu
  have hy := may_ne h2
  simp only [addT, Bool.or_eq_true, beq_iff_eq] at hz
  simp only [addT, Bool.or_eq_false_iff, beq_eq_false_iff_ne]
  rcases hz with hz | hz
  · refine ⟨h z hz, fun e => ?_⟩
    rw [show z = -y by omega, h3] at hz; cases hz
  · subst hz; exact ⟨h3, by omega⟩
def propV : Nat → List (List Int) → (Int → Bool) → Option Bool
  | 0, _, _ => none
  | n + 1, c, t => if c.any (fun l => (lookV t l).2) = true then some true else match c.find? (fun l => (lookV t l).1 != 0) with
    | none => some false
    | some l => propV n c (addT t (lookV t l).1)
theorem prop_rup : ∀ {n : Nat} {c : List (List Int)} {t : Int → Bool} {b : Bool}, propV n c t = some b → (Rup c t ↔ b = true)
  | 0, _, _, _, h => by cases h
  | n + 1, c, t, b, h => by
    unfold propV at h
    split at h
    · rename_i ha
      cases h
      obtain ⟨l, hl, hc⟩ := List.any_eq_true.1 ha
      exact ⟨fun _ => rfl, fun _ => .conf t l hl hc⟩
    · rename_i ha
      split at h
      · rename_i hf
        cases h
        refine ⟨fun hr => absurd hr (rup_closed fun l hl => ?_), fun h => by cases h⟩
        rcases look_cases t l with h | h | h
        · exact absurd (List.any_eq_true.2 ⟨l, hl, h⟩) ha
        · exact absurd (bne_iff_ne.2 h) (by simpa using (List.find?_eq_none.1 hf) l hl)
        · exact h
      · rename_i l hf
        have hl := List.mem_of_find?_eq_some hf
        have hy : (lookV t l).1 ≠ 0 := bne_iff_ne.1 (List.find?_some (p := fun l => (lookV t l).1 != 0) hf)
        rw [← prop_rup h]
        exact ⟨fun hr => hr.mono_t fun z hz => by simp [addT, hz], fun hr => .unit t l hl hy hr⟩
def satB (t : Int → Bool) (l : List Int) : Bool := l.any fun y => mayP y 65536 && t y
theorem cnt_lt {α : Type} {p q : α → Bool} : ∀ {c : List α}, (∀ x ∈ c, q x = true → p x = true) → (∃ x ∈ c, p x = true ∧ q x = false) → c.countP q < c.countP p
  | [], _, h => by obtain ⟨x, hx, _⟩ := h; cases hx
  | y :: c, hqp, h => by
    have hle : c.countP q ≤ c.countP p := List.countP_mono_left fun x hx h => hqp x (List.mem_cons_of_mem _ hx) h
    rw [List.countP_cons, List.countP_cons]
    obtain ⟨x, hx, h1, h2⟩ := h
    rcases List.mem_cons.1 hx with rfl | hx
    · rw [h1, h2]; simp; omega
    · have := cnt_lt (c := c) (fun x hx h => hqp x (List.mem_cons_of_mem _ hx) h) ⟨x, hx, h1, h2⟩
      have h3 := hqp y List.mem_cons_self
      cases hq : q y <;> cases hp : p y <;> simp_all <;> omega
theorem prop_some : ∀ {n : Nat} {c : List (List Int)} {t : Int → Bool}, Cons t → c.countP (fun l => !satB t l) < n → ∃ b, propV n c t = some b
  | 0, _, _, _, h => absurd h (Nat.not_lt_zero _)
  | n + 1, c, t, hc, h => by
    unfold propV
    split
    · exact ⟨_, rfl⟩
    · split
      · exact ⟨_, rfl⟩
      · rename_i l hf
        have hl := List.mem_of_find?_eq_some hf
        have hy : (lookV t l).1 ≠ 0 := bne_iff_ne.1 (List.find?_some (p := fun l => (lookV t l).1 != 0) hf)
        have hu := look_unit hy
        generalize (lookV t l).1 = y at *
        refine prop_some (cons_add hc hu) (Nat.lt_of_lt_of_le (cnt_lt (fun x _ hx => ?_) ⟨l, hl, ?_, ?_⟩) (Nat.le_of_lt_succ h))
        · simp only [Bool.not_eq_true', satB, List.any_eq_false] at hx ⊢
          intro z hz hzt
          refine hx z hz ?_
          simp only [Bool.and_eq_true] at hzt ⊢
          exact ⟨hzt.1, by simp [addT, hzt.2]⟩
        · simp only [Bool.not_eq_true', satB, List.any_eq_false]
          intro z hz hzt
          simp only [Bool.and_eq_true] at hzt
          rcases hu.2 z hz hzt.1 with h1 | h1
          · rw [hc z hzt.2] at h1; cases h1
          · rw [h1, hu.1.2.2.2] at hzt; cases hzt.2
        · simp only [Bool.not_eq_false', satB, List.any_eq_true]
          exact ⟨y, hu.1.1, by simp [hu.1.2.1, addT]⟩
def flwV (c : List (List Int)) (l : List Int) : Bool := contra l || (propV (c.length + 1) c (negT l) == some true)
theorem prop_neg {c : List (List Int)} {l : List Int} (h : contra l = false) : ∃ b, propV (c.length + 1) c (negT l) = some b := prop_some (cons_neg h) (Nat.lt_succ_of_le List.countP_le_length)
theorem flw_c {c : List (List Int)} {l : List Int} (h : contra l = true) : flwV c l = true := by unfold flwV; rw [h]; rfl
theorem flw_t {c : List (List Int)} {l : List Int} (h : Rup c (negT l)) : flwV c l = true := by
  cases hc : contra l with
  | true => exact flw_c hc
  | false =>
    obtain ⟨b, hb⟩ := prop_neg (c := c) hc
    unfold flwV
    rw [hb, (prop_rup hb).1 h]
    simp
theorem flw_f {c : List (List Int)} {l : List Int} (h : contra l = false) (hr : ¬ Rup c (negT l)) : flwV c l = false := by
  obtain ⟨b, hb⟩ := prop_neg (c := c) h
  unfold flwV
  rw [h, hb]
  cases b with
  | true => exact absurd ((prop_rup hb).2 rfl) hr
  | false => rfl
theorem look_sat {t : Int → Bool} {l : List Int} (hc : Cons t) {y : Int} (hy : y ∈ l) (hm : mayP y 65536 = true) (ht : t y = true) : lookV t l = (0, false) := by
  rcases look_cases t l with h | h | h
  · have := look_conf.1 h y hy hm
    rw [hc y ht] at this; cases this
  · obtain ⟨⟨h1, h2, h3, h4⟩, h5⟩ := look_unit h
    rcases h5 y hy hm with h6 | h6
    · rw [hc y ht] at h6; cases h6
    · rw [← h6, ht] at h4; cases h4
  · exact h
end Go.Proofs.YtbpbndlgfiammaaGreatDoor.Cn
namespace Go.Proofs.YtbpbndlgfiammaaGreatDoor.Cn
open Go
theorem ntT {e : Bool} (h : (!e) = true) : e = false := by cases e <;> simp_all
theorem ntF {e : Bool} (h : (!e) = false) : e = true := by cases e <;> simp_all
def hasK (ks : List Int) : Int → Bool := fun z => ks.contains z
theorem has_add (ks : List Int) (y : Int) : hasK (addK ks y) = addT (hasK ks) y := funext fun z => addK_contains ks y z
def stepO (t : Int → Bool) (s : List Int × Int) (x : Int) : List Int × Int := bif mayP x 65536 && !t (-x) then (addK s.1 x, x) else s
def lkS (t : Int → Bool) (l : List Int) : List Int × Int := l.foldl (stepO t) ([], 0)
theorem lk_next {t : Int → Bool} {l : List Int} {i : Nat} (h : i < l.length) : lkS t (l.take (i + 1)) = stepO t (lkS t (l.take i)) (l.getD i 0) := by
  unfold lkS; rw [take_sD (d := 0) h, List.foldl_append]; rfl
theorem lk_skip {t : Int → Bool} {l : List Int} {i : Nat} (h : i < l.length) (hs : ((!(mayP (l.getD i 0) 65536)) || t (-(l.getD i 0))) = true) : lkS t (l.take (i + 1)) = lkS t (l.take i) := by
  rw [lk_next h]; unfold stepO
  have : (mayP (l.getD i 0) 65536 && !t (-(l.getD i 0))) = false := by
    cases h1 : mayP (l.getD i 0) 65536 <;> cases h2 : t (-(l.getD i 0)) <;> simp_all
  rw [this]; rfl
theorem lk_add {t : Int → Bool} {l : List Int} {i : Nat} (h : i < l.length) (hs : ((!(mayP (l.getD i 0) 65536)) || t (-(l.getD i 0))) = false) : lkS t (l.take (i + 1)) = (addK (lkS t (l.take i)).1 (l.getD i 0), l.getD i 0) := by
  rw [lk_next h]; unfold stepO
  have : (mayP (l.getD i 0) 65536 && !t (-(l.getD i 0))) = true := by
    cases h1 : mayP (l.getD i 0) 65536 <;> cases h2 : t (-(l.getD i 0)) <;> simp_all
  rw [this]; rfl
theorem lk_len (t : Int → Bool) : ∀ (l : List Int) (s : List Int × Int), (l.foldl (stepO t) s).1.length ≤ s.1.length + l.length
  | [], s => by simp
  | x :: l, s => by
    rw [List.foldl_cons]
    have h1 := lk_len t l (stepO t s x)
    have h2 : (stepO t s x).1.length ≤ s.1.length + 1 := by
      unfold stepO
      cases (mayP x 65536 && !t (-x)) with
      | true => exact addK_len _ _
      | false => exact Nat.le_succ _
    simp only [List.length_cons]; omega
theorem lkS_len (t : Int → Bool) (l : List Int) (i : Nat) : (lkS t (l.take i)).1.length ≤ l.length := by
  have := lk_len t (l.take i) ([], 0)
  have h2 : (l.take i).length ≤ l.length := by rw [List.length_take]; omega
  unfold lkS; simp only [List.length_nil] at this; omega
theorem lk_mem (t : Int → Bool) : ∀ (l : List Int) (s : List Int × Int), (∀ x, x ∈ (l.foldl (stepO t) s).1 ↔ x ∈ s.1 ∨ x ∈ opn t l) ∧ ((l.foldl (stepO t) s).2 = s.2 ∧ opn t l = [] ∨ (l.foldl (stepO t) s).2 ∈ opn t l)
  | [], s => ⟨fun x => by simp [opn], .inl ⟨rfl, rfl⟩⟩
  | y :: l, s => by
    rw [List.foldl_cons]
    obtain ⟨h1, h2⟩ := lk_mem t l (stepO t s y)
    have ho : opn t (y :: l) = if (mayP y 65536 && !t (-y)) = true then y :: opn t l else opn t l := by unfold opn; rw [List.filter_cons]
    cases hb : (mayP y 65536 && !t (-y)) with
    | true =>
      have hs : stepO t s y = (addK s.1 y, y) := by unfold stepO; rw [hb]; rfl
      rw [hs] at h1 h2 ⊢
      rw [ho, if_pos hb]
      refine ⟨fun x => ?_, ?_⟩
      · rw [h1 x, addK_mem, List.mem_cons, or_assoc]
      · rcases h2 with ⟨h2, _⟩ | h2
        · right; rw [h2]; exact List.mem_cons_self
        · right; exact List.mem_cons_of_mem _ h2
    | false =>
      have hs : stepO t s y = s := by unfold stepO; rw [hb]; rfl
      rw [hs] at h1 h2 ⊢
      rw [ho, if_neg (by rw [hb]; simp)]
      exact ⟨h1, h2⟩
theorem addK_nd {ks : List Int} {k : Int} (h : ks.Nodup) : (addK ks k).Nodup := by
  unfold addK
  cases hk : ks.contains k with
  | true => exact h
  | false =>
    have hk' : k ∉ ks := fun e => by rw [List.contains_iff_mem.2 e] at hk; cases hk
    show (ks ++ [k]).Nodup
    rw [List.nodup_append]
    exact ⟨h, by simp, fun x hx y hy => by rw [List.mem_singleton.1 hy]; exact fun e => hk' (e ▸ hx)⟩
theorem lk_nd (t : Int → Bool) : ∀ (l : List Int) (s : List Int × Int), s.1.Nodup → (l.foldl (stepO t) s).1.Nodup
  | [], s, h => h
  | x :: l, s, h => by
    rw [List.foldl_cons]
    refine lk_nd t l _ ?_
    unfold stepO
    cases (mayP x 65536 && !t (-x)) with
    | true => exact addK_nd h
    | false => exact h
def noT (t : Int → Bool) (l : List Int) : Prop := ∀ x ∈ opn t l, t x = false
theorem noT_skip {t : Int → Bool} {l : List Int} {i : Nat} (h : i < l.length) (hs : ((!(mayP (l.getD i 0) 65536)) || t (-(l.getD i 0))) = true) (hn : noT t (l.take i)) : noT t (l.take (i + 1)) := fun x hx => by
  obtain ⟨h1, h2, h3⟩ := opn_mem.1 hx
  rw [take_sD (d := 0) h] at h1
  rcases List.mem_append.1 h1 with h1 | h1
  · exact hn x (opn_mem.2 ⟨h1, h2, h3⟩)
  · rw [List.mem_singleton.1 h1] at h2 h3; rw [h2, h3] at hs; cases hs
theorem noT_add {t : Int → Bool} {l : List Int} {i : Nat} (h : i < l.length) (hs : t (l.getD i 0) = false) (hn : noT t (l.take i)) : noT t (l.take (i + 1)) := fun x hx => by
  obtain ⟨h1, h2, h3⟩ := opn_mem.1 hx
  rw [take_sD (d := 0) h] at h1
  rcases List.mem_append.1 h1 with h1 | h1
  · exact hn x (opn_mem.2 ⟨h1, h2, h3⟩)
  · rw [List.mem_singleton.1 h1]; exact hs
theorem noT_0 (t : Int → Bool) (l : List Int) : noT t (l.take 0) := fun x hx => by simp [opn] at hx
theorem look_true {t : Int → Bool} {l : List Int} {i : Nat} (h : i < l.length) (hs : ((!(mayP (l.getD i 0) 65536)) || t (-(l.getD i 0))) = false) (ht : t (l.getD i 0) = true) : lookV t l = (0, false) := by
  have hm : mayP (l.getD i 0) 65536 = true ∧ t (-(l.getD i 0)) = false := by
    cases h1 : mayP (l.getD i 0) 65536 <;> cases h2 : t (-(l.getD i 0)) <;> simp_all
  have hx : l.getD i 0 ∈ opn t l := opn_mem.2 ⟨getD_memL h, hm.1, hm.2⟩
  unfold lookV
  cases ho : opn t l with
  | nil => rw [ho] at hx; cases hx
  | cons y m =>
    show (if (y :: m).any t = true then ((0 : Int), false) else _) = _
    rw [if_pos (List.any_eq_true.2 ⟨_, by rw [← ho]; exact hx, ht⟩)]
section
variable {t : Int → Bool} {l : List Int} {i : Nat} (hi : i = l.length) (hn : noT t (l.take i))
include hi hn
theorem look_0 (h : ((lkS t (l.take i)).1.length : Int) = 0) : lookV t l = (0, true) := by
  subst hi
  rw [List.take_length] at hn h
  have hm := (lk_mem t l ([], 0)).1
  have h0 : (lkS t l).1 = [] := List.eq_nil_of_length_eq_zero (by omega)
  unfold lkS at h0
  unfold lookV
  cases ho : opn t l with
  | nil => rfl
  | cons y m =>
    have := (hm y).2 (.inr (by rw [ho]; exact List.mem_cons_self))
    rw [h0] at this; cases this
theorem look_1 (h : ((lkS t (l.take i)).1.length : Int) = 1) : lookV t l = ((lkS t (l.take i)).2, false) := by
  subst hi
  rw [List.take_length] at hn h ⊢
  obtain ⟨hm, h2⟩ := lk_mem t l ([], 0)
  have hl : (lkS t l).1.length = 1 := by omega
  obtain ⟨z, hz⟩ := List.length_eq_one_iff.1 hl
  have hz' : (l.foldl (stepO t) ([], 0)).1 = [z] := hz
  have hall : ∀ x ∈ opn t l, x = z := fun x hx => by
    have := (hm x).2 (.inr hx)
    rw [hz'] at this
    exact List.mem_singleton.1 this
  have hzo : z ∈ opn t l := by
    have := (hm z).1 (by rw [hz']; exact List.mem_singleton.2 rfl)
    rcases this with h | h
    · cases h
    · exact h
  have h3 : (lkS t l).2 = z := by
    rcases h2 with ⟨_, h2⟩ | h2
    · rw [h2] at hzo; cases hzo
    · exact hall _ h2
  rw [h3]
  obtain ⟨q1, q2, q3⟩ := opn_mem.1 hzo
  refine unit_look ⟨⟨q1, q2, q3, hn z hzo⟩, fun x hx hmx => ?_⟩
  cases ht : t (-x) with
  | true => exact .inl rfl
  | false => exact .inr (hall x (opn_mem.2 ⟨hx, hmx, ht⟩))
theorem look_2 (h0 : ¬ ((lkS t (l.take i)).1.length : Int) = 0) (h1 : ¬ ((lkS t (l.take i)).1.length : Int) = 1) : lookV t l = (0, false) := by
  subst hi
  rw [List.take_length] at hn h0 h1
  obtain ⟨hm, _⟩ := lk_mem t l ([], 0)
  have hnd : (lkS t l).1.Nodup := lk_nd t l ([], 0) List.nodup_nil
  have hex : ∃ a b, a ∈ (lkS t l).1 ∧ b ∈ (lkS t l).1 ∧ a ≠ b := by
    match hq : (lkS t l).1, hnd with
    | [], _ => rw [hq] at h0; exact absurd rfl h0
    | [a], _ => rw [hq] at h1; exact absurd rfl h1
    | a :: b :: m, hnd =>
      refine ⟨a, b, by simp, by simp, fun e => ?_⟩
      have := (List.nodup_cons.1 hnd).1
      exact this (by rw [e]; exact List.mem_cons_self)
  obtain ⟨a, b, ha, hb, hab⟩ := hex
  have hao : a ∈ opn t l := ((hm a).1 ha).elim (fun h => by cases h) id
  have hbo : b ∈ opn t l := ((hm b).1 hb).elim (fun h => by cases h) id
  rcases look_cases t l with h | h | h
  · obtain ⟨q1, q2, q3⟩ := opn_mem.1 hao
    have := look_conf.1 h a q1 q2
    rw [q3] at this; cases this
  · obtain ⟨_, h5⟩ := look_unit h
    obtain ⟨q1, q2, q3⟩ := opn_mem.1 hao
    obtain ⟨r1, r2, r3⟩ := opn_mem.1 hbo
    have e1 := h5 a q1 q2
    have e2 := h5 b r1 r2
    rw [q3] at e1
    rw [r3] at e2
    exact absurd ((e1.resolve_left (by simp)).trans (e2.resolve_left (by simp)).symm) hab
  · exact h
end
def iniK (l : List Int) : List Int := l.foldl (fun ks x => bif mayP x 65536 then addK ks (-x) else ks) []
theorem ini_next {l : List Int} {i : Nat} (h : i < l.length) : iniK (l.take (i + 1)) = bif mayP (l.getD i 0) 65536 then addK (iniK (l.take i)) (-(l.getD i 0)) else iniK (l.take i) := by
  unfold iniK; rw [take_sD (d := 0) h, List.foldl_append]; rfl
theorem ini_skip {l : List Int} {i : Nat} (h : i < l.length) (hm : mayP (l.getD i 0) 65536 = false) : iniK (l.take (i + 1)) = iniK (l.take i) := by rw [ini_next h, hm]; rfl
theorem ini_add {l : List Int} {i : Nat} (h : i < l.length) (hm : mayP (l.getD i 0) 65536 = true) : iniK (l.take (i + 1)) = addK (iniK (l.take i)) (-(l.getD i 0)) := by rw [ini_next h, hm]; rfl
theorem ini_has : ∀ l : List Int, hasK (iniK l) = negT l := fun l => by
  have key : ∀ (l ks : List Int) (z : Int), (l.foldl (fun ks x => bif mayP x 65536 then addK ks (-x) else ks) ks).contains z = (ks.contains z || negT l z) := by
    intro l
    induction l with
    | nil => intro ks z; simp [negT]
    | cons x l ih =>
      intro ks z
      rw [List.foldl_cons, ih]
      have hn : negT (x :: l) z = ((mayP x 65536 && z == -x) || negT l z) := by simp [negT]
      rw [hn]
      cases mayP x 65536 with
      | true => simp only [cond_true, addK_contains, Bool.true_and, Bool.or_assoc]
      | false => simp
  funext z
  have := key l [] z
  unfold hasK iniK
  rw [this]; simp
theorem contra_hit {l : List Int} {i : Nat} (h : i < l.length) (hm : mayP (l.getD i 0) 65536 = true) (hc : (addK (iniK (l.take i)) (-(l.getD i 0))).contains (l.getD i 0) = true) : contra l = true := by
  rw [addK_contains] at hc
  have h0 := may_ne hm
  have h1 : (iniK (l.take i)).contains (l.getD i 0) = true := by
    cases h2 : (iniK (l.take i)).contains (l.getD i 0) with
    | true => rfl
    | false => rw [h2] at hc; simp only [Bool.false_or, beq_iff_eq] at hc; omega
  have h2 : negT (l.take i) (l.getD i 0) = true := by rw [← ini_has]; exact h1
  obtain ⟨_, h3⟩ := negT_iff.1 h2
  exact contra_iff.2 ⟨l.getD i 0, getD_memL h, hm, List.mem_of_mem_take h3⟩
theorem contra_skip {l : List Int} {i : Nat} (h : i < l.length) (hm : mayP (l.getD i 0) 65536 = false) (hc : contra (l.take i) = false) : contra (l.take (i + 1)) = false := by
  cases h2 : contra (l.take (i + 1)) with
  | false => rfl
  | true =>
    obtain ⟨x, h3, h4, h5⟩ := contra_iff.1 h2
    rw [take_sD (d := 0) h] at h3 h5
    have hne : ∀ y, mayP y 65536 = true → y ∈ l.take i ++ [l.getD i 0] → y ∈ l.take i := fun y hy hm2 => by
      rcases List.mem_append.1 hm2 with q | q
      · exact q
      · rw [List.mem_singleton.1 q, hm] at hy; cases hy
    have := contra_iff.2 ⟨x, hne x h4 h3, h4, hne (-x) (by rw [may_neg]; exact h4) h5⟩
    rw [this] at hc; cases hc
theorem contra_add {l : List Int} {i : Nat} (h : i < l.length) (hm : mayP (l.getD i 0) 65536 = true) (hq : (addK (iniK (l.take i)) (-(l.getD i 0))).contains (l.getD i 0) = false) (hc : contra (l.take i) = false) : contra (l.take (i + 1)) = false := by
  cases h2 : contra (l.take (i + 1)) with
  | false => rfl
  | true =>
    obtain ⟨x, h3, h4, h5⟩ := contra_iff.1 h2
    rw [take_sD (d := 0) h] at h3 h5
    rw [addK_contains, Bool.or_eq_false_iff] at hq
    have hno : negT (l.take i) (l.getD i 0) = false := by rw [← ini_has]; exact hq.1
    have hno' : ∀ y, y ∈ l.take i → y ≠ -(l.getD i 0) := fun y hy e => by
      have := negT_iff.2 ⟨hm, by rw [← e]; exact hy⟩
      rw [hno] at this; cases this
    exfalso
    have h0 := may_ne hm
    rcases List.mem_append.1 h3 with q | q <;> rcases List.mem_append.1 h5 with r | r
    · have := contra_iff.2 ⟨x, q, h4, r⟩
      rw [this] at hc; cases hc
    · have := List.mem_singleton.1 r
      exact hno' x q (by omega)
    · have := List.mem_singleton.1 q
      exact hno' (-x) r (by omega)
    · have := List.mem_singleton.1 q
      have := List.mem_singleton.1 r
      omega
def StepI (c : List (List Int)) (l : List Int) (lf : List (List Int)) (ks : List Int) : Prop :=
  lf.length ≤ c.length ∧ (∀ x ∈ lf, x ∈ c) ∧ Cons (hasK ks) ∧ (∀ z, negT l z = true → hasK ks z = true) ∧ (∀ x ∈ c, x ∈ lf ∨ ∃ y ∈ x, mayP y 65536 = true ∧ hasK ks y = true) ∧ (Rup c (hasK ks) → Rup c (negT l))
theorem step_init {c : List (List Int)} {l : List Int} (h : contra l = false) : StepI c l c (iniK l) := by
  have e := ini_has l
  exact ⟨Nat.le_refl _, fun _ h => h, by rw [e]; exact cons_neg h, fun z hz => by rw [e]; exact hz, fun x hx => .inl hx, fun hr => by rw [e] at hr; exact hr⟩
theorem mem_del {lf : List (List Int)} {i : Nat} {x : List Int} (hi : i < lf.length) (hx : x ∈ lf) : x ∈ lf.take i ++ lf.drop (i + 1) ∨ x = lf.getD i [] := by
  have e : lf = lf.take i ++ lf.getD i [] :: lf.drop (i + 1) := by
    rw [List.getD_eq_getElem?_getD, List.getElem?_eq_getElem hi]
    simp
  rw [e] at hx
  rcases List.mem_append.1 hx with h | h
  · exact .inl (List.mem_append_left _ h)
  · rcases List.mem_cons.1 h with h | h
    · exact .inr h
    · exact .inl (List.mem_append_right _ h)
theorem step_next {c : List (List Int)} {l : List Int} {lf : List (List Int)} {ks : List Int} {i : Nat} (h : StepI c l lf ks) (hi : i < lf.length) (hy : (lookV (hasK ks) (lf.getD i [])).1 ≠ 0) : StepI c l (lf.take i ++ lf.drop (i + 1)) (addK ks (lookV (hasK ks) (lf.getD i [])).1) := by
  obtain ⟨h1, h2, h3, h4, h5, h6⟩ := h
  have hu := look_unit hy
  have hmem : lf.getD i [] ∈ c := h2 _ (getD_memL hi)
  refine ⟨by simp; omega, fun x hx => ?_, ?_, fun z hz => ?_, fun x hx => ?_, fun hr => ?_⟩
  · rcases List.mem_append.1 hx with q | q
    · exact h2 x (List.mem_of_mem_take q)
    · exact h2 x (List.mem_of_mem_drop q)
  · rw [has_add]; exact cons_add h3 hu
  · rw [has_add]; simp [addT, h4 z hz]
  · rcases h5 x hx with q | ⟨y, q1, q2, q3⟩
    · rcases mem_del hi q with q | q
      · exact .inl q
      · refine .inr ⟨_, by rw [q]; exact hu.1.1, hu.1.2.1, ?_⟩
        rw [has_add]; simp [addT]
    · exact .inr ⟨y, q1, q2, by rw [has_add]; simp [addT, q3]⟩
  · rw [has_add] at hr
    exact h6 (.unit _ _ hmem hy hr)
theorem step_true {c : List (List Int)} {l : List Int} {lf : List (List Int)} {ks : List Int} {i : Nat} (h : StepI c l lf ks) (hi : i < lf.length) (hq : (lookV (hasK ks) (lf.getD i [])).2 = true) : flwV c l = true :=
  flw_t (h.2.2.2.2.2 (.conf _ _ (h.2.1 _ (getD_memL hi)) hq))
theorem step_false {c : List (List Int)} {l : List Int} {lf : List (List Int)} {ks : List Int} (h : StepI c l lf ks) (hc : contra l = false) (hq : ∀ j, j < lf.length → lookV (hasK ks) (lf.getD j []) = (0, false)) : flwV c l = false := by
  obtain ⟨h1, h2, h3, h4, h5, h6⟩ := h
  refine flw_f hc fun hr => rup_closed (fun x hx => ?_) (hr.mono_t h4)
  rcases h5 x hx with q | ⟨y, q1, q2, q3⟩
  · obtain ⟨j, hj, rfl⟩ := List.mem_iff_getElem.1 q
    have := hq j hj
    rwa [List.getD_eq_getElem?_getD, List.getElem?_eq_getElem hj] at this
  · exact look_sat h3 q1 q2 q3
theorem look_next {ks : List Int} {lf : List (List Int)} {i : Nat} (hok : ∀ j, j < i → lookV (hasK ks) (lf.getD j []) = (0, false)) (h2 : (lookV (hasK ks) (lf.getD i [])).2 = false) (h1 : (lookV (hasK ks) (lf.getD i [])).1 = 0) : ∀ j, j < i + 1 → lookV (hasK ks) (lf.getD j []) = (0, false) := fun j hj => by
  rcases Nat.lt_succ_iff_lt_or_eq.1 hj with h | rfl
  · exact hok j h
  · rw [← h1, ← h2]
theorem mayN {x : Int} (h : (!(!(mayP x 65536))) = true) : -9223372036854775808 ≤ -x ∧ -x ≤ 9223372036854775807 := by
  rw [Bool.not_not, mayP_iff] at h; omega
end Go.Proofs.YtbpbndlgfiammaaGreatDoor.Cn
namespace Go.Proofs.YtbpbndlgfiammaaGreatDoor.Cn
open Go
def alikeB (a b : List Int) : Bool := a.all (fun x => b.contains x) && b.all fun x => a.contains x
theorem alike_iff {a b : List Int} : alikeB a b = true ↔ ∀ x, x ∈ a ↔ x ∈ b := by
  unfold alikeB
  simp only [Bool.and_eq_true, List.all_eq_true, List.contains_iff_mem]
  exact ⟨fun h x => ⟨h.1 x, h.2 x⟩, fun h => ⟨fun x hx => (h x).1 hx, fun x hx => (h x).2 hx⟩⟩
def lineOk (x : Int × List Int) : Bool := decide (1 ≤ x.1) && decide (x.1 ≤ 3) && x.2.all fun y => mayP y 65536
def frmV (p : List (Int × List Int)) : Int := if 65536 < p.length then 2 else if p.all lineOk = true then 0 else 1
def coreOk (N : Int) (core : List Int) : Bool := (List.range core.length).all fun i => mayP (core.getD i 0) N && (!(core.take i).contains (core.getD i 0) && !(core.take i).contains (-(core.getD i 0)))
def runC (L : List (List Int)) : List (List Int) → List (Int × List Int) → Option (List (List Int))
  | cs, [] => some cs
  | cs, x :: p =>
    if x.1 = 1 then (if L.any (fun y => alikeB y x.2) = true then runC L (cs ++ [x.2]) p else none)
    else if x.1 = 2 then (if flwV cs x.2 = true then runC L (cs ++ [x.2]) p else none)
    else if 0 ≤ idxF (fun y => alikeB y x.2) cs then runC L (cs.eraseIdx (idxF (fun y => alikeB y x.2) cs).toNat) p else none
def endC (core : List Int) : Option (List (List Int)) → Int
  | none => 250
  | some cs => if flwV cs (core.map fun x => -x) = true then 0 else 250
def chkC (N : Int) (L : List (List Int)) (p : List (Int × List Int)) (core : List Int) : Int :=
  if chkV N L ≠ 0 then chkV N L else if frmV p ≠ 0 then frmV p else if coreOk N core = false then 1 else endC core (runC L [] p)
theorem run_app {L : List (List Int)} : ∀ {p q : List (Int × List Int)} {cs : List (List Int)}, runC L cs (p ++ q) = (runC L cs p).bind fun ds => runC L ds q
  | [], q, cs => rfl
  | x :: p, q, cs => by
    rw [List.cons_append, runC, runC]
    split
    · split
      · exact run_app
      · rfl
    · split
      · split
        · exact run_app
        · rfl
      · split
        · exact run_app
        · rfl
theorem frm_ok {p : List (Int × List Int)} : frmV p = 0 ↔ p.length ≤ 65536 ∧ p.all lineOk = true := by
  unfold frmV
  by_cases h1 : 65536 < p.length
  · rw [if_pos h1]; exact ⟨fun h => by omega, fun h => by omega⟩
  · rw [if_neg h1]
    by_cases h2 : p.all lineOk = true
    · rw [if_pos h2]; exact ⟨fun _ => ⟨by omega, h2⟩, fun _ => rfl⟩
    · rw [if_neg h2]; exact ⟨fun h => by omega, fun h => absurd h.2 h2⟩
theorem not_any_all {α : Type} {p : α → Bool} (l : List α) : (!(l.any fun x => !p x)) = l.all p := by
  induction l with
  | nil => rfl
  | cons x l ih => rw [List.any_cons, List.all_cons, ← ih]; cases p x <;> simp
theorem right_is (k : Int) (l : List Int) : (((decide (k ≥ 1)) && (decide (k ≤ 3))) && (!(l.any (fun x => !(mayP x 65536))))) = lineOk (k, l) := by
  unfold lineOk; rw [not_any_all]
theorem frm_2 {p : List (Int × List Int)} (h : (p.length : Int) > 65536) : frmV p = 2 := by unfold frmV; rw [if_pos (by omega)]
theorem frm_1 {p : List (Int × List Int)} (h : ¬ (p.length : Int) > 65536) (hq : (p.any fun x => !(lineOk x)) = true) : frmV p = 1 := by
  unfold frmV; rw [if_neg (by omega), ← not_any_all, hq]; rfl
theorem frm_0 {p : List (Int × List Int)} (h : ¬ (p.length : Int) > 65536) (hq : (p.any fun x => !(lineOk x)) = false) : frmV p = 0 := by
  unfold frmV; rw [if_neg (by omega), ← not_any_all, hq]; rfl
end Go.Proofs.YtbpbndlgfiammaaGreatDoor.Cn
