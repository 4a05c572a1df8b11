/- Maps keyed by ints as functions: what a look-up reads and what a store leaves, for every such map. -/
import Derived.Test.YtbpbndlgfiammaaGreatDoorMem
import Derived.MapKept
namespace Go.Proofs.YtbpbndlgfiammaaGreatDoor
open Go.RowKit

def keyIs (k : Int) (e : MapEntry) : Bool := match e.key with | .int .i64 a => a == k | _ => false
def lookM (es : List MapEntry) (k : Int) : Option Value := (es.find? (keyIs k)).map (·.val)
def intKeys (es : List MapEntry) : Prop := ∀ e ∈ es, ∃ a, e.key = .int .i64 a
/-- block m is a map from ints that reads as f -/
def MapI (w : World) (m : Nat) (f : Int → Option Value) : Prop := ∃ es clock, w.heap[m]? = some (.map es clock) ∧ intKeys es.toList ∧ ∀ k, lookM es.toList k = f k
def upd (f : Int → Option Value) (k : Int) (v : Value) : Int → Option Value := fun j => if j = k then some v else f j

theorem findNow_spec (k : Int) (q : IntKind) : ∀ (es : List MapEntry) (i0 : Nat), intKeys es →
    (∃ j, ∃ h : j < es.length, es[j].key = .int .i64 k ∧ (∀ j' (h' : j' < j), keyIs k (es[j']'(by omega)) = false) ∧ Instr.findNow (.int q) (.int .i64 k) es i0 = some (some (i0 + j, es[j].val)) ∧ lookM es k = some es[j].val) ∨
    (Instr.findNow (.int q) (.int .i64 k) es i0 = some none ∧ (∀ e ∈ es, keyIs k e = false) ∧ lookM es k = none)
  | [], _, _ => .inr ⟨rfl, by simp, rfl⟩
  | e :: es, i0, hk => by
    obtain ⟨a, ha⟩ := hk e (by simp)
    by_cases hak : a = k
    · subst hak
      refine .inl ⟨0, by simp, ha, fun j' h' => by omega, ?_, ?_⟩
      · simp [Instr.findNow, ha, Instr.sameNow]
      · simp [lookM, keyIs, ha]
    · have hf : keyIs k e = false := by simp [keyIs, ha, hak]
      have hs : Instr.sameNow (.int q) (.int .i64 k) e.key = some false := by
        simp only [ha, Instr.sameNow, if_true]
        congr 1
        simp
        exact fun h => hak h.symm
      rcases findNow_spec k q es (i0 + 1) (fun e he => hk e (by simp [he])) with ⟨j, h, h1, h2, h3, h4⟩ | ⟨h3, h2, h4⟩
      · refine .inl ⟨j + 1, by simpa using h, by simpa using h1, fun j' h' => ?_, ?_, ?_⟩
        · rcases j' with _ | j'
          · simpa using hf
          · simpa using h2 j' (by omega)
        · simp only [Instr.findNow, hs, h3, List.getElem_cons_succ]
          congr 3
          omega
        · simp only [lookM, List.find?_cons, hf] at h4 ⊢
          simpa using h4
      · refine .inr ⟨?_, fun e' he' => ?_, ?_⟩
        · simp only [Instr.findNow, hs, h3]
        · rcases List.mem_cons.1 he' with rfl | he'
          · exact hf
          · exact h2 e' he'
        · simp only [lookM, List.find?_cons, hf] at h4 ⊢
          simpa using h4

section
variable {P : Program} {w : World} {m : Nat} {f : Int → Option Value}
theorem run_key (kt : TypeId) (hkt : P.underlying kt = some (.int .i64)) (em : Bool) (n : Nat) (k : Int) : (Instr.checkKey em (n + 1) kt (.int .i64 k)).run P w = .ok () w := by simp [Instr.checkKey, run_underlying hkt]
theorem run_look (t kt et : TypeId) (z : Value) (ht : P.underlying t = some (.map kt et)) (hkt : P.underlying kt = some (.int .i64)) (hz : ∀ w : World, (zeroValue et).run P w = .ok z w) (h : MapI w m f) (k : Int) :
    (Instr.lookup t (.map (some m)) (.int .i64 k) false).run P w = .ok ((f k).getD z) w := by
  obtain ⟨es, clock, hb, hk, hf⟩ := h
  have hc := fun em : Bool => run_key (P := P) (w := w) kt hkt em 9999 k
  have hg : (getObj m).run P w = .ok (.map es clock) w := by simp [getObj, Sem.run, hb]
  rcases findNow_spec k .i64 es.toList 0 hk with ⟨j, hj, h1, h2, h3, h4⟩ | ⟨h3, h2, h4⟩
  · rw [← hf k, h4]
    simp [Instr.lookup, run_underlying ht, hg, hc, Instr.findKey, run_underlying hkt, h3]
  · rw [← hf k, h4]
    simp [Instr.lookup, run_underlying ht, hg, hc, Instr.findKey, run_underlying hkt, h3, hz]

theorem lookM_modify (es : List MapEntry) (k k' : Int) (v : Value) (j : Nat) (hj : j < es.length) (h1 : es[j].key = .int .i64 k) (h2 : ∀ j' (h' : j' < j), keyIs k (es[j']'(by omega)) = false) :
    lookM (es.modify j fun e => { e with key := .int .i64 k, val := v }) k' = if k' = k then some v else lookM es k' := by
  induction es generalizing j with
  | nil => simp at hj
  | cons e es ih =>
    rcases j with _ | j
    · simp only [List.getElem_cons_zero] at h1
      simp only [List.modify_zero_cons, lookM, List.find?_cons]
      by_cases hk : k' = k
      · subst hk
        simp [keyIs]
      · have e1 : keyIs k' { e with key := .int .i64 k, val := v } = false := by simp [keyIs]; exact fun h => hk h.symm
        have e2 : keyIs k' e = false := by simp [keyIs, h1]; exact fun h => hk h.symm
        simp [e1, e2, hk]
    · have h0 := h2 0 (by omega)
      simp only [List.getElem_cons_zero] at h0
      have := ih j (by simpa using hj) (by simpa using h1) (fun j' h' => by simpa using h2 (j' + 1) (by omega))
      simp only [List.modify_succ_cons, lookM, List.find?_cons] at this ⊢
      by_cases hk : k' = k
      · subst hk
        simp only [h0, if_true] at this ⊢
        exact this
      · rw [if_neg hk] at this ⊢
        cases keyIs k' e
        · exact this
        · rfl
theorem lookM_push (es : List MapEntry) (k k' : Int) (v : Value) (c : Nat) (h2 : ∀ e ∈ es, keyIs k e = false) :
    lookM (es ++ [{ key := .int .i64 k, val := v, born := c }]) k' = if k' = k then some v else lookM es k' := by
  simp only [lookM, List.find?_append]
  by_cases hk : k' = k
  · subst hk
    rw [List.find?_eq_none.2 (fun e he => by simp [h2 e he])]
    simp [keyIs]
  · rw [if_neg hk]
    have : keyIs k' { key := .int .i64 k, val := v, born := c } = false := by simp [keyIs]; exact fun h => hk h.symm
    simp [this]
theorem run_upd (t kt et : TypeId) (ht : P.underlying t = some (.map kt et)) (hkt : P.underlying kt = some (.int .i64)) (h : MapI w m f) (k : Int) (v : Value) :
    ∃ w', (Instr.mapUpdate t (.map (some m)) (.int .i64 k) v).run P w = .ok () w' ∧ MapI w' m (upd f k v) ∧ w.grownBy w' (some m) ∧ w'.heap.size = w.heap.size := by
  obtain ⟨es, clock, hb, hk, hf⟩ := h
  have hc := fun em : Bool => run_key (P := P) (w := w) kt hkt em 9999 k
  have hg : (getObj m).run P w = .ok (.map es clock) w := by simp [getObj, Sem.run, hb]
  have hs : ∀ o : Obj, (setObj m o).run P w = .ok () { w with heap := w.heap.setIfInBounds m o } := fun o => by simp [setObj, Sem.run, hb]
  have hlt : m < w.heap.size := (Array.getElem?_eq_some_iff.1 hb).1
  have hgr : ∀ o : Obj, w.grownBy { w with heap := w.heap.setIfInBounds m o } (some m) := fun o =>
    ⟨rfl, rfl, rfl, by simp, fun j hj hne => by simp only [Array.getElem?_setIfInBounds]; rw [if_neg (fun e => hne (by rw [e]))]⟩
  rcases findNow_spec k .i64 es.toList 0 hk with ⟨j, hj, h1, h2, h3, h4⟩ | ⟨h3, h2, h4⟩
  · have hj' : j < es.size := by simpa using hj
    have hkey : ((es[j]?).map (·.key)).getD (.int .i64 k) = .int .i64 k := by
      rw [Array.getElem?_eq_getElem hj']
      simpa using h1
    refine ⟨{ w with heap := w.heap.setIfInBounds m (.map (es.modify j fun e => { e with key := .int .i64 k, val := v }) clock) }, ?_, ⟨es.modify j fun e => { e with key := .int .i64 k, val := v }, clock, by simp [hlt], ?_, fun k' => ?_⟩, hgr _, by simp⟩
    · simp [Instr.mapUpdate, run_underlying ht, hg, hc, Instr.findKey, run_underlying hkt, h3, hkey, Instr.keyThatStays, Instr.sameBits, hs]
    · intro e he
      simp only [Array.toList_modify] at he
      obtain ⟨i, hi, rfl⟩ := List.mem_iff_getElem.1 he
      rw [List.getElem_modify]
      split
      · exact ⟨k, rfl⟩
      · exact hk _ (List.getElem_mem _)
    · rw [Array.toList_modify, lookM_modify es.toList k k' v j hj h1 h2, upd]
      split
      · rfl
      · exact hf k'
  · refine ⟨{ w with heap := w.heap.setIfInBounds m (.map (es.push { key := .int .i64 k, val := v, born := clock }) (clock + 1)) }, ?_, ⟨es.push { key := .int .i64 k, val := v, born := clock }, clock + 1, by simp [hlt], ?_, fun k' => ?_⟩, hgr _, by simp⟩
    · simp [Instr.mapUpdate, run_underlying ht, hg, hc, Instr.findKey, run_underlying hkt, h3, hs]
    · intro e he
      rw [Array.toList_push, List.mem_append] at he
      rcases he with he | he
      · exact hk e he
      · simp at he; subst he; exact ⟨k, rfl⟩
    · rw [Array.toList_push, lookM_push es.toList k k' v clock h2, upd]
      split
      · rfl
      · exact hf k'
theorem MapI.made (w : World) : MapI (w.alloc (.map #[] 0)) w.heap.size (fun _ => none) := ⟨#[], 0, heap_alloc_new w _, by intro e he; simp at he, fun k => rfl⟩
theorem MapI.lt (h : MapI w m f) : m < w.heap.size := by
  obtain ⟨es, clock, hb, _⟩ := h
  exact (Array.getElem?_eq_some_iff.1 hb).1
theorem MapI.kp {M : Nat → Prop} {w' : World} (h : MapI w m f) (hk : Kp M w w') (hm : ¬ M m) : MapI w' m f := by
  have hlt := h.lt
  obtain ⟨es, clock, hb, h2⟩ := h
  exact ⟨es, clock, (hk.block m hlt hm).trans hb, h2⟩
theorem MapI.ne_blk {g : Nat} {t : TypeId} {cs : Array Value} (h : MapI w m f) (hg : Blk w g t cs) : m ≠ g := by
  rintro rfl
  obtain ⟨es, clock, hb, h2⟩ := h
  unfold Blk at hg
  rw [hb] at hg
  cases hg
end
end Go.Proofs.YtbpbndlgfiammaaGreatDoor
