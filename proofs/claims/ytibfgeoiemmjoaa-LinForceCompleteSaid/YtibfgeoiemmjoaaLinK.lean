/- Contracts of maps.Keys and slices.Sorted at the map of Norm: a new slice that holds the keys, each once, in increasing order; and of cmp.Compare. -/
import Derived.Test.YtibfgeoiemmjoaaLin3
import Derived.Test.YtibfgeoiemmjoaaShelf
namespace Go.Proofs.Ytibfgeoiemmjoaa
open Go.RowKit Go.Shelf

theorem keys_any (m : Nat) (w : World) : Calls Try.prog 39 #[.map (some m)] w fun e w' => e = .returned (.func (.func 62) #[] #[.pointer (some ⟨w.heap.size, 0, none⟩)]) ∧ w' = w.alloc (.cells #[.map (some m)] 48) :=
  (callsIn_wide (n := 5)).1 (AnyZI.keys_in Try.shKeys Fence.wide 5 trivial rfl (some m) w)
theorem sorts (k : Nat) : AnyZI.SortsIn Try.prog Try.shSorted_ren Fence.wide k :=
  ⟨fun blk off cap ss W hH hblk hsz => callsIn_wide.2 (AnyM.slices_Sort_int Try.shSort blk off cap ss W hH hblk hsz), fun p cap W => callsIn_wide.2 (AnyM.slices_Sort_int_none Try.shSort p cap W)⟩
theorem inc_of_sorted : ∀ {l : List Int}, l.Pairwise (fun a b => decide (a ≤ b) = true) → l.Nodup → Inc l
  | [], _, _ => trivial
  | x :: t, h, hn => by
    rw [List.pairwise_cons] at h
    rw [List.nodup_cons] at hn
    refine ⟨fun y hy => ?_, inc_of_sorted h.2 hn.2⟩
    have := h.1 y hy
    have hne : x ≠ y := fun e => hn.1 (by rw [e]; exact hy)
    simp at this
    omega
theorem look_some {es : List MapEntry} (hk : intKeys es) (x : Int) : lookM es x ≠ none ↔ ∃ e ∈ es, e.key = .int .i64 x := by
  unfold lookM
  constructor
  · intro h
    cases hf : es.find? (keyIs x) with
    | none => rw [hf] at h; simp at h
    | some e =>
      have h1 := List.mem_of_find?_eq_some hf
      have h2 := List.find?_some hf
      obtain ⟨a, ha⟩ := hk e h1
      refine ⟨e, h1, ?_⟩
      unfold keyIs at h2
      rw [ha] at h2 ⊢
      have h2 : a = x := by simpa using h2
      rw [h2]
  · rintro ⟨e, he, hx⟩
    cases hf : es.find? (keyIs x) with
    | none =>
      have := List.find?_eq_none.1 hf e he
      simp [keyIs, hx] at this
    | some e' => simp
/-- the keys of such a map -/
theorem keys_of {w : World} {m n : Nat} {f : Int → Option Value} (hm : MapI w m f) {D : DataW Unit} (hD : w.ownsMap Try.prog 3 R0 m n D) : (Go.intKeys D).Nodup ∧ (∀ x, x ∈ Go.intKeys D ↔ f x ≠ none) ∧ (Go.intKeys D).length ≤ n := by
  obtain ⟨es, clock, hb, hk, hf⟩ := hm
  obtain ⟨es', clock', hb', F, hs, rfl⟩ := hD
  rw [hb] at hb'
  injection hb' with hb'
  injection hb' with e1 e2
  subst e1 e2
  have hris := Go.Maps.fit_rising (Go.Maps.int_keyed Try.underlying3) F
  have hap := Go.WideShapes.apart_of_rising _ hris
  have hperm := Go.WideShapes.sorted_perm (es.toList.map (Go.WideElems.rg Try.prog 3 R0))
  have hrg : ∀ e ∈ es.toList, ∃ x, e.key = .int .i64 x ∧ Go.WideElems.rg Try.prog 3 R0 e = (.int .i64 x, .lit (.bool true)) := fun e he => by
    obtain ⟨y, hy⟩ := F.reads e he
    obtain ⟨x, hx1, hx2, _⟩ := Go.Maps.keyOf_i64 Try.underlying3 (Go.WideElems.rd_key hy)
    refine ⟨x, hx1, ?_⟩
    unfold Go.WideElems.rg
    rw [hy]
    obtain ⟨z, hz1, hz2⟩ := Go.WideElems.rd_val hy
    simp only [R0, Option.some.injEq] at hz1
    rw [← hz1] at hz2
    simp only [Option.getD_some]
    rw [← hx2]
    exact Prod.ext rfl hz2
  refine ⟨?_, fun x => ?_, ?_⟩
  · show (List.map (fun p : Lit × DataW Unit => Go.intOf p.1) _).Nodup
    have hnd : ((es.toList.map (Go.WideElems.rg Try.prog 3 R0)).map fun p => Go.intOf p.1).Nodup := by
      refine List.pairwise_map.2 (hap.imp_of_mem fun {p q} hp hq hne e => hne ?_)
      obtain ⟨e1, he1, rfl⟩ := List.mem_map.1 hp
      obtain ⟨e2, he2, rfl⟩ := List.mem_map.1 hq
      obtain ⟨a, _, ha⟩ := hrg e1 he1
      obtain ⟨b, _, hb⟩ := hrg e2 he2
      rw [ha, hb] at e ⊢
      have e : a = b := e
      rw [e]
    exact (hperm.map _).nodup_iff.2 hnd
  · rw [← hf x, look_some hk]
    show x ∈ List.map (fun p : Lit × DataW Unit => Go.intOf p.1) _ ↔ _
    rw [(hperm.map _).mem_iff, List.map_map, List.mem_map]
    constructor
    · rintro ⟨e, he, hx⟩
      obtain ⟨a, ha, hb⟩ := hrg e he
      refine ⟨e, he, ?_⟩
      simp only [Function.comp, hb, Go.intOf] at hx
      rw [ha, hx]
    · rintro ⟨e, he, hx⟩
      obtain ⟨a, ha, hb⟩ := hrg e he
      refine ⟨e, he, ?_⟩
      simp only [Function.comp, hb, Go.intOf]
      rw [ha] at hx
      injection hx
  · show (List.map (fun p : Lit × DataW Unit => Go.intOf p.1) _).length ≤ n
    rw [List.length_map, hperm.length_eq, List.length_map]
    simpa using hs

set_option maxHeartbeats 1000000 in
theorem sorted_any (m n : Nat) (f : Int → Option Value) (w : World) (hm : MapI w m f) (hft : Fits w m n) (hn : n ≤ 100000) :
    Calls Try.prog 38 #[.func (.func 62) #[] #[.pointer (some ⟨w.heap.size, 0, none⟩)]] (w.alloc (.cells #[.map (some m)] 48)) fun e w' => ∃ A c vs, e = .returned (.slice A vs.length c) ∧ Inc vs ∧ (∀ v, v ∈ vs ↔ f v ≠ none) ∧ vs.length ≤ n ∧
      Own w' 3 (.slice A vs.length c) (vs.map I64) ∧ Below (w.alloc (.cells #[.map (some m)] 48)).heap.size (w.alloc (.cells #[.map (some m)] 48)) w' := by
  obtain ⟨D, hD⟩ := hft
  obtain ⟨d1, d2, d3⟩ := keys_of hm hD
  have hbl := hD.lt
  have hsz : Go.Maps.size D = (Go.intKeys D).length := by
    obtain ⟨es, clock, _, _, _, rfl⟩ := hD
    simp [Go.Maps.size, Go.intKeys]
  have hseq : SeqGives Fence.wide 2 Try.prog 62 #[.pointer (some ⟨w.heap.size, 0, none⟩)] encZ (fun ss => ss.Perm (Go.intKeys D)) (Go.Maps.size D) (w.alloc (.cells #[.map (some m)] 48)) :=
    AnyZI.keys_gives (ρ := Try.shKeys_ren) { Try.shKeys with } Fence.wide _ trivial rfl (by omega) w.heap.size m n D _ (by simp) (by simp) (hD.alloc _)
  refine ((callsIn_wide (n := 5)).1 (AnyZI.sorted_in Try.shSorted Fence.wide 5 trivial trivial trivial trivial rfl (by omega) (sorts _) (enters_of Try.func61 (by kernel_rfl) rfl) 62 #[.pointer (some ⟨w.heap.size, 0, none⟩)] trivial (enters_of Try.func62 (by kernel_rfl) rfl) _ _ (by unfold maxLen; omega) (by omega) _ hseq)).mono ?_
  rintro e w' ⟨v, ss, rfl, hS, hrow, _, hb⟩
  have hown := Own.of_row hrow
  obtain ⟨A, c, ev, _, _⟩ := (show Own w' 3 v ((ss.mergeSort (fun x y => decide (x ≤ y))).map I64) from hown).rd
  have hpm := List.mergeSort_perm ss (fun x y => decide (x ≤ y))
  refine ⟨A, c, ss.mergeSort (fun x y => decide (x ≤ y)), by rw [ev], inc_of_sorted (List.pairwise_mergeSort (fun a b c h1 h2 => by simp at *; omega) (fun a b => by simp; omega) ss) ((hpm.trans hS).nodup_iff.2 d1), fun x => by rw [(hpm.trans hS).mem_iff]; exact d2 x, by rw [(hpm.trans hS).length_eq]; exact d3, by have := (show Own w' 3 v ((ss.mergeSort (fun x y => decide (x ≤ y))).map I64) from hown); rw [ev] at this; exact this, hb⟩
end Go.Proofs.Ytibfgeoiemmjoaa
