/- How the arguments of a row of layer 11 read, in the reader's words: trees, with what the row says of the bulk of each list and of the whole. -/
import Derived.Test.YtlhjliigfecihaaDoorRowE14
import Derived.Test.YtlhjliigfecihaaDoorRows
import Derived.Test.YtlhjliigfecihaaDoorTreeM
import Derived.Lib.SmallJoins
set_option linter.unusedSimpArgs false
set_option linter.unusedVariables false
set_option linter.unnecessarySimpa false
namespace Go.Proofs.YtlhjliigfecihaaDoor.En
open Go Go.ChangeShapes Go.WideShapes Go.ChangeAt Go.RowKit Go.Joins Go.Deep
section
variable {H : Type} {enc : TypeId × Value → H} {w : World} {base b0 : Nat} {v : Value} {d : DataW H} {p : List MemPlace} {r : Reach}
theorem weights_memT {P : Program} {e : TypeId} {q : Nat → Bool} : ∀ {ds : List (DataW H)}, (DataW.weightsAll P e ds).all q = true → ∀ d ∈ ds, (DataW.weights P e d).all q = true
  | [], _, d, hd => by cases hd
  | x :: ds, h, d, hd => by
    rw [DataW.weightsAll, List.all_append, Bool.and_eq_true] at h
    rcases List.mem_cons.1 hd with e | e
    · rw [e]; exact h.1
    · exact weights_memT h.2 d e
theorem weights_sliceT {P : Program} {t e : TypeId} {q : Nat → Bool} {el sp : List (DataW H)} (ht : P.underlying t = some (.slice e)) (h : (DataW.weights P t (.slice el sp)).all q = true) : q ((el.length + sp.length) * P.bytesOf e) = true ∧ ∀ d ∈ el, (DataW.weights P e d).all q = true := by
  rw [DataW.weights, ht] at h
  simp only [List.all_cons, List.all_append, Bool.and_eq_true] at h
  exact ⟨h.1, weights_memT h.2.1⟩
theorem bulk_pos (d : DataW H) : 1 ≤ Rows.uptoBulk d := by
  cases d with
  | lit l => cases l <;> simp [Rows.uptoBulk]
  | nil => simp [Rows.uptoBulk]
  | ptr d => simp [Rows.uptoBulk]
  | slice elems spare => simp [Rows.uptoBulk]
  | agg parts => simp [Rows.uptoBulk]
  | iface t d => simp [Rows.uptoBulk]
  | map entries => simp [Rows.uptoBulk]
  | held h => simp [Rows.uptoBulk]
theorem bulk_map (L : List (DataW H)) (X : List Tree) (hl : L.length = X.length) (h : ∀ i, i < X.length → 2 * Fl.sizeT (X.getD i tree0) ≤ Rows.uptoBulk (L.getD i .nil)) : 2 * Fl.sizeL X ≤ Rows.uptoBulkAll L := by
  induction X generalizing L with
  | nil => simp [Fl.sizeL]
  | cons x X ih =>
    match L, hl with
    | y :: L, hl =>
      have h0 := h 0 (by simp)
      simp only [List.getD_cons_zero] at h0
      have := ih L (by simpa using hl) (fun i hi => by have := h (i + 1) (by simp; omega); simpa only [List.getD_cons_succ] using this)
      simp only [Fl.sizeL, Rows.uptoBulkAll]; omega
theorem lens_idx {X : List Tree} (h : ∀ i, i < X.length → Fl.lensT (X.getD i tree0)) : Fl.lensL X := by
  induction X with
  | nil => simp only [Fl.lensL]
  | cons x X ih =>
    simp only [Fl.lensL]
    exact ⟨by simpa using h 0 (by simp), ih fun i hi => by have := h (i + 1) (by simp; omega); simpa only [List.getD_cons_succ] using this⟩
set_option maxRecDepth 100000 in
set_option maxHeartbeats 1000000 in
theorem trod_trees : ∀ (N : Nat) (d : DataW H), SizeOf.sizeOf d < N → ∀ (fuel : Nat) (cs : List Value) (pl : List MemPlace), DataW.trod enc Tryd.prog w base (fun _ => true) true fuel 22 cs = some (d, pl) →
    ∃ v l, cs = [v] ∧ Rep w (gW w).G (.ls (.trees l)) v ∧ ((DataW.weights Tryd.prog 22 d).all (· ≤ reachBytes) = true → l.length ≤ 2932031007317 ∧ Fl.lensL l) ∧ 2 * Fl.sizeL l ≤ Rows.uptoBulk d
  | 0, d, h => by omega
  | N + 1, d, hN => by
    intro fuel cs pl h
    rcases open_slice Tryd.underlying22 h with ⟨rfl, h1⟩ | ⟨a, len, cap, m, n, D, Pl, rfl, _, hl, hm, hmm, hxd, hcell⟩
    · exact ⟨_, [], rfl, .nil _ none 0 rfl, fun _ => ⟨by simp, by simp only [Fl.lensL]⟩, by simp [Fl.sizeL]⟩
    · simp only [if_true] at hmm
      subst hmm
      have hd : d = .slice ((List.range len).map D) ((List.range (m - len)).map fun j => D (len + j)) := congrArg Prod.fst hxd
      have hmem : ∀ i, i < len → D i ∈ (List.range len).map D := fun i hi => List.mem_map.2 ⟨i, List.mem_range.2 hi, rfl⟩
      have hsz : ∀ i, i < len → SizeOf.sizeOf (D i) < N := fun i hi => by
        have h1 := List.sizeOf_lt_of_mem (hmem i hi)
        rw [hd] at hN
        simp only [DataW.slice.sizeOf_spec] at hN
        omega
      have each : ∀ i, ∃ q : Int × Int × Int × Value × List Tree, i < len → w.cell? (a.add (i * 4)) = some (I64 q.1) ∧ w.cell? (a.add (i * 4 + 1)) = some (I64 q.2.1) ∧ w.cell? (a.add (i * 4 + 2)) = some (I64 q.2.2.1) ∧ w.cell? (a.add (i * 4 + 3)) = some q.2.2.2.1 ∧
          Rep w (gW w).G (.ls (.trees q.2.2.2.2)) q.2.2.2.1 ∧ ((DataW.weights Tryd.prog 24 (D i)).all (· ≤ reachBytes) = true → q.2.2.2.2.length ≤ 2932031007317 ∧ Fl.lensL q.2.2.2.2) ∧ 2 * (1 + Fl.sizeL q.2.2.2.2) ≤ Rows.uptoBulk (D i) := fun i => by
        by_cases hi : i < len
        · obtain ⟨cs', h1, h2⟩ := hcell i (by omega)
          rw [show Tryd.prog.cellsOf 24 = 4 by kernel_rfl] at h1
          obtain ⟨_, hlen, hc⟩ := World.cells?_some h1
          obtain ⟨y0, y1, y2, y3, k, hx, _, g0, g1, g2, g3⟩ := trod_struct4 Tryd.underlying24 h2
          match cs', hlen with
          | [v0, v1, v2, v3], _ =>
            have c0 := hc 0 (by omega)
            have c1 := hc 1 (by omega)
            have c2 := hc 2 (by omega)
            have c3 := hc 3 (by omega)
            rw [add_add] at c0 c1 c2 c3
            have hDi : D i = .agg [y0.1, y1.1, y2.1, y3.1] := congrArg Prod.fst hx
            have hy3 : SizeOf.sizeOf y3.1 < N := by
              have := hsz i hi
              rw [hDi] at this
              simp only [DataW.agg.sizeOf_spec, List.cons.sizeOf_spec] at this
              omega
            have i1 : Tryd.prog.cellsOf 3 = 1 := by kernel_rfl
            have i2 : Tryd.prog.cellsOf 22 = 1 := by kernel_rfl
            simp only [i1, i2, List.drop_zero, List.drop_succ_cons, List.take_succ_cons, List.take_zero] at g0 g1 g2 g3
            obtain ⟨z0, e0, _, _⟩ := DataW.trod_int Tryd.underlying3 g0
            obtain ⟨z1, e1, _, _⟩ := DataW.trod_int Tryd.underlying3 g1
            obtain ⟨z2, e2, _, _⟩ := DataW.trod_int Tryd.underlying3 g2
            injection e0 with e0
            injection e1 with e1
            injection e2 with e2
            subst e0 e1 e2
            obtain ⟨u3, l3, e3, r3, hw3, hb3⟩ := trod_trees N y3.1 hy3 k [v3] y3.2 g3
            injection e3 with e3
            subst e3
            refine ⟨(z0, z1, z2, v3, l3), fun _ => ⟨by simpa using c0, by simpa using c1, by simpa using c2, by simpa using c3, r3, fun hw => hw3 ?_, ?_⟩⟩
            · rw [hDi, DataW.weights, Tryd.underlying24] at hw
              simp only [DataW.weightsEach, List.all_append, Bool.and_eq_true, List.map_cons, List.map_nil] at hw
              exact hw.2.2.2.1
            · rw [hDi]
              simp only [Rows.uptoBulk, Rows.uptoBulkAll]
              have hb3' : 2 * Fl.sizeL l3 ≤ Rows.uptoBulk y3.1 := hb3
              have := bulk_pos y0.1
              show 2 * (1 + Fl.sizeL l3) ≤ _
              omega
        · exact ⟨(0, 0, 0, .bool true, []), fun h => absurd h hi⟩
      obtain ⟨q, hq⟩ := Classical.axiomOfChoice each
      let X : List Tree := (List.range len).map fun i => Tree.node (q i).1 (q i).2.1 (q i).2.2.1 (q i).2.2.2.2
      have hXl : X.length = len := by simp [X]
      have hXi : ∀ i, i < len → X.getD i tree0 = Tree.node (q i).1 (q i).2.1 (q i).2.2.1 (q i).2.2.2.2 := fun i hi => by simp [X, List.getD, hi]
      refine ⟨_, X, rfl, ?_, fun hw => ?_, ?_⟩
      · by_cases h0 : len = 0
        · subst h0; exact .nil _ _ _ rfl
        · obtain ⟨b, off, hab, hb⟩ := cell_spot (hq 0 (by omega)).1
          have haa : a = ⟨b, off, none⟩ := by rwa [show a.add (0 * 4) = a from rfl] at hab
          subst haa
          have := Rep.ls (W := w) (G := (gW w).G) (.trees X) b off m (fun i j => match j with | 0 => I64 (q i).1 | 1 => I64 (q i).2.1 | 2 => I64 (q i).2.2.1 | _ => (q i).2.2.2.1) (by show X.length ≤ _; omega) (by show X.length ≤ _; omega) hb (fun i j hi hj => by
            have hi' : i < len := by have : i < X.length := hi; omega
            have hj' : j < 4 := hj
            obtain ⟨k0, k1, k2, k3, _⟩ := hq i hi'
            rw [add_mk] at k0 k1 k2 k3
            show w.cell? ⟨b, off + i * 4 + j, none⟩ = _
            match j, hj' with
            | 0, _ => simpa using k0
            | 1, _ => rw [Nat.add_assoc]; exact k1
            | 2, _ => rw [Nat.add_assoc]; exact k2
            | 3, _ => rw [Nat.add_assoc]; exact k3) (fun i j hi hj => by
            have hi' : i < len := by have : i < X.length := hi; omega
            have hj' : j < 4 := hj
            obtain ⟨_, _, _, _, k4, _⟩ := hq i hi'
            show Rep w _ (treeCell (X.getD i tree0) j) _
            rw [hXi i hi']
            match j, hj' with
            | 0, _ => exact .val _
            | 1, _ => exact .val _
            | 2, _ => exact .val _
            | 3, _ => exact k4)
          have hl2 : LD.len (.trees X) = len := hXl
          rw [hl2] at this
          exact this
      · rw [hd] at hw
        obtain ⟨hwt, hwd⟩ := weights_sliceT Tryd.underlying22 hw
        rw [show Tryd.prog.bytesOf 24 = 48 by kernel_rfl] at hwt
        have h48 := of_decide_eq_true hwt
        simp only [List.length_map, List.length_range] at h48
        have hR : reachBytes = 140737488351232 := rfl
        refine ⟨by rw [hXl]; omega, lens_idx fun i hi => ?_⟩
        have hi' : i < len := by rw [hXl] at hi; exact hi
        rw [hXi i hi']
        exact Fl.lens_t.2 ((hq i hi').2.2.2.2.2.1 (hwd (D i) (hmem i hi')))
      · rw [hd]
        simp only [Rows.uptoBulk]
        have h1 := bulk_map ((List.range len).map D) X (by simp [X]) (fun i hi => by
          have hi' : i < len := by rw [hXl] at hi; exact hi
          rw [hXi i hi']
          have h2 : ((List.range len).map D).getD i .nil = D i := by simp [List.getD, hi']
          rw [h2]
          simp only [Fl.sizeT]
          exact (hq i hi').2.2.2.2.2.2)
        omega
end
set_option maxRecDepth 100000 in
theorem open_treeE {H : Type} {enc : TypeId × Value → H} {w : World} {r : Reach} {b0 : Nat} {v : Value} {d : DataW H} {p : List MemPlace} (hv : Value.okWide Tryd.prog w r b0 24 v) (h : DataW.Trod enc Tryd.prog w 0 (fun _ => true) true 24 v d p) :
    ∃ q n k l, Den (gW w) (.agg [.int q, .int n, .int k, .trees l]) v ∧ ((DataW.weights Tryd.prog 24 d).all (· ≤ reachBytes) = true → l.length ≤ 2932031007317 ∧ Fl.lensL l) ∧ 2 * Fl.sizeL l ≤ Rows.uptoBulk d := by
  obtain ⟨v0, v1, v2, v3, y0, y1, y2, y3, n, rfl, rfl, rfl, h0, h1, h2, h3⟩ := open_agg4 Tryd.underlying24 (by kernel_rfl) (by kernel_rfl) hv h
  obtain ⟨z0, e0, _, _⟩ := DataW.trod_int Tryd.underlying3 h0
  obtain ⟨z1, e1, _, _⟩ := DataW.trod_int Tryd.underlying3 h1
  obtain ⟨z2, e2, _, _⟩ := DataW.trod_int Tryd.underlying3 h2
  injection e0 with e0
  injection e1 with e1
  injection e2 with e2
  subst e0 e1 e2
  obtain ⟨u3, l3, e3, r3, hw3, hb3⟩ := trod_trees _ y3.1 (Nat.lt_succ_self _) n [v3] y3.2 h3
  injection e3 with e3
  subst e3
  refine ⟨z0, z1, z2, l3, ?_, fun hw => hw3 ?_, ?_⟩
  · rw [Den]
    refine ⟨[_, _, _, _], rfl, ?_⟩
    simp only [DenL]
    exact ⟨_, _, rfl, den_val_mk _, _, _, rfl, den_val_mk _, _, _, rfl, den_val_mk _, _, _, rfl, by simp only [Den]; exact r3, rfl⟩
  · rw [DataW.weights, Tryd.underlying24] at hw
    simp only [DataW.weightsEach, List.all_append, Bool.and_eq_true, List.map_cons, List.map_nil] at hw
    exact hw.2.2.2.1
  · simp only [Rows.uptoBulk, Rows.uptoBulkAll]; omega
theorem open_treesE {H : Type} {enc : TypeId × Value → H} {w : World} {r : Reach} {b0 : Nat} {v : Value} {d : DataW H} {p : List MemPlace} (hv : Value.okWide Tryd.prog w r b0 22 v) (h : DataW.Trod enc Tryd.prog w 0 (fun _ => true) true 22 v d p) :
    ∃ l, Den (gW w) (.trees l) v ∧ ((DataW.weights Tryd.prog 22 d).all (· ≤ reachBytes) = true → l.length ≤ 2932031007317 ∧ Fl.lensL l) ∧ 2 * Fl.sizeL l ≤ Rows.uptoBulk d := by
  obtain ⟨fuel, hf⟩ := h
  obtain ⟨u, l, e1, h1, h2, h3⟩ := trod_trees _ d (Nat.lt_succ_self _) fuel _ p hf
  obtain ⟨a, n, c, rfl⟩ := okWide_slice Tryd.underlying22 hv
  simp [Value.cells] at e1
  subst e1
  exact ⟨l, by simp only [Den]; exact h1, h2, h3⟩
end Go.Proofs.YtlhjliigfecihaaDoor.En
