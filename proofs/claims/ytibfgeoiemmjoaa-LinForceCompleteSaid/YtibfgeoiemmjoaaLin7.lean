/- Contracts of slices.Equal at ints, of Same, of the reference's Ints, and of Cut. -/
import Derived.Test.YtibfgeoiemmjoaaLin6
import Derived.Deep.QuietTactic
import Derived.Laws.ResultCell
namespace Go.Proofs.Ytibfgeoiemmjoaa
open Go.RowKit Go.Shelf

theorem take_snoc_eq {α : Type} {xs ys : List α} {k : Nat} (hx : k < xs.length) (hy : k < ys.length) (h : xs.take k = ys.take k) : xs[k] = ys[k] ↔ xs.take (k + 1) = ys.take (k + 1) := by
  rw [List.take_succ_eq_append_getElem hx, List.take_succ_eq_append_getElem hy, h]
  simp only [List.append_cancel_left_eq, List.cons.injEq, and_true]
theorem drew_more {w wr : World} {q : Nat} (h : wr = w.drewN q) (n : Nat) : ∃ m, wr.drewN n = w.drewN m := ⟨q + n, by rw [h, World.drewN_drewN]⟩

set_option maxHeartbeats 400000 in
theorem equal_any {D : Nat → Prop} (A B : Option Addr) (c d : Nat) (xs ys : List Int) (w : World) (ha : Rd I64 D w A xs) (hb : Rd I64 D w B ys) (hx : xs.length ≤ maxLen) (hy : ys.length ≤ maxLen) :
    Calls Try.prog 51 #[.slice A xs.length c, .slice B ys.length d] w fun e w' => e = .returned (.bool (decide (xs = ys))) ∧ ∃ q, w' = w.drewN q := by
  unfold maxLen at hx hy
  by_cases hl : xs.length = ys.length
  · have hne : ((xs.length : Int) != (ys.length : Int)) = false := by simp [hl]
    have HL := Lib.hid hl
    have HA := Lib.hid ha
    have HB := Lib.hid hb
    clear hl ha hb
    go_enter Try.func51, Try.ntmps51
    go_wp2
    clear hne
    go_loopw [5, 13] (fun _ i wr => ∃ k q : Nat, i = .int .i64 k ∧ k ≤ xs.length ∧ wr = w.drewN q ∧ xs.take k = ys.take k) (fun _ i _ => xs.length - (intOf i).toNat)
    case atStart => exact ⟨0, 0, rfl, Nat.zero_le _, rfl, rfl⟩
    case round =>
      obtain ⟨k, q, rfl, hk, hw, ht⟩ := hrel
      have HW := Lib.hid hw
      have HT := Lib.hid ht
      clear ht hw
      by_cases hlt : k < xs.length
      · obtain ⟨a, oa, rfl, _, ca⟩ := (show Rd I64 D wr A xs by rw [HW.out]; exact HA.out).at_ hlt
        have hlt' : k < ys.length := by rw [← HL.out]; exact hlt
        obtain ⟨b, ob, rfl, _, cb⟩ := (show Rd I64 D wr B ys by rw [HW.out]; exact HB.out).at_ hlt'
        go_wp2
        go_quiet (fail)
        go_wp2
        · go_ret
          have hn : (xs[k] != ys[k]) = true := by assumption
          refine ⟨?_, drew_more HW.out _⟩
          have : ¬ xs = ys := fun e => by
            have h2 := (take_snoc_eq hlt hlt' HT.out).2 (by subst e; rfl)
            simp [h2] at hn
          simp [this]
        · have hn : (xs[k] != ys[k]) = false := by assumption
          have h2 := (take_snoc_eq hlt hlt' HT.out).1 (by simpa using hn)
          obtain ⟨m, hm⟩ := drew_more HW.out nq
          go_roundw
          case rel => exact ⟨k + 1, m, by go_num, by omega, hm, h2⟩
          case measure => simp [intOf]; omega
      · go_wp2
        go_ret
        refine ⟨?_, q, HW.out⟩
        have h2 := HT.out
        have hl := HL.out
        rw [List.take_of_length_le (by omega), List.take_of_length_le (by omega)] at h2
        simp [h2]
  · have hne : ((xs.length : Int) != (ys.length : Int)) = true := by simp; omega
    have HL := Lib.hid hl
    clear hl
    go_enter Try.func51, Try.ntmps51
    go_wp2
    go_ret
    refine ⟨?_, 0, rfl⟩
    have : ¬ xs = ys := fun e => HL.out (by rw [e])
    simp [this]

set_option maxHeartbeats 400000 in
theorem ints12_any {D : Nat → Prop} (A B : Option Addr) (c d : Nat) (xs ys : List Int) (w : World) (ha : Rd I64 D w A xs) (hb : Rd I64 D w B ys) (hx : xs.length ≤ maxLen) (hy : ys.length ≤ maxLen) :
    Calls Try.prog 22 #[.slice A xs.length c, .slice B ys.length d] w fun e w' => e = .returned (.bool (decide (xs = ys))) ∧ ∃ q, w' = w.drewN q := by
  unfold maxLen at hx hy
  by_cases hl : xs.length = ys.length
  · have hne : ((xs.length : Int) != (ys.length : Int)) = false := by simp [hl]
    have HL := Lib.hid hl
    have HA := Lib.hid ha
    have HB := Lib.hid hb
    clear hl ha hb
    go_enter Try.func22, Try.ntmps22
    go_wp2
    clear hne
    go_loopw [5] (fun i wr => ∃ k q : Nat, i = .int .i64 k ∧ k ≤ xs.length ∧ wr = w.drewN q ∧ xs.take k = ys.take k) (fun i _ => xs.length - (intOf i).toNat)
    case atStart => exact ⟨0, 0, rfl, Nat.zero_le _, rfl, rfl⟩
    case round =>
      obtain ⟨k, q, rfl, hk, hw, ht⟩ := hrel
      have HW := Lib.hid hw
      have HT := Lib.hid ht
      clear ht hw
      by_cases hlt : k < xs.length
      · obtain ⟨a, oa, rfl, _, ca⟩ := (show Rd I64 D wr A xs by rw [HW.out]; exact HA.out).at_ hlt
        have hlt' : k < ys.length := by rw [← HL.out]; exact hlt
        obtain ⟨b, ob, rfl, _, cb⟩ := (show Rd I64 D wr B ys by rw [HW.out]; exact HB.out).at_ hlt'
        go_wp2
        go_quiet (fail)
        go_wp2
        · go_ret
          have hn : (xs[k] != ys[k]) = true := by assumption
          refine ⟨?_, drew_more HW.out _⟩
          have : ¬ xs = ys := fun e => by
            have h2 := (take_snoc_eq hlt hlt' HT.out).2 (by subst e; rfl)
            simp [h2] at hn
          simp [this]
        · have hn : (xs[k] != ys[k]) = false := by assumption
          have h2 := (take_snoc_eq hlt hlt' HT.out).1 (by simpa using hn)
          obtain ⟨m, hm⟩ := drew_more HW.out nq
          go_roundw
          case rel => exact ⟨k + 1, m, by go_num, by omega, hm, h2⟩
          case measure => simp [intOf]; omega
      · go_wp2
        go_ret
        refine ⟨?_, q, HW.out⟩
        have h2 := HT.out
        have hl := HL.out
        rw [List.take_of_length_le (by omega), List.take_of_length_le (by omega)] at h2
        simp [h2]
  · have hne : ((xs.length : Int) != (ys.length : Int)) = true := by simp; omega
    have HL := Lib.hid hl
    clear hl
    go_enter Try.func22, Try.ntmps22
    go_wp2
    go_ret
    refine ⟨?_, 0, rfl⟩
    have : ¬ xs = ys := fun e => HL.out (by rw [e])
    simp [this]



theorem cut1_any (q : Nat) (n d : Int) (w : World) (hq : w.cell? ⟨q, 0, none⟩ = some (I64 d)) (h1 : 0 ≤ n) (h2 : n ≤ 1000000000000000000) (h3 : 1 ≤ d) (h4 : d ≤ 1099511627776) :
    Calls Try.prog 59 #[I64 n, .pointer (some ⟨q, 0, none⟩)] w fun e w' => e = .returned (I64 ((n + d - 1) / d)) ∧ w = w' := by
  have hd : ¬ d = 0 := by omega
  go_enter Try.func59, Try.ntmps59
  go_wp2_with fail
  go_ret
  exact ⟨rfl, rfl⟩

def sameP (a b : LinV) : Bool := decide (a.C = b.C) && (decide (a.L = b.L) && decide (a.B = b.B))
theorem sameP_iff {a b : LinV} : sameP a b = true ↔ a = b := by
  cases a; cases b; simp [sameP]
set_option maxHeartbeats 1600000 in
theorem same_any (A L A' L' : Option Addr) (cA cL cA' cL' : Nat) (l m : LinV) (w : World) (h : LinAt w A L l) (h' : LinAt w A' L' m) :
    Calls Try.prog 19 #[linV A L cA cL l, linV A' L' cA' cL' m] w fun e w' => e = .returned (.bool (sameP l m)) ∧ Below w.heap.size w w' := by
  have HBw := Lib.hid (below2 w (Obj.cells #[Value.slice A l.C.length cA, Value.slice L l.L.length cL, I64 l.B] 24) (Obj.cells #[Value.slice A' m.C.length cA', Value.slice L' m.L.length cL', I64 m.B] 24))
  have HD1 := Lib.hid ((Blk.new w 24 #[Value.slice A l.C.length cA, Value.slice L l.L.length cL, I64 l.B]).alloc (Obj.cells #[Value.slice A' m.C.length cA', Value.slice L' m.L.length cL', I64 m.B] 24))
  have HD2 := Lib.hid (blk2 w (Obj.cells #[Value.slice A l.C.length cA, Value.slice L l.L.length cL, I64 l.B] 24) 24 #[Value.slice A' m.C.length cA', Value.slice L' m.L.length cL', I64 m.B])
  have HC := Lib.hid (show ∀ wx, Below w.heap.size w wx → Calls Try.prog 51 #[.slice A l.C.length cA, .slice A' m.C.length cA'] wx fun e w' => e = .returned (.bool (decide (l.C = m.C))) ∧ ∃ q, w' = wx.drewN q from fun wx hx =>
    equal_any A A' cA cA' l.C m.C wx (h.up hx).1 (h'.up hx).1 h.2.2.1 h'.2.2.1)
  have HL := Lib.hid (show ∀ wx, Below w.heap.size w wx → Calls Try.prog 51 #[.slice L l.L.length cL, .slice L' m.L.length cL'] wx fun e w' => e = .returned (.bool (decide (l.L = m.L))) ∧ ∃ q, w' = wx.drewN q from fun wx hx =>
    equal_any L L' cL cL' l.L m.L wx (h.up hx).2.1 (h'.up hx).2.1 h.2.2.2 h'.2.2.2)
  clear h h'
  go_enter Try.func19, Try.ntmps19
  go_wp2_with fail
  generalize hw1 : (w.alloc (Obj.cells #[Value.slice A l.C.length cA, Value.slice L l.L.length cL, I64 l.B] 24)).alloc (Obj.cells #[Value.slice A' m.C.length cA', Value.slice L' m.L.length cL', I64 m.B] 24) = w1 at HBw HD1 HD2 ⊢
  clear hw1
  refine (HC.out w1 HBw.out).mono ?_
  rintro e w2 ⟨rfl, q2⟩
  have B2 := Lib.hid (below_q HBw.out q2)
  have a1 : w2.cell? ⟨w.heap.size, 1, none⟩ = some (.slice L l.L.length cL) := cell_q q2 (HD1.out.cell 1)
  have a2 : w2.cell? ⟨w.heap.size, 2, none⟩ = some (I64 l.B) := cell_q q2 (HD1.out.cell 2)
  have b1 : w2.cell? ⟨w.heap.size + 1, 1, none⟩ = some (.slice L' m.L.length cL') := cell_q q2 (HD2.out.cell 1)
  have b2 : w2.cell? ⟨w.heap.size + 1, 2, none⟩ = some (I64 m.B) := cell_q q2 (HD2.out.cell 2)
  clear q2
  by_cases h1 : l.C = m.C
  · have HE := Lib.hid (show sameP l m = (decide (l.L = m.L) && decide (l.B = m.B)) by rw [sameP, decide_eq_true h1, Bool.true_and])
    have e1 : decide (l.C = m.C) = true := by simpa using h1
    rw [e1]
    clear h1 e1
    go_wp2_with fail
    refine (HL.out w2 B2.out).mono ?_
    rintro e w3 ⟨rfl, q3⟩
    have B3 := Lib.hid (below_q B2.out q3)
    have a2' : w3.cell? ⟨w.heap.size, 2, none⟩ = some (I64 l.B) := cell_q q3 a2
    have b2' : w3.cell? ⟨w.heap.size + 1, 2, none⟩ = some (I64 m.B) := cell_q q3 b2
    clear q3 a1 b1 a2 b2
    by_cases h2 : l.L = m.L
    · have e2 : decide (l.L = m.L) = true := by simpa using h2
      rw [e2] at HE ⊢
      clear h2 e2
      go_wp2_with fail
      go_ret
      exact ⟨by rw [HE.out]; simp only [Bool.true_and]; rfl, B3.out⟩
    · have e2 : decide (l.L = m.L) = false := by simpa using h2
      rw [e2] at HE ⊢
      clear h2 e2
      go_wp2_with fail
      go_ret
      exact ⟨by rw [HE.out]; rfl, B3.out⟩
  · have HE := Lib.hid (show sameP l m = false by rw [sameP, decide_eq_false h1, Bool.false_and])
    have e1 : decide (l.C = m.C) = false := by simpa using h1
    rw [e1]
    clear h1 e1
    go_wp2_with fail
    go_ret
    exact ⟨by rw [HE.out]; rfl, B2.out⟩

theorem results_cell_row2 {P : Program} {fn : Func} {p u : Tmp} {ty : TypeId} (h : fn.results = #[.cell p ty, .tmp u]) (tmps : Array Value) (w : World) (g : Nat) (t : TypeId) (cs : Array Value) (fr : Nat × Nat) (d : TypeDesc)
    (hp : tmps.getD p undef = .pointer (some ⟨g, 0, none⟩)) (hg : w.heap[g]? = some (.cells cs t fr))
    (hu : P.underlying ty = some d) (hd : (match d with | .struct _ | .array _ _ => true | _ => false) = true) (hi : (P.info? ty).map (·.size) = some cs.size) :
    (results fn tmps).run P w = .ok (.tuple #[.agg cs, tmps.getD u undef]) w := by
  have hp' : tmps[p]?.getD undef = .pointer (some ⟨g, 0, none⟩) := by simpa using hp
  rw [results_cell_tmp h]
  simp [hp', asAddr, run_loadVar_row w g t ty cs fr d hg hu hd hi]

theorem norm_bd {l : LinV} (h : lcheck l 65536 = 0) : (∀ c ∈ (normP l).C, 0 < c ∧ c ≤ 10000000000000000) ∧ 0 ≤ (normP l).B ∧ (normP l).B ≤ 10000000000000000 := by
  have hs := terms_bd h (varsZ l.L).length
  have hm := mins_bd h (varsZ l.L).length
  rw [List.take_length] at hs hm
  have hB := (lcheck_ok h).2.2.2.1
  have ht := (term_all l (varsZ l.L) _ hs.2).2
  rw [normP, if_pos h, normW]
  split
  · exact ⟨fun c hc => (by cases hc), by decide, by decide⟩
  · split
    · exact ⟨fun c hc => (by cases hc), by decide, by decide⟩
    · refine ⟨fun c hc => ?_, by simp only; omega, by simp only; omega⟩
      obtain ⟨q, hq, rfl⟩ := List.mem_map.1 hc
      have h1 := ht q.1 (List.mem_map.2 ⟨q, hq, rfl⟩)
      omega
def CutPost (r : LinV × Int) (w : World) (e : Ending) (w' : World) : Prop := ∃ A' L' cA' cL', e = .returned (.tuple #[linV A' L' cA' cL' r.1, I64 r.2]) ∧ OwnLin w.heap.size w' A' L' cA' cL' r.1 ∧ Below w.heap.size w w'
theorem OwnLin.mono {B B' : Nat} {w : World} {A L : Option Addr} {cA cL : Nat} {l : LinV} (h : OwnLin B w A L cA cL l) (hb : B' ≤ B) : OwnLin B' w A L cA cL l :=
  ⟨h.c, h.li, h.apart, fun g hg => Nat.le_trans hb (h.cB g hg), fun g hg => Nat.le_trans hb (h.lB g hg), h.len⟩
set_option maxRecDepth 100000 in
set_option maxHeartbeats 1600000 in
theorem cut_any (A L : Option Addr) (cA cL : Nat) (l : LinV) (d : Int) (w : World) (h : LinAt w A L l) :
    Calls Try.prog 27 #[linV A L cA cL l, I64 d] w (CutPost (cutP l d) w) := by
  have H := Lib.hid h
  clear h
  have HBw := Lib.hid (below3 w (Obj.cells #[Value.slice A l.C.length cA, Value.slice L l.L.length cL, I64 l.B] 24) (Obj.cells #[I64 d] 3) (Obj.cells #[.slice none 0 0, .slice none 0 0, I64 0] 24))
  have HD1 := Lib.hid (((Blk.new w 24 #[Value.slice A l.C.length cA, Value.slice L l.L.length cL, I64 l.B]).alloc (Obj.cells #[I64 d] 3)).alloc (Obj.cells #[.slice none 0 0, .slice none 0 0, I64 0] 24))
  have HD2 := Lib.hid ((blk2 w (Obj.cells #[Value.slice A l.C.length cA, Value.slice L l.L.length cL, I64 l.B] 24) 3 #[I64 d]).alloc (Obj.cells #[.slice none 0 0, .slice none 0 0, I64 0] 24))
  have HD3 := Lib.hid (blk3 w (Obj.cells #[Value.slice A l.C.length cA, Value.slice L l.L.length cL, I64 l.B] 24) (Obj.cells #[I64 d] 3) 24 #[.slice none 0 0, .slice none 0 0, I64 0])
  go_enter Try.func27, Try.ntmps27
  go_wp2_with fail
  generalize hw1 : ((w.alloc (Obj.cells #[Value.slice A l.C.length cA, Value.slice L l.L.length cL, I64 l.B] 24)).alloc (Obj.cells #[I64 d] 3)).alloc (Obj.cells #[.slice none 0 0, .slice none 0 0, I64 0] 24) = w1 at HBw HD1 HD2 HD3 ⊢
  clear hw1
  refine (right_any A L cA cL l w1 (H.out.up HBw.out)).mono ?_
  rintro e w2 ⟨rfl, b2⟩
  have B3 := Lib.hid (below_up HBw.out b2)
  have HE1 := Lib.hid (show Blk w2 w.heap.size 24 #[Value.slice A l.C.length cA, Value.slice L l.L.length cL, I64 l.B] from (b2.block _ HD1.out.lt).trans HD1.out)
  have HE2 := Lib.hid (show Blk w2 (w.heap.size + 1) 3 #[I64 d] from (b2.block _ HD2.out.lt).trans HD2.out)
  have HE3 := Lib.hid (show Blk w2 (w.heap.size + 1 + 1) 24 #[.slice none 0 0, .slice none 0 0, I64 0] from (b2.block _ HD3.out.lt).trans HD3.out)
  have f0 := HE3.out.frozen 0
  have f1 := HE3.out.frozen 1
  have f2 := HE3.out.frozen 2
  have d0 : w2.cell? ⟨w.heap.size + 1 + 1, 0, none⟩ = some (.slice none 0 0) := HE3.out.cell 0
  have d1 : w2.cell? ⟨w.heap.size + 1 + 1, 1, none⟩ = some (.slice none 0 0) := HE3.out.cell 1
  have d2 : w2.cell? ⟨w.heap.size + 1 + 1, 2, none⟩ = some (I64 0) := HE3.out.cell 2
  have cd : w2.cell? ⟨w.heap.size + 1, 0, none⟩ = some (I64 d) := HE2.out.cell 0
  clear b2 HD1 HD2 HD3 HBw
  by_cases hz : lcheck l 65536 = 0
  · rw [hz]
    have c0 : w2.cell? ⟨w.heap.size, 0, none⟩ = some (.slice A l.C.length cA) := HE1.out.cell 0
    have c1 : w2.cell? ⟨w.heap.size, 1, none⟩ = some (.slice L l.L.length cL) := HE1.out.cell 1
    have c2 : w2.cell? ⟨w.heap.size, 2, none⟩ = some (I64 l.B) := HE1.out.cell 2
    by_cases hd1 : d < 1
    · have HN := Lib.hid (show cutP l d = (lin0, 1) by rw [cutP, if_neg (by simpa using hz), if_pos (.inl hd1)])
      go_wp2_with fail
      refine bodyPost_ret (results_cell_row2 rfl _ _ (w.heap.size + 1 + 1) 24 #[.slice none 0 0, .slice none 0 0, I64 0] (0, 0) _ rfl (blkSet3 HE3.out _ _ _) Try.underlying24 rfl linInfo) rfl ?_
      refine ⟨none, none, 0, 0, by rw [HN.out]; rfl, by rw [HN.out]; exact OwnLin.nil _ _ _, belowSet3 B3.out (by omega) _ _ _⟩
    · by_cases hd2 : 1099511627776 < d
      · have HN := Lib.hid (show cutP l d = (lin0, 1) by rw [cutP, if_neg (by simpa using hz), if_pos (.inr hd2)])
        go_wp2_with fail
        refine bodyPost_ret (results_cell_row2 rfl _ _ (w.heap.size + 1 + 1) 24 #[.slice none 0 0, .slice none 0 0, I64 0] (0, 0) _ rfl (blkSet3 HE3.out _ _ _) Try.underlying24 rfl linInfo) rfl ?_
        refine ⟨none, none, 0, 0, by rw [HN.out]; rfl, by rw [HN.out]; exact OwnLin.nil _ _ _, belowSet3 B3.out (by omega) _ _ _⟩
      · have HN := Lib.hid (show cutP l d = (⟨(normP l).C.map fun c => (c + d - 1) / d, (normP l).L, ((normP l).B + d - 1) / d⟩, 0) by rw [cutP, if_neg (by simpa using hz), if_neg (by omega)])
        have HZ := Lib.hid hz
        clear hz
        go_wp2_with fail
        refine (norm_any A L cA cL l w2 (H.out.up B3.out)).mono ?_
        rintro e w3 ⟨A3, L3, cA3, cL3, rfl, ho3, b3⟩
        have HO3 := Lib.hid ho3
        have B4 := Lib.hid b3
        clear ho3 b3 f0 f1 f2 d0 d1 d2 c0 c1 c2 cd
        have hnb := norm_bd HZ.out
        generalize normP l = x at HN HO3 hnb ⊢
        have HNb := Lib.hid hnb
        clear hnb
        go_wp2_with fail
        have HB4 := Lib.hid (show Bld w2.heap.size (w3.alloc (Obj.cells #[Value.slice A3 x.C.length cA3, Value.slice L3 x.L.length cL3, I64 x.B] 55)) (w3.alloc (Obj.cells #[Value.slice A3 x.C.length cA3, Value.slice L3 x.L.length cL3, I64 x.B] 55)) w3.heap.size (Value.slice A3 x.C.length cA3) (Value.slice L3 x.L.length cL3) x.C x.L x.B from
          ⟨Kp.refl _ _, Blk.new _ _ _, HO3.out.c.alloc _, HO3.out.li.alloc _, HO3.out.apart, Nat.le_trans B4.out.size (by simp), HO3.out.cB, HO3.out.lB⟩)
        have HK4 := Lib.hid (show Below w2.heap.size w2 (w3.alloc (Obj.cells #[Value.slice A3 x.C.length cA3, Value.slice L3 x.L.length cL3, I64 x.B] 55)) from below_up B4.out (below1 _ _))
        have hp3 : w2.heap.size ≤ w3.heap.size := B4.out.size
        have hlen := HO3.out.len
        generalize w3.alloc (Obj.cells #[Value.slice A3 x.C.length cA3, Value.slice L3 x.L.length cL3, I64 x.B] 55) = w4 at HB4 HK4 ⊢
        generalize w3.heap.size = p at HB4 hp3 ⊢
        have hl2 := HE2.out.lt
        have hl3 := HE3.out.lt
        have HE4 := Lib.hid (show Blk w4 (w.heap.size + 1) 3 #[I64 d] from (HK4.out.block _ hl2).trans HE2.out)
        have HE5 := Lib.hid (show Blk w4 (w.heap.size + 1 + 1) 24 #[.slice none 0 0, .slice none 0 0, I64 0] from (HK4.out.block _ hl3).trans HE3.out)
        refine (each_any 59 [.pointer (some ⟨w.heap.size + 1, 0, none⟩)] (fun c => (c + d - 1) / d) _ p _ _ _ _ x.B w4 w4 HB4.out (by omega) (enters_of Try.func59 (by kernel_rfl) rfl) (fun c hc wx hk => cut1_any (w.heap.size + 1) c d wx ((hk.cell (p := ⟨w.heap.size + 1, 0, none⟩) HE4.out.lt (fun h => h.elim (fun e => by simp only at e; omega) (fun e => by have := HO3.out.cB _ e; simp only at this; omega))).trans (HE4.out.cell 0)) ?_ ?_ (by omega) (by omega))).mono ?_
        · rcases hc with hc | rfl
          · have := HNb.out.1 c hc; omega
          · exact HNb.out.2.1
        · rcases hc with hc | rfl
          · have := HNb.out.1 c hc; omega
          · have := HNb.out.2.2; omega
        rintro e wb ⟨rfl, hb5, hk5⟩
        have HB5 := Lib.hid hb5
        have HE6 := Lib.hid (show Blk wb (w.heap.size + 1 + 1) 24 #[.slice none 0 0, .slice none 0 0, I64 0] from HE5.out.kp hk5 (fun h => h.elim (fun e => by omega) (fun e => by have := HO3.out.cB _ e; omega)))
        have HBb := Lib.hid (show Below w.heap.size w wb from (below_up B3.out HK4.out).trans (hk5.below (fun k h1 h2 h3 => h3.elim (fun e => by omega) (fun e => by have := HO3.out.cB _ e; omega)) (by have := HK4.out.size; omega)))
        clear hb5 hk5 HB4 HE4 HE5 HE3 HE2
        have f0 := HE6.out.frozen 0
        have f1 := HE6.out.frozen 1
        have f2 := HE6.out.frozen 2
        have d0 : wb.cell? ⟨w.heap.size + 1 + 1, 0, none⟩ = some (.slice none 0 0) := HE6.out.cell 0
        have d1 : wb.cell? ⟨w.heap.size + 1 + 1, 1, none⟩ = some (.slice none 0 0) := HE6.out.cell 1
        have d2 : wb.cell? ⟨w.heap.size + 1 + 1, 2, none⟩ = some (I64 0) := HE6.out.cell 2
        have p0 : wb.cell? ⟨p, 0, none⟩ = some (Value.slice A3 x.C.length cA3) := HB5.out.blk.cell 0
        have p1 : wb.cell? ⟨p, 1, none⟩ = some (Value.slice L3 x.L.length cL3) := HB5.out.blk.cell 1
        have p2 : wb.cell? ⟨p, 2, none⟩ = some (I64 ((x.B + d - 1) / d)) := HB5.out.blk.cell 2
        have hnp : ¬ w.heap.size + 1 + 1 = p := by omega
        go_wp2_with fail
        refine bodyPost_ret (results_cell_row2 rfl _ _ (w.heap.size + 1 + 1) 24 #[.slice A3 x.C.length cA3, .slice L3 x.L.length cL3, I64 ((x.B + d - 1) / d)] (0, 0) _ rfl (blkSet3 HE6.out _ _ _) Try.underlying24 rfl linInfo) rfl ?_
        have hcl : (x.C.map (fun c => (c + d - 1) / d)).length = x.C.length := by simp
        refine ⟨A3, L3, cA3, cL3, by rw [HN.out]; simp [linV], ?_, belowSet3 HBb.out (by omega) _ _ _⟩
        rw [HN.out]
        refine ⟨?_, HB5.out.l.set3 (HB5.out.l.ne_blk HE6.out (by decide)) _ _ _, ?_, ?_, fun g hg => by have := HB5.out.lB g hg; omega, ?_⟩
        · rw [hcl]; exact HB5.out.c.set3 (HB5.out.c.ne_blk HE6.out (by decide)) _ _ _
        · rw [hcl]; exact HB5.out.apart
        · rw [hcl]; exact fun g hg => by have := HB5.out.cB g hg; omega
        · rw [hcl]; exact hlen
  · have HN := Lib.hid (show cutP l d = (lin0, lcheck l 65536) by rw [cutP, if_pos (by simpa using hz)])
    go_wp2_with fail
    refine bodyPost_ret (results_cell_row2 rfl _ _ (w.heap.size + 1 + 1) 24 #[.slice none 0 0, .slice none 0 0, I64 0] (0, 0) _ rfl (blkSet3 HE3.out _ _ _) Try.underlying24 rfl linInfo) rfl ?_
    refine ⟨none, none, 0, 0, by rw [HN.out]; rfl, by rw [HN.out]; exact OwnLin.nil _ _ _, belowSet3 B3.out (by omega) _ _ _⟩
end Go.Proofs.Ytibfgeoiemmjoaa
