/- LinNormCanonical returns true at every input. -/
import Derived.Test.YtibfgeoiemmjoaaLaw12b
import Derived.Deep.RegionWith
namespace Go.Proofs.Ytibfgeoiemmjoaa
open Go.RowKit Go.Shelf

abbrev linBox (A L : Option Addr) (cA cL : Nat) (l : LinV) : Obj := .cells #[.slice A l.C.length cA, .slice L l.L.length cL, I64 l.B] 24
theorem sumF1_snoc {C L : List Int} {k : Nat} (h1 : k < C.length) (h2 : k < L.length) : sumF1 ((C.zip L).take (k + 1)) = sumF1 ((C.zip L).take k) + C[k] := by
  rw [zip_take_snoc h1 h2, sumF1_app]
  simp [sumF1]
theorem inc_adj : ∀ (l : List Int) (k : Nat) (h : k + 1 < l.length), Inc l → l[k]'(by omega) < l[k + 1]
  | x :: y :: t, 0, _, hi => hi.1 y (by simp)
  | x :: t, k + 1, h, hi => by
    have := inc_adj t k (by simpa using h) hi.2
    simpa using this
  | [], k, h, _ => by simp at h
  | [x], 0, h, _ => by simp at h
theorem incA_adj {l : List Int} {k : Nat} (h : k + 1 < l.length) (hi : IncA l) : (l[k]'(by omega)).natAbs < (l[k + 1]).natAbs := by
  have := inc_adj _ k (by simpa using h) hi
  simp only [List.getElem_map] at this
  omega
theorem below_q' {w wr W : World} (h : ∃ q, wr = w.drewN q) (hb : Below wr.heap.size wr W) : Below w.heap.size w W := by
  obtain ⟨q, rfl⟩ := h
  exact ⟨hb.os, hb.tape, hb.output, hb.size, hb.block⟩
theorem lcheck_vals {l : LinV} {n : Int} (h : ¬ lcheck l n = 0) : lcheck l n = 1 ∨ lcheck l n = 2 := by
  unfold lcheck at *
  split
  · exact .inl rfl
  · split
    · exact .inl rfl
    · split
      · exact .inr rfl
      · rename_i h1 h2 h3; rw [if_neg h1, if_neg h2, if_neg h3] at h; exact absurd rfl h
def CanRel (x : LinV) (w5 : World) (av iv : Value) (wr : World) : Prop := ∃ i : Nat, iv = .int .i64 i ∧ i ≤ x.L.length ∧ av = .int .i64 (sumF1 ((x.C.zip x.L).take i)) ∧ ∃ q, wr = w5.drewN q
set_option maxRecDepth 100000 in
set_option maxHeartbeats 3200000 in
theorem canonL_any (A L : Option Addr) (cA cL : Nat) (l : LinV) (w : World) (h : LinAt w A L l) : Calls Try.prog 7 #[linV A L cA cL l] w fun e w' => e = .returned (.bool true) ∧ Below w.heap.size w w' := by
  have H := Lib.hid h
  clear h
  have HB := Lib.hid (below1 w (linBox A L cA cL l))
  have HD := Lib.hid (Blk.new w 24 #[.slice A l.C.length cA, .slice L l.L.length cL, I64 l.B])
  go_enter Try.func7, Try.ntmps7
  go_wp2_with fail
  generalize w.alloc (linBox A L cA cL l) = w1 at HB HD ⊢
  refine (live12_any w1).mono ?_
  rintro e w2 ⟨rfl, b2⟩
  have H2 := Lib.hid (H.out.up (below_up HB.out b2))
  have B2 := Lib.hid (below_up HB.out b2)
  have D2 := Lib.hid (HD.out.up b2)
  clear b2 H HB HD
  have c0 : w2.cell? ⟨w.heap.size, 0, none⟩ = some (.slice A l.C.length cA) := D2.out.cell 0
  have c1 : w2.cell? ⟨w.heap.size, 1, none⟩ = some (.slice L l.L.length cL) := D2.out.cell 1
  have c2 : w2.cell? ⟨w.heap.size, 2, none⟩ = some (I64 l.B) := D2.out.cell 2
  go_wp2_with fail
  clear c0 c1 c2
  refine (few_any A L cA cL l w2).mono ?_
  rintro e w3 ⟨rfl, b3⟩
  have H3 := Lib.hid (H2.out.up b3)
  have B3 := Lib.hid (below_up B2.out b3)
  have D3 := Lib.hid (D2.out.up b3)
  clear b3 H2 B2 D2
  cases hf : fewP l
  · clear hf
    go_wp2_with fail
    go_ret
    exact ⟨rfl, B3.out⟩
  · clear hf
    have c0 : w3.cell? ⟨w.heap.size, 0, none⟩ = some (.slice A l.C.length cA) := D3.out.cell 0
    have c1 : w3.cell? ⟨w.heap.size, 1, none⟩ = some (.slice L l.L.length cL) := D3.out.cell 1
    have c2 : w3.cell? ⟨w.heap.size, 2, none⟩ = some (I64 l.B) := D3.out.cell 2
    go_wp2_with fail
    clear c0 c1 c2
    refine (norm_any A L cA cL l w3 H3.out).mono ?_
    rintro e w4 ⟨A1, L1, cA1, cL1, rfl, ho, b4⟩
    have hcan := norm_canon l
    have hidem := norm_idem l
    have hbd : (∀ c ∈ (normP l).C, c ≤ 10000000000000000) ∧ (normP l).B ≤ 10000000000000000 ∧ (normP l).L.length ≤ 4096 ∧ (∀ y ∈ (normP l).L, -65536 ≤ y ∧ y ≤ 65536) ∧ sumF1 ((normP l).C.zip (normP l).L) ≤ 4503599627370496 := by
      by_cases hz : lcheck l 65536 = 0
      · have h1 := norm_bd hz
        have h2 := norm_facts hz
        exact ⟨fun c hc => (h1.1 c hc).2, h1.2.2, ho.len.2, fun y hy => (h2.2.1 y hy).2, h2.2.2.2⟩
      · unfold normP
        rw [if_neg hz]
        simp [lin0, sumF1]
    generalize normP l = x at ho hcan hidem hbd ⊢
    have HA4 := Lib.hid ho.at_
    have HCan := Lib.hid hcan
    have HIdem := Lib.hid hidem
    obtain ⟨hb1, hb2, hb3, hb4, hb5⟩ := hbd
    have HB1 := Lib.hid hb1
    have HB4 := Lib.hid hb4
    have B4 := Lib.hid (below_up B3.out b4)
    clear ho hcan hidem hb1 hb4 b4 B3 H3 D3
    have HA5 := Lib.hid (HA4.out.up (below1 w4 (linBox A1 L1 cA1 cL1 x)))
    have B5 := Lib.hid (below_up B4.out (below1 w4 (linBox A1 L1 cA1 cL1 x)))
    have D5 := Lib.hid (Blk.new w4 24 #[.slice A1 x.C.length cA1, .slice L1 x.L.length cL1, I64 x.B])
    clear HA4 B4
    have HS := Lib.hid (show ∀ k, 0 ≤ sumF1 ((x.C.zip x.L).take k) ∧ sumF1 ((x.C.zip x.L).take k) ≤ 4503599627370496 from fun k => by
      have := sumF1_take (x.C.zip x.L) k (fun q hq => by have := HCan.out.co q.1 (List.of_mem_zip hq).1; omega)
      omega)
    go_wp2_with fail
    generalize w4.alloc (linBox A1 L1 cA1 cL1 x) = w5 at HA5 B5 D5 ⊢
    generalize w4.heap.size = g at D5 ⊢
    go_loopw [4, 5, 6] (fun av iv _ wr => CanRel x w5 av iv wr) (fun _ iv _ _ => x.L.length - (intOf iv).toNat)
    case atStart => exact ⟨0, rfl, Nat.zero_le _, rfl, 0, rfl⟩
    case round =>
      obtain ⟨i, rfl, hi, rfl, hq⟩ := hrel
      have HQ := Lib.hid hq
      have f0 : wr.cell? ⟨g, 0, none⟩ = some (.slice A1 x.C.length cA1) := cell_q hq (D5.out.cell 0)
      have f1 : wr.cell? ⟨g, 1, none⟩ = some (.slice L1 x.L.length cL1) := cell_q hq (D5.out.cell 1)
      have f2 : wr.cell? ⟨g, 2, none⟩ = some (I64 x.B) := cell_q hq (D5.out.cell 2)
      clear hq
      have hcl := HCan.out.len
      by_cases hlt : i < x.L.length
      · have hlt2 : i < x.C.length := by omega
        clear hcl
        obtain ⟨b, off, hb, _, hc0⟩ := HA5.out.2.1.at_ hlt
        obtain ⟨b', off', hb', _, hc1⟩ := HA5.out.1.at_ hlt2
        subst hb hb'
        have d0 := cell_q HQ.out hc0
        have d1 := cell_q HQ.out hc1
        clear hc0 hc1
        have HSn := Lib.hid (sumF1_snoc hlt2 hlt)
        have hy := HB4.out x.L[i] (List.getElem_mem hlt)
        have hs1 := HS.out i
        have hco := HCan.out.co x.C[i] (List.getElem_mem hlt2)
        have hcc := HB1.out x.C[i] (List.getElem_mem hlt2)
        generalize sumF1 ((x.C.zip x.L).take i) = n at HSn hs1 ⊢
        generalize hy1 : x.L[i] = y at d0 hy
        generalize x.C[i] = c at d1 HSn hco hcc
        have t1 : decide (c < 1) = false := by simp; omega
        have t2 : decide (x.B < c) = false := by simp; omega
        by_cases h0 : 0 < i
        · obtain ⟨j, rfl⟩ : ∃ j, i = j + 1 := ⟨i - 1, by omega⟩
          obtain ⟨b2, off2, hb2', _, hc2⟩ := HA5.out.2.1.at_ (show j < x.L.length by omega)
          injection hb2' with hb2'
          injection hb2' with hb2' ho2'
          subst hb2' ho2'
          have d2 := cell_q HQ.out hc2
          have hy2 := HB4.out x.L[j] (List.getElem_mem (by omega))
          have hadj := incA_adj hlt HCan.out.inc
          rw [hy1] at hadj
          generalize x.L[j] = y2 at d2 hy2 hadj
          clear hc2
          have t3 : decide (max y (-y) ≤ max y2 (-y2)) = false := by rw [max_abs, max_abs]; simp; omega
          have hsub : ((j + 1 : Nat) : Int) - 1 = (j : Int) := by omega
          clear hy1
          go_wp2_with fail
          go_quiet (fail)
          go_wp2_with fail
          go_quiet (fail)
          clear t1 t2 t3 hsub d0 d2
          go_wp2_with fail
          go_roundw
          case rel => exact ⟨j + 1 + 1, by go_num, by omega, by rw [HSn.out], drew_one HQ.out _⟩
          case measure => simp [intOf]; omega
        · have t4 : decide (0 < i) = false := by simpa using h0
          clear hy1
          go_wp2_with fail
          go_quiet (fail)
          go_wp2_with fail
          go_quiet (fail)
          clear t1 t2 t4 d0
          go_wp2_with fail
          go_roundw
          case rel => exact ⟨i + 1, by go_num, by omega, by rw [HSn.out], drew_one HQ.out _⟩
          case measure => simp [intOf]; omega
      · obtain rfl : i = x.L.length := by omega
        have hsum : sumF1 ((x.C.zip x.L).take x.L.length) = sumF1 (x.C.zip x.L) := by rw [List.take_of_length_le (by rw [List.length_zip]; omega)]
        rw [hsum]
        clear hsum
        have HNm := Lib.hid (show ∀ W, Below wr.heap.size wr W → Calls Try.prog 15 #[linV A1 L1 cA1 cL1 x] W (NormPost x W) from fun W hW => norm_any A1 L1 cA1 cL1 x W (HA5.out.up (below_q' HQ.out hW)))
        have HCe := Lib.hid (show ∀ W, Below wr.heap.size wr W → W.cell? ⟨g, 0, none⟩ = some (.slice A1 x.C.length cA1) ∧ W.cell? ⟨g, 1, none⟩ = some (.slice L1 x.L.length cL1) ∧ W.cell? ⟨g, 2, none⟩ = some (I64 x.B) from fun W hW =>
          have hd := D5.out.up (below_q' HQ.out hW)
          ⟨hd.cell 0, hd.cell 1, hd.cell 2⟩)
        have BR := Lib.hid (below_q B5.out HQ.out)
        have t0 : decide (x.L.length < x.C.length) = false := by simp; omega
        have e1 : ((x.C.length : Int) != (x.L.length : Int)) = false := by simp; omega
        by_cases hn : x.C = []
        · have hB := HCan.out.nil hn
          have e2 : ((x.C.length : Int) == 0) = true := by rw [hn]; rfl
          have e3 : decide (0 < x.C.length) = false := by rw [hn]; rfl
          clear hn hcl
          have hb9 : ((x.B != 0) = false) ∨ ((x.B != 0) = true ∧ (x.B != 1) = false) := by
            rcases hB with h | h
            · left; rw [h]; rfl
            · right; rw [h]; exact ⟨rfl, rfl⟩
          clear hB
          rcases hb9 with hb9 | ⟨hb9, hb10⟩
          all_goals go_wp2_with fail
          all_goals
            clear e1 e2 t0 e3
            try clear hb10
            clear hb9
            by_cases hz : lcheck x 65536 = 0
            · have HId := Lib.hid (HIdem.out hz)
              have HCk := Lib.hid (show ∀ W, Below wr.heap.size wr W → Calls Try.prog 17 #[linV A1 L1 cA1 cL1 x, I64 65536] W fun e w' => e = .returned (I64 (lcheck x 65536)) ∧ Below W.heap.size W w' from fun W hW => lcheck_any A1 L1 cA1 cL1 x 65536 W (HA5.out.up (below_q' HQ.out hW)))
              rw [hz] at HCk
              have HSm := Lib.hid (show ∀ W A7 L7 cA7 cL7, LinAt W A7 L7 x → Below wr.heap.size wr W → Calls Try.prog 19 #[linV A7 L7 cA7 cL7 x, linV A1 L1 cA1 cL1 x] W fun e w' => e = .returned (.bool true) ∧ Below W.heap.size W w' from fun W A7 L7 cA7 cL7 h7 hW => by
                have := same_any A7 L7 A1 L1 cA7 cL7 cA1 cL1 x x W h7 (HA5.out.up (below_q' HQ.out hW))
                rw [sameP_iff.2 rfl] at this
                exact this)
              clear hz HIdem
              go_region_held3 (fun w' => w'.cell? ⟨g, 0, none⟩ = some (.slice A1 x.C.length cA1) ∧ w'.cell? ⟨g, 1, none⟩ = some (.slice L1 x.L.length cL1) ∧ w'.cell? ⟨g, 2, none⟩ = some (I64 x.B))
                (first | go_keep | (exact HCe.out _ BX.out) | (exact HCe.out _ BY.out) | (exact HCe.out _ BZ.out))
                (first | (go_at_call 17; refine (HCk.out _ (below_drew (Below.refl _ _))).mono ?_; rintro e w6 ⟨rfl, b6⟩; have BX := Lib.hid (below_up (below_drew (Below.refl wr.heap.size wr)) b6); clear b6) | (go_at_call 15; refine (HNm.out _ BX.out).mono ?_; rintro e w7 ⟨A7, L7, cA7, cL7, rfl, ho7, b7⟩; rw [HId.out] at ho7 ⊢; have BY := Lib.hid (below_up BX.out b7); have HA7 := Lib.hid ho7.at_; clear b7 ho7) | (go_at_call 19; refine (HSm.out _ _ _ _ _ HA7.out BY.out).mono ?_; rintro e w8 ⟨rfl, b8⟩; have BZ := Lib.hid (below_up BY.out b8); clear b8))
              all_goals
                go_wp2_with fail
                go_ret
                exact ⟨rfl, below_up BR.out BZ.out⟩
            · have e0 := lcheck_vals hz
              have HCk := Lib.hid (show ∀ W, Below wr.heap.size wr W → Calls Try.prog 17 #[linV A1 L1 cA1 cL1 x, I64 65536] W fun e w' => e = .returned (I64 (lcheck x 65536)) ∧ Below W.heap.size W w' from fun W hW => lcheck_any A1 L1 cA1 cL1 x 65536 W (HA5.out.up (below_q' HQ.out hW)))
              clear hz HIdem
              rcases e0 with e0 | e0
              all_goals
               rw [e0] at HCk
               clear e0
               go_region_with (first | (go_at_call 17; refine (HCk.out _ (below_drew (Below.refl _ _))).mono ?_; rintro e w6 ⟨rfl, b6⟩; have BX := Lib.hid (below_up (below_drew (Below.refl wr.heap.size wr)) b6); clear b6))
               all_goals
                go_wp2_with fail
                go_ret
                exact ⟨rfl, below_up BR.out BX.out⟩
        · have hB := HCan.out.full hn
          have hl0 : 0 < x.C.length := List.length_pos_iff.2 hn
          have e2 : ((x.C.length : Int) == 0) = false := by simp; exact hn
          have t1 : decide (x.B < 1) = false := by simp; omega
          have t2 : decide (sumF1 (x.C.zip x.L) < x.B) = false := by simp; omega
          clear hn hcl
          go_wp2_with fail
          all_goals
            clear e1 e2 t0 t1 t2 hB
            by_cases hz : lcheck x 65536 = 0
            · have HId := Lib.hid (HIdem.out hz)
              have HCk := Lib.hid (show ∀ W, Below wr.heap.size wr W → Calls Try.prog 17 #[linV A1 L1 cA1 cL1 x, I64 65536] W fun e w' => e = .returned (I64 (lcheck x 65536)) ∧ Below W.heap.size W w' from fun W hW => lcheck_any A1 L1 cA1 cL1 x 65536 W (HA5.out.up (below_q' HQ.out hW)))
              rw [hz] at HCk
              have HSm := Lib.hid (show ∀ W A7 L7 cA7 cL7, LinAt W A7 L7 x → Below wr.heap.size wr W → Calls Try.prog 19 #[linV A7 L7 cA7 cL7 x, linV A1 L1 cA1 cL1 x] W fun e w' => e = .returned (.bool true) ∧ Below W.heap.size W w' from fun W A7 L7 cA7 cL7 h7 hW => by
                have := same_any A7 L7 A1 L1 cA7 cL7 cA1 cL1 x x W h7 (HA5.out.up (below_q' HQ.out hW))
                rw [sameP_iff.2 rfl] at this
                exact this)
              clear hz HIdem
              go_region_held3 (fun w' => w'.cell? ⟨g, 0, none⟩ = some (.slice A1 x.C.length cA1) ∧ w'.cell? ⟨g, 1, none⟩ = some (.slice L1 x.L.length cL1) ∧ w'.cell? ⟨g, 2, none⟩ = some (I64 x.B))
                (first | go_keep | (exact HCe.out _ BX.out) | (exact HCe.out _ BY.out) | (exact HCe.out _ BZ.out))
                (first | (go_at_call 17; refine (HCk.out _ (below_drew (Below.refl _ _))).mono ?_; rintro e w6 ⟨rfl, b6⟩; have BX := Lib.hid (below_up (below_drew (Below.refl wr.heap.size wr)) b6); clear b6) | (go_at_call 15; refine (HNm.out _ BX.out).mono ?_; rintro e w7 ⟨A7, L7, cA7, cL7, rfl, ho7, b7⟩; rw [HId.out] at ho7 ⊢; have BY := Lib.hid (below_up BX.out b7); have HA7 := Lib.hid ho7.at_; clear b7 ho7) | (go_at_call 19; refine (HSm.out _ _ _ _ _ HA7.out BY.out).mono ?_; rintro e w8 ⟨rfl, b8⟩; have BZ := Lib.hid (below_up BY.out b8); clear b8))
              all_goals
                go_wp2_with fail
                go_ret
                exact ⟨rfl, below_up BR.out BZ.out⟩
            · have e0 := lcheck_vals hz
              have HCk := Lib.hid (show ∀ W, Below wr.heap.size wr W → Calls Try.prog 17 #[linV A1 L1 cA1 cL1 x, I64 65536] W fun e w' => e = .returned (I64 (lcheck x 65536)) ∧ Below W.heap.size W w' from fun W hW => lcheck_any A1 L1 cA1 cL1 x 65536 W (HA5.out.up (below_q' HQ.out hW)))
              clear hz HIdem
              rcases e0 with e0 | e0
              all_goals
               rw [e0] at HCk
               clear e0
               go_region_with (first | (go_at_call 17; refine (HCk.out _ (below_drew (Below.refl _ _))).mono ?_; rintro e w6 ⟨rfl, b6⟩; have BX := Lib.hid (below_up (below_drew (Below.refl wr.heap.size wr)) b6); clear b6))
               all_goals
                go_wp2_with fail
                go_ret
                exact ⟨rfl, below_up BR.out BX.out⟩
end Go.Proofs.Ytibfgeoiemmjoaa
