/- LinNormEquivalent returns true at every input. -/
import Derived.Test.YtibfgeoiemmjoaaSt12
import Derived.Deep.RegionHeld3
namespace Go.Proofs.Ytibfgeoiemmjoaa
open Go.RowKit Go.Shelf

theorem trL_max (p : Int) : (trL p 8).length ≤ maxLen := by rw [trL_len]; unfold maxLen; omega
theorem lval_bit (p : Int) {y : Int} (h0 : y ≠ 0) (h1 : -8 ≤ y) (h2 : y ≤ 8) : lval (trL p 8) y = bitV p y := by
  unfold lval bitV
  rw [trL_len, decide_eq_true (show y.natAbs < 9 by omega), Bool.true_and]
  congr 1
  have : y.natAbs < (trL p 8).length := by rw [trL_len]; omega
  rw [List.getD_eq_getElem?_getD, List.getElem?_eq_getElem this]
  simp only [trL, List.getElem_map, List.getElem_range, Option.getD_some]
  rw [decide_eq_true (by omega), Bool.true_and]
theorem lvalue_bit {l : LinV} (h : lcheck l 8 = 0) (p : Int) : lvalue l (trL p 8) = lholds (bitV p) l := by
  obtain ⟨_, _, _, _, _, h6, _⟩ := lcheck_ok h
  unfold lvalue lholds
  rw [decide_eq_true (lcheck_up h (m := 65536) (by omega) (by omega)), Bool.true_and, lsum_congr (p' := bitV p)]
  intro q hq
  have := h6 q.2 (List.of_mem_zip hq).2
  exact lval_bit p this.1 this.2.1 this.2.2
theorem norm_bit {l : LinV} (h : lcheck l 8 = 0) (p : Int) : lholds (bitV p) (normP l) = lholds (bitV p) l := by
  have h65 := lcheck_up h (m := 65536) (by omega) (by omega)
  obtain ⟨_, _, h3, _, _, h6, _⟩ := lcheck_ok h
  unfold normP
  rw [if_pos h65]
  exact norm_equiv _ _ h3 (fun x hx => (h6 x hx).1) (bitV_reg p)
structure HoldOk (l : LinV) : Prop where
  len : l.C.length = l.L.length
  few : l.L.length ≤ 60
  lit : ∀ y ∈ l.L, y ≠ 0 ∧ -8 ≤ y ∧ y ≤ 8
  co : ∀ c ∈ l.C, -10000000000000000 ≤ c ∧ c ≤ 10000000000000000
theorem HoldOk.arg {l : LinV} (h : lcheck l 8 = 0) (hf : fewP l = true) : HoldOk l := by
  obtain ⟨_, _, h3, _, h5, h6, _⟩ := lcheck_ok h
  simp [fewP] at hf
  exact ⟨h3, hf.1, h6, fun c hc => by have := h5 c hc; omega⟩
theorem HoldOk.norm {l : LinV} (h : lcheck l 8 = 0) (hf : fewP l = true) : HoldOk (normP l) := by
  have h65 := lcheck_up h (m := 65536) (by omega) (by omega)
  simp [fewP] at hf
  have h1 := norm_bd h65
  have h2 := norm_facts h65
  exact ⟨h2.1, (normP_len l ⟨hf.2, hf.1⟩).2, norm_lits h, fun c hc => by have := h1.1 c hc; have := h2.2.2.1 c hc; omega⟩
theorem fewP_mk {l : LinV} (h : fewP l = true) : fewP l = true := h
set_option maxRecDepth 100000 in
set_option maxHeartbeats 3200000 in
theorem equivL_any (A L : Option Addr) (cA cL : Nat) (l : LinV) (w : World) (h : LinAt w A L l) : Calls Try.prog 6 #[linV A L cA cL l] w fun e w' => e = .returned (.bool true) ∧ Below w.heap.size w w' := by
  have S1 := Lib.hid (show St1 w ⟨w.heap.size, A, L, cA, cL, l⟩ (w.alloc (linBox A L cA cL l)) from ⟨below1 w _, BoxAt.new w h⟩)
  clear h
  go_enter Try.func6, Try.ntmps6
  go_wp2_with fail
  generalize w.alloc (linBox A L cA cL l) = w1 at S1 ⊢
  obtain ⟨ga, hga⟩ : ∃ ga, ga = w.heap.size := ⟨_, rfl⟩
  rw [← hga] at S1 ⊢
  clear hga
  refine (live12_any w1).mono ?_
  rintro e w2 ⟨rfl, b2⟩
  have S := Lib.hid (S1.out.up b2)
  clear b2 S1
  have HFa := Lib.hid (show ∀ W, St1 w ⟨ga, A, L, cA, cL, l⟩ W → Calls Try.prog 13 #[linV A L cA cL l] W fun e w' => e = .returned (.bool (fewP l)) ∧ St1 w ⟨ga, A, L, cA, cL, l⟩ w' from fun W hW => (few_any A L cA cL l W).mono fun e w' ⟨h1, h2⟩ => ⟨h1, hW.up h2⟩)
  have HCa := Lib.hid (show ∀ W, St1 w ⟨ga, A, L, cA, cL, l⟩ W → Calls Try.prog 17 #[linV A L cA cL l, I64 8] W fun e w' => e = .returned (I64 (lcheck l 8)) ∧ St1 w ⟨ga, A, L, cA, cL, l⟩ w' from fun W hW => (lcheck_any A L cA cL l 8 W hW.a.at_).mono fun e w' ⟨h1, h2⟩ => ⟨h1, hW.up h2⟩)
  have c0 := S.out.a.c0
  have c1 := S.out.a.c1
  have c2 := S.out.a.c2
  simp only at c0 c1 c2
  cases hfa : fewP l
  · rw [hfa] at HFa
    clear hfa
    go_wp2_with (first | (go_at_call 13; with_reducible refine (HFa.out _ ?_).mono ?_; exact S.out; rintro e w3 ⟨rfl, s3⟩; clear c0 c1 c2 S; have S := Lib.hid s3; clear s3; have c0 := S.out.a.c0; have c1 := S.out.a.c1; have c2 := S.out.a.c2; simp only at c0 c1 c2) | (go_at_call 17; with_reducible refine (HCa.out _ ?_).mono ?_; exact S.out; rintro e w3 ⟨rfl, s3⟩; clear c0 c1 c2 S; have S := Lib.hid s3; clear s3; have c0 := S.out.a.c0; have c1 := S.out.a.c1; have c2 := S.out.a.c2; simp only at c0 c1 c2))
    go_ret
    exact ⟨rfl, S.out.bel⟩
  · by_cases hza : lcheck l 8 = 0
    · have HOl := Lib.hid (HoldOk.arg hza hfa)
      have HOx := Lib.hid (HoldOk.norm hza hfa)
      have HVb := Lib.hid (fun p => lvalue_bit hza p)
      have HNb := Lib.hid (fun p => norm_bit hza p)
      rw [hfa] at HFa
      rw [hza] at HCa
      clear hfa hza
      go_wp2_with (first | (go_at_call 13; with_reducible refine (HFa.out _ ?_).mono ?_; exact S.out; rintro e w3 ⟨rfl, s3⟩; clear c0 c1 c2 S; have S := Lib.hid s3; clear s3; have c0 := S.out.a.c0; have c1 := S.out.a.c1; have c2 := S.out.a.c2; simp only at c0 c1 c2) | (go_at_call 17; with_reducible refine (HCa.out _ ?_).mono ?_; exact S.out; rintro e w3 ⟨rfl, s3⟩; clear c0 c1 c2 S; have S := Lib.hid s3; clear s3; have c0 := S.out.a.c0; have c1 := S.out.a.c1; have c2 := S.out.a.c2; simp only at c0 c1 c2))
      clear c0 c1 c2 HFa HCa
      refine (norm_any A L cA cL l _ S.out.a.at_).mono ?_
      intro e w4 hp
      obtain ⟨A1, L1, cA1, cL1, rfl, ho, b4⟩ := hp
      generalize normP l = x at ho HOx HNb ⊢
      have SA := Lib.hid (show St2 w ⟨ga, A, L, cA, cL, l⟩ ⟨w4.heap.size, A1, L1, cA1, cL1, x⟩ (w4.alloc (linBox A1 L1 cA1 cL1 x)) from ⟨below_up S.out.bel (below_up b4 (below1 _ _)), (S.out.a.up b4).up (below1 _ _), BoxAt.new w4 ho.at_⟩)
      clear ho b4 S
      have e1 : ((x.C.length : Int) != (x.L.length : Int)) = false := by have := HOx.out.len; simp; omega
      go_wp2_with fail
      clear e1
      generalize w4.alloc (linBox A1 L1 cA1 cL1 x) = w5 at SA ⊢
      generalize w4.heap.size = gx at SA ⊢
      go_loop [4] (fun iv => ∃ i : Nat, iv = .int .i64 i ∧ i ≤ x.L.length) (fun iv => x.L.length - (intOf iv).toNat)
      case atStart => exact ⟨0, rfl, Nat.zero_le _⟩
      case round =>
        obtain ⟨i, rfl, hi⟩ := hrel
        have f1 : w5.cell? ⟨gx, 1, none⟩ = some (.slice L1 x.L.length cL1) := SA.out.b.c1
        by_cases hlt : i < x.L.length
        · obtain ⟨b, off, hb, _, hc0⟩ := SA.out.b.at_.2.1.at_ hlt
          simp only at hb hc0
          subst hb
          have hy := HOx.out.lit x.L[i] (List.getElem_mem hlt)
          have hl60 := HOx.out.few
          generalize x.L[i] = y at hc0 hy
          obtain ⟨y0, y1, y2⟩ := hy
          have t0 : (y == 0) = false := by simpa using y0
          go_wp2_with fail
          go_round
          case rel => exact ⟨i + 1, by go_num, by omega⟩
          case measure => simp [intOf]; omega
        · have hl60 := HOx.out.few
          have hge : i = x.L.length := by omega
          subst hge
          go_wp2_with fail
          go_loopw [5, 6] (fun kv _ wr => ∃ k : Nat, kv = .int .i64 k ∧ k ≤ 256 ∧ St2 w ⟨ga, A, L, cA, cL, l⟩ ⟨gx, A1, L1, cA1, cL1, x⟩ wr) (fun kv _ _ => 256 - (intOf kv).toNat)
          case atStart => exact ⟨0, rfl, Nat.zero_le _, SA.out⟩
          case round =>
            obtain ⟨k, rfl, hk, hs⟩ := hrel
            have S := Lib.hid hs
            clear hs SA f1 hl60
            by_cases hlt : k < 256
            · go_wp2_with fail
              refine (truths12_any k wr).mono ?_
              rintro e w6 ⟨T, cT, rfl, rt, b6⟩
              have S6 := Lib.hid (S.out.up b6)
              have HVa := Lib.hid (show ∀ W, Below w6.heap.size w6 W → Calls Try.prog 23 #[linV A L cA cL l, .slice T 9 cT] W fun e w' => e = .returned (.bool (lholds (bitV k) l)) ∧ Below w6.heap.size w6 w' from fun W hW => (lvalue_any A L T cA cL cT l (trL k 8) W (S6.out.up hW).a.at_ (rt.up hW) (trL_max _)).mono fun e w' ⟨h1, h2⟩ => ⟨by rw [HVb.out] at h1; exact h1, below_up hW h2⟩)
              have HVl := Lib.hid (show ∀ W, Below w6.heap.size w6 W → Calls Try.prog 30 #[linV A L cA cL l, .int .i64 k] W fun e w' => e = .returned (.bool (lholds (bitV k) l)) ∧ Below w6.heap.size w6 w' from fun W hW => (holds12_any A L cA cL l k W (S6.out.up hW).a.at_ HOl.out.len HOl.out.few HOl.out.lit HOl.out.co).mono fun e w' ⟨h1, h2⟩ => ⟨h1, below_up hW h2⟩)
              have HVx := Lib.hid (show ∀ W, Below w6.heap.size w6 W → Calls Try.prog 30 #[linV A1 L1 cA1 cL1 x, .int .i64 k] W fun e w' => e = .returned (.bool (lholds (bitV k) l)) ∧ Below w6.heap.size w6 w' from fun W hW => (holds12_any A1 L1 cA1 cL1 x k W (S6.out.up hW).b.at_ HOx.out.len HOx.out.few HOx.out.lit HOx.out.co).mono fun e w' ⟨h1, h2⟩ => ⟨by rw [HNb.out] at h1; exact h1, below_up hW h2⟩)
              have HCe := Lib.hid (show ∀ W, Below w6.heap.size w6 W → (W.cell? ⟨ga, 0, none⟩ = some (.slice A l.C.length cA) ∧ W.cell? ⟨ga, 1, none⟩ = some (.slice L l.L.length cL) ∧ W.cell? ⟨ga, 2, none⟩ = some (I64 l.B)) ∧ (W.cell? ⟨gx, 0, none⟩ = some (.slice A1 x.C.length cA1) ∧ W.cell? ⟨gx, 1, none⟩ = some (.slice L1 x.L.length cL1) ∧ W.cell? ⟨gx, 2, none⟩ = some (I64 x.B)) from fun W hW =>
                have hd := S6.out.up hW
                ⟨⟨hd.a.c0, hd.a.c1, hd.a.c2⟩, hd.b.c0, hd.b.c1, hd.b.c2⟩)
              clear rt b6 S
              generalize lholds (bitV k) l = v at HVa HVl HVx
              have BX := Lib.hid (Below.refl w6.heap.size w6)
              obtain ⟨⟨c0, c1, c2⟩, c3, c4, c5⟩ := HCe.out _ BX.out
              cases v
              all_goals
                go_wp2_with fail
                go_region_held3 (fun W => (W.cell? ⟨ga, 0, none⟩ = some (.slice A l.C.length cA) ∧ W.cell? ⟨ga, 1, none⟩ = some (.slice L l.L.length cL) ∧ W.cell? ⟨ga, 2, none⟩ = some (I64 l.B)) ∧ (W.cell? ⟨gx, 0, none⟩ = some (.slice A1 x.C.length cA1) ∧ W.cell? ⟨gx, 1, none⟩ = some (.slice L1 x.L.length cL1) ∧ W.cell? ⟨gx, 2, none⟩ = some (I64 x.B)))
                  (first | go_keep | (exact HCe.out _ BX.out) | (exact HCe.out _ (below_drew BX.out))) (first | (go_at_call 23; with_reducible refine (HVa.out _ ?_).mono ?_; (first | exact BX.out | exact below_drew BX.out); rintro e w7 ⟨rfl, b7⟩; clear BX; have BX := Lib.hid b7; clear b7) | (go_at_call 30; with_reducible refine (HVl.out _ ?_).mono ?_; (first | exact BX.out | exact below_drew BX.out); rintro e w7 ⟨rfl, b7⟩; clear BX; have BX := Lib.hid b7; clear b7) | (go_at_call 30; with_reducible refine (HVx.out _ ?_).mono ?_; (first | exact BX.out | exact below_drew BX.out); rintro e w7 ⟨rfl, b7⟩; clear BX; have BX := Lib.hid b7; clear b7))
                all_goals
                  go_wp2_with fail
                  go_roundw
                  case rel => exact ⟨k + 1, by go_num, by omega, S6.out.up BX.out⟩
                  case measure => simp [intOf]; omega
            · obtain rfl : k = 256 := by omega
              go_wp2_with fail
              go_ret
              exact ⟨rfl, S.out.bel⟩
    · have e0 := lcheck_vals' hza
      rw [hfa] at HFa
      clear hza hfa
      rcases e0 with e0 | e0
      all_goals
        rw [e0] at HCa
        clear e0
        go_wp2_with (first | (go_at_call 13; with_reducible refine (HFa.out _ ?_).mono ?_; exact S.out; rintro e w3 ⟨rfl, s3⟩; clear c0 c1 c2 S; have S := Lib.hid s3; clear s3; have c0 := S.out.a.c0; have c1 := S.out.a.c1; have c2 := S.out.a.c2; simp only at c0 c1 c2) | (go_at_call 17; with_reducible refine (HCa.out _ ?_).mono ?_; exact S.out; rintro e w3 ⟨rfl, s3⟩; clear c0 c1 c2 S; have S := Lib.hid s3; clear s3; have c0 := S.out.a.c0; have c1 := S.out.a.c1; have c2 := S.out.a.c2; simp only at c0 c1 c2))
        go_ret
        exact ⟨rfl, S.out.bel⟩
end Go.Proofs.Ytibfgeoiemmjoaa
