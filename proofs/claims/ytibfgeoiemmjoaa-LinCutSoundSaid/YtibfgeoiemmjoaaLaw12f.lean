/- LinCutSound returns true at every input. -/
import Derived.Test.YtibfgeoiemmjoaaSt12
import Derived.Deep.RegionHeld3
namespace Go.Proofs.Ytibfgeoiemmjoaa
open Go.RowKit Go.Shelf

theorem norm_bit {l : LinV} (h : lcheck l 8 = 0) (p : Int) : lholds (bitV p) (normP l) = lholds (bitV p) l := by
  have h65 := lcheck_up h (m := 65536) (by omega) (by omega)
  obtain ⟨_, _, h3, _, _, h6, _⟩ := lcheck_ok h
  unfold normP
  rw [if_pos h65]
  exact norm_equiv _ _ h3 (fun x hx => (h6 x hx).1) (bitV_reg p)
structure HoldOk (l : LinV) : Prop where
  len : l.C.length = l.L.length
  few : l.L.length ≤ 60
  lit : ∀ y ∈ l.L, y ≠ 0 ∧ -8 ≤ y ∧ y ≤ 8
  co : ∀ c ∈ l.C, -10000000000000000 ≤ c ∧ c ≤ 10000000000000000
theorem HoldOk.arg {l : LinV} (h : lcheck l 8 = 0) (hf : fewP l = true) : HoldOk l := by
  obtain ⟨_, _, h3, _, h5, h6, _⟩ := lcheck_ok h
  simp [fewP] at hf
  exact ⟨h3, hf.1, h6, fun c hc => by have := h5 c hc; omega⟩
theorem HoldOk.norm {l : LinV} (h : lcheck l 8 = 0) (hf : fewP l = true) : HoldOk (normP l) := by
  have h65 := lcheck_up h (m := 65536) (by omega) (by omega)
  simp [fewP] at hf
  have h1 := norm_bd h65
  have h2 := norm_facts h65
  exact ⟨h2.1, (normP_len l ⟨hf.2, hf.1⟩).2, norm_lits h, fun c hc => by have := h1.1 c hc; have := h2.2.2.1 c hc; omega⟩
theorem ceil_le (c d : Int) (hc : 1 ≤ c) (hd : 1 ≤ d) : (c + d - 1) / d ≤ c := by
  have h1 : c + d - 1 ≤ c * d := by
    obtain ⟨k, rfl⟩ : ∃ k, d = k + 1 := ⟨d - 1, by omega⟩
    have : 0 ≤ (c - 1) * k := Int.mul_nonneg (by omega) (by omega)
    rw [Int.mul_add, Int.mul_one]
    rw [Int.sub_mul, Int.one_mul] at this
    omega
  calc (c + d - 1) / d ≤ (c * d) / d := Int.ediv_le_ediv (by omega) h1
    _ = c := Int.mul_ediv_cancel _ (by omega)
theorem cut_all {l : LinV} {d : Int} (hz : lcheck l 8 = 0) (hf : fewP l = true) (h1 : 1 ≤ d) (h2 : d ≤ 1099511627776) : ∃ xC xB, cutP l d = (⟨xC, (normP l).L, xB⟩, 0) ∧ cutP l 1 = (normP l, 0) ∧ HoldOk ⟨xC, (normP l).L, xB⟩ ∧ (∀ c ∈ xC, 1 ≤ c ∧ c ≤ xB) ∧ (xC.length = (normP l).L.length) ∧ ∀ p, lholds (bitV p) l = true → lholds (bitV p) ⟨xC, (normP l).L, xB⟩ = true := by
  have h65 := lcheck_up hz (m := 65536) (by omega) (by omega)
  have hn := HoldOk.norm hz hf
  have hc := norm_canon l
  refine ⟨_, _, by unfold cutP; rw [if_neg (by omega), if_neg (by omega)], ?_, ⟨?_, ?_, ?_, ?_⟩, ?_, ?_, ?_⟩
  · unfold cutP
    rw [if_neg (by omega), if_neg (by omega)]
    have := cut_one (normP l)
    unfold cutW at this
    rw [this]
  · simpa using hn.len
  · exact hn.few
  · exact hn.lit
  · intro c hc'
    obtain ⟨c0, hc0, rfl⟩ := List.mem_map.1 hc'
    have e1 := hc.co c0 hc0
    have e2 := hn.co c0 hc0
    have e3 := ceil_le c0 d (by omega) h1
    have e4 := ceil_pos h1 (show 1 ≤ c0 by omega)
    omega
  · intro c hc'
    obtain ⟨c0, hc0, rfl⟩ := List.mem_map.1 hc'
    have e1 := hc.co c0 hc0
    exact ⟨ceil_pos h1 (by omega), ceil_mono h1 (by omega)⟩
  · simpa using hn.len
  · intro p hp
    exact cut_sound _ (normP l) d h1 (by rw [norm_bit hz]; exact hp)
structure StC (w : World) (a x o : BoxV) (W : World) : Prop where
  s : St2 w a x W
  o : BoxAt W o
theorem StC.up {w W W' : World} {a x o : BoxV} (h : StC w a x o W) (hb : Below W.heap.size W W') : StC w a x o W' := ⟨h.s.up hb, h.o.up hb⟩
theorem below_dN (w : World) {wr : World} (h : ∃ q, wr = w.drewN q) : Below w.heap.size w wr := by obtain ⟨q, rfl⟩ := h; exact ⟨rfl, rfl, rfl, Nat.le_refl _, fun _ _ => rfl⟩
set_option maxRecDepth 100000 in
set_option maxHeartbeats 3200000 in
theorem cutSound_any (A L : Option Addr) (cA cL : Nat) (l : LinV) (d : Int) (w : World) (h : LinAt w A L l) : Calls Try.prog 10 #[linV A L cA cL l, I64 d] w fun e w' => e = .returned (.bool true) ∧ Below w.heap.size w w' := by
  have S1 := Lib.hid (show St1 w ⟨w.heap.size, A, L, cA, cL, l⟩ (w.alloc (linBox A L cA cL l)) from ⟨below1 w _, BoxAt.new w h⟩)
  clear h
  go_enter Try.func10, Try.ntmps10
  go_wp2_with fail
  generalize w.alloc (linBox A L cA cL l) = w1 at S1 ⊢
  obtain ⟨ga, hga⟩ : ∃ ga, ga = w.heap.size := ⟨_, rfl⟩
  rw [← hga] at S1 ⊢
  clear hga
  refine (live12_any w1).mono ?_
  rintro e w2 ⟨rfl, b2⟩
  have S := Lib.hid (S1.out.up b2)
  clear b2 S1
  have HFa := Lib.hid (show ∀ W, St1 w ⟨ga, A, L, cA, cL, l⟩ W → Calls Try.prog 13 #[linV A L cA cL l] W fun e w' => e = .returned (.bool (fewP l)) ∧ St1 w ⟨ga, A, L, cA, cL, l⟩ w' from fun W hW => (few_any A L cA cL l W).mono fun e w' ⟨h1, h2⟩ => ⟨h1, hW.up h2⟩)
  have HCa := Lib.hid (show ∀ W, St1 w ⟨ga, A, L, cA, cL, l⟩ W → Calls Try.prog 17 #[linV A L cA cL l, I64 8] W fun e w' => e = .returned (I64 (lcheck l 8)) ∧ St1 w ⟨ga, A, L, cA, cL, l⟩ w' from fun W hW => (lcheck_any A L cA cL l 8 W hW.a.at_).mono fun e w' ⟨h1, h2⟩ => ⟨h1, hW.up h2⟩)
  have c0 := S.out.a.c0
  have c1 := S.out.a.c1
  have c2 := S.out.a.c2
  simp only at c0 c1 c2
  cases hfa : fewP l
  · rw [hfa] at HFa
    clear hfa
    go_wp2_with (first | (go_at_call 13; with_reducible refine (HFa.out _ ?_).mono ?_; exact S.out; rintro e w3 ⟨rfl, s3⟩; clear c0 c1 c2 S; have S := Lib.hid s3; clear s3; have c0 := S.out.a.c0; have c1 := S.out.a.c1; have c2 := S.out.a.c2; simp only at c0 c1 c2) | (go_at_call 17; with_reducible refine (HCa.out _ ?_).mono ?_; exact S.out; rintro e w3 ⟨rfl, s3⟩; clear c0 c1 c2 S; have S := Lib.hid s3; clear s3; have c0 := S.out.a.c0; have c1 := S.out.a.c1; have c2 := S.out.a.c2; simp only at c0 c1 c2))
    go_ret
    exact ⟨rfl, S.out.bel⟩
  · by_cases hza : lcheck l 8 = 0
    · by_cases hd1 : d < 1
      · rw [hfa] at HFa
        rw [hza] at HCa
        clear hfa hza
        go_wp2_with (first | (go_at_call 13; with_reducible refine (HFa.out _ ?_).mono ?_; exact S.out; rintro e w3 ⟨rfl, s3⟩; clear c0 c1 c2 S; have S := Lib.hid s3; clear s3; have c0 := S.out.a.c0; have c1 := S.out.a.c1; have c2 := S.out.a.c2; simp only at c0 c1 c2) | (go_at_call 17; with_reducible refine (HCa.out _ ?_).mono ?_; exact S.out; rintro e w3 ⟨rfl, s3⟩; clear c0 c1 c2 S; have S := Lib.hid s3; clear s3; have c0 := S.out.a.c0; have c1 := S.out.a.c1; have c2 := S.out.a.c2; simp only at c0 c1 c2))
        go_ret
        exact ⟨rfl, S.out.bel⟩
      · have hd1' : decide (d < 1) = false := by simpa using hd1
        by_cases hd2 : 1099511627776 < d
        · rw [hfa] at HFa
          rw [hza] at HCa
          clear hfa hza
          go_wp2_with (first | (go_at_call 13; with_reducible refine (HFa.out _ ?_).mono ?_; exact S.out; rintro e w3 ⟨rfl, s3⟩; clear c0 c1 c2 S; have S := Lib.hid s3; clear s3; have c0 := S.out.a.c0; have c1 := S.out.a.c1; have c2 := S.out.a.c2; simp only at c0 c1 c2) | (go_at_call 17; with_reducible refine (HCa.out _ ?_).mono ?_; exact S.out; rintro e w3 ⟨rfl, s3⟩; clear c0 c1 c2 S; have S := Lib.hid s3; clear s3; have c0 := S.out.a.c0; have c1 := S.out.a.c1; have c2 := S.out.a.c2; simp only at c0 c1 c2))
          go_ret
          exact ⟨rfl, S.out.bel⟩
        · have hd2' : decide (1099511627776 < d) = false := by simpa using hd2
          obtain ⟨xC, xB, k1, k2, k3, k4, k5, k6⟩ := cut_all hza hfa (show 1 ≤ d by omega) (by omega)
          have K1 := Lib.hid k1
          have K2 := Lib.hid k2
          have HOx := Lib.hid k3
          have HXc := Lib.hid k4
          have HXl := Lib.hid k5
          have HXs := Lib.hid k6
          have HOl := Lib.hid (HoldOk.arg hza hfa)
          clear k1 k2 k3 k4 k5 k6
          rw [hfa] at HFa
          rw [hza] at HCa
          clear hfa hza hd1 hd2
          go_wp2_with (first | (go_at_call 13; with_reducible refine (HFa.out _ ?_).mono ?_; exact S.out; rintro e w3 ⟨rfl, s3⟩; clear c0 c1 c2 S; have S := Lib.hid s3; clear s3; have c0 := S.out.a.c0; have c1 := S.out.a.c1; have c2 := S.out.a.c2; simp only at c0 c1 c2) | (go_at_call 17; with_reducible refine (HCa.out _ ?_).mono ?_; exact S.out; rintro e w3 ⟨rfl, s3⟩; clear c0 c1 c2 S; have S := Lib.hid s3; clear s3; have c0 := S.out.a.c0; have c1 := S.out.a.c1; have c2 := S.out.a.c2; simp only at c0 c1 c2))
          clear c0 c1 c2 HFa HCa hd1' hd2'
          refine (cut_any A L cA cL l d _ S.out.a.at_).mono ?_
          intro e w4 hp
          rw [K1.out] at hp
          obtain ⟨A1, L1, cA1, cL1, rfl, ho, b4⟩ := hp
          have HNm := Lib.hid (show ∀ W, LinAt W A L l → Calls Try.prog 15 #[linV A L cA cL l] W (NormPost l W) from fun W hW => norm_any A L cA cL l W hW)
          generalize hyl : normP l = y at ho HOx HXs HXl K2 ⊢
          have HY := Lib.hid hyl
          clear hyl
          have S5 := Lib.hid (show St2 w ⟨ga, A, L, cA, cL, l⟩ ⟨w4.heap.size, A1, L1, cA1, cL1, ⟨xC, y.L, xB⟩⟩ (w4.alloc (linBox A1 L1 cA1 cL1 ⟨xC, y.L, xB⟩)) from ⟨below_up S.out.bel (below_up b4 (below1 _ _)), (S.out.a.up b4).up (below1 _ _), BoxAt.new w4 ho.at_⟩)
          clear ho b4 S K1
          go_upto_region 6 with fail
          generalize w4.alloc (linBox A1 L1 cA1 cL1 ⟨xC, y.L, xB⟩) = w5 at S5 ⊢
          generalize w4.heap.size = gx at S5 ⊢
          have c0 := S5.out.a.c0
          have c1 := S5.out.a.c1
          have c2 := S5.out.a.c2
          simp only at c0 c1 c2
          go_wp2_with fail
          clear c0 c1 c2
          refine (cut_any A L cA cL l 1 _ S5.out.a.at_).mono ?_
          intro e w6 hp
          rw [K2.out] at hp
          obtain ⟨A2, L2, cA2, cL2, rfl, ho, b6⟩ := hp
          have S7 := Lib.hid (show StC w ⟨ga, A, L, cA, cL, l⟩ ⟨gx, A1, L1, cA1, cL1, ⟨xC, y.L, xB⟩⟩ ⟨w6.heap.size, A2, L2, cA2, cL2, y⟩ (w6.alloc (linBox A2 L2 cA2 cL2 y)) from ⟨S5.out.up (below_up b6 (below1 _ _)), BoxAt.new w6 ho.at_⟩)
          clear ho b6 S5 K2
          go_wp2_with fail
          generalize w6.alloc (linBox A2 L2 cA2 cL2 y) = w7 at S7 ⊢
          generalize w6.heap.size = go at S7 ⊢
          have HCe := Lib.hid (show ∀ W, Below w7.heap.size w7 W → (W.cell? ⟨ga, 0, none⟩ = some (.slice A l.C.length cA) ∧ W.cell? ⟨ga, 1, none⟩ = some (.slice L l.L.length cL) ∧ W.cell? ⟨ga, 2, none⟩ = some (I64 l.B)) ∧ (W.cell? ⟨gx, 0, none⟩ = some (.slice A1 xC.length cA1) ∧ W.cell? ⟨gx, 1, none⟩ = some (.slice L1 y.L.length cL1) ∧ W.cell? ⟨gx, 2, none⟩ = some (I64 xB)) ∧ (W.cell? ⟨go, 0, none⟩ = some (.slice A2 y.C.length cA2) ∧ W.cell? ⟨go, 1, none⟩ = some (.slice L2 y.L.length cL2) ∧ W.cell? ⟨go, 2, none⟩ = some (I64 y.B)) from fun W hW =>
            have hd := S7.out.up hW
            ⟨⟨hd.s.a.c0, hd.s.a.c1, hd.s.a.c2⟩, ⟨hd.s.b.c0, hd.s.b.c1, hd.s.b.c2⟩, hd.o.c0, hd.o.c1, hd.o.c2⟩)
          have HNm2 := Lib.hid (show ∀ W, Below w7.heap.size w7 W → Calls Try.prog 15 #[linV A L cA cL l] W (fun e w' => ∃ A' L' cA' cL', e = .returned (linV A' L' cA' cL' y) ∧ LinAt w' A' L' y ∧ Below w7.heap.size w7 w') from fun W hW => (HNm.out W (S7.out.up hW).s.a.at_).mono fun e w' hp => by
            obtain ⟨A', L', cA', cL', h1, h2, h3⟩ := hp
            exact ⟨A', L', cA', cL', by rw [h1, HY.out], by rw [HY.out] at h2; exact h2.at_, below_up hW h3⟩)
          have HSm := Lib.hid (show ∀ W A7 L7 cA7 cL7, LinAt W A7 L7 y → Below w7.heap.size w7 W → Calls Try.prog 19 #[linV A2 L2 cA2 cL2 y, linV A7 L7 cA7 cL7 y] W fun e w' => e = .returned (.bool true) ∧ Below w7.heap.size w7 w' from fun W A7 L7 cA7 cL7 h7 hW => by
            have := same_any A2 L2 A7 L7 cA2 cL2 cA7 cL7 y y W (S7.out.up hW).o.at_ h7
            rw [sameP_iff.2 rfl] at this
            exact this.mono fun e w' ⟨h1, h2⟩ => ⟨h1, below_up hW h2⟩)
          clear HNm
          have BX := Lib.hid (Below.refl w7.heap.size w7)
          obtain ⟨⟨c0, c1, c2⟩, ⟨c3, c4, c5⟩, c6, c7, c8⟩ := HCe.out _ BX.out
          go_cut [61] from 40 to 61 (fun s wx => s = .bool false ∧ Below w7.heap.size w7 wx)
          case first =>
            go_region_held3 (fun W => (W.cell? ⟨ga, 0, none⟩ = some (.slice A l.C.length cA) ∧ W.cell? ⟨ga, 1, none⟩ = some (.slice L l.L.length cL) ∧ W.cell? ⟨ga, 2, none⟩ = some (I64 l.B)) ∧ (W.cell? ⟨gx, 0, none⟩ = some (.slice A1 xC.length cA1) ∧ W.cell? ⟨gx, 1, none⟩ = some (.slice L1 y.L.length cL1) ∧ W.cell? ⟨gx, 2, none⟩ = some (I64 xB)) ∧ (W.cell? ⟨go, 0, none⟩ = some (.slice A2 y.C.length cA2) ∧ W.cell? ⟨go, 1, none⟩ = some (.slice L2 y.L.length cL2) ∧ W.cell? ⟨go, 2, none⟩ = some (I64 y.B))) (first | go_keep | (exact HCe.out _ BX.out) | (exact HCe.out _ (below_drew BX.out))) (first | (go_at_call 15; with_reducible refine (HNm2.out _ ?_).mono ?_; (first | exact BX.out | exact below_drew BX.out); intro e w7 hp; obtain ⟨A7, L7, cA7, cL7, rfl, at7, b7⟩ := hp; have H7 := Lib.hid at7; clear BX at7; have BX := Lib.hid b7; clear b7) | (go_at_call 19; with_reducible refine (HSm.out _ _ _ _ _ H7.out ?_).mono ?_; exact BX.out; rintro e w8 ⟨rfl, b8⟩; clear BX; have BX := Lib.hid b8; clear b8))
            all_goals
              go_wp2_with fail
              go_meet
              case rel => exact ⟨rfl, BX.out⟩
          case rest =>
            obtain ⟨rfl, hcut⟩ := hcut
            clear c0 c1 c2 c3 c4 c5 c6 c7 c8 HNm2 HSm
            have SC := Lib.hid (S7.out.up hcut)
            clear hcut HCe S7 BX
            go_wp2_with fail
            go_loopw [9] (fun iv wr => ∃ i : Nat, iv = .int .i64 i ∧ i ≤ y.L.length ∧ ∃ q, wr = wc.drewN q) (fun iv _ => y.L.length - (intOf iv).toNat)
            case atStart => exact ⟨0, rfl, Nat.zero_le _, 0, rfl⟩
            case round =>
              obtain ⟨i, rfl, hi, hq⟩ := hrel
              have HQ := Lib.hid hq
              have hl60 : y.L.length ≤ 60 := HOx.out.few
              have SR := Lib.hid (SC.out.up (below_dN wc hq))
              clear hq
              have f0 : wr.cell? ⟨gx, 0, none⟩ = some (.slice A1 xC.length cA1) := SR.out.s.b.c0
              have f1 : wr.cell? ⟨gx, 1, none⟩ = some (.slice L1 y.L.length cL1) := SR.out.s.b.c1
              have f2 : wr.cell? ⟨gx, 2, none⟩ = some (I64 xB) := SR.out.s.b.c2
              have f3 : wr.cell? ⟨go, 1, none⟩ = some (.slice L2 y.L.length cL2) := SR.out.o.c1
              by_cases hlt : i < y.L.length
              · have hlt2 : i < xC.length := by rw [HXl.out]; exact hlt
                obtain ⟨b0, o0, hb0, _, d0⟩ := SR.out.s.b.at_.1.at_ hlt2
                obtain ⟨b1, o1, hb1, _, d1⟩ := SR.out.s.b.at_.2.1.at_ hlt
                obtain ⟨b2, o2, hb2, _, d2⟩ := SR.out.o.at_.2.1.at_ hlt
                simp only at hb0 hb1 hb2 d0 d1 d2
                rw [hb0] at f0
                rw [hb1] at f1
                rw [hb2] at f3
                clear hb0 hb1 hb2
                have hy := HOx.out.lit y.L[i] (List.getElem_mem hlt)
                have hcc := HXc.out xC[i] (List.getElem_mem hlt2)
                generalize y.L[i] = z at d1 d2 hy
                generalize xC[i] = c at d0 hcc
                obtain ⟨y0, y1, y2⟩ := hy
                obtain ⟨hc1, hc2⟩ := hcc
                have t0 : (z == 0) = false := by simpa using y0
                have t1 : decide (xC.length ≤ i) = false := by simp; omega
                have t2 : decide (c < 1) = false := by simp; omega
                have t3 : decide (xB < c) = false := by simp; omega
                have t4 : decide (8 < z) = false := by simp; omega
                have t5 : decide (z < -8) = false := by simp; omega
                have t6 : (z != z) = false := by simp
                go_wp2_with fail
                go_quiet (fail)
                go_wp2_with fail
                go_roundw
                case rel => exact ⟨i + 1, by go_num, by omega, drew_one HQ.out _⟩
                case measure => simp [intOf]; omega
              · obtain rfl : i = y.L.length := by omega
                go_wp2_with fail
                clear f0 f1 f2 f3 HQ
                go_loopw [10] (fun kv w9 => ∃ k : Nat, kv = .int .i64 k ∧ k ≤ 256 ∧ StC w ⟨ga, A, L, cA, cL, l⟩ ⟨gx, A1, L1, cA1, cL1, ⟨xC, y.L, xB⟩⟩ ⟨go, A2, L2, cA2, cL2, y⟩ w9) (fun kv _ => 256 - (intOf kv).toNat)
                case atStart => exact ⟨0, rfl, Nat.zero_le _, SR.out⟩
                case round =>
                  obtain ⟨k, rfl, hk, hs⟩ := hrel
                  have S6 := Lib.hid hs
                  clear hs SR
                  obtain ⟨w6, rfl⟩ : ∃ w6 : World, w6 = wr := ⟨_, rfl⟩
                  by_cases hlt : k < 256
                  · have HVl := Lib.hid (show ∀ W, Below w6.heap.size w6 W → Calls Try.prog 30 #[linV A L cA cL l, .int .i64 k] W fun e w' => e = .returned (.bool (lholds (bitV k) l)) ∧ Below w6.heap.size w6 w' from fun W hW => (holds12_any A L cA cL l k W (S6.out.up hW).s.a.at_ HOl.out.len HOl.out.few HOl.out.lit HOl.out.co).mono fun e w' ⟨h1, h2⟩ => ⟨h1, below_up hW h2⟩)
                    have HVx := Lib.hid (show ∀ W, Below w6.heap.size w6 W → Calls Try.prog 30 #[linV A1 L1 cA1 cL1 ⟨xC, y.L, xB⟩, .int .i64 k] W fun e w' => e = .returned (.bool (lholds (bitV k) ⟨xC, y.L, xB⟩)) ∧ Below w6.heap.size w6 w' from fun W hW => (holds12_any A1 L1 cA1 cL1 ⟨xC, y.L, xB⟩ k W (S6.out.up hW).s.b.at_ HOx.out.len HOx.out.few HOx.out.lit HOx.out.co).mono fun e w' ⟨h1, h2⟩ => ⟨h1, below_up hW h2⟩)
                    have HCe := Lib.hid (show ∀ W, Below w6.heap.size w6 W → (W.cell? ⟨ga, 0, none⟩ = some (.slice A l.C.length cA) ∧ W.cell? ⟨ga, 1, none⟩ = some (.slice L l.L.length cL) ∧ W.cell? ⟨ga, 2, none⟩ = some (I64 l.B)) ∧ (W.cell? ⟨gx, 0, none⟩ = some (.slice A1 xC.length cA1) ∧ W.cell? ⟨gx, 1, none⟩ = some (.slice L1 y.L.length cL1) ∧ W.cell? ⟨gx, 2, none⟩ = some (I64 xB)) from fun W hW =>
                      have hd := S6.out.up hW
                      ⟨⟨hd.s.a.c0, hd.s.a.c1, hd.s.a.c2⟩, hd.s.b.c0, hd.s.b.c1, hd.s.b.c2⟩)
                    have HV := Lib.hid (HXs.out k)
                    generalize lholds (bitV k) l = vl at HVl HV
                    generalize lholds (bitV k) ⟨xC, y.L, xB⟩ = vx at HVx HV
                    have BX := Lib.hid (Below.refl w6.heap.size w6)
                    obtain ⟨⟨c0, c1, c2⟩, c3, c4, c5⟩ := HCe.out _ BX.out
                    cases vl <;> cases vx <;> first | (exfalso; exact Bool.noConfusion (HV.out rfl)) | skip
                    all_goals
                      clear HV
                      go_wp2_with (first | (go_at_call 30; with_reducible refine (HVl.out _ ?_).mono ?_; exact BX.out; rintro e w7 ⟨rfl, b7⟩; clear c0 c1 c2 c3 c4 c5 BX; have BX := Lib.hid b7; clear b7; obtain ⟨⟨c0, c1, c2⟩, c3, c4, c5⟩ := HCe.out _ BX.out) | (go_at_call 30; with_reducible refine (HVx.out _ ?_).mono ?_; exact BX.out; rintro e w7 ⟨rfl, b7⟩; clear c0 c1 c2 c3 c4 c5 BX; have BX := Lib.hid b7; clear b7; obtain ⟨⟨c0, c1, c2⟩, c3, c4, c5⟩ := HCe.out _ BX.out))
                      go_roundw
                      case rel => exact ⟨k + 1, by go_num, by omega, S6.out.up BX.out⟩
                      case measure => simp [intOf]; omega
                  · obtain rfl : k = 256 := by omega
                    go_wp2_with fail
                    go_ret
                    exact ⟨rfl, S6.out.s.bel⟩
    · have e0 := lcheck_vals' hza
      rw [hfa] at HFa
      clear hza hfa
      rcases e0 with e0 | e0
      all_goals
        rw [e0] at HCa
        clear e0
        go_wp2_with (first | (go_at_call 13; with_reducible refine (HFa.out _ ?_).mono ?_; exact S.out; rintro e w3 ⟨rfl, s3⟩; clear c0 c1 c2 S; have S := Lib.hid s3; clear s3; have c0 := S.out.a.c0; have c1 := S.out.a.c1; have c2 := S.out.a.c2; simp only at c0 c1 c2) | (go_at_call 17; with_reducible refine (HCa.out _ ?_).mono ?_; exact S.out; rintro e w3 ⟨rfl, s3⟩; clear c0 c1 c2 S; have S := Lib.hid s3; clear s3; have c0 := S.out.a.c0; have c1 := S.out.a.c1; have c2 := S.out.a.c2; simp only at c0 c1 c2))
        go_ret
        exact ⟨rfl, S.out.bel⟩
end Go.Proofs.Ytibfgeoiemmjoaa
