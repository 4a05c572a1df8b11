/- AdderLeastMonotone's walk: at every input the law's Go text returns true, and writes nothing that was there. -/
import Derived.Test.YtogolfneckhnaaaDoorAdLeastC
import Derived.Test.YtogolfneckhnaaaDoorCnfVal
namespace Go.Proofs.YtogolfneckhnaaaDoor
open Go.RowKit Go.Shelf

theorem least_two (A : Option Addr) (cA : Nat) (l : List Int) (k : Int) (w : World) (ha : Rd I64 (· < w.heap.size) w A l) (hT : TabAt w) (hll : l.length ≤ 1000000000) :
    Calls Tryd.prog 17 #[.slice A l.length cA, I64 k] w fun e w' => ∃ C n cC c, e = .returned (.tuple #[.slice C n cC, I64 c]) ∧ Below w.heap.size w w' := by
  have h := least_any A cA l k w ha hT hll
  cases hr : leastP l k with
  | err c => rw [hr] at h; exact h.mono fun e w' ⟨e1, hb⟩ => ⟨none, 0, 0, c, e1, hb⟩
  | ok cs => rw [hr] at h; exact h.mono fun e w' ⟨C, cC, e1, _, _, hb⟩ => ⟨C, _, cC, 0, e1, hb⟩

theorem leastV (l : List Int) (K : Nat) (t : List Bool) (hK : K ≤ 4503599627370496) (hl : ∀ x ∈ l, -60 ≤ x ∧ x ≤ 60) (_hn : l.length ≤ 60) : valueP 60 (leastTo l K 64) t = decide (K ≤ numB (bvOf l t) l.length) := by
  have hc : checkP 60 (leastTo l K 64) = 0 := by
    unfold checkP
    rw [if_neg (by omega), if_neg, if_neg (by have := leastTo_len l K 64; omega)]
    simp only [List.any_eq_true, not_exists, not_and]
    intro c hc x hx
    unfold leastTo at hc
    obtain ⟨u, _, rfl⟩ := List.mem_map.1 hc
    unfold clTo at hx
    obtain ⟨j, hj, rfl⟩ := List.mem_map.1 hx
    obtain ⟨h1, h2⟩ := List.mem_filter.1 hj
    rw [List.mem_range] at h1
    have hg : l.getD j 0 = l[j] := by rw [List.getD_eq_getElem?_getD, List.getElem?_eq_getElem h1]; rfl
    have hne : l.getD j 0 ≠ 0 := by
      unfold lcond at h2
      intro e
      rw [e] at h2
      simp at h2
    have := hl l[j] (List.getElem_mem h1)
    rw [hg] at hne ⊢
    simp [mayB, hne]; omega
  unfold valueP
  rw [hc, decide_eq_true rfl, Bool.true_and]
  exact least_correct l t K hK

set_option maxRecDepth 100000 in
set_option maxHeartbeats 3200000 in
theorem leastM_any (A : Option Addr) (cA : Nat) (l : List Int) (k by_ pick : Int) (w : World) (ha : Rd I64 (· < w.heap.size) w A l) (hT : TabAt w) (hbd : ∀ x ∈ l, -9223372036854775808 ≤ x ∧ x ≤ 9223372036854775807) :
    Calls Tryd.prog 10 #[.slice A l.length cA, I64 k, I64 by_, I64 pick] w fun e w' => e = .returned (.bool true) ∧ Below w.heap.size w w' := by
  have HA := Lib.hid ha
  have HT := Lib.hid hT
  have HBd := Lib.hid hbd
  clear ha hT hbd
  by_cases hg : 60 < l.length ∨ by_ < 0 ∨ 1099511627776 < by_ ∨ 1099511627776 < k
  · by_cases h1 : 60 < l.length
    · have d1 : decide ((60 : Int) < (l.length : Int)) = true := by simp; omega
      go_enter Tryd.func10, Tryd.ntmps10
      go_wp2_with fail
      refine (live_any w HT.out).mono ?_
      rintro e w1 ⟨rfl, b1⟩
      have B1 := Lib.hid b1
      clear b1
      go_wp2_with fail
      go_ret
      exact ⟨rfl, B1.out⟩
    · have d1 : decide ((60 : Int) < (l.length : Int)) = false := by simp; omega
      by_cases h2 : by_ < 0
      · have d2 : decide (by_ < 0) = true := by simp; omega
        go_enter Tryd.func10, Tryd.ntmps10
        go_wp2_with fail
        refine (live_any w HT.out).mono ?_
        rintro e w1 ⟨rfl, b1⟩
        have B1 := Lib.hid b1
        clear b1
        go_wp2_with fail
        go_ret
        exact ⟨rfl, B1.out⟩
      · have d2 : decide (by_ < 0) = false := by simp; omega
        by_cases h3 : 1099511627776 < by_
        · have d3 : decide (1099511627776 < by_) = true := by simp; omega
          go_enter Tryd.func10, Tryd.ntmps10
          go_wp2_with fail
          refine (live_any w HT.out).mono ?_
          rintro e w1 ⟨rfl, b1⟩
          have B1 := Lib.hid b1
          clear b1
          go_wp2_with fail
          go_ret
          exact ⟨rfl, B1.out⟩
        · have d3 : decide (1099511627776 < by_) = false := by simp; omega
          have d4 : decide (1099511627776 < k) = true := by simp; omega
          go_enter Tryd.func10, Tryd.ntmps10
          go_wp2_with fail
          refine (live_any w HT.out).mono ?_
          rintro e w1 ⟨rfl, b1⟩
          have B1 := Lib.hid b1
          clear b1
          go_wp2_with fail
          go_ret
          exact ⟨rfl, B1.out⟩
  · have hg1 : l.length ≤ 60 := by omega
    have hg2 : 0 ≤ by_ := by omega
    have hg3 : by_ ≤ 1099511627776 := by omega
    have hg4 : k ≤ 1099511627776 := by omega
    have d1 : decide ((60 : Int) < (l.length : Int)) = false := by simp; omega
    have d2 : decide (by_ < 0) = false := by simp; omega
    have d3 : decide (1099511627776 < by_) = false := by simp; omega
    have d4 : decide (1099511627776 < k) = false := by simp; omega
    clear hg
    go_enter Tryd.func10, Tryd.ntmps10
    go_wp2_with fail
    refine (live_any w HT.out).mono ?_
    rintro e w1 ⟨rfl, b1⟩
    have B1 := Lib.hid b1
    have A1 := Lib.hid (HA.out.up b1)
    clear b1
    go_wp2_with fail
    clear d1 d2 d3 d4
    go_loopw [9] (fun iv wr => ∃ i q : Nat, iv = .int .i64 i ∧ i ≤ l.length ∧ wr = w1.drewN q ∧ ∀ x ∈ l.take i, -60 ≤ x ∧ x ≤ 60) (fun iv _ => l.length - (intOf iv).toNat)
    case atStart => exact ⟨0, 0, rfl, Nat.zero_le _, rfl, fun x h => by simp at h⟩
    case round =>
      obtain ⟨i, q, rfl, hi, hw, hxs⟩ := hrel
      have HW := Lib.hid hw
      have HXs := Lib.hid hxs
      clear hw hxs
      by_cases hlt : i < l.length
      · obtain ⟨ab, ao, rfl, _, ca⟩ := (show Rd I64 (· < w1.heap.size) wr A l by rw [HW.out]; exact A1.out).at_ hlt
        have HS := Lib.hid (show -60 ≤ l[i] → l[i] ≤ 60 → ∀ x ∈ l.take (i + 1), -60 ≤ x ∧ x ≤ 60 from fun a b => by
          rw [List.take_succ_eq_append_getElem hlt]
          intro c hc
          rcases List.mem_append.1 hc with hc | hc
          · exact HXs.out c hc
          · rw [List.mem_singleton] at hc; rw [hc]; exact ⟨a, b⟩)
        obtain ⟨bx1, bx2⟩ := HBd.out l[i] (List.getElem_mem hlt)
        generalize l[i] = x at ca HS bx1 bx2
        by_cases hx1 : 60 < x
        · have f1 : -x ≤ x := by omega
          have f2 : decide (60 < x) = true := by simpa using hx1
          go_wp2_with fail
          go_quiet (fail)
          go_wp2_with fail
          go_ret
          exact ⟨rfl, by rw [HW.out]; exact below_n (below_n B1.out _) _⟩
        · by_cases hx2 : x < -60
          · by_cases hx3 : x = -9223372036854775808
            · have f0 : IntKind.i64.wrap (-x) = x := by rw [hx3]; decide
              have f01 : wrap64 (-x) = x := by unfold wrap64; omega
              have f2 : decide (60 < x) = false := by simp; omega
              have f3 : decide (x < -60) = true := by simp; omega
              clear hx3
              go_wp2_with fail
              go_quiet (fail)
              go_wp2_with fail
              go_ret
              exact ⟨rfl, by rw [HW.out]; exact below_n (below_n B1.out _) _⟩
            · have f1 : x < -x := by omega
              have f2 : decide (60 < -x) = true := by simp; omega
              go_wp2_with fail
              go_quiet (fail)
              go_wp2_with fail
              go_ret
              exact ⟨rfl, by rw [HW.out]; exact below_n (below_n B1.out _) _⟩
          · have f3 : decide (x < -60) = false := by simp; omega
            by_cases hx4 : x < 0
            · have f1 : x < -x := by omega
              have f2 : decide (60 < -x) = false := by simp; omega
              go_wp2_with fail
              go_quiet (fail)
              go_wp2_with fail
              go_roundw
              case rel => exact ⟨i + 1, q + nq, by go_num, by omega, by rw [HW.out, World.drewN_drewN], HS.out (by omega) (by omega)⟩
              case measure => simp [intOf]; omega
            · have f1 : -x ≤ x := by omega
              have f2 : decide (60 < x) = false := by simp; omega
              go_wp2_with fail
              go_quiet (fail)
              go_wp2_with fail
              go_roundw
              case rel => exact ⟨i + 1, q + nq, by go_num, by omega, by rw [HW.out, World.drewN_drewN], HS.out (by omega) (by omega)⟩
              case measure => simp [intOf]; omega
      · obtain rfl : i = l.length := by omega
        have hxs := HXs.out
        rw [List.take_length] at hxs
        have HX := Lib.hid hxs
        obtain ⟨w3, hw3⟩ : ∃ w3 : World, w3 = wr := ⟨_, rfl⟩
        have b3 : Below w1.heap.size w1 w3 := by rw [hw3, HW.out]; exact below_n (Below.refl _ _) _
        have B3 := Lib.hid (below_up B1.out b3)
        have A3 := Lib.hid (A1.out.up b3)
        have T3 := Lib.hid (HT.out.below B3.out)
        clear b3 HW HXs hxs
        subst hw3
        by_cases hk0 : k < 0
        · have hr := Lib.hid (show leastP l k = .err 1 by rw [leastP, if_pos (.inl hk0)])
          go_wp2_with fail
          refine (least_errC A cA l k 1 w3 A3.out T3.out (by omega) hr.out).mono ?_
          rintro e w4 ⟨rfl, b4⟩
          have B4 := Lib.hid (below_up B3.out b4)
          have A4 := Lib.hid (A3.out.up b4)
          have T4 := Lib.hid (T3.out.below b4)
          clear b4
          go_wp2_with fail
          refine (least_two A cA l _ w4 A4.out T4.out (by omega)).mono ?_
          rintro e w5 ⟨C5, n5, c5, e5, rfl, b5⟩
          have B5 := Lib.hid (below_up B4.out b5)
          clear b5
          go_wp2_with fail
          go_ret
          exact ⟨rfl, B5.out⟩
        · have hodd : ¬ l.any oddB = true := by
            simp only [List.any_eq_true, not_exists, not_and]
            intro x hx
            have := HX.out x hx
            simp [oddB]; omega
          have hr := Lib.hid (show leastP l k = .ok (leastTo l k.toNat 64) by rw [leastP, if_neg (by rw [not_or, not_or]; exact ⟨by omega, by omega, hodd⟩), if_neg (by omega)])
          have hr2 := Lib.hid (show leastP l (k + by_) = .ok (leastTo l (k + by_).toNat 64) by rw [leastP, if_neg (by rw [not_or, not_or]; exact ⟨by omega, by omega, hodd⟩), if_neg (by omega)])
          have V1 := Lib.hid (fun t => leastV l k.toNat t (by omega) HX.out (by omega))
          have V2 := Lib.hid (fun t => leastV l (k + by_).toNat t (by omega) HX.out (by omega))
          have hl1 := leastTo_len l k.toNat 64
          have hl2 := leastTo_len l (k + by_).toNat 64
          have HM1 := Lib.hid (show ∀ c ∈ leastTo l k.toNat 64, c.length ≤ maxLen from fun c hc => by have := leastTo_mem hc; unfold maxLen; omega)
          have HM2 := Lib.hid (show ∀ c ∈ leastTo l (k + by_).toNat 64, c.length ≤ maxLen from fun c hc => by have := leastTo_mem hc; unfold maxLen; omega)
          have HZ := Lib.hid (show k = 0 → leastTo l k.toNat 64 = [] from fun e => by rw [e]; rfl)
          clear hodd
          generalize leastTo l k.toNat 64 = c1 at hr V1 hl1 HM1 HZ
          generalize leastTo l (k + by_).toNat 64 = c2 at hr2 V2 hl2 HM2
          go_wp2_with fail
          refine (least_okC A cA l k c1 w3 A3.out T3.out (by omega) hr.out).mono ?_
          rintro e w4 ⟨C4, cC4, rfl, r4, b4⟩
          have B4 := Lib.hid (below_up B3.out b4)
          have A4 := Lib.hid (A3.out.up b4)
          have T4 := Lib.hid (T3.out.below b4)
          have R4 := Lib.hid r4
          clear b4 r4
          go_wp2_with fail
          refine (least_okC A cA l (k + by_) c2 w4 A4.out T4.out (by omega) hr2.out).mono ?_
          rintro e w5 ⟨C5, cC5, rfl, r5, b5⟩
          have B5 := Lib.hid (below_up B4.out b5)
          have R5 := Lib.hid (And.intro (R4.out.up b5) r5)
          clear b5 r5 R4
          go_wp2_with fail
          refine (truths_any 60 pick w5 (by decide)).mono ?_
          rintro e w6 ⟨ta, tc, rfl, tr, b6⟩
          have B6 := Lib.hid (below_up B5.out b6)
          have R6 := Lib.hid (And.intro (R5.out.1.up b6) (R5.out.2.up b6))
          have TR := Lib.hid tr
          have HTL := Lib.hid (truthsP_len 60 pick)
          clear b6 tr R5
          generalize truthsP 60 pick = t at TR HTL
          have HImp := Lib.hid (show valueP 60 c2 t = true → valueP 60 c1 t = true by rw [V1.out t, V2.out t, decide_eq_true_iff, decide_eq_true_iff]; omega)
          go_wp2_with fail
          have hv1 := value_any 60 C4 ta cC4 tc c1 t w6 R6.out.1 TR.out (by unfold maxLen; omega) HM1.out (by rw [HTL.out]; unfold maxLen; decide)
          rw [HTL.out] at hv1
          generalize valueP 60 c1 t = vb1 at hv1 HImp
          refine hv1.mono ?_
          clear hv1
          rintro e w7 ⟨rfl, b7⟩
          have B7 := Lib.hid (below_up B6.out b7)
          have R7 := Lib.hid (R6.out.2.up b7)
          have TR7 := Lib.hid (TR.out.up b7)
          clear b7 R6 TR
          go_wp2_with fail
          have hv2 := value_any 60 C5 ta cC5 tc c2 t w7 R7.out TR7.out (by unfold maxLen; omega) HM2.out (by rw [HTL.out]; unfold maxLen; decide)
          rw [HTL.out] at hv2
          generalize valueP 60 c2 t = vb2 at hv2 HImp
          refine hv2.mono ?_
          clear hv2
          rintro e w8 ⟨rfl, b8⟩
          have B8 := Lib.hid (below_up B7.out b8)
          clear b8
          cases vb2
          · by_cases hkp : 0 < k
            · have f1 : decide (0 < k) = true := by simpa using hkp
              go_wp2_with fail
              go_ret
              exact ⟨rfl, B8.out⟩
            · have f1 : decide (0 < k) = false := by simpa using hkp
              have hc1 : c1 = [] := HZ.out (by omega)
              subst hc1
              go_wp2_with fail
              go_ret
              exact ⟨rfl, B8.out⟩
          · have hv : vb1 = true := HImp.out rfl
            subst hv
            by_cases hkp : 0 < k
            · have f1 : decide (0 < k) = true := by simpa using hkp
              go_wp2_with fail
              go_ret
              exact ⟨rfl, B8.out⟩
            · have f1 : decide (0 < k) = false := by simpa using hkp
              have hc1 : c1 = [] := HZ.out (by omega)
              subst hc1
              go_wp2_with fail
              go_ret
              exact ⟨rfl, B8.out⟩
end Go.Proofs.YtogolfneckhnaaaDoor
