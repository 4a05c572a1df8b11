/- AdderSize's walk: at every input the law's Go text returns true, and writes nothing that was there. -/
import Derived.Test.YtogolfneckhnaaaDoorSumC
import Derived.Test.YtogolfneckhnaaaDoorAdPlainZ
namespace Go.Proofs.YtogolfneckhnaaaDoor
open Go.RowKit Go.Shelf

def popAll (coef : List Int) (k : Nat) : Nat := ((coef.take k).map fun c => popTo c.toNat 64).sum
theorem popAll_succ (coef : List Int) (k : Nat) (hk : k < coef.length) : popAll coef (k + 1) = popAll coef k + popTo coef[k].toNat 64 := by
  unfold popAll
  rw [List.take_succ_eq_append_getElem hk, List.map_append, List.sum_append]
  simp
theorem popTo_le (n j : Nat) : popTo n j ≤ j := by
  unfold popTo
  exact Nat.le_trans (List.length_filter_le _ _) (by simp)
theorem popAll_le (coef : List Int) : ∀ k, k ≤ coef.length → popAll coef k ≤ 64 * k
  | 0, _ => by simp [popAll]
  | k + 1, h => by
    rw [popAll_succ coef k (by omega)]
    have := popAll_le coef k (by omega)
    have := popTo_le coef[k].toNat 64
    omega
theorem popTo_end (n j : Nat) (hj : j ≤ 64) (h : n / 2 ^ j = 0) : popTo n 64 = popTo n j := by
  have : ∀ d, j + d ≤ 64 → popTo n (j + d) = popTo n j := fun d => by
    induction d with
    | zero => intro _; rfl
    | succ d ih =>
      intro hd
      have hb : n.testBit (j + d) = false := by
        apply Nat.testBit_lt_two_pow
        have h1 : n < 2 ^ j := by
          rcases Nat.lt_or_ge n (2 ^ j) with h2 | h2
          · exact h2
          · have := Nat.div_pos h2 (Nat.two_pow_pos j); omega
        exact Nat.lt_of_lt_of_le h1 (Nat.pow_le_pow_right (by decide) (by omega))
      rw [← Nat.add_assoc, popTo_succ, hb, ih (by omega)]
      simp
  have := this (64 - j) (by omega)
  rwa [show j + (64 - j) = 64 by omega] at this
theorem popTo_step (c j : Nat) : popTo c (j + 1) = popTo c j + c / 2 ^ j % 2 := by
  rw [popTo_succ, Nat.testBit_eq_decide_div_mod_eq]
  rcases Nat.mod_two_eq_zero_or_one (c / 2 ^ j) with h | h <;> simp [h]

theorem half_step {X j n : Nat} (hn : n = X / 2 ^ j) (hn0 : 0 < n) (hj : j ≤ 64) (hX : X < 2 ^ 64) : j + 1 ≤ 64 ∧ n / 2 = X / 2 ^ (j + 1) ∧ popTo X (j + 1) = popTo X j + n % 2 := by
  subst hn
  refine ⟨?_, by rw [Nat.pow_succ, Nat.div_div_eq_div_mul], popTo_step X j⟩
  rcases Nat.lt_or_ge j 64 with h | h
  · omega
  · have : j = 64 := by omega
    subst this
    rw [Nat.div_eq_of_lt hX] at hn0
    omega

set_option maxRecDepth 100000 in
set_option maxHeartbeats 3200000 in
theorem size_any (A L : Option Addr) (cA cL : Nat) (coef l : List Int) (next : Int) (w : World) (ha : Rd I64 (· < w.heap.size) w A coef) (hl : Rd I64 (· < w.heap.size) w L l) (hT : TabAt w) :
    Calls Tryd.prog 6 #[.slice A coef.length cA, .slice L l.length cL, I64 next] w fun e w' => e = .returned (.bool true) ∧ Below w.heap.size w w' := by
  have HA := Lib.hid ha
  have HL := Lib.hid hl
  have HT := Lib.hid hT
  clear ha hl hT
  by_cases hg1 : 40 < coef.length
  · have d1 : decide ((40 : Int) < (coef.length : Int)) = true := by simp; omega
    go_enter Tryd.func6, Tryd.ntmps6
    go_wp2_with fail
    refine (live_any w HT.out).mono ?_
    rintro e w1 ⟨rfl, b1⟩
    have B1 := Lib.hid b1
    clear b1
    go_wp2_with fail
    go_ret
    exact ⟨rfl, B1.out⟩
  · have d1 : decide ((40 : Int) < (coef.length : Int)) = false := by simp; omega
    by_cases hg2 : 40 < l.length
    · have d2 : decide ((40 : Int) < (l.length : Int)) = true := by simp; omega
      go_enter Tryd.func6, Tryd.ntmps6
      go_wp2_with fail
      refine (live_any w HT.out).mono ?_
      rintro e w1 ⟨rfl, b1⟩
      have B1 := Lib.hid b1
      clear b1
      go_wp2_with fail
      go_ret
      exact ⟨rfl, B1.out⟩
    · have d2 : decide ((40 : Int) < (l.length : Int)) = false := by simp; omega
      cases hr : sumP coef l next with
      | err c =>
        have HR := Lib.hid hr
        have hc0 : (c != 0) = true := sumP_err hr
        clear hr
        go_enter Tryd.func6, Tryd.ntmps6
        go_wp2_with fail
        refine (live_any w HT.out).mono ?_
        rintro e w1 ⟨rfl, b1⟩
        have B1 := Lib.hid b1
        clear b1
        go_wp2_with fail
        refine (sum_err A L cA cL coef.length l.length coef l next c w1 rfl rfl (HA.out.up B1.out) (HL.out.up B1.out) (HT.out.below B1.out) (by omega) (by omega) HR.out).mono ?_
        rintro e w2 ⟨rfl, b2⟩
        have B2 := Lib.hid (below_up B1.out b2)
        clear b2
        go_wp2_with fail
        go_ret
        exact ⟨rfl, B2.out⟩
      | ok bits cs after =>
        obtain ⟨q1, q2, q3, q4, q5, q6, q7, q8, q9, q10, q11⟩ := sumP_size hr
        obtain ⟨hb70, hc70, q12⟩ := sumP_lens hr
        have HR := Lib.hid hr
        have Q2 := Lib.hid q2
        have Q6 := Lib.hid q6
        have Q9 := Lib.hid q9
        have Q10 := Lib.hid q10
        have Q11 := Lib.hid q11
        have Q12 := Lib.hid q12
        clear hr q1 q2 q6 q9 q10 q11 q12
        go_enter Tryd.func6, Tryd.ntmps6
        go_wp2_with fail
        refine (live_any w HT.out).mono ?_
        rintro e w1 ⟨rfl, b1⟩
        have B1 := Lib.hid b1
        clear b1
        go_wp2_with fail
        refine (sum_ok A L cA cL coef.length l.length coef l next bits cs after w1 rfl rfl (HA.out.up B1.out) (HL.out.up B1.out) (HT.out.below B1.out) (by omega) (by omega) HR.out).mono ?_
        rintro e w2 ⟨A2, cA2, C2, cC2, rfl, _, _, rd2, rl2, b2⟩
        have B2 := Lib.hid (below_up B1.out b2)
        have A2W := Lib.hid ((HA.out.up B1.out).up b2)
        have RD2 := Lib.hid rd2
        have RL2 := Lib.hid rl2
        clear b2 rd2 rl2
        go_wp2_with fail
        clear d1 d2
        go_loop [12, 13, 14] (fun sv iv _ => ∃ k : Nat, iv = .int .i64 k ∧ sv = .int .i64 (popAll coef k : Nat) ∧ k ≤ coef.length) (fun _ iv _ => coef.length - (intOf iv).toNat)
        case atStart => exact ⟨0, rfl, rfl, Nat.zero_le _⟩
        case round =>
          obtain ⟨k, rfl, rfl, hk⟩ := hrel
          have hpl := popAll_le coef k hk
          by_cases hlt : k < coef.length
          · obtain ⟨ab, ao, rfl, _, ca⟩ := A2W.out.at_ hlt
            have HS := Lib.hid (popAll_succ coef k hlt)
            obtain ⟨hx0, hx1⟩ := Q2.out coef[k] (List.getElem_mem hlt)
            generalize coef[k] = x at ca HS hx0 hx1
            obtain ⟨X, rfl⟩ := Int.eq_ofNat_of_zero_le hx0
            generalize hpa : popAll coef k = pk at hpl HS
            have HPA := Lib.hid hpa
            clear hpa
            go_wp2_with fail
            go_loop [12, 14] (fun sv nv => ∃ j n : Nat, nv = .int .i64 n ∧ sv = .int .i64 ((pk + popTo X j : Nat) : Int) ∧ j ≤ 64 ∧ n = X / 2 ^ j) (fun _ nv => (intOf nv).toNat)
            case atStart => exact ⟨0, X, rfl, by simp [popTo], Nat.zero_le _, by simp⟩
            case round =>
              obtain ⟨j, n, rfl, rfl, hj, hn⟩ := hrel
              have hpt := popTo_le X j
              have hnX : n ≤ X := by rw [hn]; exact Nat.div_le_self _ _
              by_cases hn0 : 0 < n
              · have HN := Lib.hid (half_step hn hn0 hj (by omega))
                clear hn
                go_wp2_with fail
                go_round
                case rel => exact ⟨j + 1, n / 2, by go_num, by rw [HN.out.2.2]; go_num, HN.out.1, HN.out.2.1⟩
                case measure => simp [intOf]; omega
              · have HN := Lib.hid (popTo_end X j hj (by omega))
                clear hn
                go_wp2_with fail
                go_round
                case rel => exact ⟨k + 1, by go_num, by rw [HS.out, Int.toNat_natCast, HN.out], by omega⟩
                case measure => simp [intOf]; omega
          · obtain rfl : k = coef.length := by omega
            go_wp2_with fail
            go_loopw [15, 16] (fun iv _ wr => ∃ i q : Nat, iv = .int .i64 i ∧ i ≤ bits.length ∧ wr = w2.drewN q) (fun iv _ _ => bits.length - (intOf iv).toNat)
            case atStart => exact ⟨0, 0, rfl, Nat.zero_le _, rfl⟩
            case round =>
              obtain ⟨i, q, rfl, hi, hw⟩ := hrel
              have HW := Lib.hid hw
              clear hw
              by_cases hlt2 : i < bits.length
              · obtain ⟨bb, bo, rfl, _, cb⟩ := (show Rd I64 (· < w2.heap.size) wr A2 bits by rw [HW.out]; exact RD2.out).at_ hlt2
                have hlit := Q9.out bits[i] (List.getElem_mem hlt2)
                generalize bits[i] = y at cb hlit
                have hy : -after < y ∧ y < after := by rcases hlit with h | h; · omega
                                                       · exact h.2
                obtain ⟨hy1, hy2⟩ := hy
                clear hlit
                go_wp2_with fail
                go_quiet (fail)
                go_wp2_with fail
                all_goals
                  go_roundw
                  case rel => exact ⟨i + 1, q + nq, by go_num, by omega, by rw [HW.out, World.drewN_drewN]⟩
                  case measure => simp [intOf]; omega
              · go_wp2_with fail
                obtain rfl : i = bits.length := by omega
                obtain ⟨w3, rfl⟩ : ∃ w3 : World, w3 = wr := ⟨_, rfl⟩
                have RL3 := Lib.hid (show RdL (· < w2.heap.size) w3 C2 cs by rw [HW.out]; exact RL2.out)
                have B3 := Lib.hid (show Below w.heap.size w w3 by rw [HW.out]; exact below_n B2.out _)
                clear hlt2 HW hi
                go_loopw [17, 18] (fun iv _ wr => ∃ i q : Nat, iv = .int .i64 i ∧ i ≤ cs.length ∧ wr = w3.drewN q) (fun iv _ _ => cs.length - (intOf iv).toNat)
                case atStart => exact ⟨0, 0, rfl, Nat.zero_le _, rfl⟩
                case round =>
                  obtain ⟨i, q, rfl, hi, hw⟩ := hrel
                  have HW := Lib.hid hw
                  clear hw
                  by_cases hlt2 : i < cs.length
                  · obtain ⟨cb, co, rfl, _, hcc⟩ := RL3.out (by omega)
                    obtain ⟨A4, c4, hc4, _, r4⟩ := hcc i hlt2
                    have hl4 := Q12.out cs[i] (List.getElem_mem hlt2)
                    have q10 := Q10.out cs[i] (List.getElem_mem hlt2)
                    generalize cs[i] = cl at hc4 r4 hl4 q10
                    have HC4 := Lib.hid hc4
                    have R4 := Lib.hid r4
                    have HQ := Lib.hid q10
                    clear hc4 r4 hcc q10
                    go_wp2_with fail
                    obtain ⟨w4, hw4⟩ : ∃ w4 : World, w4 = wr := ⟨_, rfl⟩
                    have HC5 := Lib.hid (show w4.cell? ⟨cb, co + i, none⟩ = some (.slice A4 cl.length c4) by rw [hw4, HW.out]; exact HC4.out)
                    have R5 := Lib.hid (show Rd I64 (· < w2.heap.size) w4 A4 cl by rw [hw4, HW.out]; exact R4.out)
                    have HW4 := Lib.hid (show w4 = w3.drewN q by rw [hw4]; exact HW.out)
                    clear HW
                    subst hw4
                    go_loopw [18] (fun jv wr => ∃ j p : Nat, jv = .int .i64 j ∧ j ≤ cl.length ∧ wr = w4.drewN p) (fun jv _ => cl.length - (intOf jv).toNat)
                    case atStart => exact ⟨0, 0, rfl, Nat.zero_le _, rfl⟩
                    case round =>
                      obtain ⟨j, p, rfl, hj, hw⟩ := hrel
                      have HWj := Lib.hid hw
                      have hcell : wr.cell? ⟨cb, co + i, none⟩ = some (.slice A4 cl.length c4) := by rw [hw]; exact HC5.out
                      clear hw
                      by_cases hlt3 : j < cl.length
                      · obtain ⟨xb, xo, rfl, _, cx⟩ := (show Rd I64 (· < w2.heap.size) wr A4 cl by rw [HWj.out]; exact R5.out).at_ hlt3
                        obtain ⟨hx0, hx1, hx2⟩ := HQ.out cl[j] (List.getElem_mem hlt3)
                        generalize cl[j] = x at cx hx0 hx1 hx2
                        have e0 : (x == 0) = false := by simpa using hx0
                        clear hx0
                        go_wp2_with fail
                        go_quiet (fail)
                        go_wp2_with fail
                        all_goals
                          go_roundw
                          case rel => exact ⟨j + 1, p + nq, by go_num, by omega, by rw [HWj.out, World.drewN_drewN]⟩
                          case measure => simp [intOf]; omega
                      · go_wp2_with fail
                        go_roundw
                        case rel => exact ⟨i + 1, q + p, by go_num, by omega, by rw [HWj.out, HW4.out, World.drewN_drewN]⟩
                        case measure => simp [intOf]; omega
                  · have hev : ((after - next) % 2 == 0) = true := by rw [Q6.out]; rfl
                    have hfin : Below w.heap.size w wr := by rw [HW.out]; exact below_n B3.out _
                    have HFin := Lib.hid hfin
                    have h11 := Q11.out
                    have hpp : popAll coef coef.length = (coef.map fun c => popTo c.toNat 64).sum := by unfold popAll; rw [List.take_length]
                    rw [← hpp] at h11
                    generalize popAll coef coef.length = pp at h11 hpl
                    clear hfin hpp HW
                    by_cases hpb : pp ≤ bits.length
                    · have e1 : decide (pp ≤ bits.length) = true := by simpa using hpb
                      clear h11
                      go_wp2_with fail
                      go_ret
                      exact ⟨rfl, HFin.out⟩
                    · have e1 : decide (pp ≤ bits.length) = false := by simpa using hpb
                      have h12 : 0 < after - next := by rcases h11 with h | h; · omega
                                                        · exact h
                      have e2 : decide (next < after) = true := by simp; omega
                      clear h11
                      go_wp2_with fail
                      go_ret
                      exact ⟨rfl, HFin.out⟩
end Go.Proofs.YtogolfneckhnaaaDoor
