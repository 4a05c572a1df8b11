/- AdderSumCorrect's walk: at every input the law's Go text returns true, and writes nothing that was there. -/
import Derived.Test.YtogolfneckhnaaaDoorLaw17c
import Derived.Test.YtogolfneckhnaaaDoorAdPlainE
import Derived.Test.YtogolfneckhnaaaDoorCnfVal
import Derived.Test.YtogolfneckhnaaaDoorSumC
namespace Go.Proofs.YtogolfneckhnaaaDoor
open Go.RowKit Go.Shelf

theorem sumP_check {coef l : List Int} {next : Int} {bits : List Int} {cs : List (List Int)} {after : Int} (h : sumP coef l next = .ok bits cs after) (hs : after ≤ next + 2000) : checkP (after - 1) cs = 0 ∧ ∀ F, (∀ c ∈ cs, c.any (litT F) = true) → valueP (after - 1) cs F = true := by
  obtain ⟨q1, q2, q3, q4, q5, q6, q7, q8, q9, q10, q11⟩ := sumP_size h
  have hc : checkP (after - 1) cs = 0 := by
    unfold checkP
    rw [if_neg (by omega), if_neg, if_neg (by omega)]
    simp only [List.any_eq_true, not_exists, not_and]
    intro c hc x hx
    obtain ⟨a, b, d⟩ := q10 c hc x hx
    simp [mayB, a]; omega
  refine ⟨hc, fun F hF => ?_⟩
  unfold valueP
  rw [hc, decide_eq_true rfl, Bool.true_and, List.all_eq_true]
  exact hF
theorem check_at {N : Int} {C : Option Addr} {cC : Nat} {cs : List (List Int)} {w : World} {e0 : Int} (hr : RdL (· < w.heap.size) w C cs) (hl : cs.length ≤ maxLen) (hls : ∀ c ∈ cs, c.length ≤ maxLen) (he : checkP N cs = e0) :
    Calls Tryd.prog 24 #[.agg #[I64 N, .slice C cs.length cC]] w fun e w' => e = .returned (I64 e0) ∧ Below w.heap.size w w' := by
  subst he
  exact check_any N C cC cs w hr hl hls
theorem value_at {N : Int} {C A : Option Addr} {cC cA na : Nat} {cs : List (List Int)} {a : List Bool} {w : World} {b : Bool} (hr : RdL (· < w.heap.size) w C cs) (ha : Rd Value.bool (· < w.heap.size) w A a) (hl : cs.length ≤ maxLen) (hls : ∀ c ∈ cs, c.length ≤ maxLen) (hal : a.length ≤ maxLen) (hna : a.length = na) (hb : valueP N cs a = b) :
    Calls Tryd.prog 25 #[.agg #[I64 N, .slice C cs.length cC], .slice A na cA] w fun e w' => e = .returned (.bool b) ∧ Below w.heap.size w w' := by
  subst hb hna
  exact value_any N C A cC cA cs a w hr ha hl hls hal
theorem number_at {L A : Option Addr} {cL cA na : Nat} {l : List Int} {a : List Bool} {w : World} {v : Int} (hr : Rd I64 (· < w.heap.size) w L l) (ha : Rd Value.bool (· < w.heap.size) w A a) (hl : l.length ≤ 60) (hal : a.length ≤ 100000) (hna : a.length = na) (hv : ((numB (bvOf l a) l.length : Nat) : Int) = v) :
    Calls Tryd.prog 21 #[.slice L l.length cL, .slice A na cA] w fun e w' => e = .returned (I64 v) ∧ Below w.heap.size w w' := by
  subst hv hna
  exact number_any L A cL cA l a w hr ha hl hal
theorem sum_at {K L A : Option Addr} {cK cL cA na : Nat} {coef l : List Int} {a : List Bool} {w : World} {v : Int} (hk : Rd I64 (· < w.heap.size) w K coef) (hr : Rd I64 (· < w.heap.size) w L l) (ha : Rd Value.bool (· < w.heap.size) w A a) (hlen : coef.length = l.length) (hl : l.length ≤ 1000) (hal : a.length ≤ 200000)
    (hc : ∀ c ∈ coef, 0 ≤ c ∧ c ≤ 1099511627776) (hna : a.length = na) (hv : sumTo coef l a l.length = v) :
    Calls Tryd.prog 26 #[.slice K coef.length cK, .slice L l.length cL, .slice A na cA] w fun e w' => e = .returned (I64 v) ∧ Below w.heap.size w w' := by
  subst hv hna
  exact sum_fn_any K L A cK cL cA coef l a w hk hr ha hlen hl hal hc
/-- told, at the clauses of a sum -/
theorem told_at {C A : Option Addr} {cC cA na : Nat} {cs : List (List Int)} {a F : List Bool} {next after : Int} {w : World} (hr : RdL (· < w.heap.size) w C cs) (ha : Rd Value.bool (· < w.heap.size) w A a) (hcl : cs.length ≤ 10000000) (hcs : ∀ c ∈ cs, c.length ≤ 1000 ∧ ∀ x ∈ c, -70000 ≤ x ∧ x ≤ 70000)
    (ha0 : 0 < a.length) (hal : a.length ≤ 100000) (hnx0 : 0 ≤ next) (hnx : next ≤ 70000) (h1 : next ≤ after) (h2 : after ≤ next + 2000) (hna : a.length = na) (hT : toldP cs a next (after - next).toNat = (F, true)) :
    Calls Tryd.prog 23 #[.slice C cs.length cC, .slice A na cA, I64 next, I64 after] w fun e w' => ∃ A' c', e = .returned (.tuple #[.slice A' F.length c', .bool true]) ∧ Rd Value.bool (· < w'.heap.size) w' A' F ∧ Below w.heap.size w w' := by
  subst hna
  have h := told_any C A cC cA (after - next).toNat cs a next after w hr ha hcl hcs ha0 hal (by omega) hnx0 hnx (by omega)
  rw [hT] at h
  exact h
theorem sum_lits {coef l : List Int} {next : Int} {bits : List Int} {cs : List (List Int)} {after : Int} (h : sumP coef l next = .ok bits cs after) : ∀ c ∈ cs, c.length ≤ 1000 ∧ ∀ x ∈ c, -70000 ≤ x ∧ x ≤ 70000 := fun c hc => by
  obtain ⟨q1, q2, q3, q4, q5, q6, q7, q8, q9, q10, q11⟩ := sumP_size h
  obtain ⟨_, _, q12⟩ := sumP_lens h
  refine ⟨by have := q12 c hc; omega, fun x hx => ?_⟩
  obtain ⟨a, b, d⟩ := q10 c hc x hx
  omega
theorem truths_at {n : Nat} {k p : Int} {w : World} (hk : k = n) (hn : n ≤ 62) :
    Calls Tryd.prog 19 #[I64 k, I64 p] w fun e w' => ∃ A c, e = .returned (.slice A (n + 1) c) ∧ Rd Value.bool (· < w'.heap.size) w' A (truthsP n p) ∧ Below w.heap.size w w' := by
  subst hk
  exact truths_any n p w hn

set_option maxRecDepth 100000 in
set_option maxHeartbeats 3200000 in
theorem sumC_any (A L : Option Addr) (cA cL : Nat) (coef l : List Int) (next pick : Int) (w : World) (ha : Rd I64 (· < w.heap.size) w A coef) (hl : Rd I64 (· < w.heap.size) w L l) (hT : TabAt w) (hla : coef.length ≤ maxLen) (hll : l.length ≤ maxLen) :
    Calls Tryd.prog 9 #[.slice A coef.length cA, .slice L l.length cL, I64 next, I64 pick] w fun e w' => e = .returned (.bool true) ∧ Below w.heap.size w w' := by
  have HA := Lib.hid ha
  have HL := Lib.hid hl
  have HT := Lib.hid hT
  unfold maxLen at hla hll
  clear ha hl hT
  have HSm := Lib.hid (fun W : World => small_any A L cA cL coef.length l.length next W)
  cases hsm : smallB coef.length l.length next
  · rw [hsm] at HSm
    clear hsm
    go_enter Tryd.func9, Tryd.ntmps9
    go_wp2_with fail
    refine (live_any w HT.out).mono ?_
    rintro e w1 ⟨rfl, b1⟩
    have B1 := Lib.hid b1
    clear b1
    go_wp2_with fail
    refine (HSm.out w1).mono ?_
    rintro e w2 ⟨rfl, rfl⟩
    go_wp2_with fail
    go_ret
    exact ⟨rfl, B1.out⟩
  · have hs8 : coef.length ≤ 8 ∧ l.length ≤ 8 ∧ next ≤ 40 := by simp [smallB] at hsm; omega
    obtain ⟨hs1, hs2, hs3⟩ := hs8
    rw [hsm] at HSm
    clear hsm
    cases hr : sumP coef l next with
    | err c =>
      have HR := Lib.hid hr
      have hc0 : (c != 0) = true := sumP_err hr
      clear hr
      go_enter Tryd.func9, Tryd.ntmps9
      go_wp2_with fail
      refine (live_any w HT.out).mono ?_
      rintro e w1 ⟨rfl, b1⟩
      have B1 := Lib.hid b1
      clear b1
      go_wp2_with fail
      refine (HSm.out w1).mono ?_
      rintro e w2 ⟨rfl, rfl⟩
      go_wp2_with fail
      refine (sum_err A L cA cL coef.length l.length coef l next c w1 rfl rfl (HA.out.up B1.out) (HL.out.up B1.out) (HT.out.below B1.out) (by omega) (by omega) HR.out).mono ?_
      rintro e w2 ⟨rfl, b2⟩
      have B2 := Lib.hid (below_up B1.out b2)
      clear b2
      go_wp2_with fail
      go_ret
      exact ⟨rfl, B2.out⟩
    | ok bits cs after =>
      obtain ⟨hsb, hsa⟩ := sumP_small hr hs1
      obtain ⟨q1, q2, q3, q4, q5, q6, q7, q8, q9, q10, q11⟩ := sumP_size hr
      obtain ⟨_, _, q12⟩ := sumP_lens hr
      obtain ⟨q13, q14⟩ := sumP_check hr hsa
      obtain ⟨n, hn⟩ : ∃ n : Nat, next = n + 1 := ⟨(next - 1).toNat, by omega⟩
      have hn1 : n ≤ 39 := by omega
      obtain ⟨F, f1, f2, f3, f4, _⟩ := sumP_cor hr (truthsP n pick) (by rw [truthsP_len]; omega)
      have hF1 : F.length ≤ 66000 := by omega
      have HN := Lib.hid (show next - 1 = (n : Int) by omega)
      have HR := Lib.hid hr
      have Q1 := Lib.hid q1
      have Q2 := Lib.hid q2
      have Q12 := Lib.hid (show ∀ c ∈ cs, c.length ≤ maxLen from fun c hc => by have := q12 c hc; unfold maxLen; omega)
      have Q13 := Lib.hid q13
      have QV := Lib.hid (q14 F f3)
      have QL := Lib.hid (sum_lits hr)
      have F1 := Lib.hid f1
      have F4 := Lib.hid f4
      have HTL := Lib.hid (truthsP_len n pick)
      clear hr q1 q2 q6 q9 q10 q11 q12 q13 q14 hn f1 f2 f3 f4
      go_enter Tryd.func9, Tryd.ntmps9
      go_wp2_with fail
      refine (live_any w HT.out).mono ?_
      rintro e w1 ⟨rfl, b1⟩
      have B1 := Lib.hid b1
      clear b1
      go_wp2_with fail
      refine (HSm.out w1).mono ?_
      rintro e w2 ⟨rfl, rfl⟩
      go_wp2_with fail
      refine (sum_ok A L cA cL coef.length l.length coef l next bits cs after w1 rfl rfl (HA.out.up B1.out) (HL.out.up B1.out) (HT.out.below B1.out) (by omega) (by omega) HR.out).mono ?_
      rintro e w2 ⟨A2, cA2, C2, cC2, rfl, _, _, rd2, rl2, b2⟩
      have B2 := Lib.hid (below_up B1.out b2)
      have R2 := Lib.hid (And.intro rd2 rl2)
      clear b2 rd2 rl2
      go_wp2_with fail
      refine (check_at (N := after - 1) R2.out.2 (by unfold maxLen; omega) Q12.out Q13.out).mono ?_
      rintro e w3 ⟨rfl, b3⟩
      have B3 := Lib.hid (below_up B2.out b3)
      have R3 := Lib.hid (And.intro (R2.out.1.up b3) (R2.out.2.up b3))
      clear b3 R2
      go_wp2_with fail
      refine (truths_at (n := n) HN.out (by omega)).mono ?_
      rintro e w4 ⟨ta, tc, rfl, tr, b4⟩
      have B4 := Lib.hid (below_up B3.out b4)
      have R4 := Lib.hid (And.intro (R3.out.1.up b4) (R3.out.2.up b4))
      have T4 := Lib.hid tr
      clear b4 tr R3
      generalize truthsP n pick = t at T4 F1 HTL
      go_wp2_with fail
      refine (told_at (a := t) (F := F) R4.out.2 T4.out (by omega) QL.out (by rw [HTL.out]; omega) (by rw [HTL.out]; omega) (by omega) (by omega) (by omega) (by omega) HTL.out F1.out).mono ?_
      rintro e w5 ⟨Fa, Fc, rfl, fr, b5⟩
      have B5 := Lib.hid (below_up B4.out b5)
      have R5 := Lib.hid (And.intro (R4.out.1.up b5) (R4.out.2.up b5))
      have FR5 := Lib.hid fr
      clear b5 fr R4
      go_wp2_with fail
      refine (value_at (N := after - 1) (a := F) R5.out.2 FR5.out (by unfold maxLen; omega) Q12.out (by unfold maxLen; omega) rfl QV.out).mono ?_
      rintro e w6 ⟨rfl, b6⟩
      have B6 := Lib.hid (below_up B5.out b6)
      have R6 := Lib.hid (And.intro (R5.out.1.up b6) (FR5.out.up b6))
      clear b6 R5 FR5
      go_wp2_with fail
      refine (number_at (a := F) R6.out.1 R6.out.2 (by omega) (by omega) rfl F4.out).mono ?_
      rintro e w7 ⟨rfl, b7⟩
      have B7 := Lib.hid (below_up B6.out b7)
      have R7 := Lib.hid (R6.out.2.up b7)
      clear b7 R6
      go_wp2_with fail
      refine (sum_at (a := F) (HA.out.up B7.out) (HL.out.up B7.out) R7.out Q1.out (by omega) (by omega) Q2.out rfl rfl).mono ?_
      rintro e w8 ⟨rfl, b8⟩
      have B8 := Lib.hid (below_up B7.out b8)
      clear b8
      go_wp2_with fail
      go_ret
      exact ⟨rfl, B8.out⟩
end Go.Proofs.YtogolfneckhnaaaDoor
