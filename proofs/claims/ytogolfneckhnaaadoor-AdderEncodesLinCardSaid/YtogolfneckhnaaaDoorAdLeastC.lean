/- AdderLeastCorrect's walk: at every input the law's Go text returns true, and writes nothing that was there. -/
import Derived.Test.YtogolfneckhnaaaDoorLaw17a
namespace Go.Proofs.YtogolfneckhnaaaDoor
open Go.RowKit Go.Shelf

theorem least_errC (A : Option Addr) (cA : Nat) (l : List Int) (k c : Int) (w : World) (ha : Rd I64 (· < w.heap.size) w A l) (hT : TabAt w) (hll : l.length ≤ 1000000000) (hr : leastP l k = .err c) :
    Calls Tryd.prog 17 #[.slice A l.length cA, I64 k] w fun e w' => e = .returned (.tuple #[.slice none 0 0, I64 c]) ∧ Below w.heap.size w w' := by
  have h := least_any A cA l k w ha hT hll
  rw [hr] at h
  exact h
theorem least_okC (A : Option Addr) (cA : Nat) (l : List Int) (k : Int) (cs : List (List Int)) (w : World) (ha : Rd I64 (· < w.heap.size) w A l) (hT : TabAt w) (hll : l.length ≤ 1000000000) (hr : leastP l k = .ok cs) :
    Calls Tryd.prog 17 #[.slice A l.length cA, I64 k] w fun e w' => ∃ C cC, e = .returned (.tuple #[.slice C cs.length cC, I64 0]) ∧ RdL (· < w'.heap.size) w' C cs ∧ Below w.heap.size w w' := by
  have h := least_any A cA l k w ha hT hll
  rw [hr] at h
  exact h.mono fun e w' ⟨C, cC, e1, _, r1, hb⟩ => ⟨C, cC, e1, r1, hb⟩
theorem leastP_errC {l : List Int} {k c : Int} (h : leastP l k = .err c) : (c != 0) = true := by
  unfold leastP at h
  split at h
  · injection h with h; subst h; rfl
  · split at h
    · injection h with h; subst h; rfl
    · cases h
theorem leastP_okC {l : List Int} {k : Int} {cs : List (List Int)} (h : leastP l k = .ok cs) : 0 ≤ k ∧ k ≤ 4503599627370496 ∧ (∀ x ∈ l, -65536 ≤ x ∧ x ≤ 65536) ∧ l.length ≤ 60 ∧ cs = leastTo l k.toNat 64 := by
  unfold leastP at h
  split at h
  · cases h
  · split at h
    · cases h
    · rename_i h1 h2
      injection h with h
      have h3 : ∀ x ∈ l, oddB x = false := by
        have : ¬ l.any oddB = true := fun e => h1 (.inr (.inr e))
        simpa using this
      refine ⟨by omega, by omega, fun x hx => ?_, by omega, h.symm⟩
      have := h3 x hx
      simp [oddB] at this
      omega
theorem all_snoc (f : List Int → Bool) (cs : List (List Int)) (i : Nat) (h : i < cs.length) : (cs.take (i + 1)).all f = ((cs.take i).all f && f cs[i]) := by
  rw [List.take_succ_eq_append_getElem h, List.all_append]; simp
theorem leastTo_mem {l : List Int} {K : Nat} {c : List Int} (h : c ∈ leastTo l K 64) : c.length ≤ l.length := by
  unfold leastTo at h
  obtain ⟨t, _, rfl⟩ := List.mem_map.1 h
  exact clTo_len l K t l.length
theorem rdl_at {D : Nat → Prop} {w : World} {A : Option Addr} {xss : List (List Int)} (h : RdL D w A xss) {j : Nat} (hj : j < xss.length) : ∃ b off A' c', A = some ⟨b, off, none⟩ ∧ w.cell? ⟨b, off + j, none⟩ = some (.slice A' xss[j].length c') ∧ Rd I64 D w A' xss[j] := by
  obtain ⟨b, off, e, _, hc⟩ := h (by omega)
  obtain ⟨A', c', h1, _, h2⟩ := hc j hj
  exact ⟨b, off, A', c', e, h1, h2⟩

set_option maxRecDepth 100000 in
set_option maxHeartbeats 3200000 in
theorem leastC_any (A : Option Addr) (cA : Nat) (l : List Int) (k pick : Int) (w : World) (ha : Rd I64 (· < w.heap.size) w A l) (hT : TabAt w) :
    Calls Tryd.prog 7 #[.slice A l.length cA, I64 k, I64 pick] w fun e w' => e = .returned (.bool true) ∧ Below w.heap.size w w' := by
  have HA := Lib.hid ha
  have HT := Lib.hid hT
  clear ha hT
  by_cases hg1 : 60 < l.length
  · have d1 : decide ((60 : Int) < (l.length : Int)) = true := by simp; omega
    go_enter Tryd.func7, Tryd.ntmps7
    go_wp2_with fail
    refine (live_any w HT.out).mono ?_
    rintro e w1 ⟨rfl, b1⟩
    have B1 := Lib.hid b1
    clear b1
    go_wp2_with fail
    go_ret
    exact ⟨rfl, B1.out⟩
  · have d1 : decide ((60 : Int) < (l.length : Int)) = false := by simp; omega
    cases hr : leastP l k with
    | err c =>
      have HR := Lib.hid hr
      have hc0 : (c != 0) = true := leastP_errC hr
      clear hr
      go_enter Tryd.func7, Tryd.ntmps7
      go_wp2_with fail
      refine (live_any w HT.out).mono ?_
      rintro e w1 ⟨rfl, b1⟩
      have B1 := Lib.hid b1
      clear b1
      go_wp2_with fail
      refine (least_errC A cA l k c w1 (HA.out.up B1.out) (HT.out.below B1.out) (by omega) HR.out).mono ?_
      rintro e w2 ⟨rfl, b2⟩
      have B2 := Lib.hid (below_up B1.out b2)
      clear b2
      go_wp2_with fail
      go_ret
      exact ⟨rfl, B2.out⟩
    | ok cs =>
      obtain ⟨hk0, hk1, q3, q4, q5⟩ := leastP_okC hr
      have HR := Lib.hid hr
      have Q3 := Lib.hid q3
      have Q5 := Lib.hid q5
      have h53 : cs.length ≤ 53 := by rw [q5]; exact leastTo_53 l _ (by omega)
      have QM := Lib.hid (show ∀ c ∈ cs, c.length ≤ 60 from fun c hc => by rw [q5] at hc; exact Nat.le_trans (leastTo_mem hc) q4)
      have QC := Lib.hid (show ∀ a, cs.all (holdsP a) = decide (k.toNat ≤ numB (bvOf l a) l.length) from fun a => by rw [q5]; exact least_correct l a k.toNat (by omega))
      clear hr q3 q5
      go_enter Tryd.func7, Tryd.ntmps7
      go_wp2_with fail
      refine (live_any w HT.out).mono ?_
      rintro e w1 ⟨rfl, b1⟩
      have B1 := Lib.hid b1
      clear b1
      go_wp2_with fail
      refine (least_okC A cA l k cs w1 (HA.out.up B1.out) (HT.out.below B1.out) (by omega) HR.out).mono ?_
      rintro e w2 ⟨C, cC, rfl, r2, b2⟩
      have B2 := Lib.hid (below_up B1.out b2)
      have A2 := Lib.hid ((HA.out.up B1.out).up b2)
      have R2 := Lib.hid r2
      clear b2 r2
      go_wp2_with fail
      clear d1
      go_loopw [9] (fun iv wr => ∃ i q : Nat, iv = .int .i64 i ∧ i ≤ l.length ∧ wr = w2.drewN q) (fun iv _ => l.length - (intOf iv).toNat)
      case atStart => exact ⟨0, 0, rfl, Nat.zero_le _, rfl⟩
      case round =>
        obtain ⟨i, q, rfl, hi, hw⟩ := hrel
        have HW := Lib.hid hw
        clear hw
        by_cases hlt : i < l.length
        · obtain ⟨ab, ao, rfl, _, ca⟩ := (show Rd I64 (· < w2.heap.size) wr A l by rw [HW.out]; exact A2.out).at_ hlt
          obtain ⟨hx1, hx2⟩ := Q3.out l[i] (List.getElem_mem hlt)
          generalize l[i] = x at ca hx1 hx2
          go_wp2_with fail
          go_quiet (fail)
          go_wp2_with fail
          all_goals first
            | (go_ret
               exact ⟨rfl, by rw [HW.out]; exact below_n (below_n B2.out _) _⟩)
            | (go_roundw
               case rel => exact ⟨i + 1, q + nq, by go_num, by omega, by rw [HW.out, World.drewN_drewN]⟩
               case measure => simp [intOf]; omega)
        · obtain rfl : i = l.length := by omega
          obtain ⟨w3, hw3⟩ : ∃ w3 : World, w3 = wr := ⟨_, rfl⟩
          have b3 : Below w2.heap.size w2 w3 := by rw [hw3, HW.out]; exact below_n (Below.refl _ _) _
          have B3 := Lib.hid (below_up B2.out b3)
          have R3 := Lib.hid (R2.out.up b3)
          have A3 := Lib.hid (A2.out.up b3)
          clear b3 HW
          subst hw3
          go_wp2_with fail
          refine (truths_any 60 pick w3 (by decide)).mono ?_
          rintro e w4 ⟨ta, tc, rfl, tr, b4⟩
          have B4 := Lib.hid (below_up B3.out b4)
          have R4 := Lib.hid (R3.out.up b4)
          have A4 := Lib.hid (A3.out.up b4)
          have T4 := Lib.hid tr
          have hta := truthsP_len 60 pick
          have HTL := Lib.hid hta
          have QCa := Lib.hid (QC.out (truthsP 60 pick))
          clear hta
          generalize truthsP 60 pick = t at T4 HTL QCa
          clear tr b4
          go_wp2_with fail
          go_loopw [11, 12] (fun bv iv wr => ∃ i : Nat, iv = .int .i64 i ∧ i ≤ cs.length ∧ bv = .bool ((cs.take i).all (holdsP t)) ∧ Below w4.heap.size w4 wr) (fun _ iv _ => cs.length - (intOf iv).toNat)
          case atStart => exact ⟨0, rfl, Nat.zero_le _, rfl, Below.refl _ _⟩
          case round =>
            obtain ⟨i, rfl, hi, rfl, hbel⟩ := hrel
            have HBel := Lib.hid hbel
            clear hbel
            by_cases hlt2 : i < cs.length
            · obtain ⟨cb, co, A5, c5, rfl, hc5, r5⟩ := rdl_at (R4.out.up HBel.out) hlt2
              have hl5 := QM.out cs[i] (List.getElem_mem hlt2)
              have HS := Lib.hid (all_snoc (holdsP t) cs i hlt2)
              generalize cs[i] = cl at hc5 r5 hl5 HS
              have R5 := Lib.hid r5
              clear r5
              generalize (cs.take i).all (holdsP t) = b at HS
              cases b
              · go_wp2_with fail
                go_roundw
                case rel => exact ⟨i + 1, by go_num, by omega, by rw [HS.out]; rfl, HBel.out⟩
                case measure => simp [intOf]; omega
              · go_wp2_with fail
                have hh := holds_any A5 ta c5 tc cl t wr R5.out (T4.out.up HBel.out) (by unfold maxLen; omega) (by rw [HTL.out]; unfold maxLen; decide)
                rw [HTL.out] at hh
                refine hh.mono ?_
                clear hh
                rintro e w6 ⟨rfl, b6⟩
                have B6 := Lib.hid (below_up HBel.out b6)
                clear b6
                go_wp2_with fail
                go_roundw
                case rel => exact ⟨i + 1, by go_num, by omega, by rw [HS.out]; rfl, B6.out⟩
                case measure => simp [intOf]; omega
            · obtain rfl : i = cs.length := by omega
              rw [List.take_length]
              obtain ⟨w5, hw5⟩ : ∃ w5 : World, w5 = wr := ⟨_, rfl⟩
              have B5 := Lib.hid (show Below w4.heap.size w4 w5 by rw [hw5]; exact HBel.out)
              clear HBel
              subst hw5
              rw [QCa.out]
              generalize hnum : numB (bvOf l t) l.length = num
              have HNum := Lib.hid hnum
              clear hnum
              by_cases hge : k.toNat ≤ num
              · rw [decide_eq_true hge]
                have e53 : decide ((cs.length : Int) ≤ 53) = true := by simp; omega
                have ek : decide (k ≤ (num : Int)) = true := by simp; omega
                go_wp2_with fail
                have hh := number_any A ta cA tc l t w5 (A4.out.up B5.out) (T4.out.up B5.out) (by omega) (by rw [HTL.out]; decide)
                rw [HTL.out, HNum.out] at hh
                refine hh.mono ?_
                clear hh
                rintro e w6 ⟨rfl, b6⟩
                have B6 := Lib.hid (below_up B4.out (below_up B5.out b6))
                clear b6
                go_wp2_with fail
                go_ret
                exact ⟨rfl, B6.out⟩
              · rw [decide_eq_false hge]
                have e53 : decide ((cs.length : Int) ≤ 53) = true := by simp; omega
                have ek : decide (k ≤ (num : Int)) = false := by simp; omega
                go_wp2_with fail
                have hh := number_any A ta cA tc l t w5 (A4.out.up B5.out) (T4.out.up B5.out) (by omega) (by rw [HTL.out]; decide)
                rw [HTL.out, HNum.out] at hh
                refine hh.mono ?_
                clear hh
                rintro e w6 ⟨rfl, b6⟩
                have B6 := Lib.hid (below_up B4.out (below_up B5.out b6))
                clear b6
                go_wp2_with fail
                go_ret
                exact ⟨rfl, B6.out⟩
end Go.Proofs.YtogolfneckhnaaaDoor
