/- AdderShift's walk: at every input the law's Go text returns true, and writes nothing that was there. -/
import Derived.Test.YtogolfneckhnaaaDoorSumC
import Derived.Test.YtogolfneckhnaaaDoorAdPlainS
namespace Go.Proofs.YtogolfneckhnaaaDoor
open Go.RowKit Go.Shelf

theorem Rd.tail {α : Type} {enc : α → Value} {D : Nat → Prop} {w : World} {b o : Nat} {x : α} {xs : List α} (h : Rd enc D w (some ⟨b, o, none⟩) (x :: xs)) : Rd enc D w (some ⟨b, o + 1, none⟩) xs := fun hn => by
  obtain ⟨b', o', e, hb, hc⟩ := h (by simp)
  injection e with e
  injection e with e1 e2
  subst e1 e2
  exact ⟨b, o + 1, rfl, hb, fun j hj => by have := hc (j + 1) (by simp; omega); rw [show o + (j + 1) = o + 1 + j by omega] at this; simpa using this⟩
theorem any_snoc (l : List Int) (k : Nat) (hk : k < l.length) : (l.take (k + 1)).any (fun c => decide (0 < c)) = ((l.take k).any (fun c => decide (0 < c)) || decide (0 < l[k])) := by
  rw [List.take_succ_eq_append_getElem hk, List.any_append]; simp
def dblV (l : List Int) (k : Nat) : List Value := ((l.take k).map (2 * ·)).map I64
theorem dbl_snoc (l : List Int) (k : Nat) (hk : k < l.length) : dblV l (k + 1) = dblV l k ++ [I64 (2 * l[k])] := by
  unfold dblV
  rw [List.take_succ_eq_append_getElem hk, List.map_append, List.map_append]; rfl
theorem mid_snoc (l : List Int) (k : Nat) (hk : k < l.length) (h : ∀ c ∈ l.take k, 0 ≤ c ∧ c ≤ 549755813888) (h1 : 0 ≤ l[k]) (h2 : l[k] ≤ 549755813888) : ∀ c ∈ l.take (k + 1), 0 ≤ c ∧ c ≤ 549755813888 := by
  rw [List.take_succ_eq_append_getElem hk]
  intro c hc
  rcases List.mem_append.1 hc with hc | hc
  · exact h c hc
  · rw [List.mem_singleton] at hc; rw [hc]; exact ⟨h1, h2⟩
/-- the loop's relation -/
def ShRel (w : World) (coef : List Int) (tv bv iv : Value) (wr : World) : Prop :=
  ∃ (k : Nat) (b : Bool), iv = .int .i64 k ∧ bv = .bool b ∧ k ≤ coef.length ∧ (coef.take k).any (fun c => decide (0 < c)) = b ∧ (∀ c ∈ coef.take k, 0 ≤ c ∧ c ≤ 549755813888) ∧ Own wr 3 tv (dblV coef k) ∧ (∀ g, tv.ownBlock = some g → w.heap.size ≤ g) ∧ Below w.heap.size w wr

/-- behind the loop: what Sum gives at the doubled coefficients -/
theorem shift_of {coef l : List Int} {next : Int} (hc : ∀ c ∈ coef, 0 ≤ c ∧ c ≤ 549755813888) :
    (∀ e, sumP coef l next = .err e → sumP (coef.map (2 * ·)) l next = .err e) ∧
    (∀ bits cs n, sumP coef l next = .ok bits cs n → coef.any (fun c => decide (0 < c)) = true → sumP (coef.map (2 * ·)) l next = .ok (0 :: bits) cs n) ∧
    (∀ bits cs n, sumP coef l next = .ok bits cs n → coef.any (fun c => decide (0 < c)) = false → sumP (coef.map (2 * ·)) l next = .ok bits cs n ∧ bits.length = 0) := by
  have h := sumP_shift coef l next hc
  refine ⟨fun e he => by rw [he] at h; exact h, fun bits cs n he ha => by rw [he] at h; simp only at h; rw [if_pos ha] at h; exact h, fun bits cs n he ha => ?_⟩
  have h' := h
  rw [he] at h'
  simp only at h'
  rw [if_neg (by rw [ha]; simp)] at h'
  refine ⟨h', ?_⟩
  have hz : ∀ c ∈ coef, c = 0 := fun c hcm => by
    have h0 := hc c hcm
    rw [List.any_eq_false] at ha
    have := ha c hcm
    simp at this
    omega
  unfold sumP at he
  split at he
  · cases he
  · split at he
    · cases he
    · split at he
      · cases he
      · have e2 : feedAll fd0 (coef.zip l) = fd0 := (feedAll_top _ fd0 (fun q hq => hc q.1 (List.of_mem_zip hq).1)).2.2 (fun q hq => hz q.1 (List.of_mem_zip hq).1)
        have e3 : sumF fuel0 0 { rows := fd0.1, cs := [], nx := next, top := fd0.2 } [] = some ([], [], next) := by
          have ef : fuel0 = 299999 + 1 := rfl
          rw [ef, sumF_end (show ¬ (0 : Int) < 0 by decide)]
        rw [e2, e3] at he
        simp only at he
        injection he with e4
        rw [← e4]; rfl

set_option maxRecDepth 100000 in
set_option maxHeartbeats 3200000 in
theorem shift_any (A L : Option Addr) (cA cL : Nat) (coef l : List Int) (next : Int) (w : World) (ha : Rd I64 (· < w.heap.size) w A coef) (hl : Rd I64 (· < w.heap.size) w L l) (hT : TabAt w) :
    Calls Tryd.prog 5 #[.slice A coef.length cA, .slice L l.length cL, I64 next] w fun e w' => e = .returned (.bool true) ∧ Below w.heap.size w w' := by
  obtain ⟨i0, hi, hz0, hz1, hz2⟩ := info_parts info_int
  have HI := Lib.hid (And.intro hi (And.intro hz0 (And.intro hz1 hz2)))
  have HA := Lib.hid ha
  have HL := Lib.hid hl
  have HT := Lib.hid hT
  clear ha hl hT hi hz0 hz1 hz2
  by_cases hg1 : 40 < coef.length
  · have d1 : decide ((40 : Int) < (coef.length : Int)) = true := by simp; omega
    go_enter Tryd.func5, Tryd.ntmps5
    go_wp2_with fail
    refine (live_any w HT.out).mono ?_
    rintro e w1 ⟨rfl, b1⟩
    have B1 := Lib.hid b1
    clear b1
    go_wp2_with fail
    go_ret
    exact ⟨rfl, B1.out⟩
  · have d1 : decide ((40 : Int) < (coef.length : Int)) = false := by simp; omega
    by_cases hg2 : 40 < l.length
    · have d2 : decide ((40 : Int) < (l.length : Int)) = true := by simp; omega
      go_enter Tryd.func5, Tryd.ntmps5
      go_wp2_with fail
      refine (live_any w HT.out).mono ?_
      rintro e w1 ⟨rfl, b1⟩
      have B1 := Lib.hid b1
      clear b1
      go_wp2_with fail
      go_ret
      exact ⟨rfl, B1.out⟩
    · have d2 : decide ((40 : Int) < (l.length : Int)) = false := by simp; omega
      go_enter Tryd.func5, Tryd.ntmps5
      go_wp2_with fail
      refine (live_any w HT.out).mono ?_
      rintro e w1 ⟨rfl, b1⟩
      have B1 := Lib.hid b1
      have A1 := Lib.hid (HA.out.up b1)
      have L1 := Lib.hid (HL.out.up b1)
      have T1 := Lib.hid (HT.out.below b1)
      clear b1
      go_wp2_with fail
      clear d1 d2
      go_loopw [7, 8, 9] (fun tv bv iv wr => ShRel w1 coef tv bv iv wr) (fun _ _ iv _ => coef.length - (intOf iv).toNat)
      case atStart => exact ⟨0, false, rfl, rfl, Nat.zero_le _, rfl, fun c h => by simp at h, Own.nil _ _, fun g h => by simp [Value.ownBlock] at h, Below.refl _ _⟩
      case round =>
        obtain ⟨k, b, rfl, rfl, hk, hany, hmid, how, hgs, hbel⟩ := hrel
        have HAny := Lib.hid hany
        have HMid := Lib.hid hmid
        have HOw := Lib.hid how
        have HGs := Lib.hid hgs
        have HBel := Lib.hid hbel
        clear hany hmid how hgs hbel
        by_cases hlt : k < coef.length
        · obtain ⟨ab, ao, rfl, _, ca⟩ := (A1.out.below HBel.out).at_ hlt
          have HS := Lib.hid (And.intro (any_snoc coef k hlt) (And.intro (dbl_snoc coef k hlt) (mid_snoc coef k hlt HMid.out)))
          have HLc := Lib.hid (show (dblV coef k).length = k by simp [dblV]; omega)
          generalize coef[k] = x at ca HS
          by_cases hx0 : x < 0
          · go_wp2_with fail
            go_ret
            exact ⟨rfl, below_up B1.out HBel.out⟩
          · by_cases hx1 : 549755813888 < x
            · have e0 : decide (x < 0) = false := by simpa using hx0
              go_wp2_with fail
              go_ret
              exact ⟨rfl, below_up B1.out HBel.out⟩
            · have e0 : decide (x < 0) = false := by simpa using hx0
              have e1 : decide (549755813888 < x) = false := by simpa using hx1
              cases b
              · by_cases hx2 : 0 < x
                · have e2 : decide (0 < x) = true := by simpa using hx2
                  go_wp2_with (at_builtin; refine wpList_push _ rfl (.tmp 55) (.tmp 61) 22 rfl 3 i0 (.int .i64 0) 8 Tryd.underlying22 HI.out.1 HI.out.2.1 HI.out.2.2.1 HI.out.2.2.2 rfl _ (dblV coef k) k HLc.out rfl (HOw.out.alloc _) ⟨wr.heap.size, 0, none⟩ 1 (I64 (2 * x)) rfl ?c1a rfl ?c2a ?c3a ?_)
                  case c2a => unfold maxLen; omega
                  case c3a => omega
                  intro g2 o2 cp2 w5 hown5 hg5 hat5
                  have hk5 := least_push (o2 := o2) (n := k + 1) (cp2 := cp2) HGs.out HBel.out hg5 hat5
                  have HOw5 := Lib.hid hown5
                  have HK5 := Lib.hid hk5
                  clear hown5 hg5 hat5 hk5
                  go_wp2_with fail
                  go_roundw
                  case rel => exact ⟨k + 1, true, by go_num, rfl, by omega, by rw [HS.out.1, HAny.out, e2]; rfl, HS.out.2.2 (by omega) (by omega), by rw [HS.out.2.1]; exact HOw5.out, HK5.out.1, HK5.out.2⟩
                  case measure => simp [intOf]; omega
                · have e2 : decide (0 < x) = false := by simpa using hx2
                  go_wp2_with (at_builtin; refine wpList_push _ rfl (.tmp 55) (.tmp 61) 22 rfl 3 i0 (.int .i64 0) 8 Tryd.underlying22 HI.out.1 HI.out.2.1 HI.out.2.2.1 HI.out.2.2.2 rfl _ (dblV coef k) k HLc.out rfl (HOw.out.alloc _) ⟨wr.heap.size, 0, none⟩ 1 (I64 (2 * x)) rfl ?c1b rfl ?c2b ?c3b ?_)
                  case c2b => unfold maxLen; omega
                  case c3b => omega
                  intro g2 o2 cp2 w5 hown5 hg5 hat5
                  have hk5 := least_push (o2 := o2) (n := k + 1) (cp2 := cp2) HGs.out HBel.out hg5 hat5
                  have HOw5 := Lib.hid hown5
                  have HK5 := Lib.hid hk5
                  clear hown5 hg5 hat5 hk5
                  go_wp2_with fail
                  go_roundw
                  case rel => exact ⟨k + 1, false, by go_num, rfl, by omega, by rw [HS.out.1, HAny.out, e2]; rfl, HS.out.2.2 (by omega) (by omega), by rw [HS.out.2.1]; exact HOw5.out, HK5.out.1, HK5.out.2⟩
                  case measure => simp [intOf]; omega
              · go_wp2_with (at_builtin; refine wpList_push _ rfl (.tmp 55) (.tmp 61) 22 rfl 3 i0 (.int .i64 0) 8 Tryd.underlying22 HI.out.1 HI.out.2.1 HI.out.2.2.1 HI.out.2.2.2 rfl _ (dblV coef k) k HLc.out rfl (HOw.out.alloc _) ⟨wr.heap.size, 0, none⟩ 1 (I64 (2 * x)) rfl ?c1c rfl ?c2c ?c3c ?_)
                case c2c => unfold maxLen; omega
                case c3c => omega
                intro g2 o2 cp2 w5 hown5 hg5 hat5
                have hk5 := least_push (o2 := o2) (n := k + 1) (cp2 := cp2) HGs.out HBel.out hg5 hat5
                have HOw5 := Lib.hid hown5
                have HK5 := Lib.hid hk5
                clear hown5 hg5 hat5 hk5
                go_wp2_with fail
                go_roundw
                case rel => exact ⟨k + 1, true, by go_num, rfl, by omega, by rw [HS.out.1, HAny.out]; rfl, HS.out.2.2 (by omega) (by omega), by rw [HS.out.2.1]; exact HOw5.out, HK5.out.1, HK5.out.2⟩
                case measure => simp [intOf]; omega
        · obtain rfl : k = coef.length := by omega
          have hany := HAny.out
          have hmid := HMid.out
          have how := HOw.out
          unfold dblV at how
          rw [List.take_length] at hany hmid how
          obtain ⟨tA, tc, etv, htc, hrd⟩ := how.rd
          have hlt2 := fun g hg => how.lt (g := g) hg
          rw [List.length_map] at etv htc
          subst etv
          obtain ⟨s1, s2, s3⟩ := shift_of (coef := coef) (l := l) (next := next) hmid
          have R0 := Lib.hid (show Rd I64 (· < wr.heap.size) wr tA (coef.map (2 * ·)) from hrd.mono hlt2)
          have HAny := Lib.hid hany
          have BW := Lib.hid (below_up B1.out HBel.out)
          have AW := Lib.hid (A1.out.up HBel.out)
          have LW := Lib.hid (L1.out.up HBel.out)
          have TW := Lib.hid (T1.out.below HBel.out)
          clear hany hmid how htc hrd hlt2 HMid HOw HGs HBel
          cases hr : sumP coef l next with
          | err c =>
            have HR := Lib.hid (And.intro hr (s1 c hr))
            have hc0 : (c != 0) = true := sumP_err hr
            clear hr s1 s2 s3
            go_wp2_with fail
            refine (sum_err A L cA cL coef.length l.length coef l next c wr rfl rfl AW.out LW.out TW.out (by omega) (by omega) HR.out.1).mono ?_
            rintro e w2 ⟨rfl, b2⟩
            have B2 := Lib.hid b2
            clear b2
            go_wp2_with fail
            refine (sum_err tA L tc cL coef.length l.length (coef.map (2 * ·)) l next c w2 (by simp) rfl (R0.out.up B2.out) (LW.out.up B2.out) (TW.out.below B2.out) (by omega) (by omega) HR.out.2).mono ?_
            rintro e w3 ⟨rfl, b3⟩
            have B3 := Lib.hid (below_up BW.out (below_up B2.out b3))
            clear b3
            go_wp2_with fail
            go_ret
            exact ⟨rfl, B3.out⟩
          | ok bits cs n =>
            have hlen := sumP_lens hr
            have HLn := Lib.hid hlen.2.2
            obtain ⟨hb70, hc70, _⟩ := hlen
            cases b
            · have hs := s3 bits cs n hr HAny.out
              have hb0 := hs.2
              have HR := Lib.hid (And.intro hr hs.1)
              clear hr s1 s2 s3 hs
              go_wp2_with fail
              refine (sum_ok A L cA cL coef.length l.length coef l next bits cs n wr rfl rfl AW.out LW.out TW.out (by omega) (by omega) HR.out.1).mono ?_
              rintro e w2 ⟨A2, cA2, C2, cC2, rfl, _, _, _, rl2, b2⟩
              have B2 := Lib.hid b2
              have RL2 := Lib.hid rl2
              clear b2 rl2
              go_wp2_with fail
              refine (sum_ok tA L tc cL coef.length l.length (coef.map (2 * ·)) l next bits cs n w2 (by simp) rfl (R0.out.up B2.out) (LW.out.up B2.out) (TW.out.below B2.out) (by omega) (by omega) HR.out.2).mono ?_
              rintro e w3 ⟨A3, cA3, C3, cC3, rfl, _, _, _, rl3, b3⟩
              have B3 := Lib.hid (below_up BW.out (below_up B2.out b3))
              have RL3 := Lib.hid (And.intro (RL2.out.up b3) rl3)
              clear b3 rl3 RL2
              go_wp2_with fail
              refine (lists_sm (D := (· < w3.heap.size)) C2 C3 cC2 cC3 cs.length cs w3 RL3.out.1 RL3.out.2 rfl (by unfold maxLen; omega) (fun x hx => by have := HLn.out x hx; unfold maxLen; omega)).mono ?_
              rintro e w4 ⟨rfl, q, hq⟩
              have B4 := Lib.hid (show Below w.heap.size w w4 by rw [hq]; exact below_n B3.out _)
              clear hq
              go_wp2_with fail
              go_ret
              exact ⟨rfl, B4.out⟩
            · have hs := s2 bits cs n hr HAny.out
              have HR := Lib.hid (And.intro hr hs)
              clear hr s1 s2 s3 hs
              go_wp2_with fail
              refine (sum_ok A L cA cL coef.length l.length coef l next bits cs n wr rfl rfl AW.out LW.out TW.out (by omega) (by omega) HR.out.1).mono ?_
              rintro e w2 ⟨A2, cA2, C2, cC2, rfl, _, _, rd2, rl2, b2⟩
              have B2 := Lib.hid b2
              have RL2 := Lib.hid (And.intro rd2 rl2)
              clear b2 rl2 rd2
              go_wp2_with fail
              refine (sum_ok tA L tc cL coef.length l.length (coef.map (2 * ·)) l next (0 :: bits) cs n w2 (by simp) rfl (R0.out.up B2.out) (LW.out.up B2.out) (TW.out.below B2.out) (by omega) (by omega) HR.out.2).mono ?_
              rintro e w3 ⟨A3, cA3, C3, cC3, rfl, hcap, _, rd3, rl3, b3⟩
              rw [List.length_cons] at hcap
              have B3 := Lib.hid (below_up BW.out (below_up B2.out b3))
              have RL3 := Lib.hid (And.intro (RL2.out.2.up b3) rl3)
              have RD3 := Lib.hid (And.intro (RL2.out.1.up b3) rd3)
              obtain ⟨ab3, ao3, rfl, _, hca⟩ := rd3.at_ (k := 0) (by simp)
              have hca0 : w3.cell? ⟨ab3, ao3, none⟩ = some (I64 0) := hca
              have HCA := Lib.hid hca0
              clear b3 rl3 RL2 rd3 hca hca0
              go_wp2_with fail
              refine (lists_sm (D := (· < w3.heap.size)) C2 C3 cC2 cC3 cs.length cs w3 RL3.out.1 RL3.out.2 rfl (by unfold maxLen; omega) (fun x hx => by have := HLn.out x hx; unfold maxLen; omega)).mono ?_
              rintro e w4 ⟨rfl, q, hq⟩
              have B4 := Lib.hid (show Below w.heap.size w w4 by rw [hq]; exact below_n B3.out _)
              have RD4 := Lib.hid (show Rd I64 (· < w3.heap.size) w4 A2 bits ∧ Rd I64 (· < w3.heap.size) w4 (some ⟨ab3, ao3, none⟩) (0 :: bits) by rw [hq]; exact ⟨RD3.out.1.drewN _, RD3.out.2.drewN _⟩)
              have hca4 : w4.cell? ⟨ab3, ao3, none⟩ = some (I64 0) := by rw [hq]; exact HCA.out
              clear hq
              by_cases hc1 : cA3 = 1
              · subst hc1
                have hb0 : bits.length ≤ 0 := by omega
                go_wp2_with fail
                refine (ints_sm (D := (· < w3.heap.size)) (some ⟨ab3, ao3, none⟩) A2 0 cA2 0 bits.length bits w4 (fun h => by omega) RD4.out.1 (by omega) rfl (by unfold maxLen; omega)).mono ?_
                rintro e w5 ⟨rfl, q5, hq5⟩
                have B5 := Lib.hid (show Below w.heap.size w w5 by rw [hq5]; exact below_n B4.out _)
                clear hq5
                go_wp2_with fail
                go_ret
                exact ⟨rfl, B5.out⟩
              · go_wp2_with fail
                refine (ints_sm (D := (· < w3.heap.size)) (some ⟨ab3, ao3 + 1, none⟩) A2 (cA3 - 1) cA2 bits.length bits.length bits w4 RD4.out.2.tail RD4.out.1 rfl rfl (by unfold maxLen; omega)).mono ?_
                rintro e w5 ⟨rfl, q5, hq5⟩
                have B5 := Lib.hid (show Below w.heap.size w w5 by rw [hq5]; exact below_n B4.out _)
                clear hq5
                go_wp2_with fail
                go_ret
                exact ⟨rfl, B5.out⟩
end Go.Proofs.YtogolfneckhnaaaDoor
