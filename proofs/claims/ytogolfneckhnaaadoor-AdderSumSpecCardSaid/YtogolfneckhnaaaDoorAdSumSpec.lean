/- AdderSumSpec's walk: at every input the law's Go text returns true, and writes nothing that was there. -/
import Derived.Test.YtogolfneckhnaaaDoorSumC
import Derived.Test.YtogolfneckhnaaaDoorAdLeastSpec
import Derived.Test.YtogolfneckhnaaaDoorEngCalls
import Derived.Test.YtogolfneckhnaaaDoorRef17S
namespace Go.Proofs.YtogolfneckhnaaaDoor
open Go.RowKit Go.Shelf

theorem glok_of_tab {w : World} (hT : TabAt w) : En.GlOk (En.g0 w (· < w.heap.size)) := by
  intro k xs hk
  have hk' : (bif Nat.beq 1 k then some (Lib.deBruijn64tab.map fun (n : Nat) => Value.int .u8 (n : Int)) else none) = some xs := hk
  by_cases e : 1 = k
  · subst e
    rw [Nat.beq_refl] at hk'
    simp only [cond_true, Option.some.injEq] at hk'
    subst hk'
    refine ⟨World.block_lt_of_cell? w _ (hT 0 (by decide)), fun j x hx => ?_⟩
    have hj : j < 64 := by
      have := (List.getElem?_eq_some_iff.1 hx).1
      rw [List.length_map] at this
      exact this
    refine (hT j hj).trans ?_
    rw [List.getElem?_map] at hx
    rw [List.getD_eq_getElem?_getD]
    cases hg : Lib.deBruijn64tab[j]? with
    | none => rw [hg] at hx; cases hx
    | some n => rw [hg] at hx; cases hx; rfl
  · have : Nat.beq 1 k = false := En.beqF e
    rw [this] at hk'
    cases hk'
theorem rsum_any (A L : Option Addr) (cA cL : Nat) (coef l : List Int) (next : Int) (w : World) (ha : Rd I64 (· < w.heap.size) w A coef) (hl : Rd I64 (· < w.heap.size) w L l) (hT : TabAt w) (hca : coef.length ≤ cA) (hcl : l.length ≤ cL)
    (h1 : coef.length ≤ 40) (h2 : l.length ≤ 40) :
    Calls Tryd.prog 14 #[.slice A coef.length cA, .slice L l.length cL, I64 next] w fun e w' => ∃ A' cA' C cC, e = .returned (.tuple #[.slice A' (sumBits (sumP coef l next)).length cA', .slice C (sumCs (sumP coef l next)).length cC, I64 (sumNx (sumP coef l next)), I64 (sumErr (sumP coef l next))]) ∧
      Rd I64 (· < w'.heap.size) w' A' (sumBits (sumP coef l next)) ∧ RdL (· < w'.heap.size) w' C (sumCs (sumP coef l next)) ∧ Below w.heap.size w w' := by
  have hden : En.DenL (En.g0 w (· < w.heap.size)) [.ints coef, .ints l, .int next] [.slice A coef.length cA, .slice L l.length cL, I64 next] := by
    simp only [En.DenL]
    exact ⟨_, _, rfl, En.den_ints ha (by unfold maxLen; omega) hca, _, _, rfl, En.den_ints hl (by unfold maxLen; omega) hcl, _, _, rfl, En.den_val_mk _, rfl⟩
  refine Calls.mono (En.Sound.calls En.rSum17_sound (glok_of_tab hT) (args := [.ints coef, .ints l, .int next]) rfl ⟨h1, h2⟩ hden) fun e w' he => ?_
  obtain ⟨u, rfl, hb, g', rfl, hG, hd⟩ := he
  simp only [En.Den] at hd
  obtain ⟨vs, rfl, hl⟩ := hd
  simp only [En.DenL] at hl
  obtain ⟨v1, _, rfl, d1, v2, _, rfl, d2, v3, _, rfl, d3, v4, _, rfl, d4, rfl⟩ := hl
  simp only [En.Den] at d1 d2
  obtain ⟨A', c', rfl, _, r1⟩ := En.rd_of_ints d1
  obtain ⟨C, cC, rfl, _, r2⟩ := En.rdL_of_intss d2
  rw [En.den_val d3, En.den_val d4]
  exact ⟨A', c', C, cC, rfl, r1.mono hG, r2.mono hG, hb⟩
theorem rsum_err (A L : Option Addr) (cA cL : Nat) (coef l : List Int) (next c : Int) (w : World) (ha : Rd I64 (· < w.heap.size) w A coef) (hl : Rd I64 (· < w.heap.size) w L l) (hT : TabAt w) (hca : coef.length ≤ cA) (hcl : l.length ≤ cL)
    (h1 : coef.length ≤ 40) (h2 : l.length ≤ 40) (hr : sumP coef l next = .err c) :
    Calls Tryd.prog 14 #[.slice A coef.length cA, .slice L l.length cL, I64 next] w fun e w' => ∃ A' cA' C cC, e = .returned (.tuple #[.slice A' 0 cA', .slice C 0 cC, I64 0, I64 c]) ∧ Below w.heap.size w w' := by
  have h := rsum_any A L cA cL coef l next w ha hl hT hca hcl h1 h2
  rw [hr] at h
  exact h.mono fun e w' ⟨A', cA', C, cC, e1, _, _, hb⟩ => ⟨A', cA', C, cC, e1, hb⟩
theorem rsum_ok (A L : Option Addr) (cA cL : Nat) (coef l : List Int) (next : Int) (bits : List Int) (cs : List (List Int)) (after : Int) (w : World) (ha : Rd I64 (· < w.heap.size) w A coef) (hl : Rd I64 (· < w.heap.size) w L l) (hT : TabAt w) (hca : coef.length ≤ cA) (hcl : l.length ≤ cL)
    (h1 : coef.length ≤ 40) (h2 : l.length ≤ 40) (hr : sumP coef l next = .ok bits cs after) :
    Calls Tryd.prog 14 #[.slice A coef.length cA, .slice L l.length cL, I64 next] w fun e w' => ∃ A' cA' C cC, e = .returned (.tuple #[.slice A' bits.length cA', .slice C cs.length cC, I64 after, I64 0]) ∧
      Rd I64 (· < w'.heap.size) w' A' bits ∧ RdL (· < w'.heap.size) w' C cs ∧ Below w.heap.size w w' := by
  have h := rsum_any A L cA cL coef l next w ha hl hT hca hcl h1 h2
  rw [hr] at h
  exact h

set_option maxRecDepth 100000 in
set_option maxHeartbeats 1600000 in
theorem sumSpec_any (A L : Option Addr) (cA cL : Nat) (coef l : List Int) (next : Int) (w : World) (ha : Rd I64 (· < w.heap.size) w A coef) (hl : Rd I64 (· < w.heap.size) w L l) (hT : TabAt w) (hca : coef.length ≤ cA) (hcl : l.length ≤ cL) :
    Calls Tryd.prog 3 #[.slice A coef.length cA, .slice L l.length cL, I64 next] w fun e w' => e = .returned (.bool true) ∧ Below w.heap.size w w' := by
  have HA := Lib.hid ha
  have HL := Lib.hid hl
  have HT := Lib.hid hT
  clear ha hl hT
  by_cases hg1 : 40 < coef.length
  · have d1 : decide ((40 : Int) < (coef.length : Int)) = true := by simp; omega
    go_enter Tryd.func3, Tryd.ntmps3
    go_wp2_with fail
    refine (live_any w HT.out).mono ?_
    rintro e w1 ⟨rfl, b1⟩
    have B1 := Lib.hid b1
    clear b1
    go_wp2_with fail
    go_ret
    exact ⟨rfl, B1.out⟩
  · have d1 : decide ((40 : Int) < (coef.length : Int)) = false := by simp; omega
    by_cases hg2 : 40 < l.length
    · have d2 : decide ((40 : Int) < (l.length : Int)) = true := by simp; omega
      go_enter Tryd.func3, Tryd.ntmps3
      go_wp2_with fail
      refine (live_any w HT.out).mono ?_
      rintro e w1 ⟨rfl, b1⟩
      have B1 := Lib.hid b1
      clear b1
      go_wp2_with fail
      go_ret
      exact ⟨rfl, B1.out⟩
    · have d2 : decide ((40 : Int) < (l.length : Int)) = false := by simp; omega
      cases hr : sumP coef l next with
      | err c =>
        have HR := Lib.hid hr
        clear hr
        go_enter Tryd.func3, Tryd.ntmps3
        go_wp2_with fail
        refine (live_any w HT.out).mono ?_
        rintro e w1 ⟨rfl, b1⟩
        have B1 := Lib.hid b1
        clear b1
        go_wp2_with fail
        refine (sum_err A L cA cL coef.length l.length coef l next c w1 rfl rfl (HA.out.up B1.out) (HL.out.up B1.out) (HT.out.below B1.out) (by omega) (by omega) HR.out).mono ?_
        rintro e w2 ⟨rfl, b2⟩
        have B2 := Lib.hid (below_up B1.out b2)
        clear b2 B1
        go_wp2_with fail
        refine (rsum_err A L cA cL coef l next c w2 (HA.out.up B2.out) (HL.out.up B2.out) (HT.out.below B2.out) hca hcl (by omega) (by omega) HR.out).mono ?_
        rintro e w3 ⟨A', cA', C, cC, rfl, b3⟩
        have B3 := Lib.hid (below_up B2.out b3)
        clear b3 B2
        go_wp2_with fail
        refine (ints_sm (D := fun _ => True) none A' 0 cA' 0 0 [] w3 (Rd.nil _) (Rd.nil _) rfl rfl (by unfold maxLen; decide)).mono ?_
        rintro e w4 ⟨rfl, q, hq⟩
        have B4 := Lib.hid (show Below w.heap.size w w4 by rw [hq]; exact below_n B3.out _)
        clear hq B3
        go_wp2_with fail
        refine (lists_same (D := fun _ => True) none C 0 cC 0 [] w4 (RdL.nil _) (RdL.nil _) rfl (by unfold maxLen; decide) (by simp)).mono ?_
        rintro e w5 ⟨rfl, q, hq⟩
        have B5 := Lib.hid (show Below w.heap.size w w5 by rw [hq]; exact below_n B4.out _)
        clear hq B4
        go_wp2_with fail
        go_ret
        exact ⟨rfl, B5.out⟩
      | ok bits cs after =>
        have HR := Lib.hid hr
        have hlen := sumP_lens hr
        have hb7 := hlen.1
        have hc7 := hlen.2.1
        have HLn := Lib.hid hlen.2.2
        clear hr hlen
        go_enter Tryd.func3, Tryd.ntmps3
        go_wp2_with fail
        refine (live_any w HT.out).mono ?_
        rintro e w1 ⟨rfl, b1⟩
        have B1 := Lib.hid b1
        clear b1
        go_wp2_with fail
        refine (sum_ok A L cA cL coef.length l.length coef l next bits cs after w1 rfl rfl (HA.out.up B1.out) (HL.out.up B1.out) (HT.out.below B1.out) (by omega) (by omega) HR.out).mono ?_
        rintro e w2 ⟨A1, cA1, C1, cC1, rfl, _, _, r1, r2, b2⟩
        have B2 := Lib.hid (below_up B1.out b2)
        have R2 := Lib.hid (And.intro r1 r2)
        clear b2 B1 r1 r2
        go_wp2_with fail
        refine (rsum_ok A L cA cL coef l next bits cs after w2 (HA.out.up B2.out) (HL.out.up B2.out) (HT.out.below B2.out) hca hcl (by omega) (by omega) HR.out).mono ?_
        rintro e w3 ⟨A', cA', C, cC, rfl, r3, r4, b3⟩
        have B3 := Lib.hid (below_up B2.out b3)
        have R3 := Lib.hid (And.intro (R2.out.1.up b3) (And.intro (R2.out.2.up b3) (And.intro r3 r4)))
        clear b3 B2 R2 r3 r4
        go_wp2_with fail
        refine (ints_sm (D := (· < w3.heap.size)) A1 A' cA1 cA' bits.length bits.length bits w3 R3.out.1 R3.out.2.2.1 rfl rfl (by unfold maxLen; omega)).mono ?_
        rintro e w4 ⟨rfl, q, hq⟩
        have R4 := Lib.hid (show RdL (· < w3.heap.size) w4 C1 cs ∧ RdL (· < w3.heap.size) w4 C cs by rw [hq]; exact ⟨(R3.out.2.1 : RdL _ w3 C1 cs), (R3.out.2.2.2 : RdL _ w3 C cs)⟩)
        have B4 := Lib.hid (show Below w.heap.size w w4 by rw [hq]; exact below_n B3.out _)
        clear hq B3
        go_wp2_with fail
        refine (lists_same (D := (· < w3.heap.size)) C1 C cC1 cC cs.length cs w4 R4.out.1 R4.out.2 rfl (by unfold maxLen; omega) (fun x hx => by have := HLn.out x hx; unfold maxLen; omega)).mono ?_
        rintro e w5 ⟨rfl, q, hq⟩
        have B5 := Lib.hid (show Below w.heap.size w w5 by rw [hq]; exact below_n B4.out _)
        clear hq B4
        go_wp2_with fail
        go_ret
        exact ⟨rfl, B5.out⟩
end Go.Proofs.YtogolfneckhnaaaDoor
