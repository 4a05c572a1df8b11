/- Contracts of the reference's list comparisons Ints and Lists: each returns whether the two lists are equal, for all readable slices. -/
import Derived.Test.YtogolfneckhnaaaDoorProg
import Derived.Test.YtogolfneckhnaaaDoorMem
import Derived.Deep.QuietTactic
import Derived.BigQuiet
import Derived.Lib.Hide
import Derived.Outline
namespace Go.Proofs.YtogolfneckhnaaaDoor
open Go.RowKit

theorem take_snoc_eq {α : Type} {xs ys : List α} {k : Nat} (hx : k < xs.length) (hy : k < ys.length) (h : xs.take k = ys.take k) : xs[k] = ys[k] ↔ xs.take (k + 1) = ys.take (k + 1) := by
  rw [List.take_succ_eq_append_getElem hx, List.take_succ_eq_append_getElem hy, h]
  simp only [List.append_cancel_left_eq, List.cons.injEq, and_true]
theorem drew_more {w wr : World} {q : Nat} (h : wr = w.drewN q) (n : Nat) : ∃ m, wr.drewN n = w.drewN m := ⟨q + n, by rw [h, World.drewN_drewN]⟩

set_option maxHeartbeats 400000 in
theorem ints_any {D : Nat → Prop} (A B : Option Addr) (c d : Nat) (xs ys : List Int) (w : World) (ha : Rd I64 D w A xs) (hb : Rd I64 D w B ys) (hx : xs.length ≤ maxLen) (hy : ys.length ≤ maxLen) :
    Calls Tryd.prog 15 #[.slice A xs.length c, .slice B ys.length d] w fun e w' => e = .returned (.bool (decide (xs = ys))) ∧ ∃ q, w' = w.drewN q := by
  unfold maxLen at hx hy
  by_cases hl : xs.length = ys.length
  · have hne : ((xs.length : Int) != (ys.length : Int)) = false := by simp [hl]
    have HL := Lib.hid hl
    have HA := Lib.hid ha
    have HB := Lib.hid hb
    clear hl ha hb
    go_enter Tryd.func15, Tryd.ntmps15
    go_wp2
    clear hne
    go_loopw [5] (fun i wr => ∃ k q : Nat, i = .int .i64 k ∧ k ≤ xs.length ∧ wr = w.drewN q ∧ xs.take k = ys.take k) (fun i _ => xs.length - (intOf i).toNat)
    case atStart => exact ⟨0, 0, rfl, Nat.zero_le _, rfl, rfl⟩
    case round =>
      obtain ⟨k, q, rfl, hk, hw, ht⟩ := hrel
      have HW := Lib.hid hw
      have HT := Lib.hid ht
      clear ht hw
      by_cases hlt : k < xs.length
      · obtain ⟨a, oa, rfl, _, ca⟩ := (show Rd I64 D wr A xs by rw [HW.out]; exact HA.out).at_ hlt
        have hlt' : k < ys.length := by rw [← HL.out]; exact hlt
        obtain ⟨b, ob, rfl, _, cb⟩ := (show Rd I64 D wr B ys by rw [HW.out]; exact HB.out).at_ hlt'
        go_wp2
        go_quiet (fail)
        go_wp2
        · go_ret
          have hn : (xs[k] != ys[k]) = true := by assumption
          refine ⟨?_, drew_more HW.out _⟩
          have : ¬ xs = ys := fun e => by
            have h2 := (take_snoc_eq hlt hlt' HT.out).2 (by subst e; rfl)
            simp [h2] at hn
          simp [this]
        · have hn : (xs[k] != ys[k]) = false := by assumption
          have h2 := (take_snoc_eq hlt hlt' HT.out).1 (by simpa using hn)
          obtain ⟨m, hm⟩ := drew_more HW.out nq
          go_roundw
          case rel => exact ⟨k + 1, m, by go_num, by omega, hm, h2⟩
          case measure => simp [intOf]; omega
      · go_wp2
        go_ret
        refine ⟨?_, q, HW.out⟩
        have h2 := HT.out
        have hl := HL.out
        rw [List.take_of_length_le (by omega), List.take_of_length_le (by omega)] at h2
        simp [h2]
  · have hne : ((xs.length : Int) != (ys.length : Int)) = true := by simp; omega
    have HL := Lib.hid hl
    clear hl
    go_enter Tryd.func15, Tryd.ntmps15
    go_wp2
    go_ret
    refine ⟨?_, 0, rfl⟩
    have : ¬ xs = ys := fun e => HL.out (by rw [e])
    simp [this]

set_option maxHeartbeats 800000 in
theorem lists_any {D : Nat → Prop} (A B : Option Addr) (c d : Nat) (xs ys : List (List Int)) (w : World) (ha : RdL D w A xs) (hb : RdL D w B ys) (hx : xs.length ≤ maxLen) (hy : ys.length ≤ maxLen)
    (hxs : ∀ x ∈ xs, x.length ≤ maxLen) (hys : ∀ x ∈ ys, x.length ≤ maxLen) :
    Calls Tryd.prog 16 #[.slice A xs.length c, .slice B ys.length d] w fun e w' => e = .returned (.bool (decide (xs = ys))) ∧ ∃ q, w' = w.drewN q := by
  unfold maxLen at hx hy
  by_cases hl : xs.length = ys.length
  · have hne : ((xs.length : Int) != (ys.length : Int)) = false := by simp [hl]
    have HL := Lib.hid hl
    have HA := Lib.hid ha
    have HB := Lib.hid hb
    have HXS := Lib.hid hxs
    have HYS := Lib.hid hys
    clear hl ha hb hxs hys
    go_enter Tryd.func16, Tryd.ntmps16
    go_wp2_with fail
    clear hne
    go_loopw [5] (fun i wr => ∃ k q : Nat, i = .int .i64 k ∧ k ≤ xs.length ∧ wr = w.drewN q ∧ xs.take k = ys.take k) (fun i _ => xs.length - (intOf i).toNat)
    case atStart => exact ⟨0, 0, rfl, Nat.zero_le _, rfl, rfl⟩
    case round =>
      obtain ⟨k, q, rfl, hk, hw, ht⟩ := hrel
      have HW := Lib.hid hw
      have HT := Lib.hid ht
      clear ht hw
      by_cases hlt : k < xs.length
      · obtain ⟨a, oa, rfl, _, hca⟩ := (show RdL D wr A xs by rw [HW.out]; exact HA.out) (by omega)
        have hlt' : k < ys.length := by rw [← HL.out]; exact hlt
        obtain ⟨b, ob, rfl, _, hcb⟩ := (show RdL D wr B ys by rw [HW.out]; exact HB.out) (by omega)
        obtain ⟨A1, c1, ca, _, r1⟩ := hca k hlt
        obtain ⟨B1, d1, cb, _, r2⟩ := hcb k hlt'
        have l1 := HXS.out _ (List.getElem_mem hlt)
        have l2 := HYS.out _ (List.getElem_mem hlt')
        have R1 := Lib.hid r1
        have R2 := Lib.hid r2
        clear hca hcb r1 r2
        go_wp2_with fail
        go_quiet ((go_at_call 15; exact Calls.quiet_of (ints_any _ _ _ _ _ _ _ (R1.out.drewN _) (R2.out.drewN _) l1 l2)))
        generalize hr : decide (xs[k] = ys[k]) = r
        have HR := Lib.hid hr
        clear hr
        cases r
        · go_wp2_with fail
          go_ret
          refine ⟨?_, drew_more HW.out _⟩
          have : ¬ xs = ys := fun e => by have := HR.out; subst e; simp at this
          simp [this]
        · have h2 := (take_snoc_eq hlt hlt' HT.out).1 (by simpa using HR.out)
          have H2 := Lib.hid h2
          clear h2
          go_wp2_with fail
          obtain ⟨m, hm⟩ := drew_more HW.out nq
          have HM := Lib.hid hm
          clear hm
          go_roundw
          case rel => exact ⟨k + 1, m, by go_num, by omega, HM.out, H2.out⟩
          case measure => simp [intOf]; omega
      · go_wp2
        go_ret
        refine ⟨?_, q, HW.out⟩
        have h2 := HT.out
        have hl := HL.out
        rw [List.take_of_length_le (by omega), List.take_of_length_le (by omega)] at h2
        simp [h2]
  · have hne : ((xs.length : Int) != (ys.length : Int)) = true := by simp; omega
    have HL := Lib.hid hl
    clear hl
    go_enter Tryd.func16, Tryd.ntmps16
    go_wp2
    go_ret
    refine ⟨?_, 0, rfl⟩
    have : ¬ xs = ys := fun e => HL.out (by rw [e])
    simp [this]
end Go.Proofs.YtogolfneckhnaaaDoor
