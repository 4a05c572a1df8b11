/- Lemmas and contracts for the row. -/
import Derived.Test.YtbpbndlgfiammaaGreatDoorProg
import Derived.Test.YtbpbndlgfiammaaGreatDoorPkRowProofTidyB
import Derived.Deep.QuietTactic
import Derived.BigQuiet
import Derived.Lib.Hide
import Derived.Outline
import Derived.Shelf.Abstract
set_option linter.unusedVariables false
set_option linter.unusedSimpArgs false
set_option linter.unnecessarySimpa false
namespace Go.Proofs.YtbpbndlgfiammaaGreatDoor
open Go.RowKit Go.Shelf
theorem info_int : (Tryz.prog.info? 3).map (fun i => (i.zero, i.size, i.bytes)) = some (some (.int .i64 0), 1, 8) := by kernel_rfl
def Preds (f : Nat) (lb : List Value) (pd : Int → Bool) (l : List Int) (w : World) : Prop :=
  ∀ x ∈ l, ∀ n, Calls Tryz.prog f (I64 x :: lb).toArray (w.drewN n) fun e w' => e = .returned (.bool (pd x)) ∧ ∃ q, w' = w.drewN q
set_option maxHeartbeats 800000 in
theorem if_any {D : Nat → Prop} (f : Nat) (lb : List Value) (pd : Int → Bool) (A : Option Addr) (c : Nat) (l : List Int) (w : World) (heg : ∀ (args : Array Value) (w : World), (callFunc f args).run Tryz.prog w = .ok (.enter f args) w)
    (hp : Preds f lb pd l w) (hr : Rd I64 D w A l) (hl : l.length ≤ maxLen) :
    Calls Tryz.prog 92 #[.slice A l.length c, .func (.func f) #[] lb.toArray] w fun e w' => (∃ i : Int, e = .returned (I64 i) ∧ (decide (0 ≤ i) = l.any pd)) ∧ ∃ q, w' = w.drewN q := by
  unfold maxLen at hl
  have HP := Lib.hid hp
  have HR := Lib.hid hr
  clear hp hr
  go_enter Tryz.func92, Tryz.ntmps92
  go_wp2_with fail
  go_loopw [8] (fun i wr => ∃ k q : Nat, i = .int .i64 k ∧ k ≤ l.length ∧ wr = w.drewN q ∧ (l.take k).any pd = false) (fun i _ => l.length - (intOf i).toNat)
  case atStart => exact ⟨0, 0, rfl, Nat.zero_le _, rfl, rfl⟩
  case round =>
    obtain ⟨k, q, rfl, hk, hw, ht⟩ := hrel
    have HW := Lib.hid hw
    have HT := Lib.hid ht
    clear ht hw
    by_cases hlt : k < l.length
    · obtain ⟨a, oa, rfl, _, ca⟩ := (show Rd I64 D wr A l by rw [HW.out]; exact HR.out).at_ hlt
      have hpx := HP.out l[k] (List.getElem_mem hlt) q
      have htk : (l.take (k + 1)).any pd = pd l[k] := by rw [List.take_succ_eq_append_getElem hlt, List.any_append, HT.out]; simp
      have hyes : pd l[k] = true → l.any pd = true := fun h => List.any_eq_true.2 ⟨l[k], List.getElem_mem hlt, h⟩
      rw [← HW.out] at hpx
      generalize l[k] = x at ca hpx htk hyes
      have HPX := Lib.hid hpx
      have HTK := Lib.hid htk
      have HY := Lib.hid hyes
      clear hpx htk hyes
      generalize hb : pd x = b at HPX HTK HY
      have HBB := Lib.hid hb
      clear hb
      go_wp2_with fail
      refine HPX.out.mono ?_
      rintro e w3 ⟨rfl, q3, hq3⟩
      have HQ3 := Lib.hid hq3
      clear hq3
      cases b
      · go_wp2_with fail
        go_roundw
        case rel => exact ⟨k + 1, q3, by go_num, by omega, HQ3.out, HTK.out⟩
        case measure => simp [intOf]; omega
      · go_wp2_with fail
        go_ret
        exact ⟨⟨_, rfl, by have h := HY.out (by simp); rw [h]; simp⟩, q3, HQ3.out⟩
    · go_wp2_with fail
      go_ret
      refine ⟨⟨_, rfl, ?_⟩, q, HW.out⟩
      have h2 := HT.out
      rw [List.take_of_length_le (by omega)] at h2
      rw [h2]; rfl
set_option maxHeartbeats 400000 in
theorem cf_any {D : Nat → Prop} (f : Nat) (lb : List Value) (pd : Int → Bool) (A : Option Addr) (c : Nat) (l : List Int) (w : World) (heg : ∀ (args : Array Value) (w : World), (callFunc f args).run Tryz.prog w = .ok (.enter f args) w)
    (hp : Preds f lb pd l w) (hr : Rd I64 D w A l) (hl : l.length ≤ maxLen) :
    Calls Tryz.prog 61 #[.slice A l.length c, .func (.func f) #[] lb.toArray] w fun e w' => e = .returned (.bool (l.any pd)) ∧ ∃ q, w' = w.drewN q := by
  have H := Lib.hid (if_any f lb pd A c l w heg hp hr hl)
  clear heg hp hr hl
  go_enter Tryz.func61, Tryz.ntmps61
  go_wp2_with fail
  refine H.out.mono ?_
  rintro e w3 ⟨⟨i, rfl, hi⟩, q3, hq3⟩
  have HI := Lib.hid hi
  have HQ3 := Lib.hid hq3
  clear hi hq3
  go_wp2_with fail
  go_ret
  exact ⟨by simp [← HI.out], q3, HQ3.out⟩
end Go.Proofs.YtbpbndlgfiammaaGreatDoor
