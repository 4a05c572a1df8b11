/- Contracts of the law's own helpers sum and small. -/
import Derived.Test.YtogolfneckhnaaaDoorTold
namespace Go.Proofs.YtogolfneckhnaaaDoor
open Go.RowKit Go.Shelf

set_option maxHeartbeats 1600000 in
theorem sum_fn_any (K L A : Option Addr) (cK cL cA : Nat) (coef l : List Int) (a : List Bool) (w : World) (hk : Rd I64 (· < w.heap.size) w K coef) (hr : Rd I64 (· < w.heap.size) w L l) (ha : Rd Value.bool (· < w.heap.size) w A a) (hlen : coef.length = l.length) (hl : l.length ≤ 1000) (hal : a.length ≤ 200000)
    (hc : ∀ c ∈ coef, 0 ≤ c ∧ c ≤ 1099511627776) :
    Calls Tryd.prog 26 #[.slice K coef.length cK, .slice L l.length cL, .slice A a.length cA] w fun e w' => e = .returned (I64 (sumTo coef l a l.length)) ∧ Below w.heap.size w w' := by
  have HK := Lib.hid hk
  have HR := Lib.hid hr
  have HA := Lib.hid ha
  have HC := Lib.hid hc
  have HLen := Lib.hid hlen
  have hle1 : coef.length ≤ l.length := by omega
  have hle2 : l.length ≤ coef.length := by omega
  clear hk hr ha hc hlen
  go_enter Tryd.func26, Tryd.ntmps26
  go_wp2_with fail
  go_loopw [7, 8] (fun nv iv wr => ∃ i : Nat, iv = .int .i64 i ∧ i ≤ l.length ∧ nv = .int .i64 (sumTo coef l a i) ∧ Below w.heap.size w wr) (fun _ iv _ => l.length - (intOf iv).toNat)
  case atStart => exact ⟨0, rfl, Nat.zero_le _, rfl, Below.refl _ _⟩
  case round =>
    obtain ⟨i, rfl, hi, rfl, hbel⟩ := hrel
    have HBel := Lib.hid hbel
    clear hbel
    obtain ⟨hs1, hs2⟩ := sumTo_bd coef l a HC.out i
    by_cases hlt : i < l.length
    · have hlt2 : i < coef.length := by omega
      obtain ⟨ab, ao, rfl, _, ca⟩ := (HR.out.below HBel.out).at_ hlt
      obtain ⟨kb, ko, rfl, _, ck⟩ := (HK.out.up HBel.out).at_ hlt2
      have hgd : l.getD i 0 = l[i] := by rw [List.getD_eq_getElem?_getD, List.getElem?_eq_getElem hlt]; rfl
      have hgk : coef.getD i 0 = coef[i] := by rw [List.getD_eq_getElem?_getD, List.getElem?_eq_getElem hlt2]; rfl
      obtain ⟨hc1, hc2⟩ := HC.out coef[i] (List.getElem_mem hlt2)
      have HS := Lib.hid (show sumTo coef l a (i + 1) = sumTo coef l a i + if litT a l[i] then coef[i] else 0 by rw [sumTo, hgd, hgk])
      generalize l[i] = x at ca HS
      generalize coef[i] = c at ck HS hc1 hc2
      generalize sumTo coef l a i = nn at hs1 hs2 HS
      have CK := Lib.hid ck
      clear hgd hgk ck
      go_wp2_with fail
      refine (holds_one wr.heap.size x A cA a _ (Blk.new wr _ _) ((HA.out.up HBel.out).up (below1 wr _)) (by unfold maxLen; omega)).mono ?_
      rintro e w3 ⟨rfl, b3⟩
      have b4 := below_up (below1 wr _) b3
      have B3 := Lib.hid (below_up HBel.out b4)
      have ck3 : w3.cell? ⟨kb, ko + i, none⟩ = some (I64 c) := (b4.cell (p := ⟨kb, ko + i, none⟩) (World.block_lt_of_cell? wr _ CK.out)).trans CK.out
      clear b3 b4
      generalize litT a x = t at HS
      cases t
      · have HS2 := Lib.hid (show sumTo coef l a (i + 1) = nn by rw [HS.out]; simp)
        clear HS
        go_wp2_with fail
        go_roundw
        case rel => exact ⟨i + 1, by go_num, by omega, by rw [HS2.out], B3.out⟩
        case measure => simp [intOf]; omega
      · have HS2 := Lib.hid (show sumTo coef l a (i + 1) = nn + c by rw [HS.out]; simp)
        clear HS
        go_wp2_with fail
        go_roundw
        case rel => exact ⟨i + 1, by go_num, by omega, by rw [HS2.out], B3.out⟩
        case measure => simp [intOf]; omega
    · obtain rfl : i = l.length := by omega
      go_wp2_with fail
      go_ret
      exact ⟨rfl, HBel.out⟩
def smallB (n m : Nat) (next : Int) : Bool := decide (n ≤ 8) && (decide (m ≤ 8) && decide (next ≤ 40))
theorem small_any (K L : Option Addr) (cK cL n m : Nat) (next : Int) (w : World) : Calls Tryd.prog 22 #[.slice K n cK, .slice L m cL, I64 next] w fun e w' => e = .returned (.bool (smallB n m next)) ∧ w = w' := by
  by_cases h1 : n ≤ 8
  · have e1 : decide ((n : Int) ≤ 8) = true := by simp; omega
    by_cases h2 : m ≤ 8
    · have e2 : decide ((m : Int) ≤ 8) = true := by simp; omega
      by_cases h3 : next ≤ 40
      · have e3 : decide (next ≤ 40) = true := by simp; omega
        have HR := Lib.hid (show smallB n m next = true by simp [smallB, h1, h2, h3])
        go_enter Tryd.func22, Tryd.ntmps22
        go_wp2
        go_ret
        exact ⟨by rw [HR.out]; rfl, rfl⟩
      · have e3 : decide (next ≤ 40) = false := by simp; omega
        have HR := Lib.hid (show smallB n m next = false by simp [smallB, h3])
        go_enter Tryd.func22, Tryd.ntmps22
        go_wp2
        go_ret
        exact ⟨by rw [HR.out]; rfl, rfl⟩
    · have e2 : decide ((m : Int) ≤ 8) = false := by simp; omega
      have HR := Lib.hid (show smallB n m next = false by simp [smallB, h2])
      go_enter Tryd.func22, Tryd.ntmps22
      go_wp2
      go_ret
      exact ⟨by rw [HR.out]; rfl, rfl⟩
  · have e1 : decide ((n : Int) ≤ 8) = false := by simp; omega
    have HR := Lib.hid (show smallB n m next = false by simp [smallB, h1])
    go_enter Tryd.func22, Tryd.ntmps22
    go_wp2
    go_ret
    exact ⟨by rw [HR.out]; rfl, rfl⟩
end Go.Proofs.YtogolfneckhnaaaDoor
