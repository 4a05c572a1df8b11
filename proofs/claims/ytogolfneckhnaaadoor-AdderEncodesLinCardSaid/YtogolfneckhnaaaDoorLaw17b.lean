/- Contracts of the law's own helpers has, other, told, sum and small. -/
import Derived.Test.YtogolfneckhnaaaDoorLaw17a
import Derived.Test.YtogolfneckhnaaaDoorToldP
namespace Go.Proofs.YtogolfneckhnaaaDoor
open Go.RowKit Go.Shelf

set_option maxHeartbeats 800000 in
theorem has_any {D : Nat → Prop} (L : Option Addr) (cL : Nat) (l : List Int) (n : Int) (w : World) (hr : Rd I64 D w L l) (hl : l.length ≤ maxLen) :
    Calls Tryd.prog 39 #[.slice L l.length cL, I64 n] w fun e w' => e = .returned (.bool (hasB l n)) ∧ w = w' := by
  unfold maxLen at hl
  have HR := Lib.hid hr
  clear hr
  go_enter Tryd.func39, Tryd.ntmps39
  go_wp2_with fail
  go_loop [5] (fun iv => ∃ i : Nat, iv = .int .i64 i ∧ i ≤ l.length ∧ hasB (l.take i) n = false) (fun iv => l.length - (intOf iv).toNat)
  case atStart => exact ⟨0, rfl, Nat.zero_le _, rfl⟩
  case round =>
    obtain ⟨i, rfl, hi, hno⟩ := hrel
    have HNo := Lib.hid hno
    clear hno
    by_cases hlt : i < l.length
    · obtain ⟨ab, ao, rfl, _, ca⟩ := HR.out.at_ hlt
      have HT := Lib.hid (show hasB (l.take (i + 1)) n = (l[i] == n) by unfold hasB; rw [List.take_succ_eq_append_getElem hlt, List.any_append]; have := HNo.out; unfold hasB at this; rw [this]; simp)
      have HY := Lib.hid (show (l[i] == n) = true → hasB l n = true from fun h => List.any_eq_true.2 ⟨l[i], List.getElem_mem hlt, h⟩)
      generalize l[i] = x at ca HT HY
      generalize hb : (x == n) = b at HT HY
      cases b
      · go_wp2_with fail
        go_round
        case rel => exact ⟨i + 1, by go_num, by omega, HT.out⟩
        case measure => simp [intOf]; omega
      · go_wp2_with fail
        go_ret
        exact ⟨by rw [HY.out (by simp)]; rfl, rfl⟩
    · have hno := HNo.out
      rw [List.take_of_length_le (by omega)] at hno
      have HNo2 := Lib.hid hno
      clear hno
      go_wp2_with fail
      go_ret
      exact ⟨by rw [HNo2.out]; rfl, rfl⟩

theorem drew_one {w wr : World} (h : ∃ q, wr = w.drewN q) (n : Nat) : ∃ q, wr.drewN n = w.drewN q := by
  obtain ⟨q, rfl⟩ := h
  exact ⟨q + n, World.drewN_drewN _ _ _⟩
theorem drew_two {w wr : World} (h : ∃ q, wr = w.drewN q) (n m : Nat) : ∃ q, (wr.drewN n).drewN m = w.drewN q := drew_one (drew_one h n) m
theorem rd_drew {α : Type} {enc : α → Value} {D : Nat → Prop} {w wr : World} {A : Option Addr} {xs : List α} (h : ∃ q, wr = w.drewN q) (hr : Rd enc D w A xs) : Rd enc D wr A xs := by
  obtain ⟨q, rfl⟩ := h
  exact hr
set_option maxHeartbeats 1600000 in
theorem other_any {D E : Nat → Prop} (L A : Option Addr) (cL cA : Nat) (l : List Int) (a : List Bool) (lit known : Int) (w : World) (hr : Rd I64 D w L l) (ha : Rd Value.bool E w A a) (hl : l.length ≤ maxLen) (_hal : a.length ≤ maxLen) (hbd : ∀ x ∈ l, -70000 ≤ x ∧ x ≤ 70000) :
    Calls Tryd.prog 40 #[.slice L l.length cL, I64 lit, .slice A a.length cA, I64 known] w fun e w' => e = .returned (.bool (otherB l lit a known)) ∧ ∃ q, w' = w.drewN q := by
  unfold maxLen at hl _hal
  have HR := Lib.hid hr
  have HA := Lib.hid ha
  have HBd := Lib.hid hbd
  clear hr ha hbd
  go_enter Tryd.func40, Tryd.ntmps40
  go_wp2_with fail
  go_loopw [9, 10] (fun iv _ wr => ∃ i : Nat, iv = .int .i64 i ∧ i ≤ l.length ∧ (∃ q, wr = w.drewN q) ∧ otherB (l.take i) lit a known = true) (fun iv _ _ => l.length - (intOf iv).toNat)
  case atStart => exact ⟨0, rfl, Nat.zero_le _, ⟨0, rfl⟩, rfl⟩
  case round =>
    obtain ⟨i, rfl, hi, hw, hyes⟩ := hrel
    have HYes := Lib.hid hyes
    have HW := Lib.hid hw
    clear hyes hw
    by_cases hlt : i < l.length
    · obtain ⟨ab, ao, rfl, _, ca⟩ := (rd_drew HW.out HR.out).at_ hlt
      obtain ⟨hx1, hx2⟩ := HBd.out l[i] (List.getElem_mem hlt)
      have HT := Lib.hid (show otherB (l.take (i + 1)) lit a known = (l[i] == lit || okO a known l[i]) by unfold otherB; rw [List.take_succ_eq_append_getElem hlt, List.all_append]; have := HYes.out; unfold otherB at this; rw [this]; simp)
      have HN := Lib.hid (show (l[i] == lit || okO a known l[i]) = false → otherB l lit a known = false from fun h => by
        rw [otherB, List.all_eq_false]; exact ⟨l[i], List.getElem_mem hlt, by rw [h]; simp⟩)
      generalize l[i] = x at ca HT HN hx1 hx2
      by_cases hz : x = 0
      · subst hz
        by_cases hb : ((0 : Int) == lit) = true
        · go_wp2_with fail
          go_quiet (fail)
          go_wp2_with fail
          go_roundw
          case rel => exact ⟨i + 1, by go_num, by omega, (by first | exact drew_one HW.out _ | exact drew_two HW.out _ _), by rw [HT.out, hb]; rfl⟩
          case measure => simp [intOf]; omega
        · have hb : ((0 : Int) == lit) = false := by simpa using hb
          have HF := Lib.hid (show ((0 : Int) == lit || okO a known 0) = false by rw [hb]; simp [okO])
          go_wp2_with fail
          go_quiet (fail)
          go_wp2_with fail
          go_quiet (fail)
          go_wp2_with fail
          go_ret
          exact ⟨by rw [HN.out HF.out]; rfl, (by first | exact drew_one HW.out _ | exact drew_two HW.out _ _)⟩
      · by_cases hp : 0 < x
        · obtain ⟨v, rfl⟩ : ∃ v : Nat, x = (v : Int) := ⟨x.toNat, by omega⟩
          have f1 : -(v : Int) ≤ (v : Int) := by omega
          have f2 : decide (0 < (v : Int)) = true := by simp; omega
          have f3 : decide (0 < v) = true := by simp; omega
          have hv0 : 0 < v := by omega
          by_cases hb : ((v : Int) == lit) = true
          · go_wp2_with fail
            go_quiet (fail)
            go_wp2_with fail
            go_roundw
            case rel => exact ⟨i + 1, by go_num, by omega, (by first | exact drew_one HW.out _ | exact drew_two HW.out _ _), by rw [HT.out, hb]; rfl⟩
            case measure => simp [intOf]; omega

          · have hb : ((v : Int) == lit) = false := by simpa using hb
            have g1 : decide ((v : Int) < 1) = false := by simp; omega
            by_cases hkn : known ≤ (v : Int)
            · have HF := Lib.hid (show ((v : Int) == lit || okO a known (v : Int)) = false by rw [hb]; simp [okO]; omega)
              have g2 : decide (known ≤ (v : Int)) = true := by simp; omega
              go_wp2_with fail
              go_quiet (fail)
              go_wp2_with fail
              go_quiet (fail)
              go_wp2_with fail
              go_ret
              exact ⟨by rw [HN.out HF.out]; rfl, (by first | exact drew_one HW.out _ | exact drew_two HW.out _ _)⟩
            · have g2 : decide (known ≤ (v : Int)) = false := by simp; omega
              by_cases hal2 : a.length ≤ v
              · have HF := Lib.hid (show ((v : Int) == lit || okO a known (v : Int)) = false by rw [hb]; simp [okO]; omega)
                have g3 : decide (a.length ≤ v) = true := by simp; omega
                go_wp2_with fail
                go_quiet (fail)
                go_wp2_with fail
                go_quiet (fail)
                go_wp2_with fail
                go_ret
                exact ⟨by rw [HN.out HF.out]; rfl, (by first | exact drew_one HW.out _ | exact drew_two HW.out _ _)⟩
              · have g3 : decide (a.length ≤ v) = false := by simp; omega
                obtain ⟨bb, bo, rfl, _, cb⟩ := (rd_drew HW.out HA.out).at_ (k := v) (by omega)
                have hgd : a.getD v false = a[v]'(by omega) := by rw [List.getD_eq_getElem?_getD, List.getElem?_eq_getElem (by omega)]; rfl
                have HO := Lib.hid (show okO a known (v : Int) = (a[v]'(by omega) != true) by
                  unfold okO
                  rw [f2, show ((v : Int)).natAbs = v by omega, hgd, decide_eq_true (by omega), decide_eq_true (by omega), decide_eq_true (by omega)]; simp)
                generalize a[v]'(by omega) = t at cb HO
                clear hgd
                cases t
                · go_wp2_with fail
                  go_quiet (fail)
                  go_wp2_with fail
                  go_quiet (fail)
                  go_wp2_with fail
                  go_roundw
                  case rel => exact ⟨i + 1, by go_num, by omega, (by first | exact drew_one HW.out _ | exact drew_two HW.out _ _), by rw [HT.out, hb, HO.out]; rfl⟩
                  case measure => simp [intOf]; omega
                · go_wp2_with fail
                  go_quiet (fail)
                  go_wp2_with fail
                  go_quiet (fail)
                  go_wp2_with fail
                  go_ret
                  exact ⟨by rw [HN.out (by rw [hb, HO.out]; rfl)]; rfl, (by first | exact drew_one HW.out _ | exact drew_two HW.out _ _)⟩
        · obtain ⟨v, rfl⟩ : ∃ v : Nat, x = -(v : Int) := ⟨(-x).toNat, by omega⟩
          have f1 : (-(v : Int)) < -(-(v : Int)) := by omega
          have f2 : decide (0 < (-(v : Int))) = false := by simp
          by_cases hb : ((-(v : Int)) == lit) = true
          · go_wp2_with fail
            go_quiet (fail)
            go_wp2_with fail
            go_roundw
            case rel => exact ⟨i + 1, by go_num, by omega, (by first | exact drew_one HW.out _ | exact drew_two HW.out _ _), by rw [HT.out, hb]; rfl⟩
            case measure => simp [intOf]; omega

          · have hb : ((-(v : Int)) == lit) = false := by simpa using hb
            have g1 : decide ((v : Int) < 1) = false := by simp; omega
            by_cases hkn : known ≤ (v : Int)
            · have HF := Lib.hid (show ((-(v : Int)) == lit || okO a known (-(v : Int))) = false by rw [hb]; simp [okO]; omega)
              have g2 : decide (known ≤ (v : Int)) = true := by simp; omega
              go_wp2_with fail
              go_quiet (fail)
              go_wp2_with fail
              go_quiet (fail)
              go_wp2_with fail
              go_ret
              exact ⟨by rw [HN.out HF.out]; rfl, (by first | exact drew_one HW.out _ | exact drew_two HW.out _ _)⟩
            · have g2 : decide (known ≤ (v : Int)) = false := by simp; omega
              by_cases hal2 : a.length ≤ v
              · have HF := Lib.hid (show ((-(v : Int)) == lit || okO a known (-(v : Int))) = false by rw [hb]; simp [okO]; omega)
                have g3 : decide (a.length ≤ v) = true := by simp; omega
                go_wp2_with fail
                go_quiet (fail)
                go_wp2_with fail
                go_quiet (fail)
                go_wp2_with fail
                go_ret
                exact ⟨by rw [HN.out HF.out]; rfl, (by first | exact drew_one HW.out _ | exact drew_two HW.out _ _)⟩
              · have g3 : decide (a.length ≤ v) = false := by simp; omega
                obtain ⟨bb, bo, rfl, _, cb⟩ := (rd_drew HW.out HA.out).at_ (k := v) (by omega)
                have hgd : a.getD v false = a[v]'(by omega) := by rw [List.getD_eq_getElem?_getD, List.getElem?_eq_getElem (by omega)]; rfl
                have HO := Lib.hid (show okO a known (-(v : Int)) = (a[v]'(by omega) != false) by
                  unfold okO
                  rw [f2, show ((-(v : Int))).natAbs = v by omega, hgd, decide_eq_true (by omega), decide_eq_true (by omega), decide_eq_true (by omega)]; simp)
                generalize a[v]'(by omega) = t at cb HO
                clear hgd
                cases t
                · go_wp2_with fail
                  go_quiet (fail)
                  go_wp2_with fail
                  go_quiet (fail)
                  go_wp2_with fail
                  go_ret
                  exact ⟨by rw [HN.out (by rw [hb, HO.out]; rfl)]; rfl, (by first | exact drew_one HW.out _ | exact drew_two HW.out _ _)⟩
                · go_wp2_with fail
                  go_quiet (fail)
                  go_wp2_with fail
                  go_quiet (fail)
                  go_wp2_with fail
                  go_roundw
                  case rel => exact ⟨i + 1, by go_num, by omega, (by first | exact drew_one HW.out _ | exact drew_two HW.out _ _), by rw [HT.out, hb, HO.out]; rfl⟩
                  case measure => simp [intOf]; omega
    · have hyes := HYes.out
      rw [List.take_of_length_le (by omega)] at hyes
      have HY2 := Lib.hid hyes
      clear hyes
      go_wp2_with fail
      go_ret
      exact ⟨by rw [HY2.out]; rfl, HW.out⟩
end Go.Proofs.YtogolfneckhnaaaDoor
