/- Lemmas and contracts for the row. -/
import Derived.Test.YtbpbndlgfiammaaGreatDoorProg
import Derived.Test.YtbpbndlgfiammaaGreatDoorPkRowProofTidyB
import Derived.Deep.QuietTactic
import Derived.BigQuiet
import Derived.Lib.Hide
import Derived.Sort.Grow
set_option linter.unusedVariables false
set_option linter.unusedSimpArgs false
set_option linter.unnecessarySimpa false
namespace Go.Proofs.YtbpbndlgfiammaaGreatDoor
open Go Go.RowKit
theorem may_x (x n : Int) (w : World) (hn0 : 0 ≤ n) (hn : n ≤ 65536) : Calls Tryz.prog 63 #[I64 x, I64 n] w fun e w' => e = .returned (.bool (Cn.mayP x n)) ∧ w = w' := by
  by_cases h0 : x = 0
  · have e0 : (x != 0) = false := by simpa using h0
    have HR := Lib.hid (show Cn.mayP x n = false by simp [Cn.mayP, h0])
    clear h0
    go_enter Tryz.func63, Tryz.ntmps63
    go_wp2
    go_ret
    exact ⟨by rw [HR.out]; rfl, rfl⟩
  · have e0 : (x != 0) = true := by simpa using h0
    by_cases h1 : -n ≤ x
    · by_cases h2 : x ≤ n
      · have HR := Lib.hid (show Cn.mayP x n = true by simp [Cn.mayP, h0, h1, h2])
        clear h0
        go_enter Tryz.func63, Tryz.ntmps63
        go_wp2
        go_ret
        exact ⟨by rw [HR.out]; rfl, rfl⟩
      · have HR := Lib.hid (show Cn.mayP x n = false by simp [Cn.mayP, h2])
        have e2 : decide (x ≤ n) = false := by simpa using h2
        clear h0
        go_enter Tryz.func63, Tryz.ntmps63
        go_wp2
        go_ret
        exact ⟨by rw [HR.out]; rfl, rfl⟩
    · have HR := Lib.hid (show Cn.mayP x n = false by simp [Cn.mayP, h1])
      have e1 : decide (-n ≤ x) = false := by simpa using h1
      clear h0
      go_enter Tryz.func63, Tryz.ntmps63
      go_wp2
      go_ret
      exact ⟨by rw [HR.out]; rfl, rfl⟩
theorem ret_eqx {x y : Int} (h : x = y) : Ending.returned (I64 x) = Ending.returned (I64 y) := by rw [h]
theorem of_x (x : Int) (w : World) (h1 : -65536 ≤ x) (h2 : x ≤ 65536) : Calls Tryz.prog 93 #[I64 x] w fun e w' => e = .returned (I64 (x.natAbs : Int)) ∧ w = w' := by
  by_cases h : 0 < x
  · have HR := Lib.hid (show (x.natAbs : Int) = x by omega)
    go_enter Tryz.func93, Tryz.ntmps93
    go_wp2
    go_ret
    exact ⟨by rw [HR.out]; rfl, rfl⟩
  · have HR := Lib.hid (show (x.natAbs : Int) = -x by omega)
    go_enter Tryz.func93, Tryz.ntmps93
    go_wp2
    all_goals
      go_ret
      exact ⟨by rw [HR.out]; exact ret_eqx (by omega), rfl⟩
theorem isNaN_x (x : Int) (w : World) : Calls Tryz.prog 124 #[I64 x] w fun e w' => e = .returned (.bool false) ∧ w = w' := by
  go_enter Tryz.func124, Tryz.ntmps124
  go_wp2_with fail
  go_ret
  exact ⟨by simp, rfl⟩
def cmpI (x y : Int) : Int := if x < y then -1 else if y < x then 1 else 0
theorem compare_x (x y : Int) (w : World) : Calls Tryz.prog 98 #[I64 x, I64 y] w fun e w' => e = .returned (I64 (cmpI x y)) ∧ w = w' := by
  unfold cmpI
  rcases Int.lt_trichotomy x y with h | h | h
  · rw [if_pos h]
    go_enter Tryz.func98, Tryz.ntmps98
    go_wp2_with (first | (go_at_call 124; refine (isNaN_x _ _).mono ?_; rintro e w1 ⟨rfl, rfl⟩))
    go_ret
    exact ⟨rfl, rfl⟩
  · subst h
    rw [if_neg (Int.lt_irrefl _), if_neg (Int.lt_irrefl _)]
    have h1 : ¬ x < x := Int.lt_irrefl _
    go_enter Tryz.func98, Tryz.ntmps98
    go_wp2_with (first | (go_at_call 124; refine (isNaN_x _ _).mono ?_; rintro e w1 ⟨rfl, rfl⟩))
    go_ret
    exact ⟨rfl, rfl⟩
  · have h1 : ¬ x < y := by omega
    rw [if_neg h1, if_pos h]
    go_enter Tryz.func98, Tryz.ntmps98
    go_wp2_with (first | (go_at_call 124; refine (isNaN_x _ _).mono ?_; rintro e w1 ⟨rfl, rfl⟩))
    go_ret
    exact ⟨rfl, rfl⟩
theorem or_x (a b : Int) (g : Nat) (w : World) (h0 : w.cell? ⟨g, 0, none⟩ = some (I64 a)) (h1 : w.cell? ⟨g, 1, none⟩ = some (I64 b)) :
    Calls Tryz.prog 97 #[.slice (some ⟨g, 0, none⟩) 2 2] w fun e w' => e = .returned (I64 (if a = 0 then b else a)) ∧ w = w' := by
  by_cases ha : a = 0
  · rw [if_pos ha]
    have e0 : (a != 0) = false := by simpa using ha
    clear ha
    by_cases hb : b = 0
    · subst hb
      go_enter Tryz.func97, Tryz.ntmps97
      go_wp2_with fail
      refine wp_loop_rounds 3 ?_
      rw [rounds_succ]
      go_wp2_with fail
      rw [rounds_succ]
      go_wp2_with fail
      rw [rounds_succ]
      go_wp2_with fail
      go_ret
      exact ⟨rfl, rfl⟩
    · have e1 : (b != 0) = true := by simpa using hb
      clear hb
      go_enter Tryz.func97, Tryz.ntmps97
      go_wp2_with fail
      refine wp_loop_rounds 3 ?_
      rw [rounds_succ]
      go_wp2_with fail
      rw [rounds_succ]
      go_wp2_with fail
      go_ret
      exact ⟨rfl, rfl⟩
  · rw [if_neg ha]
    have e0 : (a != 0) = true := by simpa using ha
    clear ha
    go_enter Tryz.func97, Tryz.ntmps97
    go_wp2_with fail
    refine wp_loop_rounds 3 ?_
    rw [rounds_succ]
    go_wp2_with fail
    go_ret
    exact ⟨rfl, rfl⟩
theorem norm1_x (x : Int) (w : World) : Calls Tryz.prog 94 #[I64 x] w fun e w' => e = .returned (.bool (!Cn.mayP x 65536)) ∧ w = w' := by
  have HM := Lib.hid (may_x x 65536 w (by decide) (by decide))
  go_enter Tryz.func94, Tryz.ntmps94
  go_wp2_with fail
  refine HM.out.mono ?_
  rintro e w1 ⟨rfl, rfl⟩
  go_wp2_with fail
  go_ret
  exact ⟨rfl, rfl⟩
theorem res11_x (q o : Nat) (x y : Int) (w : World) (hq : w.cell? ⟨q, o, none⟩ = some (I64 x)) : Calls Tryz.prog 72 #[I64 y, .pointer (some ⟨q, o, none⟩)] w fun e w' => e = .returned (.bool (y == x)) ∧ w = w' := by
  go_enter Tryz.func72, Tryz.ntmps72
  go_wp2_with fail
  go_ret
  exact ⟨rfl, rfl⟩
def cmpL (x y : Int) : Int := if cmpI x.natAbs y.natAbs = 0 then cmpI y x else cmpI x.natAbs y.natAbs
set_option maxHeartbeats 400000 in
theorem norm2_x (x y : Int) (w : World) (hx1 : -65536 ≤ x) (hx2 : x ≤ 65536) (hy1 : -65536 ≤ y) (hy2 : y ≤ 65536) :
    Calls Tryz.prog 96 #[I64 x, I64 y] w fun e w' => e = .returned (I64 (cmpL x y)) ∧ ∃ os, w' = Sort.grow w os := by
  have HX := Lib.hid (of_x x w hx1 hx2)
  have HY := Lib.hid (of_x y w hy1 hy2)
  have HC := Lib.hid (compare_x x.natAbs y.natAbs w)
  have HD := Lib.hid (compare_x y x w)
  have HO := Lib.hid (fun g W => or_x (cmpI x.natAbs y.natAbs) (cmpI y x) g W)
  have HR := Lib.hid (show cmpL x y = if cmpI x.natAbs y.natAbs = 0 then cmpI y x else cmpI x.natAbs y.natAbs from rfl)
  clear hx1 hx2 hy1 hy2
  generalize (x.natAbs : Int) = xa at HX HC HO HR
  generalize (y.natAbs : Int) = ya at HY HC HO HR
  generalize cmpI xa ya = c1 at HC HO HR
  generalize cmpI y x = c2 at HD HO HR
  generalize (if c1 = 0 then c2 else c1) = r at HO HR
  go_enter Tryz.func96, Tryz.ntmps96
  go_wp2_with fail
  refine HX.out.mono ?_
  rintro e w1 ⟨rfl, rfl⟩
  go_wp2_with fail
  refine HY.out.mono ?_
  rintro e w1 ⟨rfl, rfl⟩
  go_wp2_with fail
  refine HC.out.mono ?_
  rintro e w1 ⟨rfl, rfl⟩
  go_wp2_with fail
  refine HD.out.mono ?_
  rintro e w1 ⟨rfl, rfl⟩
  go_wp2_with fail
  refine (HO.out _ _ ?_ ?_).mono ?_
  · rw [cell_of_row _ _ _ _ _ _ (heap_alloc_new _ _)]; rfl
  · rw [cell_of_row _ _ _ _ _ _ (heap_alloc_new _ _)]; rfl
  rintro e w1 ⟨rfl, rfl⟩
  go_wp2_with fail
  go_ret
  exact ⟨by rw [HR.out]; rfl, _, Sort.alloc_eq_grow _ _⟩
end Go.Proofs.YtbpbndlgfiammaaGreatDoor
