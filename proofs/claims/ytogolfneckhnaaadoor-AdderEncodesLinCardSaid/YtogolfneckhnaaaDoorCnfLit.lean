/- Contracts of the clause package's literals: of, may, true, and of Holds: for every literal, clause and assignment they return what the plain functions say. -/
import Derived.Test.YtogolfneckhnaaaDoorBag
import Derived.Test.YtogolfneckhnaaaDoorAdPlainL
namespace Go.Proofs.YtogolfneckhnaaaDoor
open Go.RowKit Go.Shelf

def mayB (x n : Int) : Bool := decide (x ≠ 0) && (decide (-n ≤ x) && decide (x ≤ n))
theorem litT_eq (a : List Bool) (x : Int) : litT a x = (mayB x 65536 && ((decide (x.natAbs < a.length) && a.getD x.natAbs false) == decide (0 < x))) := by
  unfold litT mayB
  congr 1
  rw [Bool.eq_iff_iff]; simp

theorem may_any (x n : Int) (w : World) (hn0 : 0 ≤ n) (hn : n ≤ 65536) : Calls Tryd.prog 42 #[I64 x, I64 n] w fun e w' => e = .returned (.bool (mayB x n)) ∧ w = w' := by
  by_cases h0 : x = 0
  · have e0 : (x != 0) = false := by simpa using h0
    have HR := Lib.hid (show mayB x n = false by simp [mayB, h0])
    clear h0
    go_enter Tryd.func42, Tryd.ntmps42
    go_wp2
    go_ret
    exact ⟨by rw [HR.out]; rfl, rfl⟩
  · have e0 : (x != 0) = true := by simpa using h0
    by_cases h1 : -n ≤ x
    · by_cases h2 : x ≤ n
      · have HR := Lib.hid (show mayB x n = true by simp [mayB, h0, h1, h2])
        clear h0
        go_enter Tryd.func42, Tryd.ntmps42
        go_wp2
        go_ret
        exact ⟨by rw [HR.out]; rfl, rfl⟩
      · have HR := Lib.hid (show mayB x n = false by simp [mayB, h2])
        have e2 : decide (x ≤ n) = false := by simpa using h2
        clear h0
        go_enter Tryd.func42, Tryd.ntmps42
        go_wp2
        go_ret
        exact ⟨by rw [HR.out]; rfl, rfl⟩
    · have HR := Lib.hid (show mayB x n = false by simp [mayB, h1])
      have e1 : decide (-n ≤ x) = false := by simpa using h1
      clear h0
      go_enter Tryd.func42, Tryd.ntmps42
      go_wp2
      go_ret
      exact ⟨by rw [HR.out]; rfl, rfl⟩
theorem ret_eq {x y : Int} (h : x = y) : Ending.returned (I64 x) = Ending.returned (I64 y) := by rw [h]
theorem bel_n {B : Nat} {w w' : World} (h : Below B w w') (n : Nat) : Below B w (w'.drewN n) := ⟨h.os, h.tape, h.output, h.size, h.block⟩
theorem lof_any (x : Int) (w : World) (h1 : -65536 ≤ x) (h2 : x ≤ 65536) : Calls Tryd.prog 72 #[I64 x] w fun e w' => e = .returned (I64 (x.natAbs : Int)) ∧ w = w' := by
  by_cases h : 0 < x
  · have HR := Lib.hid (show (x.natAbs : Int) = x by omega)
    go_enter Tryd.func72, Tryd.ntmps72
    go_wp2
    go_ret
    exact ⟨by rw [HR.out]; rfl, rfl⟩
  · have HR := Lib.hid (show (x.natAbs : Int) = -x by omega)
    go_enter Tryd.func72, Tryd.ntmps72
    go_wp2
    all_goals
      go_ret
      exact ⟨by rw [HR.out]; exact ret_eq (by omega), rfl⟩
set_option maxHeartbeats 800000 in
theorem ltrue_any {D : Nat → Prop} (x : Int) (A : Option Addr) (cA : Nat) (a : List Bool) (w : World) (ha : Rd Value.bool D w A a) (_hl : a.length ≤ maxLen) :
    Calls Tryd.prog 38 #[I64 x, .slice A a.length cA] w fun e w' => e = .returned (.bool (litT a x)) ∧ w = w' := by
  unfold maxLen at _hl
  have HA := Lib.hid ha
  have HE := Lib.hid (litT_eq a x)
  clear ha
  cases hm : mayB x 65536
  · have HR := Lib.hid (show litT a x = false by rw [HE.out, hm]; rfl)
    have HM := Lib.hid hm
    clear hm
    go_enter Tryd.func38, Tryd.ntmps38
    go_wp2_with fail
    refine (may_any x 65536 w (by decide) (by decide)).mono ?_
    rintro e w1 ⟨rfl, rfl⟩
    rw [HM.out]
    go_wp2_with fail
    go_ret
    exact ⟨by rw [HR.out]; rfl, rfl⟩
  · have hb : -65536 ≤ x ∧ x ≤ 65536 := by simp [mayB] at hm; omega
    obtain ⟨hb1, hb2⟩ := hb
    have HM := Lib.hid hm
    have HR := Lib.hid (show litT a x = ((decide (x.natAbs < a.length) && a.getD x.natAbs false) == decide (0 < x)) by rw [HE.out, hm]; rfl)
    clear hm HE
    by_cases hv : x.natAbs < a.length
    · obtain ⟨ab, ao, rfl, _, ca⟩ := HA.out.at_ hv
      have hg : a.getD x.natAbs false = a[x.natAbs] := by rw [List.getD_eq_getElem?_getD, List.getElem?_eq_getElem hv]; rfl
      have HR2 := Lib.hid (show litT a x = (a.getD x.natAbs false == decide (0 < x)) by rw [HR.out, decide_eq_true hv, Bool.true_and])
      rw [hg] at HR2
      generalize a[x.natAbs] = t at ca HR2
      have hlf := fun W => lof_any x W hb1 hb2
      have HLF := Lib.hid hlf
      clear hlf hg HR
      generalize hvv : x.natAbs = v at hv ca HLF
      clear hvv
      by_cases hp : 0 < x
      · have e1 : decide (0 < x) = true := by simpa using hp
        rw [e1] at HR2
        go_enter Tryd.func38, Tryd.ntmps38
        go_wp2_with fail
        refine (may_any x 65536 w (by decide) (by decide)).mono ?_
        rintro e w1 ⟨rfl, rfl⟩
        rw [HM.out]
        go_wp2_with fail
        refine (HLF.out _).mono ?_
        rintro e w1 ⟨rfl, rfl⟩
        go_wp2_with fail
        go_ret
        exact ⟨by rw [HR2.out]; cases t <;> rfl, rfl⟩
      · have e1 : decide (0 < x) = false := by simpa using hp
        rw [e1] at HR2
        go_enter Tryd.func38, Tryd.ntmps38
        go_wp2_with fail
        refine (may_any x 65536 w (by decide) (by decide)).mono ?_
        rintro e w1 ⟨rfl, rfl⟩
        rw [HM.out]
        go_wp2_with fail
        refine (HLF.out _).mono ?_
        rintro e w1 ⟨rfl, rfl⟩
        go_wp2_with fail
        go_ret
        exact ⟨by rw [HR2.out]; cases t <;> rfl, rfl⟩
    · have HR2 := Lib.hid (show litT a x = (false == decide (0 < x)) by rw [HR.out, decide_eq_false hv, Bool.false_and])
      have hlf := fun W => lof_any x W hb1 hb2
      have HLF := Lib.hid hlf
      clear hlf HR
      generalize hvv : x.natAbs = v at hv HLF
      have e2 : decide (v < a.length) = false := by simpa using hv
      clear hvv
      by_cases hp : 0 < x
      · have e1 : decide (0 < x) = true := by simpa using hp
        rw [e1] at HR2
        go_enter Tryd.func38, Tryd.ntmps38
        go_wp2_with fail
        refine (may_any x 65536 w (by decide) (by decide)).mono ?_
        rintro e w1 ⟨rfl, rfl⟩
        rw [HM.out]
        go_wp2_with fail
        refine (HLF.out _).mono ?_
        rintro e w1 ⟨rfl, rfl⟩
        go_wp2_with fail
        go_ret
        exact ⟨by rw [HR2.out]; rfl, rfl⟩
      · have e1 : decide (0 < x) = false := by simpa using hp
        rw [e1] at HR2
        go_enter Tryd.func38, Tryd.ntmps38
        go_wp2_with fail
        refine (may_any x 65536 w (by decide) (by decide)).mono ?_
        rintro e w1 ⟨rfl, rfl⟩
        rw [HM.out]
        go_wp2_with fail
        refine (HLF.out _).mono ?_
        rintro e w1 ⟨rfl, rfl⟩
        go_wp2_with fail
        go_ret
        exact ⟨by rw [HR2.out]; rfl, rfl⟩
theorem holds1_any {D : Nat → Prop} (x : Int) (g : Nat) (A : Option Addr) (cA : Nat) (a : List Bool) (w : World) (hg : w.cell? ⟨g, 0, none⟩ = some (.slice A a.length cA)) (ha : Rd Value.bool D w A a) (hl : a.length ≤ maxLen) :
    Calls Tryd.prog 37 #[I64 x, .pointer (some ⟨g, 0, none⟩)] w fun e w' => e = .returned (.bool (litT a x)) ∧ w = w' := by
  have H := Lib.hid (ltrue_any x A cA a w ha hl)
  clear ha hl
  go_enter Tryd.func37, Tryd.ntmps37
  go_wp2_with fail
  refine H.out.mono ?_
  rintro e w1 ⟨rfl, rfl⟩
  go_wp2_with fail
  go_ret
  exact ⟨rfl, rfl⟩
def holdsP (a : List Bool) (l : List Int) : Bool := l.any (litT a)
set_option maxHeartbeats 800000 in
theorem holds_any (L A : Option Addr) (cL cA : Nat) (l : List Int) (a : List Bool) (w : World) (hr : Rd I64 (· < w.heap.size) w L l) (ha : Rd Value.bool (· < w.heap.size) w A a) (hl : l.length ≤ maxLen) (hal : a.length ≤ maxLen) :
    Calls Tryd.prog 20 #[.slice L l.length cL, .slice A a.length cA] w fun e w' => e = .returned (.bool (holdsP a l)) ∧ Below w.heap.size w w' := by
  have hb : ∀ o, Below w.heap.size w (w.alloc o) := fun o => (Below.refl _ _).alloc (Nat.le_refl _) _
  have H := Lib.hid (fun (o : Obj) (hc : (w.alloc o).cell? ⟨w.heap.size, 0, none⟩ = some (.slice A a.length cA)) => cf_any 37 [.pointer (some ⟨w.heap.size, 0, none⟩)] (litT a) L cL l (w.alloc o) (enters_of Tryd.func37 (by kernel_rfl) rfl)
    (fun x _ n => (holds1_any (D := (· < w.heap.size)) x w.heap.size A cA a ((w.alloc o).drewN n) hc (((ha.below (hb o)) : Rd Value.bool (· < w.heap.size) (w.alloc o) A a).drewN n) hal).mono fun e w' ⟨h1, h2⟩ => ⟨h1, n, h2.symm⟩) (hr.below (hb o)) hl)
  have HB := Lib.hid hb
  clear hr ha hb
  go_enter Tryd.func20, Tryd.ntmps20
  go_wp2_with fail
  refine (H.out _ ?hc).mono ?_
  case hc => simp
  rintro e w1 ⟨rfl, q, hq⟩
  have HQ := Lib.hid (show Below w.heap.size w w1 by rw [hq]; exact bel_n (HB.out _) _)
  clear hq
  go_wp2_with fail
  go_ret
  exact ⟨rfl, HQ.out⟩
end Go.Proofs.YtogolfneckhnaaaDoor
