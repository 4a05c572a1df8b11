/- How a slice of bytes that came in reads, in the reader's words. -/
import Derived.Test.YtiokflebeojokaaGreatDoorRowE14
import Derived.Test.YtiokflebeojokaaGreatDoorWordsP
set_option linter.unusedSimpArgs false
set_option linter.unusedVariables false
namespace Go.Proofs.YtiokflebeojokaaGreatDoor.En
open Go Go.ChangeShapes Go.WideShapes Go.ChangeAt Go.RowKit Go.Joins Go.Deep
abbrev U8V (n : Int) : Value := .int .u8 n
theorem den_bytes {W : World} {A : Option Addr} {xs : List Int} {c : Nat} (h : Rd U8V (· < W.heap.size) W A xs) (hm : xs.length ≤ maxLen) (hcap : xs.length ≤ c) : Den (g0 W (· < W.heap.size)) (.bytes xs) (.slice A xs.length c) := by
  simp only [Den]
  exact rep_of_rd h hm rfl rfl hcap fun i hi => by simp [LD.cell, List.getD, List.getElem?_eq_getElem hi, U8V]
section
variable {H : Type} {enc : TypeId × Value → H} {P : Program} {w : World} {b0 : Nat} {v : Value} {d : DataW H} {p : List MemPlace} {r : Reach}
theorem open_bytesE {t e : TypeId} (ht : P.underlying t = some (.slice e)) (he : P.underlying e = some (.int .u8)) (hc : P.cellsOf e = 1) (hv : Value.okWide P w r b0 t v) (h : DataW.Trod enc P w 0 (fun _ => true) true t v d p) :
    ∃ xs, Den (gW w) (.bytes xs) v ∧ (xs.length ≤ maxLen ∧ Cn.isBytes xs) := by
  obtain ⟨fuel, hf⟩ := h
  obtain ⟨a0, l0, c0, rfl⟩ := okWide_slice ht hv
  rcases open_ints ht he hc hf with ⟨e1, _⟩ | ⟨a, len, cap, zs, e1, _, hl, hm, hz, _, hcell, hwz⟩
  · simp [Value.cells] at e1
    obtain ⟨rfl, rfl, rfl⟩ := e1
    exact ⟨[], by simp only [Den]; exact .nil _ none 0 rfl, by simp, fun x hx => by cases hx⟩
  · simp [Value.cells] at e1
    obtain ⟨rfl, rfl, rfl⟩ := e1
    simp only [if_true] at hz
    have hlen : (zs.take l0).length = l0 := by rw [List.length_take, Nat.min_eq_left (by omega)]
    refine ⟨zs.take l0, ?_, by omega, fun x hx => ?_⟩
    · have := den_bytes (W := w) (A := some a) (xs := zs.take l0) (c := c0) (cells_rd (by omega) hcell) (by omega) (by omega)
      rwa [hlen] at this
    · have := hwz x (List.mem_of_mem_take hx)
      have h9 : IntKind.u8.min ≤ x ∧ x ≤ IntKind.u8.max := by simpa [Lit.wf] using this
      have h8 : IntKind.u8.min = 0 ∧ IntKind.u8.max = 255 := by decide
      omega
end
end Go.Proofs.YtiokflebeojokaaGreatDoor.En
