/- Lemmas and contracts for the row. -/
import Derived.Test.YtbpbndlgfiammaaGreatDoorProg
import Derived.Test.YtbpbndlgfiammaaGreatDoorPkRowProofTidyI
import Derived.Test.YtbpbndlgfiammaaGreatDoorPkRowProofTidyT
import Derived.Test.YtbpbndlgfiammaaGreatDoorPkRowProofTidyO
import Derived.Test.YtbpbndlgfiammaaGreatDoorPkRowProofTidyK
import Derived.Lib.RowBridge
set_option linter.unusedVariables false
set_option linter.unusedSimpArgs false
set_option linter.unnecessarySimpa false
namespace Go.Proofs.YtbpbndlgfiammaaGreatDoor
open Go Go.RowKit Go.Sort Go.Shelf
open Cn (sortI)
def Turned (e : Nat) (w : World) (v : Value) (us : List Value) (w' : World) (v' : Value) : Prop := Own w' e v' us ∧ w.grownBy w' v.ownBlock ∧ ∀ b, v'.ownBlock = some b → v.ownBlock = some b
theorem kp_grown {w w' : World} {g : Nat} (h : Kp (fun b => b = g) w w') : w.grownBy w' (some g) := ⟨h.os, h.tape, h.output, h.size, fun k hk hn => h.block k hk (fun e => hn (by rw [e]))⟩
theorem grown_refl (w : World) (r : Option Nat) : w.grownBy w r := ⟨rfl, rfl, rfl, Nat.le_refl _, fun _ _ _ => rfl⟩
theorem put_sort {α : Type} [Inhabited α] (enc : α → Value) (w : World) (blk off q : Nat) (d : Array α) : putRow enc (Sort.ahead w q) blk off d = sortWorld enc w blk off q d #[] := by unfold sortWorld; rw [grow_empty]
theorem compact_own {v : Value} {xs : List Int} {w : World} (ho : Own w 3 v (xs.map I64)) (hl : xs.length ≤ maxLen) :
    Calls Tryz.prog 99 #[v] w fun e w' => ∃ v', e = .returned v' ∧ Turned 3 w v ((Lib.compact xs).map I64) w' v' := by
  obtain ⟨A, cap, hform, _⟩ := ho.form
  rw [List.length_map] at hform
  subst hform
  by_cases h0 : xs.length = 0
  · obtain rfl := List.eq_nil_of_length_eq_zero h0
    refine (AnyG.slices_Compact_int_empty Tryz.shCompact A cap w).mono ?_
    rintro e w' ⟨rfl, rfl⟩
    exact ⟨_, rfl, ho, grown_refl _ _, fun _ h => h⟩
  · obtain ⟨g, off, rfl⟩ := ho.addr (by omega)
    obtain ⟨cur, h1, h2, h3, h4, _⟩ := ho.cur rfl
    rw [List.length_map] at h2
    refine (AnyG.slices_Compact_int Tryz.shCompact g off cap xs w (own_holds ho) (by unfold maxLen at hl; omega) h2).mono ?_
    rintro e w' ⟨rfl, q, rfl⟩
    have hfl : (Lib.compact xs).length ≤ xs.length := Lib.compact_length_le xs
    rw [put_sort]
    refine ⟨_, rfl, ?_, kp_grown (sort_kp _ _ _), fun b h => h⟩
    have := sort_own ho q #[] (ys := Lib.compact xs ++ List.replicate (xs.length - (Lib.compact xs).length) 0) (by simp; omega) (m := (Lib.compact xs).length) (by simp)
    rw [List.take_left'] at this
    · exact this
    · rfl
theorem sorti_own {v : Value} {xs : List Int} {w : World} (ho : Own w 3 v (xs.map I64)) (hl : xs.length ≤ 1000000000000) :
    Calls Tryz.prog 129 #[v] w fun e w' => e = .returned (.tuple #[]) ∧ Own w' 3 v ((sortI xs).map I64) ∧ Kp (fun b => v.ownBlock = some b) w w' := by
  obtain ⟨A, cap, hform, _⟩ := ho.form
  rw [List.length_map] at hform
  subst hform
  by_cases h0 : xs.length = 0
  · obtain rfl := List.eq_nil_of_length_eq_zero h0
    refine (AnyM.slices_Sort_int_none (P := Tryz.prog) (ρ := Tryz.shSort_ren) Tryz.shSort A cap w).mono ?_
    rintro e w' ⟨rfl, rfl⟩
    exact ⟨rfl, by simpa [sortI] using ho, Kp.refl _ _⟩
  · obtain ⟨g, off, rfl⟩ := ho.addr (by omega)
    have hlt : g < w.heap.size := ho.lt rfl
    refine Calls.mono (AnyM.slices_Sort_int Tryz.shSort g off cap xs w (own_holds ho) hlt (by omega)) ?_
    rintro e w' ⟨rfl, n, os, rfl⟩
    refine ⟨rfl, ?_, (sort_kp _ _ _).mono fun k _ h => by subst h; rfl⟩
    have h2 := sort_own ho n os (ys := sortI xs) (by simp [sortI]) (m := xs.length) (by simp [sortI])
    rw [List.take_of_length_le (by simp [sortI])] at h2
    exact h2
end Go.Proofs.YtbpbndlgfiammaaGreatDoor
namespace Go.Proofs.YtbpbndlgfiammaaGreatDoor.En
open Go Go.RowKit
open Cn (sortI)
def sSortI : CtF := fun args os => match args, os with
  | [.row 0], [.row 3 (.ints xs)] => some (xs.length ≤ 1000000000000, .tup [], [some (.row 3 (.ints (sortI xs)))])
  | _, _ => none
def sCompact : CtF := fun args os => match args, os with
  | [.row 0], [.row 3 (.ints xs)] => some (xs.length ≤ 1000000000000, .row 1, [none, some (.row 3 (.ints (Lib.compact xs)))])
  | _, _ => none
theorem turned_out {w : World} {v : Value} {us : List Value} {e : Ending} {w' : World} (h : ∃ v', e = .returned v' ∧ Turned 3 w v us w' v') :
    ∃ v', e = .returned v' ∧ Own w' 3 v' us ∧ w.grownBy w' v.ownBlock ∧ ∀ b, v'.ownBlock = some b → v.ownBlock = some b ∨ b = w.heap.size := by
  obtain ⟨v', h1, h2, h3, h4⟩ := h
  exact ⟨v', h1, h2, h3, fun b hb => .inl (h4 b hb)⟩
theorem sCompact_sound : Sound Tryz.prog 99 sCompact := by
  refine sound_row (e := 3) (run_enters Tryz.func99 (by kernel_rfl) rfl) fun args os p r outs h => ?_
  unfold sCompact at h
  split at h
  · rename_i xs
    injection h with h
    injection h with h1 h
    injection h with h2 h3
    subst h1 h2 h3
    refine ⟨_, .ints xs, _, rfl, rfl, rfl, rfl, rfl, rfl, rfl, fun hp => ⟨?_, fun W G v vs hG hn _ ho hl hd => ?_⟩⟩
    · have := Lib.compact_length_le xs
      show (Lib.compact xs).length ≤ maxLen
      unfold maxLen; omega
    · simp only [DenL] at hd
      subst hd
      exact (compact_own ho hl).mono fun e' W' h => turned_out h
  · cases h
theorem sSortI_sound : Sound Tryz.prog 129 sSortI := by
  refine sound_inrow (e := 3) (run_enters Tryz.func129 (by kernel_rfl) rfl) fun args os p r outs h => ?_
  unfold sSortI at h
  split at h
  · rename_i xs
    injection h with h
    injection h with h1 h
    injection h with h2 h3
    subst h1 h2 h3
    refine ⟨_, .ints xs, _, _, rfl, rfl, rfl, rfl, rfl, rfl, rfl, rfl, fun hp => ⟨?_, ?_, fun W G v vs hG hn _ ho hl hd => ?_⟩⟩
    · show (sortI xs).length ≤ maxLen
      simp only [sortI, List.length_mergeSort]
      unfold maxLen; omega
    · show (sortI xs).length = xs.length
      simp only [sortI, List.length_mergeSort]
    · simp only [DenL] at hd
      subst hd
      exact sorti_own ho hp
  · cases h
end Go.Proofs.YtbpbndlgfiammaaGreatDoor.En
