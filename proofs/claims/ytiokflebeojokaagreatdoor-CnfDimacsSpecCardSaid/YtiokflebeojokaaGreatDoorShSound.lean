/- The library's DeleteFunc, SortFunc, Compact and Grow at a row of ints that the call owns, in the reader's words. -/
import Derived.Test.YtiokflebeojokaaGreatDoorEngLeaf
import Derived.Test.YtiokflebeojokaaGreatDoorShLib
set_option linter.unusedSimpArgs false
set_option linter.unusedVariables false
set_option linter.unnecessarySimpa false
namespace Go.Proofs.YtiokflebeojokaaGreatDoor.En
open Go Go.RowKit

def sDel1 : CtF := fun args os => match args, os with
  | [.row 0, .clo 37 []], [.row 3 (.ints xs)] => some (xs.length ≤ 1000000000000, .row 1, [none, some (.row 3 (.ints (xs.filter fun x => Cn.mayP x 65536)))])
  | _, _ => none
def sDel2 : CtF := fun args os => match args, os with
  | [.row 0, .clo 60 [.pto [.val (.int .i64 y)]]], [.row 3 (.ints xs)] => some (xs.length ≤ 1000000000000, .row 1, [none, some (.row 3 (.ints (xs.filter fun x => !(x == y))))])
  | _, _ => none
def sSortF : CtF := fun args os => match args, os with
  | [.row 0, .clo 40 []], [.row 3 (.ints xs)] => some (xs.length ≤ 1000000000000 ∧ ∀ x ∈ xs, Cn.mayP x 65536 = true, .tup [], [some (.row 3 (.ints (Cn.sortL xs)))])
  | _, _ => none
def sCompact : CtF := fun args os => match args, os with
  | [.row 0], [.row 3 (.ints xs)] => some (xs.length ≤ 1000000000000, .row 1, [none, some (.row 3 (.ints (Lib.compact xs)))])
  | _, _ => none
def sGrow : CtF := fun args os => match args, os with
  | [.im (.val (.slice .none 0 0)), .im (.val (.int .i64 n))], [] => some (0 ≤ n ∧ n ≤ 1000000, .row 0, [some (.row 3 (.ints []))])
  | _, _ => none
theorem denL_val2 {g : Gh} {a b : Value} {vs : List Value} (h : DenL g [.im (.val a), .im (.val b)] vs) : vs = [a, b] := by
  simp only [DenL] at h
  obtain ⟨v, vs', rfl, h1, u, us, rfl, h2, rfl⟩ := h
  rw [den_val h1, den_val h2]
theorem turned_out {w : World} {v : Value} {us : List Value} {e : Ending} {w' : World} (h : ∃ v', e = .returned v' ∧ Turned 3 w v us w' v') :
    ∃ v', e = .returned v' ∧ Own w' 3 v' us ∧ w.grownBy w' v.ownBlock ∧ ∀ b, v'.ownBlock = some b → v.ownBlock = some b ∨ b = w.heap.size := by
  obtain ⟨v', h1, h2, h3, h4⟩ := h
  exact ⟨v', h1, h2, h3, fun b hb => .inl (h4 b hb)⟩
theorem sDel1_sound : Sound Tryz.prog 35 sDel1 := by
  refine sound_row (e := 3) (run_enters Tryz.func35 (by kernel_rfl) rfl) fun args os p r outs h => ?_
  unfold sDel1 at h
  split at h
  · rename_i xs
    injection h with h
    injection h with h1 h
    injection h with h2 h3
    subst h1 h2 h3
    refine ⟨_, .ints xs, _, rfl, rfl, rfl, rfl, rfl, rfl, rfl, fun hp => ⟨?_, fun W G v vs hG hn _ ho hl hd => ?_⟩⟩
    · have := List.length_filter_le (fun x => Cn.mayP x 65536) xs
      show (xs.filter _).length ≤ maxLen
      unfold maxLen; omega
    · simp only [DenL, Den] at hd
      obtain ⟨v1, vs', rfl, ⟨lb, rfl, rfl⟩, rfl⟩ := hd
      have := del_own (f := 37) (lb := []) (p := fun x => !Cn.mayP x 65536) (G := G) (v := v) (xs := xs) (w := W) (run_enters Tryz.func37 (by kernel_rfl) rfl) hG hn (fun W x _ => norm1_x x W) ho hl
      refine this.mono fun e' W' h => turned_out ?_
      simp only [Bool.not_not] at h
      exact h
  · cases h
theorem sDel2_sound : Sound Tryz.prog 35 sDel2 := by
  refine sound_row (e := 3) (run_enters Tryz.func35 (by kernel_rfl) rfl) fun args os p r outs h => ?_
  unfold sDel2 at h
  split at h
  · rename_i y xs
    injection h with h
    injection h with h1 h
    injection h with h2 h3
    subst h1 h2 h3
    refine ⟨_, .ints xs, _, rfl, rfl, rfl, rfl, rfl, rfl, rfl, fun hp => ⟨?_, fun W G v vs hG hn _ ho hl hd => ?_⟩⟩
    · have := List.length_filter_le (fun x => !(x == y)) xs
      show (xs.filter _).length ≤ maxLen
      unfold maxLen; omega
    · simp only [DenL, Den] at hd
      obtain ⟨v1, vs', rfl, ⟨lb, rfl, u, lb', rfl, ⟨b, off, rfl, hb, hc⟩, rfl⟩, rfl⟩ := hd
      obtain ⟨u, hcu, hru⟩ := hc 0 (.val (.int .i64 y)) rfl
      have hu : u = I64 y := den_val (g := g0 W G) (by simp only [Den]; exact hru)
      subst hu
      have := del_own (f := 60) (lb := [.pointer (some ⟨b, off, none⟩)]) (p := fun x => x == y) (G := G) (v := v) (xs := xs) (w := W) (run_enters Tryz.func60 (by kernel_rfl) rfl) hG hn
        (fun W1 x hW => res11_x b off y x W1 ((World.cell?_of_block (a := ⟨b, off, none⟩) (hW b hb)).trans hcu)) ho hl
      exact this.mono fun e' W' h => turned_out h
  · cases h
theorem sCompact_sound : Sound Tryz.prog 44 sCompact := by
  refine sound_row (e := 3) (run_enters Tryz.func44 (by kernel_rfl) rfl) fun args os p r outs h => ?_
  unfold sCompact at h
  split at h
  · rename_i xs
    injection h with h
    injection h with h1 h
    injection h with h2 h3
    subst h1 h2 h3
    refine ⟨_, .ints xs, _, rfl, rfl, rfl, rfl, rfl, rfl, rfl, fun hp => ⟨?_, fun W G v vs hG hn _ ho hl hd => ?_⟩⟩
    · have := Lib.compact_length_le xs
      show (Lib.compact xs).length ≤ maxLen
      unfold maxLen; omega
    · simp only [DenL] at hd
      subst hd
      exact (compact_own ho hl).mono fun e' W' h => turned_out h
  · cases h
theorem sSortF_sound : Sound Tryz.prog 39 sSortF := by
  refine sound_inrow (e := 3) (run_enters Tryz.func39 (by kernel_rfl) rfl) fun args os p r outs h => ?_
  unfold sSortF at h
  split at h
  · rename_i xs
    injection h with h
    injection h with h1 h
    injection h with h2 h3
    subst h1 h2 h3
    refine ⟨_, .ints xs, _, _, rfl, rfl, rfl, rfl, rfl, rfl, rfl, rfl, fun hp => ⟨?_, ?_, fun W G v vs hG hn _ ho hl hd => ?_⟩⟩
    · show (Cn.sortL xs).length ≤ maxLen
      simp only [Cn.sortL, List.length_mergeSort]
      unfold maxLen; omega
    · show (Cn.sortL xs).length = xs.length
      simp only [Cn.sortL, List.length_mergeSort]
    · simp only [DenL, Den] at hd
      obtain ⟨v1, vs', rfl, ⟨lb, rfl, rfl⟩, rfl⟩ := hd
      exact sortf_own hp.2 ho hp.1
  · cases h
theorem sGrow_sound : Sound Tryz.prog 78 sGrow := by
  refine sound_new (e := 3) (run_enters Tryz.func78 (by kernel_rfl) rfl) fun args os p r outs h => ?_
  unfold sGrow at h
  split at h
  · rename_i n
    injection h with h
    injection h with h1 h
    injection h with h2 h3
    subst h1 h2 h3
    refine ⟨_, rfl, rfl, rfl, rfl, fun hp => ⟨by decide, fun W G vs hG _ hd => ?_⟩⟩
    have hv := denL_val2 hd
    obtain ⟨k, rfl⟩ := Int.eq_ofNat_of_zero_le hp.1
    subst hv
    refine (grow_x k (by omega) W).mono ?_
    rintro e' W' ⟨A, c, rfl, h1, h2, h3⟩
    exact ⟨_, rfl, h1, h3, h2⟩
  · cases h
end Go.Proofs.YtiokflebeojokaaGreatDoor.En
