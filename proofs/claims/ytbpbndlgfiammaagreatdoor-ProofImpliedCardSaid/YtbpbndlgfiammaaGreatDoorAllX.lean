/- Reference 23's All: a new row. -/
import Derived.Test.YtbpbndlgfiammaaGreatDoorAllV
import Derived.Test.YtbpbndlgfiammaaGreatDoorShClone
set_option linter.unusedSimpArgs false
set_option linter.unusedVariables false
namespace Go.Proofs.YtbpbndlgfiammaaGreatDoor.En
open Go Go.RowKit

set_option maxRecDepth 100000 in
set_option maxHeartbeats 1000000 in
theorem all_x (n : Nat) (hn : n ≤ 60) (m : Int) (w : World) : Calls Tryz.prog 24 #[.int .i64 n, .int .i64 m] w fun e w' => NewRow 4 w ((allV n m).map Value.bool) e w' := by
  obtain ⟨i0, hi, hz0, hz1, hz2⟩ := info_of info_bool
  have HI := Lib.hid (And.intro hi (And.intro hz0 (And.intro hz1 hz2)))
  clear hi hz0 hz1 hz2
  go_enter Tryz.func24, Tryz.ntmps24
  go_wp2_with fail
  go_loopw [5, 6, 9] (fun av _ kv wr => ∃ (k : Nat) (A : Option Addr) (c : Nat), kv = .int .i64 k ∧ k ≤ n ∧ av = .slice A (k + 1) c ∧ Own wr 4 (.slice A (k + 1) c) ((allV k m).map Value.bool) ∧ (∀ g, (Value.slice A (k + 1) c).ownBlock = some g → w.heap.size ≤ g) ∧ Below w.heap.size w wr) (fun _ _ kv _ => n - (intOf kv).toNat)
  case atStart =>
    refine ⟨0, some ⟨w.heap.size, 0, none⟩, 1, rfl, Nat.zero_le _, rfl, .inr ⟨w.heap.size, 0, 1, #[.bool false], rfl, .mk0 (heap_alloc_new w _), Nat.le_refl _, by decide, Nat.le_refl _, fun j hj => ?_⟩, fun g hg => ?_, (Below.refl _ w).alloc (Nat.le_refl _) _⟩
    · have : j = 0 := by simpa [allV] using hj
      subst this
      rfl
    · simp [Value.ownBlock] at hg; omega
  case round =>
    obtain ⟨k, A, c, rfl, hk, rfl, ho, hg, hb⟩ := hrel
    have HO := Lib.hid ho
    have HG := Lib.hid hg
    have HB := Lib.hid hb
    clear ho hg hb
    by_cases hlt : k < n
    · have HLn := Lib.hid (show ((allV k m).map Value.bool).length = k + 1 by rw [List.length_map, allV_len])
      have HV := Lib.hid (show (allV (k + 1) m).map Value.bool = (allV k m).map Value.bool ++ [.bool (bits BinOp.and IntKind.i64 (m / 2 ^ k) 1 == 1)] by rw [← allV_succ, List.map_append]; rfl)
      generalize (allV k m).map Value.bool = olds at HO HLn HV
      go_wp2_with (at_builtin; refine wpList_push _ rfl (.tmp 12) (.tmp 18) 45 rfl 4 i0 (.bool false) 1 Tryz.underlying45 HI.out.1 HI.out.2.1 HI.out.2.2.1 HI.out.2.2.2 rfl _ olds (k + 1) HLn.out rfl (HO.out.alloc _) ⟨wr.heap.size, 0, none⟩ 1 (.bool (bits BinOp.and IntKind.i64 (m / 2 ^ k) 1 == 1)) rfl ?c1 rfl ?c2 ?c3 ?_)
      case c1 => exact (cell_of_row _ _ _ _ _ _ (heap_alloc_new _ _)).trans rfl
      case c2 => unfold maxLen; omega
      case c3 => omega
      intro g2 o2 cp2 w5 hown5 hg5 hat5
      have HOw5 := Lib.hid hown5
      have HB5 := Lib.hid ((HB.out.alloc HB.out.size _).grown hg5 (Nat.le_trans HB.out.size (by simp)) (fun g e => HG.out g e))
      have HG5 := Lib.hid (show ∀ g, (Value.slice (some ⟨g2, o2, none⟩) (k + 1 + 1) cp2).ownBlock = some g → w.heap.size ≤ g from fun g e => by
        have e : g2 = g := by simpa [Value.ownBlock] using e
        subst e
        rcases hat5 with e | e
        · exact HG.out _ e
        · have := HB.out.size; omega)
      clear hown5 hg5 hat5
      go_wp2_with fail
      go_roundw
      case rel => exact ⟨k + 1, _, _, by go_num, hlt, rfl, by rw [HV.out]; exact HOw5.out, HG5.out, HB5.out⟩
      case measure => simp [intOf]; omega
    · obtain rfl : k = n := by omega
      have HLn := Lib.hid (show ((allV k m).map Value.bool).length = k + 1 by rw [List.length_map, allV_len])
      go_wp2_with fail
      go_ret
      unfold NewRow
      rw [HLn.out]
      exact ⟨A, c, rfl, HO.out, HB.out, HG.out⟩
def sAll : CtF := fun args os => match args, os with
  | [.im (.val (.int .i64 n)), .im (.val (.int .i64 m))], [] => some (0 ≤ n ∧ n ≤ 60, .row 0, [some (.row 4 (.bools (allV n.toNat m)))])
  | _, _ => none
theorem sAll_sound : Sound Tryz.prog 24 sAll := by
  refine sound_new (e := 4) (run_enters Tryz.func24 (by kernel_rfl) rfl) fun args os p r outs h => ?_
  unfold sAll at h
  split at h
  · rename_i n m
    injection h with h
    injection h with h1 h
    injection h with h2 h3
    subst h1 h2 h3
    refine ⟨.bools (allV n.toNat m), rfl, rfl, rfl, rfl, fun hp => ⟨by show (allV n.toNat m).length ≤ maxLen; rw [allV_len]; unfold maxLen; omega, fun W G vs hG _ hd => ?_⟩⟩
    simp only [DenL] at hd
    obtain ⟨v, vs', rfl, hd0, u, us, rfl, hd1, rfl⟩ := hd
    rw [den_val hd0, den_val hd1]
    obtain ⟨k, rfl⟩ := Int.eq_ofNat_of_zero_le hp.1
    refine (all_x k (by omega) m W).mono ?_
    rintro e' W' ⟨A, c, rfl, h1, h2, h3⟩
    exact ⟨_, rfl, h1, h2, h3⟩
  · cases h
end Go.Proofs.YtbpbndlgfiammaaGreatDoor.En
