/- The reference's Few, at every list of lists (its sum may wrap). -/
import Derived.Test.YtiokflebeojokaaGreatDoorEngCallG
import Derived.Test.YtiokflebeojokaaGreatDoorProg
import Derived.Lib.Hide
set_option linter.unusedSimpArgs false
set_option linter.unusedVariables false
set_option linter.unnecessarySimpa false
namespace Go.Proofs.YtiokflebeojokaaGreatDoor.Cn
open Go Go.RowKit
/-- the sum as the machine reckons it -/
def wsum (L : List (List Int)) : Int := L.foldl (fun n l => wrap64 (n + (l.length : Int))) 0
def fewP (L : List (List Int)) : Bool := decide (L.length ≤ 200) && decide (wsum (L.take 200) ≤ 1000)
theorem wsum_take {L : List (List Int)} {k : Nat} (hk : k < L.length) : wsum (L.take (k + 1)) = wrap64 (wsum (L.take k) + ((L.getD k []).length : Int)) := by
  rw [List.take_succ_eq_append_getElem hk]
  unfold wsum
  rw [List.foldl_append]
  simp [List.getD, List.getElem?_eq_getElem hk]
end Go.Proofs.YtiokflebeojokaaGreatDoor.Cn
namespace Go.Proofs.YtiokflebeojokaaGreatDoor.En
open Go Go.RowKit

set_option maxRecDepth 100000 in
set_option maxHeartbeats 1000000 in
theorem few14_x {W : World} (L : List (List Int)) (A : Option Addr) (cp : Nat) (AA : Nat → Option Addr) (cc : Nat → Nat)
    (hA : ∀ k, k < L.length → ∃ b off, A = some ⟨b, off, none⟩ ∧ W.cell? ⟨b, off + k, none⟩ = some (.slice (AA k) (L.getD k []).length (cc k))) (hl : L.length ≤ maxLen) :
    Calls Tryz.prog 34 #[.slice A L.length cp] W fun e W' => e = .returned (.bool (Cn.fewP L)) ∧ W' = W := by
  unfold maxLen at hl
  have HA := Lib.hid hA
  clear hA
  go_enter Tryz.func34, Tryz.ntmps34
  go_wp2_with fail
  go_loop [3, 4] (fun nv iv => ∃ k : Nat, nv = .int .i64 (Cn.wsum (L.take k)) ∧ iv = .int .i64 k ∧ k ≤ L.length ∧ k ≤ 200) (fun _ iv => L.length - (intOf iv).toNat)
  case atStart => exact ⟨0, rfl, rfl, Nat.zero_le _, Nat.zero_le _⟩
  case round =>
    obtain ⟨k, rfl, rfl, hk, hk2⟩ := hrel
    by_cases hlt : k < L.length
    · by_cases h200 : k < 200
      · obtain ⟨b, off, rfl, hc⟩ := HA.out k hlt
        have HW := Lib.hid (Cn.wsum_take hlt)
        generalize (L.getD k []).length = m at hc HW
        generalize Cn.wsum (L.take k) = n at HW
        go_wp2_with fail
        go_round
        case rel => exact ⟨k + 1, by rw [HW.out], by go_num, hlt, by omega⟩
        case measure => simp [intOf]; omega
      · have hk3 : k = 200 := by omega
        subst hk3
        have hne : ¬ ((L.length : Int) ≤ 200) := by omega
        have HR := Lib.hid (show Cn.fewP L = false by unfold Cn.fewP; rw [show decide (L.length ≤ 200) = false by simp; omega]; rfl)
        go_wp2_with fail
        go_ret
        exact ⟨by rw [HR.out]; rfl, rfl⟩
    · have hk3 : k = L.length := by omega
      subst hk3
      have hle : (L.length : Int) ≤ 200 := by omega
      have HR := Lib.hid (show Cn.fewP L = decide (Cn.wsum (L.take L.length) ≤ 1000) by unfold Cn.fewP; rw [List.take_of_length_le (by omega), List.take_length, show decide (L.length ≤ 200) = true by simp; omega]; rfl)
      generalize Cn.wsum (L.take L.length) = n at HR
      go_wp2_with fail
      go_ret
      exact ⟨by rw [HR.out]; rfl, rfl⟩
def sFew1 : CtF1
  | [.im (.ls (.intss L))] => some (L.length ≤ maxLen, .bool (Cn.fewP L))
  | _ => none
theorem sFew1_sound : Sound1G Tryz.prog 34 sFew1 := by
  refine ⟨run_enters Tryz.func34 (by kernel_rfl) rfl, fun W G args vs p r hG hgl hσ hp hd => ?_⟩
  unfold sFew1 at hσ
  split at hσ
  · rename_i L
    injection hσ with hσ
    injection hσ with h1 h2
    subst h1 h2
    simp only [DenL, Den] at hd
    obtain ⟨v1, vs1, rfl, hr1, rfl⟩ := hd
    have key : ∃ (A : Option Addr) (cp : Nat) (AA : Nat → Option Addr) (cc : Nat → Nat), v1 = .slice A L.length cp ∧ (∀ k, k < L.length → ∃ b off, A = some ⟨b, off, none⟩ ∧ W.cell? ⟨b, off + k, none⟩ = some (.slice (AA k) (L.getD k []).length (cc k))) := by
      rcases hr1.cases_ls with ⟨h0, A, cp, rfl⟩ | ⟨b, off, cp, z, rfl, _, _, hb, hcell, hrep⟩
      · have h0' : L.length = 0 := h0
        exact ⟨A, cp, fun _ => none, fun _ => 0, by rw [h0'], fun k hk => by omega⟩
      · have hz : ∀ k, ∃ Ac : Option Addr × Nat, k < L.length → z k 0 = .slice Ac.1 (L.getD k []).length Ac.2 := fun k => by
          by_cases hk : k < L.length
          · have h2 : Rep W G (.ls (.ints (L.getD k []))) (z k 0) := hrep k 0 hk Nat.one_pos
            obtain ⟨A, c, e, _⟩ := rd_of_ints h2
            exact ⟨(A, c), fun _ => e⟩
          · exact ⟨(none, 0), fun h => absurd h hk⟩
        obtain ⟨Ac, hAc⟩ := Classical.axiomOfChoice hz
        refine ⟨_, cp, fun k => (Ac k).1, fun k => (Ac k).2, rfl, fun k hk => ⟨b, off, rfl, ?_⟩⟩
        have h1 : W.cell? ⟨b, off + k * 1 + 0, none⟩ = some (z k 0) := hcell k 0 hk Nat.one_pos
        rw [Nat.mul_one, Nat.add_zero] at h1
        rw [h1, hAc k hk]
    obtain ⟨A, cp, AA, cc, rfl, hA⟩ := key
    refine Calls.mono (few14_x L A cp AA cc hA hp) fun e w' he => ?_
    obtain ⟨rfl, rfl⟩ := he
    exact ⟨_, rfl, Below.refl _ _, by simp only [Den]; exact .val _⟩
  · cases hσ
def sFew : CtF := sFew1.up
theorem sFew_sound : Sound Tryz.prog 34 sFew := sFew1_sound.up
end Go.Proofs.YtiokflebeojokaaGreatDoor.En
