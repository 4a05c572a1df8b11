/- Lemmas and contracts for the row. -/
import Derived.Test.YtbpbndlgfiammaaGreatDoorPkRowProofTidyT
import Derived.Test.YtbpbndlgfiammaaGreatDoorPkRowProofTidyB
import Derived.Test.YtbpbndlgfiammaaGreatDoorProg
import Derived.Lib.Hide
import Derived.Shelf.SlIter.Collect
set_option linter.unusedVariables false
set_option linter.unusedSimpArgs false
set_option linter.unnecessarySimpa false
namespace Go.Proofs.YtbpbndlgfiammaaGreatDoor.En
open Go Go.RowKit
def values_it : ItF
  | [.pto [.ls (.ints l)]] => some (l.length ≤ maxLen, l.length, fun i => [.int (l.getD i 0)])
  | _ => none
set_option maxRecDepth 100000 in
set_option maxHeartbeats 1000000 in
theorem values_x {G : Nat → Prop} {W : World} (hG : ∀ b, G b → b < W.heap.size) (vv : Nat → Value) (n : Nat) (A : Option Addr) (cp p1 o1 : Nat)
    (h1 : W.cell? ⟨p1, o1, none⟩ = some (.slice A n cp)) (g1 : G p1)
    (hA : ∀ k, k < n → ∃ b off, A = some ⟨b, off, none⟩ ∧ G b ∧ W.cell? ⟨b, off + k, none⟩ = some (vv k))
    (hl : n ≤ maxLen) :
    SeqX Tryz.prog 130 #[.pointer (some ⟨p1, o1, none⟩)] (KRG G) n (fun j => #[vv j]) W := by
  intro l J Jx Z W1 hKR hJs hJxs hY h0
  unfold maxLen at hl
  have HC1 := Lib.hid (fun (W' : World) (h : KRG G W W') => (World.cell?_of_block (a := ⟨p1, o1, none⟩) (h p1 g1)).trans h1)
  have HA := Lib.hid (fun k (hk : k < n) (W' : World) (h : KRG G W W') => by
    obtain ⟨b, off, e, hb, hc⟩ := hA k hk
    exact (⟨b, off, e, (World.cell?_of_block (a := ⟨b, off + k, none⟩) (h b hb)).trans hc⟩ : ∃ b off, A = some ⟨b, off, none⟩ ∧ W'.cell? ⟨b, off + k, none⟩ = some (vv k)))
  have HJ := Lib.hid hJs
  have HY := Lib.hid hY
  have HG := Lib.hid hG
  have HK := Lib.hid hKR
  have H0 := Lib.hid h0
  clear h1 hA hJs hY hG hJxs h0 hKR
  refine callsIn_fr.1 (callsIn_of_wp (F := FR none) (n := 3) Tryz.func130 rfl trivial ?_ rfl)
  simp only [Tryz.ntmps130, List.size_toArray, List.length_cons, List.length_nil, Nat.reduceAdd, Nat.reduceSub, Array.replicate_succ, Array.replicate_zero, List.push_toArray, List.append_toArray, List.nil_append, List.cons_append]
  have hro : (FR none).round = none := rfl
  have hc1 := HC1.out W1 HK.out
  gi_wp2_with fail
  clear hc1
  gi_loopw [4, 7] (fun _ kv wr => ∃ (k : Nat) (Z : Nat → Prop), kv = .int .i64 k ∧ k ≤ n ∧ KRG G W wr ∧ J k Z wr) (fun _ kv _ => n - (intOf kv).toNat)
  case atStart => exact ⟨0, Z, rfl, Nat.zero_le _, HK.out, H0.out⟩
  case round =>
    obtain ⟨k, Z2, rfl, hk, hkr, hj⟩ := hrel
    have HKR := Lib.hid hkr
    have HJ2 := Lib.hid hj
    clear hkr hj
    by_cases hlt : k < n
    · obtain ⟨b, off, rfl, hcell⟩ := HA.out k hlt wr HKR.out
      have hyy := HY.out _ _ wr hlt HJ2.out
      obtain ⟨fn, tmps, assign, body, hy, hR⟩ := hyy
      gi_wp2_with fail
      refine hR.mono ?_
      rintro e w4 ⟨⟨rfl, hj4⟩ | ⟨rfl, hjx⟩, hk4, hz4, hs4⟩
      · have HK4 := Lib.hid (krg_tr HKR.out hk4)
        have HJ5 := Lib.hid hj4
        clear hj4 hk4 hz4 hs4 hcell
        gi_wp2_with fail
        go_roundw
        case rel => exact ⟨k + 1, _, rfl, hlt, HK4.out, HJ5.out⟩
        case measure => simp [intOf]; omega
      · have HJX := Lib.hid hjx
        clear hjx hk4 hz4 hs4 hcell
        gi_wp2_with fail
        refine bodyPost_ret (results_none rfl _ _ _) rfl ?_
        exact ⟨⟨_, rfl⟩, .inr ⟨_, _, HJX.out⟩⟩
    · obtain rfl : k = n := by omega
      gi_wp2_with fail
      go_end0
      exact ⟨⟨_, rfl⟩, .inl ⟨Z2, HJ2.out⟩⟩
theorem values_seq : SeqSound Tryz.prog 130 values_it := by
  refine ⟨run_enters Tryz.func130 (by kernel_rfl) rfl, fun W G caps vs p N el hG hgl hσ hp hd => ?_⟩
  unfold values_it at hσ
  split at hσ
  · rename_i c
    injection hσ with hσ
    injection hσ with h1 h2
    injection h2 with h2 h3
    subst h1 h2 h3
    simp only [DenL, Den] at hd
    obtain ⟨v1, vs1, rfl, ⟨p1, o1, rfl, g1, hc1⟩, rfl⟩ := hd
    obtain ⟨u1, hu1, hr1⟩ := hc1 0 (.ls (.ints c)) rfl
    have key : ∃ (A : Option Addr) (cp : Nat) (vv : Nat → Value), u1 = .slice A c.length cp ∧ (∀ k, k < c.length → ∃ b off, A = some ⟨b, off, none⟩ ∧ G b ∧ W.cell? ⟨b, off + k, none⟩ = some (vv k)) ∧ ∀ k, k < c.length → Den (g0 W G) (.int (c.getD k 0)) (vv k) := by
      rcases hr1.cases_ls with ⟨h0, A, cp, rfl⟩ | ⟨b, off, cp, u, rfl, _, _, hb, hcell, hrep⟩
      · have h0' : c.length = 0 := h0
        exact ⟨A, cp, fun _ => undef, by rw [h0'], fun k hk => by omega, fun k hk => by omega⟩
      · refine ⟨_, cp, fun i => u i 0, rfl, fun k hk => ⟨b, off, rfl, hb, ?_⟩, fun k hk => ?_⟩
        · have h1 : W.cell? ⟨b, off + k * 1 + 0, none⟩ = some (u k 0) := hcell k 0 hk Nat.one_pos
          rwa [Nat.mul_one, Nat.add_zero] at h1
        · simp only [Den]; exact hrep k 0 hk Nat.one_pos
    obtain ⟨A, cp, vv, rfl, hA, hv⟩ := key
    refine ⟨fun j => #[vv j], fun i hi => ?_, ?_⟩
    · simp only [DenL]
      exact ⟨_, _, rfl, hv i hi, rfl⟩
    · exact values_x hG vv c.length A cp p1 o1 hu1 g1 hA hp
  · cases hσ
end Go.Proofs.YtbpbndlgfiammaaGreatDoor.En
