/- Lemmas and contracts for the row. -/
import Derived.Test.YtbpbndlgfiammaaGreatDoorPkRowProofTidyT
import Derived.Test.YtbpbndlgfiammaaGreatDoorPkRowProofTidyK
import Derived.Test.YtbpbndlgfiammaaGreatDoorProg
import Derived.Lib.Hide
import Derived.Shelf.SlIter.Collect
set_option linter.unusedVariables false
set_option linter.unusedSimpArgs false
set_option linter.unnecessarySimpa false
namespace Go.Proofs.YtbpbndlgfiammaaGreatDoor.En
open Go Go.RowKit
def but_it : ItF
  | [.pto [.ls (.intss c)], .pto [.val (.int .i64 x)]] => some (c.length ≤ maxLen, (Cn.butL c x).length, fun i => [.ints ((Cn.butL c x).getD i [])])
  | _ => none
set_option maxRecDepth 100000 in
set_option maxHeartbeats 1000000 in
theorem but_x {G : Nat → Prop} {W : World} (vv : Nat → Value) (c : List (List Int)) (A : Option Addr) (cp p1 o1 p2 o2 : Nat) (x : Int)
    (h1 : W.cell? ⟨p1, o1, none⟩ = some (.slice A c.length cp)) (g1 : G p1) (h2 : W.cell? ⟨p2, o2, none⟩ = some (I64 x)) (g2 : G p2)
    (hA : ∀ k, k < c.length → ∃ b off, A = some ⟨b, off, none⟩ ∧ G b ∧ W.cell? ⟨b, off + k, none⟩ = some (vv k))
    (hl : c.length ≤ maxLen) :
    SeqX Tryz.prog 125 #[.pointer (some ⟨p1, o1, none⟩), .pointer (some ⟨p2, o2, none⟩)] (KRG G) (Cn.butI x c.length c.length).length (fun j => #[vv ((Cn.butI x c.length c.length).getD j 0)]) W := by
  intro l J Jx Z W1 hKR hJs hJxs hY h0
  unfold maxLen at hl
  have HC1 := Lib.hid (fun (W' : World) (h : KRG G W W') => (World.cell?_of_block (a := ⟨p1, o1, none⟩) (h p1 g1)).trans h1)
  have HC2 := Lib.hid (fun (W' : World) (h : KRG G W W') => (World.cell?_of_block (a := ⟨p2, o2, none⟩) (h p2 g2)).trans h2)
  have HA := Lib.hid (fun k (hk : k < c.length) (W' : World) (h : KRG G W W') => by
    obtain ⟨b, off, e, hb, hc⟩ := hA k hk
    exact (⟨b, off, e, (World.cell?_of_block (a := ⟨b, off + k, none⟩) (h b hb)).trans hc⟩ : ∃ b off, A = some ⟨b, off, none⟩ ∧ W'.cell? ⟨b, off + k, none⟩ = some (vv k)))
  have HJ := Lib.hid hJs
  have HY := Lib.hid hY
  have HK := Lib.hid hKR
  have H0 := Lib.hid h0
  clear h1 h2 hA hJs hY hJxs h0 hKR
  refine callsIn_fr.1 (callsIn_of_wp (F := FR none) (n := 3) Tryz.func125 rfl trivial ?_ rfl)
  simp only [Tryz.ntmps125, List.size_toArray, List.length_cons, List.length_nil, Nat.reduceAdd, Nat.reduceSub, Array.replicate_succ, Array.replicate_zero, List.push_toArray, List.append_toArray, List.nil_append, List.cons_append]
  have hro : (FR none).round = none := rfl
  have hc1 := HC1.out W1 HK.out
  gi_wp2_with fail
  clear hc1
  gi_loopw [4, 8] (fun _ kv wr => ∃ (k : Nat) (Z : Nat → Prop), kv = .int .i64 k ∧ k ≤ c.length ∧ KRG G W wr ∧ J (Cn.butI x c.length k).length Z wr) (fun _ kv _ => c.length - (intOf kv).toNat)
  case atStart => exact ⟨0, Z, rfl, Nat.zero_le _, HK.out, H0.out⟩
  case round =>
    obtain ⟨k, Z2, rfl, hk, hkr, hj⟩ := hrel
    have HKR := Lib.hid hkr
    have HJ2 := Lib.hid hj
    clear hkr hj
    by_cases hlt : k < c.length
    · obtain ⟨b, off, rfl, hcell⟩ := HA.out k hlt wr HKR.out
      have HPA := Lib.hid (fun h => Cn.butI_at (but := x) (n := c.length) (m := c.length) hlt h)
      have HPS := Lib.hid (Cn.butI_succ (but := x) (n := c.length) (k := k))
      have hc2 := HC2.out wr HKR.out
      by_cases hkx : (k : Int) = x
      · have HNX := Lib.hid (show J (Cn.butI x c.length (k + 1)).length Z2 wr by rw [HPS.out, if_neg (by simpa using hkx)]; exact HJ2.out)
        subst hkx
        gi_wp2_with fail
        refine ⟨fun f hf => (by cases hf), ?_⟩
        gi_wp2_with fail
        go_roundw
        case rel => exact ⟨k + 1, Z2, rfl, hlt, HKR.out, HNX.out⟩
        case measure => simp [intOf]; omega
      · obtain ⟨hlt2, hat⟩ := HPA.out hkx
        have hyy := HY.out _ _ wr hlt2 HJ2.out
        rw [hat] at hyy
        obtain ⟨fn, tmps, assign, body, hy, hR⟩ := hyy
        have HLEN := Lib.hid (show (Cn.butI x c.length (k + 1)).length = (Cn.butI x c.length k).length + 1 by rw [HPS.out, if_pos hkx]; simp)
        clear hlt2 hat
        gi_wp2_with fail
        refine hR.mono ?_
        rintro e w4 ⟨⟨rfl, hj4⟩ | ⟨rfl, hjx⟩, hk4, hz4, hs4⟩
        · have HK4 := Lib.hid (krg_tr HKR.out hk4)
          have HJ5 := Lib.hid hj4
          clear hj4 hk4 hz4 hs4
          gi_wp2_with fail
          go_roundw
          case rel => exact ⟨k + 1, _, rfl, hlt, HK4.out, by rw [HLEN.out]; exact HJ5.out⟩
          case measure => simp [intOf]; omega
        · have HJX := Lib.hid hjx
          clear hjx hk4 hz4 hs4
          gi_wp2_with fail
          refine bodyPost_ret (results_none rfl _ _ _) rfl ?_
          exact ⟨⟨_, rfl⟩, .inr ⟨_, _, HJX.out⟩⟩
    · obtain rfl : k = c.length := by omega
      gi_wp2_with fail
      go_end0
      exact ⟨⟨_, rfl⟩, .inl ⟨Z2, HJ2.out⟩⟩
theorem but_seq : SeqSound Tryz.prog 125 but_it := by
  refine ⟨run_enters Tryz.func125 (by kernel_rfl) rfl, fun W G caps vs p N el hG hgl hσ hp hd => ?_⟩
  unfold but_it at hσ
  split at hσ
  · rename_i c x
    injection hσ with hσ
    injection hσ with h1 h2
    injection h2 with h2 h3
    subst h1 h2 h3
    have hl := hp
    simp only [DenL, Den] at hd
    obtain ⟨v1, vs1, rfl, ⟨p1, o1, rfl, g1, hc1⟩, v2, vs2, rfl, ⟨p2, o2, rfl, g2, hc2⟩, rfl⟩ := hd
    obtain ⟨u1, hu1, hr1⟩ := hc1 0 (.ls (.intss c)) rfl
    obtain ⟨u2, hu2, hr2⟩ := hc2 0 (.val (.int .i64 x)) rfl
    have e2 : u2 = I64 x := den_val (g := g0 W G) (by simp only [Den]; exact hr2)
    subst e2
    have key : ∃ (A : Option Addr) (cp : Nat) (vv : Nat → Value), u1 = .slice A c.length cp ∧ (∀ k, k < c.length → ∃ b off, A = some ⟨b, off, none⟩ ∧ G b ∧ W.cell? ⟨b, off + k, none⟩ = some (vv k)) ∧ ∀ k, k < c.length → Den (g0 W G) (.ints (c.getD k [])) (vv k) := by
      rcases hr1.cases_ls with ⟨h0, A, cp, rfl⟩ | ⟨b, off, cp, u, rfl, _, _, hb, hcell, hrep⟩
      · have h0' : c.length = 0 := h0
        exact ⟨A, cp, fun _ => undef, by rw [h0'], fun k hk => by omega, fun k hk => by omega⟩
      · refine ⟨_, cp, fun i => u i 0, rfl, fun k hk => ⟨b, off, rfl, hb, ?_⟩, fun k hk => ?_⟩
        · have h1 : W.cell? ⟨b, off + k * 1 + 0, none⟩ = some (u k 0) := hcell k 0 hk Nat.one_pos
          rwa [Nat.mul_one, Nat.add_zero] at h1
        · simp only [Den]; exact hrep k 0 hk Nat.one_pos
    obtain ⟨A, cp, vv, rfl, hA, hv⟩ := key
    refine ⟨fun j => #[vv ((Cn.butI x c.length c.length).getD j 0)], fun i hi => ?_, ?_⟩
    · simp only [DenL]
      refine ⟨_, _, rfl, ?_, rfl⟩
      rw [Cn.butL_get hi]
      exact hv _ (Cn.butI_lt (by rwa [← Cn.butL_len]))
    · rw [Cn.butL_len]
      exact but_x vv c A cp p1 o1 p2 o2 x hu1 g1 hu2 g2 hA hl
  · cases hσ
end Go.Proofs.YtbpbndlgfiammaaGreatDoor.En
