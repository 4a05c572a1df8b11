/- Lemmas and contracts for the row. -/
import Derived.Test.YtbpbndlgfiammaaGreatDoorPkRowProofResolvedG
import Derived.Test.YtbpbndlgfiammaaGreatDoorPkRowProofResolvedA
import Derived.Test.YtbpbndlgfiammaaGreatDoorProg
import Derived.Lib.Hide
import Derived.Shelf.SlIter.Collect
import Derived.Test.YtbpbndlgfiammaaGreatDoorPkRowProofResolvedC
import Derived.Test.YtbpbndlgfiammaaGreatDoorPkRowProofResolvedF
set_option linter.unusedVariables false
set_option linter.unusedSimpArgs false
set_option linter.unnecessarySimpa false
namespace Go.Proofs.YtbpbndlgfiammaaGreatDoor.En
open Go Go.RowKit
def values_it : ItF
  | [.pto [.ls (.ints l)]] => some (l.length ≤ maxLen, l.length, fun i => [.int (l.getD i 0)])
  | _ => none
set_option maxRecDepth 100000 in
set_option maxHeartbeats 1000000 in
theorem values_x {G : Nat → Prop} {W : World} (hG : ∀ b, G b → b < W.heap.size) (vv : Nat → Value) (n : Nat) (A : Option Addr) (cp p1 o1 : Nat)
    (h1 : W.cell? ⟨p1, o1, none⟩ = some (.slice A n cp)) (g1 : G p1)
    (hA : ∀ k, k < n → ∃ b off, A = some ⟨b, off, none⟩ ∧ G b ∧ W.cell? ⟨b, off + k, none⟩ = some (vv k))
    (hl : n ≤ maxLen) :
    SeqX Tryz.prog 130 #[.pointer (some ⟨p1, o1, none⟩)] (KRG G) n (fun j => #[vv j]) W := by
  intro l J Jx Z W1 hKR hJs hJxs hY h0
  unfold maxLen at hl
  have HC1 := Lib.hid (fun (W' : World) (h : KRG G W W') => (World.cell?_of_block (a := ⟨p1, o1, none⟩) (h p1 g1)).trans h1)
  have HA := Lib.hid (fun k (hk : k < n) (W' : World) (h : KRG G W W') => by
    obtain ⟨b, off, e, hb, hc⟩ := hA k hk
    exact (⟨b, off, e, (World.cell?_of_block (a := ⟨b, off + k, none⟩) (h b hb)).trans hc⟩ : ∃ b off, A = some ⟨b, off, none⟩ ∧ W'.cell? ⟨b, off + k, none⟩ = some (vv k)))
  have HJ := Lib.hid hJs
  have HY := Lib.hid hY
  have HG := Lib.hid hG
  have HK := Lib.hid hKR
  have H0 := Lib.hid h0
  clear h1 hA hJs hY hG hJxs h0 hKR
  refine callsIn_fr.1 (callsIn_of_wp (F := FR none) (n := 3) Tryz.func130 rfl trivial ?_ rfl)
  simp only [Tryz.ntmps130, List.size_toArray, List.length_cons, List.length_nil, Nat.reduceAdd, Nat.reduceSub, Array.replicate_succ, Array.replicate_zero, List.push_toArray, List.append_toArray, List.nil_append, List.cons_append]
  have hro : (FR none).round = none := rfl
  have hc1 := HC1.out W1 HK.out
  gi_wp2_with fail
  clear hc1
  gi_loopw [4, 7] (fun _ kv wr => ∃ (k : Nat) (Z : Nat → Prop), kv = .int .i64 k ∧ k ≤ n ∧ KRG G W wr ∧ J k Z wr) (fun _ kv _ => n - (intOf kv).toNat)
  case atStart => exact ⟨0, Z, rfl, Nat.zero_le _, HK.out, H0.out⟩
  case round =>
    obtain ⟨k, Z2, rfl, hk, hkr, hj⟩ := hrel
    have HKR := Lib.hid hkr
    have HJ2 := Lib.hid hj
    clear hkr hj
    by_cases hlt : k < n
    · obtain ⟨b, off, rfl, hcell⟩ := HA.out k hlt wr HKR.out
      have hyy := HY.out _ _ wr hlt HJ2.out
      obtain ⟨fn, tmps, assign, body, hy, hR⟩ := hyy
      gi_wp2_with fail
      refine hR.mono ?_
      rintro e w4 ⟨⟨rfl, hj4⟩ | ⟨rfl, hjx⟩, hk4, hz4, hs4⟩
      · have HK4 := Lib.hid (krg_tr HKR.out hk4)
        have HJ5 := Lib.hid hj4
        clear hj4 hk4 hz4 hs4 hcell
        gi_wp2_with fail
        go_roundw
        case rel => exact ⟨k + 1, _, rfl, hlt, HK4.out, HJ5.out⟩
        case measure => simp [intOf]; omega
      · have HJX := Lib.hid hjx
        clear hjx hk4 hz4 hs4 hcell
        gi_wp2_with fail
        refine bodyPost_ret (results_none rfl _ _ _) rfl ?_
        exact ⟨⟨_, rfl⟩, .inr ⟨_, _, HJX.out⟩⟩
    · obtain rfl : k = n := by omega
      gi_wp2_with fail
      go_end0
      exact ⟨⟨_, rfl⟩, .inl ⟨Z2, HJ2.out⟩⟩
theorem values_seq : SeqSound Tryz.prog 130 values_it := by
  refine ⟨run_enters Tryz.func130 (by kernel_rfl) rfl, fun W G caps vs p N el hG hgl hσ hp hd => ?_⟩
  unfold values_it at hσ
  split at hσ
  · rename_i c
    injection hσ with hσ
    injection hσ with h1 h2
    injection h2 with h2 h3
    subst h1 h2 h3
    simp only [DenL, Den] at hd
    obtain ⟨v1, vs1, rfl, ⟨p1, o1, rfl, g1, hc1⟩, rfl⟩ := hd
    obtain ⟨u1, hu1, hr1⟩ := hc1 0 (.ls (.ints c)) rfl
    have key : ∃ (A : Option Addr) (cp : Nat) (vv : Nat → Value), u1 = .slice A c.length cp ∧ (∀ k, k < c.length → ∃ b off, A = some ⟨b, off, none⟩ ∧ G b ∧ W.cell? ⟨b, off + k, none⟩ = some (vv k)) ∧ ∀ k, k < c.length → Den (g0 W G) (.int (c.getD k 0)) (vv k) := by
      rcases hr1.cases_ls with ⟨h0, A, cp, rfl⟩ | ⟨b, off, cp, u, rfl, _, _, hb, hcell, hrep⟩
      · have h0' : c.length = 0 := h0
        exact ⟨A, cp, fun _ => undef, by rw [h0'], fun k hk => by omega, fun k hk => by omega⟩
      · refine ⟨_, cp, fun i => u i 0, rfl, fun k hk => ⟨b, off, rfl, hb, ?_⟩, fun k hk => ?_⟩
        · have h1 : W.cell? ⟨b, off + k * 1 + 0, none⟩ = some (u k 0) := hcell k 0 hk Nat.one_pos
          rwa [Nat.mul_one, Nat.add_zero] at h1
        · simp only [Den]; exact hrep k 0 hk Nat.one_pos
    obtain ⟨A, cp, vv, rfl, hA, hv⟩ := key
    refine ⟨fun j => #[vv j], fun i hi => ?_, ?_⟩
    · simp only [DenL]
      exact ⟨_, _, rfl, hv i hi, rfl⟩
    · exact values_x hG vv c.length A cp p1 o1 hu1 g1 hA hp
  · cases hσ
end Go.Proofs.YtbpbndlgfiammaaGreatDoor.En
namespace Go.Proofs.YtbpbndlgfiammaaGreatDoor.En
open Go Go.RowKit
def with_it : ItF
  | [.pto [.ls (.intss c)], .pto [.val (.int .i64 x)]] => some (c.length ≤ maxLen ∧ (∀ l ∈ c, l.length ≤ maxLen) ∧ -65536 ≤ x ∧ x ≤ 65536, (Cn.withL c x).length, fun i => [.ints ((Cn.withL c x).getD i [])])
  | _ => none
theorem contains_x {G : Nat → Prop} {W : World} (hG : ∀ b, G b → b < W.heap.size) (hgl : GlOk (g0 W G)) {l : List Int} {v : Value} {y : Int} (hl : l.length ≤ maxLen) (hv : Den (g0 W G) (.ints l) v) :
    CallsIn (FR none) 2 Tryz.prog 44 #[v, I64 y] W fun e W' => e = .returned (.bool (l.contains y)) ∧ Below W.heap.size W W' := by
  have h := sContains_sound.callsG hG hgl (args := [.ints l, .int y]) (vs := [v, I64 y]) rfl hl (by simp only [DenL]; exact ⟨_, _, rfl, hv, _, _, rfl, .val _, rfl⟩)
  refine callsIn_fr.2 (Calls.mono h fun e w' he => ?_)
  obtain ⟨u, rfl, hb, g', _, _, hd⟩ := he
  rw [den_val hd]
  exact ⟨rfl, hb⟩
set_option maxRecDepth 100000 in
set_option maxHeartbeats 1000000 in
theorem with_x {G : Nat → Prop} {W : World} (hG : ∀ b, G b → b < W.heap.size) (hgl : GlOk (g0 W G)) (vv : Nat → Value) (c : List (List Int)) (A : Option Addr) (cp p1 o1 p2 o2 : Nat) (x : Int)
    (h1 : W.cell? ⟨p1, o1, none⟩ = some (.slice A c.length cp)) (g1 : G p1) (h2 : W.cell? ⟨p2, o2, none⟩ = some (I64 x)) (g2 : G p2)
    (hA : ∀ k, k < c.length → ∃ b off, A = some ⟨b, off, none⟩ ∧ G b ∧ W.cell? ⟨b, off + k, none⟩ = some (vv k)) (hv : ∀ k, k < c.length → Den (g0 W G) (.ints (c.getD k [])) (vv k))
    (hl : c.length ≤ maxLen) (hll : ∀ l ∈ c, l.length ≤ maxLen) (hx1 : -65536 ≤ x) (hx2 : x ≤ 65536) :
    SeqX Tryz.prog 127 #[.pointer (some ⟨p1, o1, none⟩), .pointer (some ⟨p2, o2, none⟩)] (KRG G) (Cn.wIdx c x c.length).length (fun j => #[vv ((Cn.wIdx c x c.length).getD j 0)]) W := by
  intro l J Jx Z W1 hKR hJs hJxs hY h0
  unfold maxLen at hl
  have HC1 := Lib.hid (fun (W' : World) (h : KRG G W W') => (World.cell?_of_block (a := ⟨p1, o1, none⟩) (h p1 g1)).trans h1)
  have HC2 := Lib.hid (fun (W' : World) (h : KRG G W W') => (World.cell?_of_block (a := ⟨p2, o2, none⟩) (h p2 g2)).trans h2)
  have HA := Lib.hid (fun k (hk : k < c.length) (W' : World) (h : KRG G W W') => by
    obtain ⟨b, off, e, hb, hc⟩ := hA k hk
    exact (⟨b, off, e, (World.cell?_of_block (a := ⟨b, off + k, none⟩) (h b hb)).trans hc⟩ : ∃ b off, A = some ⟨b, off, none⟩ ∧ W'.cell? ⟨b, off + k, none⟩ = some (vv k)))
  have HCN := Lib.hid (fun k (hk : k < c.length) (y : Int) (W' : World) (h : KRG G W W') =>
    contains_x (G := G) (W := W') (y := y) (krg_lt hG h) (hgl.up (krg_le h)) (hll _ (Cn.getD_memL hk)) (Den.mono (krg_le h) _ _ (hv k hk)))
  have HJ := Lib.hid hJs
  have HY := Lib.hid hY
  have HG := Lib.hid hG
  have HK := Lib.hid hKR
  have H0 := Lib.hid h0
  clear h1 h2 hA hv hll hgl hJs hY hG hJxs h0 hKR
  refine callsIn_fr.1 (callsIn_of_wp (F := FR none) (n := 3) Tryz.func127 rfl trivial ?_ rfl)
  simp only [Tryz.ntmps127, List.size_toArray, List.length_cons, List.length_nil, Nat.reduceAdd, Nat.reduceSub, Array.replicate_succ, Array.replicate_zero, List.push_toArray, List.append_toArray, List.nil_append, List.cons_append]
  have hro : (FR none).round = none := rfl
  have hc1 := HC1.out W1 HK.out
  gi_wp2_with fail
  clear hc1
  gi_loopw [5, 8] (fun _ kv wr => ∃ (k : Nat) (Z : Nat → Prop), kv = .int .i64 k ∧ k ≤ c.length ∧ KRG G W wr ∧ J (Cn.wIdx c x k).length Z wr) (fun _ kv _ => c.length - (intOf kv).toNat)
  case atStart => exact ⟨0, Z, rfl, Nat.zero_le _, HK.out, H0.out⟩
  case round =>
    obtain ⟨k, Z2, rfl, hk, hkr, hj⟩ := hrel
    have HKR := Lib.hid hkr
    have HJ2 := Lib.hid hj
    clear hkr hj
    by_cases hlt : k < c.length
    · obtain ⟨b, off, rfl, hcell⟩ := HA.out k hlt wr HKR.out
      have HCK := Lib.hid (HCN.out k hlt)
      have HPA := Lib.hid (fun h => Cn.wIdx_at (c := c) (x := x) (n := c.length) hlt h)
      have HPS := Lib.hid (Cn.wIdx_succ (c := c) (x := x) (k := k))
      have HWP := Lib.hid (show Cn.wP x (c.getD k []) = ((c.getD k []).contains x && !((c.getD k []).contains (-x))) from rfl)
      generalize c.getD k [] = ck at HCK HPA HPS HWP
      have hc2 := HC2.out wr HKR.out
      have hng : wrap64 (-x) = -x := by unfold wrap64; omega
      have next : ∀ (w2 : World), Cn.wP x ck = false → KRG G W w2 → (∃ Z, J (Cn.wIdx c x k).length Z w2) → ∃ (k' : Nat) (Z : Nat → Prop), Value.int .i64 (k + 1 : Nat) = .int .i64 k' ∧ k' ≤ c.length ∧ KRG G W w2 ∧ J (Cn.wIdx c x k').length Z w2 := fun w2 h1 h2 ⟨Z, h3⟩ => by
        refine ⟨k + 1, Z, rfl, hlt, h2, ?_⟩
        rw [HPS.out, h1, if_neg (by simp)]; exact h3
      have HNX := Lib.hid next
      clear next
      gi_wp2_with fail
      refine ⟨trivial, (HCK.out x wr HKR.out).mono ?_⟩
      rintro e w2 ⟨rfl, hb2⟩
      have hk2 := krg_below HKR.out (krg_lt HG.out HKR.out) hb2
      have HK2 := Lib.hid hk2
      have HJ3 := Lib.hid (HJ.out _ _ _ _ HJ2.out (kp_no hb2 Z2))
      have hc3 := HC2.out w2 hk2
      clear hb2 hk2 hc2
      cases hB1 : ck.contains x with
      | false =>
        have HNO := Lib.hid (show Cn.wP x ck = false by rw [HWP.out, hB1]; rfl)
        clear hB1
        gi_wp2_with fail
        refine ⟨trivial, ?_⟩
        gi_wp2_with fail
        refine ⟨fun f hf => (by cases hf), ?_⟩
        gi_wp2_with fail
        go_roundw
        case rel => exact HNX.out _ HNO.out HK2.out ⟨_, HJ3.out⟩
        case measure => simp [intOf]; omega
      | true =>
        gi_wp2_with fail
        refine ⟨trivial, (HCK.out (-x) w2 HK2.out).mono ?_⟩
        rintro e w3 ⟨rfl, hb3⟩
        have HK3 := Lib.hid (krg_below HK2.out (krg_lt HG.out HK2.out) hb3)
        have HJ4 := Lib.hid (HJ.out _ _ _ _ HJ3.out (kp_no hb3 _))
        clear hb3
        cases hB2 : ck.contains (-x) with
        | true =>
          have HNO := Lib.hid (show Cn.wP x ck = false by rw [HWP.out, hB1, hB2]; rfl)
          clear hB1 hB2
          gi_wp2_with fail
          refine ⟨fun f hf => (by cases hf), ?_⟩
          gi_wp2_with fail
          go_roundw
          case rel => exact HNX.out _ HNO.out HK3.out ⟨_, HJ4.out⟩
          case measure => simp [intOf]; omega
        | false =>
          have HYS := Lib.hid (show Cn.wP x ck = true by rw [HWP.out, hB1, hB2]; rfl)
          clear hB1 hB2
          obtain ⟨hlt2, hat⟩ := HPA.out HYS.out
          have hyy := HY.out _ _ w3 hlt2 HJ4.out
          rw [hat] at hyy
          obtain ⟨fn, tmps, assign, body, hy, hR⟩ := hyy
          have HLEN := Lib.hid (show (Cn.wIdx c x (k + 1)).length = (Cn.wIdx c x k).length + 1 by rw [HPS.out, HYS.out, if_pos rfl]; simp)
          clear hlt2 hat
          gi_wp2_with fail
          refine hR.mono ?_
          rintro e w4 ⟨⟨rfl, hj4⟩ | ⟨rfl, hjx⟩, hk4, hz4, hs4⟩
          · have HK4 := Lib.hid (krg_tr HK3.out hk4)
            have HJ5 := Lib.hid hj4
            clear hj4 hk4 hz4 hs4
            gi_wp2_with fail
            go_roundw
            case rel => exact ⟨k + 1, _, rfl, hlt, HK4.out, by rw [HLEN.out]; exact HJ5.out⟩
            case measure => simp [intOf]; omega
          · have HJX := Lib.hid hjx
            clear hjx hk4 hz4 hs4
            gi_wp2_with fail
            refine bodyPost_ret (results_none rfl _ _ _) rfl ?_
            exact ⟨⟨_, rfl⟩, .inr ⟨_, _, HJX.out⟩⟩
    · obtain rfl : k = c.length := by omega
      gi_wp2_with fail
      go_end0
      exact ⟨⟨_, rfl⟩, .inl ⟨Z2, HJ2.out⟩⟩
theorem with_seq : SeqSound Tryz.prog 127 with_it := by
  refine ⟨run_enters Tryz.func127 (by kernel_rfl) rfl, fun W G caps vs p N el hG hgl hσ hp hd => ?_⟩
  unfold with_it at hσ
  split at hσ
  · rename_i c x
    injection hσ with hσ
    injection hσ with h1 h2
    injection h2 with h2 h3
    subst h1 h2 h3
    obtain ⟨hl, hll, hx1, hx2⟩ := hp
    simp only [DenL, Den] at hd
    obtain ⟨v1, vs1, rfl, ⟨p1, o1, rfl, g1, hc1⟩, v2, vs2, rfl, ⟨p2, o2, rfl, g2, hc2⟩, rfl⟩ := hd
    obtain ⟨u1, hu1, hr1⟩ := hc1 0 (.ls (.intss c)) rfl
    obtain ⟨u2, hu2, hr2⟩ := hc2 0 (.val (.int .i64 x)) rfl
    have e2 : u2 = I64 x := den_val (g := g0 W G) (by simp only [Den]; exact hr2)
    subst e2
    have key : ∃ (A : Option Addr) (cp : Nat) (vv : Nat → Value), u1 = .slice A c.length cp ∧ (∀ k, k < c.length → ∃ b off, A = some ⟨b, off, none⟩ ∧ G b ∧ W.cell? ⟨b, off + k, none⟩ = some (vv k)) ∧ ∀ k, k < c.length → Den (g0 W G) (.ints (c.getD k [])) (vv k) := by
      rcases hr1.cases_ls with ⟨h0, A, cp, rfl⟩ | ⟨b, off, cp, u, rfl, _, _, hb, hcell, hrep⟩
      · have h0' : c.length = 0 := h0
        exact ⟨A, cp, fun _ => undef, by rw [h0'], fun k hk => by omega, fun k hk => by omega⟩
      · refine ⟨_, cp, fun i => u i 0, rfl, fun k hk => ⟨b, off, rfl, hb, ?_⟩, fun k hk => ?_⟩
        · have h1 : W.cell? ⟨b, off + k * 1 + 0, none⟩ = some (u k 0) := hcell k 0 hk Nat.one_pos
          rwa [Nat.mul_one, Nat.add_zero] at h1
        · simp only [Den]; exact hrep k 0 hk Nat.one_pos
    obtain ⟨A, cp, vv, rfl, hA, hv⟩ := key
    refine ⟨fun j => #[vv ((Cn.wIdx c x c.length).getD j 0)], fun i hi => ?_, ?_⟩
    · simp only [DenL]
      refine ⟨_, _, rfl, ?_, rfl⟩
      rw [Cn.withL_get hi]
      exact hv _ (Cn.wIdx_lt (by rwa [← Cn.withL_len]))
    · rw [Cn.withL_len]
      exact with_x hG hgl vv c A cp p1 o1 p2 o2 x hu1 g1 hu2 g2 hA hv hl hll hx1 hx2
  · cases hσ
end Go.Proofs.YtbpbndlgfiammaaGreatDoor.En
namespace Go.Proofs.YtbpbndlgfiammaaGreatDoor.En
open Go Go.RowKit
def tyElim : List (Nat × TD) := [(3, ⟨1, false, [.int .i64 0], [], none, 8, false, 1, 1⟩),
  (22, ⟨1, false, [.slice none 0 0], [], some 23, 24, false, 0, 0⟩),
  (23, ⟨1, false, [.slice none 0 0], [], some 3, 24, false, 0, 3⟩),
  (28, ⟨2, true, [.int .i64 0, .slice none 0 0], [(0, 3), (1, 22)], none, 32, false, 0, 6⟩),
  (31, ⟨1, false, [.int .i64 0], [], none, 8, false, 1, 1⟩),
  (58, ⟨2, true, [.int .i64 0, .slice none 0 0], [(0, 3), (1, 22)], none, 32, false, 0, 6⟩)]
theorem tyElim_ok : AllTy Tryz.prog tyElim := ⟨⟨by kernel_rfl, by kernel_rfl, by kernel_rfl⟩, ⟨by kernel_rfl, by kernel_rfl, by kernel_rfl⟩, ⟨by kernel_rfl, by kernel_rfl, by kernel_rfl⟩, ⟨by kernel_rfl, by kernel_rfl, by kernel_rfl⟩, ⟨by kernel_rfl, by kernel_rfl, by kernel_rfl⟩, ⟨by kernel_rfl, by kernel_rfl, by kernel_rfl⟩, trivial⟩
def cx_eHas1 : Cx := ⟨tyElim, [(44, (coeF [.ld (.ints []), .id] sContains_σ))], false⟩
theorem cx_eHas1_ok : CxOk Tryz.prog cx_eHas1 := cx_ok tyElim_ok ⟨(sContains_sound.coe [.ld (.ints []), .id] rfl), trivial⟩
def eHas1_σ : CtF
  | [.im (.ls (.ints l)), .pto [.val (.int .i64 v)]], [] => some (l.length ≤ maxLen ∧ -65536 ≤ v ∧ v ≤ 65536, .bool (Cn.hasV v l), [])
  | _, _ => none
theorem eHas1_sound : Sound Tryz.prog 126 eHas1_σ := by
 refine Sw (cx := cx_eHas1) Tryz.f126 Tryz.func126 ?_
 intro wW wO wβ G0 args os p r outs hσ hp
 have hcx := cx_eHas1_ok
 unfold eHas1_σ at hσ
 split at hσ
 ·
  rename_i l v
  cases hσ
  refine ⟨by kernel_rfl, ?_⟩
  obtain ⟨hm1, hm2, hm3⟩ := hp
  refine Sz hcx [] [] [] [] (Sq hcx [] [3] [0, 1] [] [(l.length ≤ maxLen), ((!(l.contains v)) = true → ((!(l.contains v)) = true)), ((!(l.contains v)) = true → Fit (-v)), ((!(l.contains v)) = true → ((!(l.contains v)) = true)), ((!(l.contains v)) = true → ((!(l.contains v)) = true)), ((!(l.contains v)) = true → (l.length ≤ maxLen)), ((l.contains v) = false → (!(l.contains v)) = true)] ?_ (Zr (Ru hcx [])))
  ·
   refine ap ?_ (ap ?_ (ap ?_ (ap ?_ (ap ?_ (ap ?_ (ap (by exact vcNot) az)))))) <;>
    first | exact hm1 | exact (fun _ => hm1) | (first | omega | exact id | exact vcNot | exact vcG | exact vcH | (intro _; omega) | exact (fun _ h => h) | (intro h; simp at h; omega) | (simp only [List.length_cons, List.length_nil, List.length_append, List.length_map, List.length_set, List.length_replicate]; omega) | (intro h; simp [h]; done)) | (constructor <;> omega) | (intro _; constructor <;> omega)
 ·
  cases hσ
def cx_eHas : Cx := ⟨tyElim, [], false⟩
theorem cx_eHas_ok : CxOk Tryz.prog cx_eHas := cx_ok tyElim_ok trivial
def eHas_σ : CtF
  | [.im (.val (.int .i64 v))], [] => some (True, .clo 126 [.pto [.int v]], [])
  | _, _ => none
theorem eHas_sound : Sound Tryz.prog 103 eHas_σ := by
 refine Sw (cx := cx_eHas) Tryz.f103 Tryz.func103 ?_
 intro wW wO wβ G0 args os p r outs hσ hp
 have hcx := cx_eHas_ok
 unfold eHas_σ at hσ
 split at hσ
 ·
  rename_i v
  cases hσ
  refine ⟨by kernel_rfl, ?_⟩
  exact Sz hcx [(1000, .frz)] [1] [0] [] (Sz hcx [] [2] [1] [] (Zr (Ru hcx [])))
 ·
  cases hσ
def cx_eWith : Cx := ⟨tyElim, [], false⟩
theorem cx_eWith_ok : CxOk Tryz.prog cx_eWith := cx_ok tyElim_ok trivial
def eWith_σ : CtF
  | [.im (.ls (.intss c)), .im (.val (.int .i64 x))], [] => some (True, .clo 127 [.pto [.ls (.intss c)], .pto [.int x]], [])
  | _, _ => none
theorem eWith_sound : Sound Tryz.prog 104 eWith_σ := by
 refine Sw (cx := cx_eWith) Tryz.f104 Tryz.func104 ?_
 intro wW wO wβ G0 args os p r outs hσ hp
 have hcx := cx_eWith_ok
 unfold eWith_σ at hσ
 split at hσ
 ·
  rename_i c x
  cases hσ
  refine ⟨by kernel_rfl, ?_⟩
  exact Sz hcx [(1000, .frz), (1001, .frz)] [2, 3] [0, 1] [] (Sz hcx [] [4] [2, 3] [] (Zr (Ru hcx [])))
 ·
  cases hσ
def cx_eOwn : Cx := ⟨tyElim, [(71, sClone)], false⟩
theorem cx_eOwn_ok : CxOk Tryz.prog cx_eOwn := cx_ok tyElim_ok ⟨sClone_sound, trivial⟩
def eOwn_σ : CtF
  | [.im (.ls (.intss c))], [] => some (c.length ≤ 1000000 ∧ ∀ l ∈ c, l.length ≤ 1000000, .row 0, [some (.row 23 (.intss c))])
  | _, _ => none
theorem eOwn_sound : Sound Tryz.prog 105 eOwn_σ := by
 refine Sw (cx := cx_eOwn) Tryz.f105 Tryz.func105 ?_
 intro wW wO wβ G0 args os p r outs hσ hp
 have hcx := cx_eOwn_ok
 unfold eOwn_σ at hσ
 split at hσ
 ·
  rename_i c
  cases hσ
  refine ⟨by kernel_rfl, ?_⟩
  obtain ⟨hm1, hm2⟩ := hp
  have hm3 : ∀ k, k < c.length → (c.getD k []).length ≤ 1000000 := fun k hk => hm2 _ (Cn.getD_memL hk)
  refine Sz hcx [] [] [] [] (Sz hcx [] [3] [] [] (Zs (Sz hcx [] [6, 7, 8] [0] [] (Zb (Zw 3 10 23 (.intss []) (Lp (X := Nat) (fun x0 => x0 ≤ c.length) (fun x0 => ([(3, .row 10), (6, .intss c), (7, .int (c.length : Int)), (8, .int (x0 : Int))], [(10, .row 23 (.intss (c.take x0)))])) (fun x0 => c.length - x0) (0) ?_ (Ex 8 (congrArg AV.int (show 0 = (0 : Int) from (by first | rfl | omega | (simp; done)))) Eb) Hb fun k hI => ?_))))))
  ·
   show 0 ≤ c.length
   omega
  ·
   replace hI : k ≤ c.length := hI
   have hm4 := hm3 k
   have htl : (c.take k).length ≤ k := by rw [List.length_take]; omega
   refine Sz hcx [] [9] [] [] (Zs (Zj (p := ((k : Int) < (c.length : Int))) (fun h0 => ?_) fun h0 => ?_))
   ·
    refine Zk (Ft (Zs (Zb (Sq hcx [] [5] [9] [] [((0 : Int) ≤ (k : Int) ∧ (k : Int) < (c.length : Int))] ?_ (Tq hcx [(1004, .to 10)] [3] [5] [10] [((c.getD k []).length ≤ 1000000000000), (((c.take k).length + [(c.getD k [])].length) * 24 ≤ 140737488355328)] ?_ (Fb (Ft (Tq hcx [] [8] [] [] [Fit ((k : Int) + 1)] ?_ (Lr (k + 1) ?_ ?_ (Ex 8 (congrArg AV.int (show ((k : Int) + 1) = ((k + 1) : Int) from (by first | rfl | omega | (simp; done)))) Eb) (Hx 10 (congrArg (fun x => AObj.row 23 (.intss x)) (show ((c.take k) ++ [(c.getD k [])]) = (c.take (k + 1)) from (by exact (Cn.take_sD (by omega)).symm))) Hb))))))))))
    ·
     refine ap ?_ az
     first | omega | exact id | exact vcNot | exact vcG | exact vcH | (intro _; omega) | exact (fun _ h => h) | (intro h; simp at h; omega) | (simp only [List.length_cons, List.length_nil, List.length_append, List.length_map, List.length_set, List.length_replicate]; omega) | (intro h; simp [h]; done) | (have := hm4 (by omega); omega)
    ·
     refine ap ?_ (ap ?_ az) <;>
      first | omega | exact id | exact vcNot | exact vcG | exact vcH | (intro _; omega) | exact (fun _ h => h) | (intro h; simp at h; omega) | (simp only [List.length_cons, List.length_nil, List.length_append, List.length_map, List.length_set, List.length_replicate]; omega) | (intro h; simp [h]; done) | (have := hm4 (by omega); omega)
    ·
     refine ap ?_ az
     first | omega | exact id | exact vcNot | exact vcG | exact vcH | (intro _; omega) | exact (fun _ h => h) | (intro h; simp at h; omega) | (simp only [List.length_cons, List.length_nil, List.length_append, List.length_map, List.length_set, List.length_replicate]; omega) | (intro h; simp [h]; done) | (have := hm4 (by omega); omega)
    ·
     show (k + 1) ≤ c.length
     omega
    ·
     show c.length - (k + 1) < c.length - k
     omega
   ·
    exact Ze (Fe (Fe (Fs (Ft (Sz hcx [] [2] [9, 3, 6, 7, 8] [] (Zr (Fn [(10, .to 0)] [2] (Rv hcx rfl [true] (consO (congrArg some (congrArg (fun x => AObj.row 23 (.intss x)) (show (c.take k) = c from (by rw [show k = c.length from (by omega), List.take_length])))) rfl)))))))))
 ·
  cases hσ
def cx_eOut : Cx := ⟨tyElim, [(66, (coeF [.ld (.ints [])] cNorm_σ)), (32, (coeF [.ld (.ints []), .ld (.ints []), .id] cResolve_σ)), (126, (coeF [.ld (.ints []), .id] eHas1_σ)), (103, eHas_σ), (104, (coeF [.ld (.intss []), .id] eWith_σ)), (105, (coeF [.ld (.intss [])] eOwn_σ))], false⟩
theorem cx_eOut_ok : CxOk Tryz.prog cx_eOut := cx_ok tyElim_ok ⟨(cNorm_sound.coe [.ld (.ints [])] rfl), (cResolve_sound.coe [.ld (.ints []), .ld (.ints []), .id] rfl), (eHas1_sound.coe [.ld (.ints []), .id] rfl), eHas_sound, (eWith_sound.coe [.ld (.intss []), .id] rfl), (eOwn_sound.coe [.ld (.intss [])] rfl), trivial⟩
def eOut_σ : CtF
  | [.agg [.im (.val (.int .i64 N)), .im (.ls (.intss L))], .im (.val (.int .i64 v)), .im (.val (.int .i64 many))], [] => some (L.length ≤ 10000 ∧ (∀ l ∈ L, l.length ≤ 1000) ∧ 1 ≤ v ∧ v ≤ 65536 ∧ 0 ≤ many ∧ many ≤ 65536, .tup [.agg [.int N, .row 0], .agg [.int v, .row 1], .bool (decide (((Cn.outX L v many).length : Int) ≤ many))], [some (.row 23 (.intss (Cn.outX L v many))), some (.row 23 (.intss (Cn.uOf L v)))])
  | _, _ => none
theorem eOut_sound : Sound Tryz.prog 74 eOut_σ := by
 refine Sw (cx := cx_eOut) Tryz.f74 Tryz.func74 ?_
 intro wW wO wβ G0 args os p r outs hσ hp
 have hcx := cx_eOut_ok
 have hmx : Tryz.prog.follows .mixedOrders = true := by kernel_rfl
 unfold eOut_σ at hσ
 split at hσ
 ·
  rename_i N L v many
  cases hσ
  refine ⟨by kernel_rfl, ?_⟩
  obtain ⟨hm1, hm2, hm3, hm4, hm5, hm6⟩ := hp
  have hXX : (Cn.outX L v many).length ≤ 1000000 ∧ ∀ l ∈ (Cn.outX L v many), l.length ≤ 1000000 := ⟨by have := Cn.out_len (v := v) hm1 hm6; omega, fun l hl => by have := Cn.out_lens hm2 l hl; omega⟩
  have hm7 : ∀ k, k < L.length → (L.getD k []).length ≤ 1000 := fun k hk => hm2 _ (Cn.getD_memL hk)
  refine Sz hcx [(1003, .to 606), (1004, .to 607), (1000, .frz), (1001, .frz), (1002, .frz)] [3, 4, 5, 6, 7, 8] [0, 1, 2] [] (Zc (Sd hcx hmx [0, 1, 3, 0, 8, 7, 63] [(606, .to 606), (607, .to 607)] [] [] [] [] az (Sq hcx [] [9] [] [] [(True)] ?_ (Zs (Zs (Zv 606 1 10 23 (.intss []) (Zv 607 1 11 23 (.intss []) (Tz hcx [] [26, 27, 28] [3] [] (Ft (Zb (Zn [(10, .to 10), (11, .to 11), (606, .to 606), (607, .to 607)] [4, 5, 6, 7, 8, 9, 26, 27, 28] (Lp (X := Nat) (fun x0 => x0 ≤ L.length) (fun x0 => ([(4, .pto [.int v]), (5, .pto [.int many]), (6, .loc 606 0), (7, .loc 607 0), (8, .bool false), (9, .clo 126 [.pto [.int v]]), (26, .intss L), (27, .int (L.length : Int)), (28, .int (x0 : Int))], [(10, .row 23 (.intss (Cn.xOf (L.take x0) v))), (11, .row 23 (.intss (Cn.uOf (L.take x0) v))), (606, .box [.int N, .row 10]), (607, .box [.int v, .row 11])])) (fun x0 => L.length - x0) (0) ?_ (Ex 28 (congrArg AV.int (show 0 = (0 : Int) from (by first | rfl | omega | (simp; done)))) Eb) (Hx 10 (congrArg (fun x => AObj.row 23 (.intss x)) (show [] = (Cn.xOf (L.take 0) v) from (by simp [Cn.xOf]))) (Hx 11 (congrArg (fun x => AObj.row 23 (.intss x)) (show [] = (Cn.uOf (L.take 0) v) from (by simp [Cn.uOf]))) Hb)) fun k hI => ?_))))))))))))
  ·
   refine ap ?_ az
   first | (rw [← hOX]; exact hXX) | exact hUU | (first | omega | exact id | exact vcNot | exact vcG | exact vcH | (intro _; omega) | exact (fun _ h => h) | (intro h; simp at h; omega) | (simp only [List.length_cons, List.length_nil, List.length_append, List.length_map, List.length_set, List.length_replicate]; omega) | (intro h; simp [h]; done)) | exact ⟨by have := hpl p hi0; omega, by have := hql q hi1; omega, by omega, by omega⟩ | (have := hm7 k (by omega); exact ⟨by unfold maxLen; omega, by omega, by omega⟩) | (have := hpl p hi0; have := hql q hi1; have := Cn.resQ_len ((Cn.withL (Cn.uOf (L.take k) v) v).getD p []) ((Cn.withL (Cn.uOf (L.take k) v) (-v)).getD q []) v; omega) | (constructor <;> omega) | trivial
  ·
   show 0 ≤ L.length
   omega
  ·
   replace hI : k ≤ L.length := hI
   have hxl := Cn.xOf_len (c := L.take k) (v := v)
   have hul := Cn.uOf_len (c := L.take k) (v := v)
   have htl : (L.take k).length ≤ k := by rw [List.length_take]; omega
   refine Sz hcx [] [29] [] [] (Zs (Zj (p := ((k : Int) < (L.length : Int))) (fun h0 => ?_) fun h0 => ?_))
   ·
    refine Zk (Ft (Zs (Zb (Sq hcx [] [11] [29] [] [((0 : Int) ≤ (k : Int) ∧ (k : Int) < (L.length : Int))] ?_ (Sq hcx [] [34] [] [] [((L.getD k []).length ≤ maxLen ∧ -65536 ≤ v ∧ v ≤ 65536)] ?_ (Zi (b := Cn.hasV v (L.getD k [])) (fun h1 => ?_) fun h1 => ?_))))))
    ·
     refine ap ?_ az
     first | (rw [← hOX]; exact hXX) | exact hUU | (first | omega | exact id | exact vcNot | exact vcG | exact vcH | (intro _; omega) | exact (fun _ h => h) | (intro h; simp at h; omega) | (simp only [List.length_cons, List.length_nil, List.length_append, List.length_map, List.length_set, List.length_replicate]; omega) | (intro h; simp [h]; done)) | exact ⟨by have := hpl p hi0; omega, by have := hql q hi1; omega, by omega, by omega⟩ | (have := hm7 k (by omega); exact ⟨by unfold maxLen; omega, by omega, by omega⟩) | (have := hpl p hi0; have := hql q hi1; have := Cn.resQ_len ((Cn.withL (Cn.uOf (L.take k) v) v).getD p []) ((Cn.withL (Cn.uOf (L.take k) v) (-v)).getD q []) v; omega) | (constructor <;> omega) | trivial
    ·
     refine ap ?_ az
     first | (rw [← hOX]; exact hXX) | exact hUU | (first | omega | exact id | exact vcNot | exact vcG | exact vcH | (intro _; omega) | exact (fun _ h => h) | (intro h; simp at h; omega) | (simp only [List.length_cons, List.length_nil, List.length_append, List.length_map, List.length_set, List.length_replicate]; omega) | (intro h; simp [h]; done)) | exact ⟨by have := hpl p hi0; omega, by have := hql q hi1; omega, by omega, by omega⟩ | (have := hm7 k (by omega); exact ⟨by unfold maxLen; omega, by omega, by omega⟩) | (have := hpl p hi0; have := hql q hi1; have := Cn.resQ_len ((Cn.withL (Cn.uOf (L.take k) v) v).getD p []) ((Cn.withL (Cn.uOf (L.take k) v) (-v)).getD q []) v; omega) | (constructor <;> omega) | trivial
    ·
     have hq := h1
     refine Tq hcx [(1004, .to 11), (607, .to 607)] [] [34, 11] [11] [(((Cn.uOf (L.take k) v).length + [(L.getD k [])].length) * 24 ≤ 140737488355328)] ?_ (Fb (Ft (Tq hcx [] [28] [] [] [Fit ((k : Int) + 1)] ?_ (Fn [(10, .to 10), (11, .to 11), (606, .to 606), (607, .to 607)] [4, 5, 6, 7, 8, 9, 26, 27, 28] (Lr (k + 1) ?_ ?_ (Ex 28 (congrArg AV.int (show ((k : Int) + 1) = ((k + 1) : Int) from (by first | rfl | omega | (simp; done)))) Eb) (Hx 10 (congrArg (fun x => AObj.row 23 (.intss x)) (show (Cn.xOf (L.take k) v) = (Cn.xOf (L.take (k + 1)) v) from (by first | exact (Cn.uOf_next_y (by omega) hq).2 | exact (Cn.uOf_next_n (by omega) hq).1))) (Hx 11 (congrArg (fun x => AObj.row 23 (.intss x)) (show ((Cn.uOf (L.take k) v) ++ [(L.getD k [])]) = (Cn.uOf (L.take (k + 1)) v) from (by first | exact (Cn.uOf_next_y (by omega) hq).1 | exact (Cn.uOf_next_n (by omega) hq).2))) Hb)))))))
     ·
      refine ap ?_ az
      first | (rw [← hOX]; exact hXX) | exact hUU | (first | omega | exact id | exact vcNot | exact vcG | exact vcH | (intro _; omega) | exact (fun _ h => h) | (intro h; simp at h; omega) | (simp only [List.length_cons, List.length_nil, List.length_append, List.length_map, List.length_set, List.length_replicate]; omega) | (intro h; simp [h]; done)) | exact ⟨by have := hpl p hi0; omega, by have := hql q hi1; omega, by omega, by omega⟩ | (have := hm7 k (by omega); exact ⟨by unfold maxLen; omega, by omega, by omega⟩) | (have := hpl p hi0; have := hql q hi1; have := Cn.resQ_len ((Cn.withL (Cn.uOf (L.take k) v) v).getD p []) ((Cn.withL (Cn.uOf (L.take k) v) (-v)).getD q []) v; omega) | (constructor <;> omega) | trivial
     ·
      refine ap ?_ az
      first | (rw [← hOX]; exact hXX) | exact hUU | (first | omega | exact id | exact vcNot | exact vcG | exact vcH | (intro _; omega) | exact (fun _ h => h) | (intro h; simp at h; omega) | (simp only [List.length_cons, List.length_nil, List.length_append, List.length_map, List.length_set, List.length_replicate]; omega) | (intro h; simp [h]; done)) | exact ⟨by have := hpl p hi0; omega, by have := hql q hi1; omega, by omega, by omega⟩ | (have := hm7 k (by omega); exact ⟨by unfold maxLen; omega, by omega, by omega⟩) | (have := hpl p hi0; have := hql q hi1; have := Cn.resQ_len ((Cn.withL (Cn.uOf (L.take k) v) v).getD p []) ((Cn.withL (Cn.uOf (L.take k) v) (-v)).getD q []) v; omega) | (constructor <;> omega) | trivial
     ·
      show (k + 1) ≤ L.length
      omega
     ·
      show L.length - (k + 1) < L.length - k
      omega
    ·
     have hq := h1
     refine Tq hcx [(1004, .to 10), (606, .to 606)] [] [34, 11] [10] [(((Cn.xOf (L.take k) v).length + [(L.getD k [])].length) * 24 ≤ 140737488355328)] ?_ (Fb (Ft (Tq hcx [] [28] [] [] [Fit ((k : Int) + 1)] ?_ (Fn [(10, .to 10), (11, .to 11), (606, .to 606), (607, .to 607)] [4, 5, 6, 7, 8, 9, 26, 27, 28] (Lr (k + 1) ?_ ?_ (Ex 28 (congrArg AV.int (show ((k : Int) + 1) = ((k + 1) : Int) from (by first | rfl | omega | (simp; done)))) Eb) (Hx 10 (congrArg (fun x => AObj.row 23 (.intss x)) (show ((Cn.xOf (L.take k) v) ++ [(L.getD k [])]) = (Cn.xOf (L.take (k + 1)) v) from (by first | exact (Cn.uOf_next_y (by omega) hq).2 | exact (Cn.uOf_next_n (by omega) hq).1))) (Hx 11 (congrArg (fun x => AObj.row 23 (.intss x)) (show (Cn.uOf (L.take k) v) = (Cn.uOf (L.take (k + 1)) v) from (by first | exact (Cn.uOf_next_y (by omega) hq).1 | exact (Cn.uOf_next_n (by omega) hq).2))) Hb)))))))
     ·
      refine ap ?_ az
      first | (rw [← hOX]; exact hXX) | exact hUU | (first | omega | exact id | exact vcNot | exact vcG | exact vcH | (intro _; omega) | exact (fun _ h => h) | (intro h; simp at h; omega) | (simp only [List.length_cons, List.length_nil, List.length_append, List.length_map, List.length_set, List.length_replicate]; omega) | (intro h; simp [h]; done)) | exact ⟨by have := hpl p hi0; omega, by have := hql q hi1; omega, by omega, by omega⟩ | (have := hm7 k (by omega); exact ⟨by unfold maxLen; omega, by omega, by omega⟩) | (have := hpl p hi0; have := hql q hi1; have := Cn.resQ_len ((Cn.withL (Cn.uOf (L.take k) v) v).getD p []) ((Cn.withL (Cn.uOf (L.take k) v) (-v)).getD q []) v; omega) | (constructor <;> omega) | trivial
     ·
      refine ap ?_ az
      first | (rw [← hOX]; exact hXX) | exact hUU | (first | omega | exact id | exact vcNot | exact vcG | exact vcH | (intro _; omega) | exact (fun _ h => h) | (intro h; simp at h; omega) | (simp only [List.length_cons, List.length_nil, List.length_append, List.length_map, List.length_set, List.length_replicate]; omega) | (intro h; simp [h]; done)) | exact ⟨by have := hpl p hi0; omega, by have := hql q hi1; omega, by omega, by omega⟩ | (have := hm7 k (by omega); exact ⟨by unfold maxLen; omega, by omega, by omega⟩) | (have := hpl p hi0; have := hql q hi1; have := Cn.resQ_len ((Cn.withL (Cn.uOf (L.take k) v) v).getD p []) ((Cn.withL (Cn.uOf (L.take k) v) (-v)).getD q []) v; omega) | (constructor <;> omega) | trivial
     ·
      show (k + 1) ≤ L.length
      omega
     ·
      show L.length - (k + 1) < L.length - k
      omega
   ·
    have hkL : (L.take k) = L := by rw [show k = L.length from (by omega), List.take_length]
    have hu1 : (Cn.uOf (L.take k) v).length ≤ 10000 := by have := Cn.uOf_len (c := (L.take k)) (v := v); rw [hkL] at *; omega
    have hu2 : ∀ l ∈ (Cn.uOf (L.take k) v), l.length ≤ 1000 := fun l hl => hm2 l (by rw [hkL] at hl; exact (List.mem_filter.1 hl).1)
    have hit : (Cn.uOf (L.take k) v).length ≤ maxLen ∧ (∀ l ∈ (Cn.uOf (L.take k) v), l.length ≤ maxLen) := ⟨by unfold maxLen; omega, fun l hl => by have := hu2 l hl; unfold maxLen; omega⟩
    have hUU : (Cn.uOf (L.take k) v).length ≤ 1000000 ∧ ∀ l ∈ (Cn.uOf (L.take k) v), l.length ≤ 1000000 := ⟨by omega, fun l hl => by have := hu2 l hl; omega⟩
    have hpl : ∀ p, p < (Cn.withL (Cn.uOf (L.take k) v) v).length → ((Cn.withL (Cn.uOf (L.take k) v) v).getD p []).length ≤ 1000 := fun p hp => hu2 _ (List.mem_filter.1 (Cn.getD_memL hp)).1
    have hql : ∀ q, q < (Cn.withL (Cn.uOf (L.take k) v) (-v)).length → ((Cn.withL (Cn.uOf (L.take k) v) (-v)).getD q []).length ≤ 1000 := fun q hq => hu2 _ (List.mem_filter.1 (Cn.getD_memL hq)).1
    refine Ze (Fe (Fe (Fs (Ft (Zs (Zl (Ft (Zs (Zs (Zn [(10, .to 10), (606, .to 606), (607, .to 607), (11, .frz)] [29, 4, 5, 6, 7, 8, 9, 26, 27, 28] (Tq hcx [] [51] [29, 9, 26, 27, 28] [] [(True)] ?_ (Ft (Zb ?_)))))))))))))
    ·
     refine ap ?_ az
     first | (rw [← hOX]; exact hXX) | exact hUU | (first | omega | exact id | exact vcNot | exact vcG | exact vcH | (intro _; omega) | exact (fun _ h => h) | (intro h; simp at h; omega) | (simp only [List.length_cons, List.length_nil, List.length_append, List.length_map, List.length_set, List.length_replicate]; omega) | (intro h; simp [h]; done)) | exact ⟨by have := hpl p hi0; omega, by have := hql q hi1; omega, by omega, by omega⟩ | (have := hm7 k (by omega); exact ⟨by unfold maxLen; omega, by omega, by omega⟩) | (have := hpl p hi0; have := hql q hi1; have := Cn.resQ_len ((Cn.withL (Cn.uOf (L.take k) v) v).getD p []) ((Cn.withL (Cn.uOf (L.take k) v) (-v)).getD q []) v; omega) | (constructor <;> omega) | trivial
    refine tri_ren (ρ := [(606, .to 0), (607, .to 1), (10, .to 10)]) (keys := [51, 4, 5, 6, 7, 8]) (E' := [(51, .clo 127 [.pto [.ls (.intss (Cn.uOf (L.take k) v))], .pto [.int v]]), (4, .pto [.int v]), (5, .pto [.int many]), (6, .loc 0 0), (7, .loc 1 0), (8, .bool false)]) (H' := [(0, .box [.int N, .row 10]), (1, .box [.int v, .intss (Cn.uOf (L.take k) v)]), (10, .row 23 (.intss (Cn.xOf (L.take k) v)))]) (by kernel_rfl) ?_
    refine tri_range (X := Unit) rfl with_seq (caps := [.pto [.ls (.intss (Cn.uOf (L.take k) v))], .pto [.int v]]) (by kernel_rfl) (N := (Cn.withL (Cn.uOf (L.take k) v) v).length) (el := fun p => [.ints ((Cn.withL (Cn.uOf (L.take k) v) v).getD p [])]) rfl (by kernel_rfl) ?_ 2 970 989 (by kernel_rfl) (fun p x0 => Cn.okX (L.take k) v many p 0) (fun p x0 => [(0, .box [.int N, .row 10]), (1, .box [.int v, .intss (Cn.uOf (L.take k) v)]), (10, .row 23 (.intss (Cn.stX (L.take k) v p 0)))]) (fun p x0 => [(51, .clo 127 [.pto [.ls (.intss (Cn.uOf (L.take k) v))], .pto [.int v]]), (4, .pto [.int v]), (5, .pto [.int many]), (6, .loc 0 0), (7, .loc 1 0), (8, .bool false), (12, .loc 612 0)]) (fun p x0 => [(0, .box [.int N, .row 10]), (1, .box [.int v, .intss (Cn.uOf (L.take k) v)]), (10, .row 23 (.intss (Cn.stX (L.take k) v p 0))), (612, .box [.ints ((Cn.withL (Cn.uOf (L.take k) v) v).getD p [])])]) (()) ?_ ?_ (fun _ _ => rfl) (fun _ _ _ => by kernel_rfl) (fun _ _ => by kernel_rfl) ?_ ?_ ?_
    ·
     exact ⟨hit.1, hit.2, by omega, by omega⟩
    ·
     show Cn.okX (L.take k) v many 0 0
     exact Cn.ok_zero
    ·
     exact Hx 10 (congrArg (fun x => AObj.row 23 (.intss x)) (show (Cn.xOf (L.take k) v) = (Cn.stX (L.take k) v 0 0) from (by exact Cn.st_zero))) Hb
    ·
     intro Wr Or βr Gr l0 r0 p un hi0 hI0
     replace hI0 : Cn.okX (L.take k) v many p 0 := hI0
     change Tri _ [(52, .ints ((Cn.withL (Cn.uOf (L.take k) v) v).getD p [])), (51, .clo 127 [.pto [.ls (.intss (Cn.uOf (L.take k) v))], .pto [.int v]]), (4, .pto [.int v]), (5, .pto [.int many]), (6, .loc 0 0), (7, .loc 1 0), (8, .bool false)] [(970, .other l0 (.loop r0)), (0, .box [.int N, .row 10]), (1, .box [.int v, .intss (Cn.uOf (L.take k) v)]), (10, .row 23 (.intss (Cn.stX (L.take k) v p 0)))] _ _
     refine Zt (Tz hcx [(1000, .to 612)] [12] [52] [] (Fn [(970, .to 970), (0, .to 0), (1, .to 1), (10, .to 10), (612, .to 612)] [4, 5, 6, 7, 8, 12, 51] ?_))
     refine fin_assign ?_ ?_
     ·
      exact Eb
     ·
      exact Hb
    ·
     intro Wr Or βr Gr l0 r0 p un hi0 hI0
     replace hI0 : Cn.okX (L.take k) v many p 0 := hI0
     change Tri _ [(51, .clo 127 [.pto [.ls (.intss (Cn.uOf (L.take k) v))], .pto [.int v]]), (4, .pto [.int v]), (5, .pto [.int many]), (6, .loc 0 0), (7, .loc 1 0), (8, .bool false), (12, .loc 612 0)] [(970, .other l0 (.loop r0)), (0, .box [.int N, .row 10]), (1, .box [.int v, .intss (Cn.uOf (L.take k) v)]), (10, .row 23 (.intss (Cn.stX (L.take k) v p 0))), (612, .box [.ints ((Cn.withL (Cn.uOf (L.take k) v) v).getD p [])])] _ _
     refine Zt (Zb (Sq hcx [] [57] [51] [] [Fit (-v), (True)] ?_ (Zb ?_)))
     ·
      refine ap ?_ (ap ?_ az) <;>
       first | (rw [← hOX]; exact hXX) | exact hUU | (first | omega | exact id | exact vcNot | exact vcG | exact vcH | (intro _; omega) | exact (fun _ h => h) | (intro h; simp at h; omega) | (simp only [List.length_cons, List.length_nil, List.length_append, List.length_map, List.length_set, List.length_replicate]; omega) | (intro h; simp [h]; done)) | exact ⟨by have := hpl p hi0; omega, by have := hql q hi1; omega, by omega, by omega⟩ | (have := hm7 k (by omega); exact ⟨by unfold maxLen; omega, by omega, by omega⟩) | (have := hpl p hi0; have := hql q hi1; have := Cn.resQ_len ((Cn.withL (Cn.uOf (L.take k) v) v).getD p []) ((Cn.withL (Cn.uOf (L.take k) v) (-v)).getD q []) v; omega) | (constructor <;> omega) | trivial
     refine tri_ren (ρ := [(0, .to 0), (1, .to 1), (612, .to 2), (10, .to 10), (970, .to 970)]) (keys := [57, 4, 5, 6, 7, 8, 12]) (E' := [(57, .clo 127 [.pto [.ls (.intss (Cn.uOf (L.take k) v))], .pto [.int (-v)]]), (4, .pto [.int v]), (5, .pto [.int many]), (6, .loc 0 0), (7, .loc 1 0), (8, .bool false), (12, .loc 2 0)]) (H' := [(0, .box [.int N, .row 10]), (1, .box [.int v, .intss (Cn.uOf (L.take k) v)]), (2, .box [.ints ((Cn.withL (Cn.uOf (L.take k) v) v).getD p [])]), (10, .row 23 (.intss (Cn.stX (L.take k) v p 0))), (970, .other l0 (.loop r0))]) (by kernel_rfl) ?_
     refine tri_rangeN (X := Unit) 970 l0 r0 rfl rfl with_seq (caps := [.pto [.ls (.intss (Cn.uOf (L.take k) v))], .pto [.int (-v)]]) (by kernel_rfl) (N := (Cn.withL (Cn.uOf (L.take k) v) (-v)).length) (el := fun q => [.ints ((Cn.withL (Cn.uOf (L.take k) v) (-v)).getD q [])]) rfl (by kernel_rfl) ?_ 3 971 (by kernel_rfl) (fun q x0 => Cn.okX (L.take k) v many p q) (fun q x0 => [(0, .box [.int N, .row 10]), (1, .box [.int v, .intss (Cn.uOf (L.take k) v)]), (2, .box [.ints ((Cn.withL (Cn.uOf (L.take k) v) v).getD p [])]), (10, .row 23 (.intss (Cn.stX (L.take k) v p q))), (970, .other l0 (.loop r0))]) (fun q x0 => [(57, .clo 127 [.pto [.ls (.intss (Cn.uOf (L.take k) v))], .pto [.int (-v)]]), (4, .pto [.int v]), (5, .pto [.int many]), (6, .loc 0 0), (7, .loc 1 0), (8, .bool false), (12, .loc 2 0), (13, .ints ((Cn.withL (Cn.uOf (L.take k) v) (-v)).getD q []))]) (fun q x0 => [(0, .box [.int N, .row 10]), (1, .box [.int v, .intss (Cn.uOf (L.take k) v)]), (2, .box [.ints ((Cn.withL (Cn.uOf (L.take k) v) v).getD p [])]), (10, .row 23 (.intss (Cn.stX (L.take k) v p q))), (970, .other l0 (.loop r0))]) (()) ?_ ?_ (fun _ _ => rfl) (fun _ _ _ => by kernel_rfl) ?_ ?_ ?_
     ·
      exact ⟨hit.1, hit.2, by omega, by omega⟩
     ·
      show Cn.okX (L.take k) v many p 0
      exact hI0
     ·
      exact Hb
     ·
      intro Wr Or βr Gr l1 r1 q un2 hi1 hI1
      replace hI1 : Cn.okX (L.take k) v many p q := hI1
      have hsl := Cn.ok_len (by rw [hkL]; exact hm1) hm6 hI1
      change Tri _ [(58, .ints ((Cn.withL (Cn.uOf (L.take k) v) (-v)).getD q [])), (57, .clo 127 [.pto [.ls (.intss (Cn.uOf (L.take k) v))], .pto [.int (-v)]]), (4, .pto [.int v]), (5, .pto [.int many]), (6, .loc 0 0), (7, .loc 1 0), (8, .bool false), (12, .loc 2 0)] [(971, .other l1 (.loop r1)), (0, .box [.int N, .row 10]), (1, .box [.int v, .intss (Cn.uOf (L.take k) v)]), (2, .box [.ints ((Cn.withL (Cn.uOf (L.take k) v) v).getD p [])]), (10, .row 23 (.intss (Cn.stX (L.take k) v p q))), (970, .other l0 (.loop r0))] _ _
      refine Zt (Tz hcx [] [13] [58] [] ?_)
      refine fin_assign ?_ ?_
      ·
       exact Eb
      ·
       exact Hb
     ·
      intro Wr Or βr Gr l1 r1 q un2 hi1 hI1
      replace hI1 : Cn.okX (L.take k) v many p q := hI1
      have hsl := Cn.ok_len (by rw [hkL]; exact hm1) hm6 hI1
      change Tri _ [(57, .clo 127 [.pto [.ls (.intss (Cn.uOf (L.take k) v))], .pto [.int (-v)]]), (4, .pto [.int v]), (5, .pto [.int many]), (6, .loc 0 0), (7, .loc 1 0), (8, .bool false), (12, .loc 2 0), (13, .ints ((Cn.withL (Cn.uOf (L.take k) v) (-v)).getD q []))] [(971, .other l1 (.loop r1)), (0, .box [.int N, .row 10]), (1, .box [.int v, .intss (Cn.uOf (L.take k) v)]), (2, .box [.ints ((Cn.withL (Cn.uOf (L.take k) v) v).getD p [])]), (10, .row 23 (.intss (Cn.stX (L.take k) v p q))), (970, .other l0 (.loop r0))] _ _
      refine Zt (Zb (Sq hcx [(1003, .to 263)] [14] [57, 4, 8, 12, 13] [] [(((Cn.withL (Cn.uOf (L.take k) v) v).getD p []).length ≤ 100000 ∧ ((Cn.withL (Cn.uOf (L.take k) v) (-v)).getD q []).length ≤ 100000 ∧ Fit v)] ?_ (Zs (Sq hcx [] [17] [] [] [((Cn.resL ((Cn.withL (Cn.uOf (L.take k) v) v).getD p []) ((Cn.withL (Cn.uOf (L.take k) v) (-v)).getD q []) v).length ≤ 1000000)] ?_ (Sz hcx [] [71] [17] [] (Zi (b := Cn.tautL (Cn.resL ((Cn.withL (Cn.uOf (L.take k) v) v).getD p []) ((Cn.withL (Cn.uOf (L.take k) v) (-v)).getD q []) v)) (fun h2 => ?_) fun h2 => ?_))))))
      ·
       refine ap ?_ az
       first | (rw [← hOX]; exact hXX) | exact hUU | (first | omega | exact id | exact vcNot | exact vcG | exact vcH | (intro _; omega) | exact (fun _ h => h) | (intro h; simp at h; omega) | (simp only [List.length_cons, List.length_nil, List.length_append, List.length_map, List.length_set, List.length_replicate]; omega) | (intro h; simp [h]; done)) | exact ⟨by have := hpl p hi0; omega, by have := hql q hi1; omega, by omega, by omega⟩ | (have := hm7 k (by omega); exact ⟨by unfold maxLen; omega, by omega, by omega⟩) | (have := hpl p hi0; have := hql q hi1; have := Cn.resQ_len ((Cn.withL (Cn.uOf (L.take k) v) v).getD p []) ((Cn.withL (Cn.uOf (L.take k) v) (-v)).getD q []) v; omega) | (constructor <;> omega) | trivial
      ·
       refine ap ?_ az
       first | (rw [← hOX]; exact hXX) | exact hUU | (first | omega | exact id | exact vcNot | exact vcG | exact vcH | (intro _; omega) | exact (fun _ h => h) | (intro h; simp at h; omega) | (simp only [List.length_cons, List.length_nil, List.length_append, List.length_map, List.length_set, List.length_replicate]; omega) | (intro h; simp [h]; done)) | exact ⟨by have := hpl p hi0; omega, by have := hql q hi1; omega, by omega, by omega⟩ | (have := hm7 k (by omega); exact ⟨by unfold maxLen; omega, by omega, by omega⟩) | (have := hpl p hi0; have := hql q hi1; have := Cn.resQ_len ((Cn.withL (Cn.uOf (L.take k) v) v).getD p []) ((Cn.withL (Cn.uOf (L.take k) v) (-v)).getD q []) v; omega) | (constructor <;> omega) | trivial
      ·
       have ht := h2
       refine Ze (Fe (Fs (Fn [(971, .to 971), (0, .to 0), (1, .to 1), (2, .to 2), (10, .to 10), (970, .to 970)] [] ?_)))
       refine fin_rnext (()) ?_ ?_
       ·
        show Cn.okX (L.take k) v many p (q + 1)
        first | exact Cn.ok_skip hi1 ht hI1 | exact Cn.ok_add hi1 ht (by first | exact Int.not_lt.1 hle | exact hle | omega)
       ·
        exact Hx 10 (congrArg (fun x => AObj.row 23 (.intss x)) (show (Cn.stX (L.take k) v p q) = (Cn.stX (L.take k) v p (q + 1)) from (by first | exact Cn.st_skip hi1 ht | exact Cn.st_add hi1 ht))) Hb
      ·
       have ht := h2
       refine Zk (Ft (Sq hcx [(0, .to 0), (1004, .to 10)] [] [71, 14] [263, 10] [(((Cn.stX (L.take k) v p q).length + [(Cn.resL ((Cn.withL (Cn.uOf (L.take k) v) v).getD p []) ((Cn.withL (Cn.uOf (L.take k) v) (-v)).getD q []) v)].length) * 24 ≤ 140737488355328)] ?_ (Sz hcx [] [82] [] [] (Zj (p := ((((Cn.stX (L.take k) v p q) ++ [(Cn.resL ((Cn.withL (Cn.uOf (L.take k) v) v).getD p []) ((Cn.withL (Cn.uOf (L.take k) v) (-v)).getD q []) v)]).length : Int) > many)) (fun h3 => ?_) fun h3 => ?_))))
       ·
        refine ap ?_ az
        first | (rw [← hOX]; exact hXX) | exact hUU | (first | omega | exact id | exact vcNot | exact vcG | exact vcH | (intro _; omega) | exact (fun _ h => h) | (intro h; simp at h; omega) | (simp only [List.length_cons, List.length_nil, List.length_append, List.length_map, List.length_set, List.length_replicate]; omega) | (intro h; simp [h]; done)) | exact ⟨by have := hpl p hi0; omega, by have := hql q hi1; omega, by omega, by omega⟩ | (have := hm7 k (by omega); exact ⟨by unfold maxLen; omega, by omega, by omega⟩) | (have := hpl p hi0; have := hql q hi1; have := Cn.resQ_len ((Cn.withL (Cn.uOf (L.take k) v) v).getD p []) ((Cn.withL (Cn.uOf (L.take k) v) (-v)).getD q []) v; omega) | (constructor <;> omega) | trivial
       ·
        have hOX : (Cn.outX L v many) = (Cn.stX (L.take k) v p q) ++ [(Cn.resL ((Cn.withL (Cn.uOf (L.take k) v) v).getD p []) ((Cn.withL (Cn.uOf (L.take k) v) (-v)).getD q []) v)] := by have := Cn.st_brk hi0 hi1 ht hI1 h3; rw [hkL] at this ⊢; exact this
        refine Ze (Fo ?_)
        refine fin_ren (ρ := [(971, .to 971), (0, .to 0), (1, .to 1), (2, .to 2), (10, .to 10), (970, .to 970)]) (keys := []) (E' := []) (H' := [(971, .other l1 (.loop r1)), (0, .box [.int N, .row 10]), (1, .box [.int v, .intss (Cn.uOf (L.take k) v)]), (2, .box [.ints ((Cn.withL (Cn.uOf (L.take k) v) v).getD p [])]), (10, .row 23 (.intss ((Cn.stX (L.take k) v p q) ++ [(Cn.resL ((Cn.withL (Cn.uOf (L.take k) v) v).getD p []) ((Cn.withL (Cn.uOf (L.take k) v) (-v)).getD q []) v)]))), (970, .other l0 (.loop r0))]) (by kernel_rfl) ?_
        refine fin_rexit [(0, .box [.int N, .row 10]), (1, .box [.int v, .intss (Cn.uOf (L.take k) v)]), (2, .box [.ints ((Cn.withL (Cn.uOf (L.take k) v) v).getD p [])]), (10, .row 23 (.intss ((Cn.stX (L.take k) v p q) ++ [(Cn.resL ((Cn.withL (Cn.uOf (L.take k) v) v).getD p []) ((Cn.withL (Cn.uOf (L.take k) v) (-v)).getD q []) v)]))), (970, .other l0 (.loop r0))] rfl (by kernel_rfl) ?_
        change Fin _ [(57, .clo 127 [.pto [.ls (.intss (Cn.uOf (L.take k) v))], .pto [.int (-v)]]), (4, .pto [.int v]), (5, .pto [.int many]), (6, .loc 0 0), (7, .loc 1 0), (8, .bool false), (12, .loc 2 0)] [(0, .box [.int N, .row 10]), (1, .box [.int v, .intss (Cn.uOf (L.take k) v)]), (2, .box [.ints ((Cn.withL (Cn.uOf (L.take k) v) v).getD p [])]), (10, .row 23 (.intss ((Cn.stX (L.take k) v p q) ++ [(Cn.resL ((Cn.withL (Cn.uOf (L.take k) v) v).getD p []) ((Cn.withL (Cn.uOf (L.take k) v) (-v)).getD q []) v)]))), (970, .other l0 (.loop r0))] _ _
        refine Zf (Fo (Fo ?_))
        refine fin_ren (ρ := [(970, .to 970), (0, .to 0), (1, .to 1), (10, .to 10)]) (keys := []) (E' := []) (H' := [(970, .other l0 (.loop r0)), (0, .box [.int N, .row 10]), (1, .box [.int v, .intss (Cn.uOf (L.take k) v)]), (10, .row 23 (.intss ((Cn.stX (L.take k) v p q) ++ [(Cn.resL ((Cn.withL (Cn.uOf (L.take k) v) v).getD p []) ((Cn.withL (Cn.uOf (L.take k) v) (-v)).getD q []) v)])))]) (by kernel_rfl) ?_
        refine fin_rexit [(0, .box [.int N, .row 10]), (1, .box [.int v, .intss (Cn.uOf (L.take k) v)]), (10, .row 23 (.intss ((Cn.stX (L.take k) v p q) ++ [(Cn.resL ((Cn.withL (Cn.uOf (L.take k) v) v).getD p []) ((Cn.withL (Cn.uOf (L.take k) v) (-v)).getD q []) v)])))] rfl (by kernel_rfl) ⟨by kernel_rfl, fun D0 => ?_⟩
        change Fin _ [(51, .clo 127 [.pto [.ls (.intss (Cn.uOf (L.take k) v))], .pto [.int v]]), (4, .pto [.int v]), (5, .pto [.int many]), (6, .loc 0 0), (7, .loc 1 0), (8, .bool false)] [(989, .other D0 dfr), (0, .box [.int N, .row 10]), (1, .box [.int v, .intss (Cn.uOf (L.take k) v)]), (10, .row 23 (.intss ((Cn.stX (L.take k) v p q) ++ [(Cn.resL ((Cn.withL (Cn.uOf (L.take k) v) v).getD p []) ((Cn.withL (Cn.uOf (L.take k) v) (-v)).getD q []) v)])))] _ _
        refine Zf (Fs (Ft (Zs (Zn [(0, .to 0), (1, .to 1), (989, .to 989), (10, .frz)] [51, 4, 5, 6, 7, 8] (Td hcx hmx [0, 1, 3, 0, 8, 31, 7, 127, 255, 511] [(0, .to 0), (1, .to 1), (1002, .to 285), (1005, .to 288)] [] [51, 4, 8] [] [(((Cn.stX (L.take k) v p q) ++ [(Cn.resL ((Cn.withL (Cn.uOf (L.take k) v) v).getD p []) ((Cn.withL (Cn.uOf (L.take k) v) (-v)).getD q []) v)]).length ≤ 1000000 ∧ ∀ l ∈ ((Cn.stX (L.take k) v p q) ++ [(Cn.resL ((Cn.withL (Cn.uOf (L.take k) v) v).getD p []) ((Cn.withL (Cn.uOf (L.take k) v) (-v)).getD q []) v)]), l.length ≤ 1000000), ((Cn.uOf (L.take k) v).length ≤ 1000000 ∧ ∀ l ∈ (Cn.uOf (L.take k) v), l.length ≤ 1000000)] ?_ (Ft (Sd hcx hmx [0, 0, 0, 4, 12, 0, 60, 13, 143, 511] [(0, .to 0), (1, .to 1)] [8] [5] [] [] az (Zr (Fx (Fn [(285, .to 0), (288, .to 1), (989, .to 989), (0, .to 990), (1, .to 991)] [6, 7, 8] (Fq [(6, .loc 990 0), (7, .loc 991 0), (8, .bool (decide ((((Cn.stX (L.take k) v p q) ++ [(Cn.resL ((Cn.withL (Cn.uOf (L.take k) v) v).getD p []) ((Cn.withL (Cn.uOf (L.take k) v) (-v)).getD q []) v)]).length : Int) ≤ many)))] [(0, .row 23 (.intss ((Cn.stX (L.take k) v p q) ++ [(Cn.resL ((Cn.withL (Cn.uOf (L.take k) v) v).getD p []) ((Cn.withL (Cn.uOf (L.take k) v) (-v)).getD q []) v)]))), (1, .row 23 (.intss (Cn.uOf (L.take k) v))), (989, .other D0 dfr), (990, .box [.int N, .row 0]), (991, .box [.int v, .row 1])] (fin_retM _ rfl [(989, D0)] rfl rfl ⟨rfl, trivial⟩ hcx (avs := [.agg [.int N, .row 0], .agg [.int v, .row 1], .bool (decide ((((Cn.stX (L.take k) v p q) ++ [(Cn.resL ((Cn.withL (Cn.uOf (L.take k) v) v).getD p []) ((Cn.withL (Cn.uOf (L.take k) v) (-v)).getD q []) v)]).length : Int) ≤ many))]) (by kernel_rfl) (congrArg AV.tup (consE rfl (consE rfl (consE (congrArg AV.bool (show (decide ((((Cn.stX (L.take k) v p q) ++ [(Cn.resL ((Cn.withL (Cn.uOf (L.take k) v) v).getD p []) ((Cn.withL (Cn.uOf (L.take k) v) (-v)).getD q []) v)]).length : Int) ≤ many)) = (decide (((Cn.outX L v many).length : Int) ≤ many)) from (by rw [hOX]))) rfl)))) [true, true] (Eq.trans (show _ = [some (.row 23 (.intss ((Cn.stX (L.take k) v p q) ++ [(Cn.resL ((Cn.withL (Cn.uOf (L.take k) v) v).getD p []) ((Cn.withL (Cn.uOf (L.take k) v) (-v)).getD q []) v)]))), some (.row 23 (.intss (Cn.uOf (L.take k) v)))] from by kernel_rfl) (consO (congrArg some (congrArg (fun x => AObj.row 23 (.intss x)) (show ((Cn.stX (L.take k) v p q) ++ [(Cn.resL ((Cn.withL (Cn.uOf (L.take k) v) v).getD p []) ((Cn.withL (Cn.uOf (L.take k) v) (-v)).getD q []) v)]) = (Cn.outX L v many) from (by exact hOX.symm)))) (consO (congrArg some (congrArg (fun x => AObj.row 23 (.intss x)) (show (Cn.uOf (L.take k) v) = (Cn.uOf L v) from (by rw [hkL])))) rfl)))))))))))))))
        ·
         refine ap ?_ (ap ?_ az) <;>
          first | (rw [← hOX]; exact hXX) | exact hUU | (first | omega | exact id | exact vcNot | exact vcG | exact vcH | (intro _; omega) | exact (fun _ h => h) | (intro h; simp at h; omega) | (simp only [List.length_cons, List.length_nil, List.length_append, List.length_map, List.length_set, List.length_replicate]; omega) | (intro h; simp [h]; done)) | exact ⟨by have := hpl p hi0; omega, by have := hql q hi1; omega, by omega, by omega⟩ | (have := hm7 k (by omega); exact ⟨by unfold maxLen; omega, by omega, by omega⟩) | (have := hpl p hi0; have := hql q hi1; have := Cn.resQ_len ((Cn.withL (Cn.uOf (L.take k) v) v).getD p []) ((Cn.withL (Cn.uOf (L.take k) v) (-v)).getD q []) v; omega) | (constructor <;> omega) | trivial
       ·
        have hle := h3
        refine Zk (Fb (Fn [(971, .to 971), (0, .to 0), (1, .to 1), (2, .to 2), (10, .to 10), (970, .to 970)] [] ?_))
        refine fin_rnext (()) ?_ ?_
        ·
         show Cn.okX (L.take k) v many p (q + 1)
         first | exact Cn.ok_skip hi1 ht hI1 | exact Cn.ok_add hi1 ht (by first | exact Int.not_lt.1 hle | exact hle | omega)
        ·
         exact Hx 10 (congrArg (fun x => AObj.row 23 (.intss x)) (show ((Cn.stX (L.take k) v p q) ++ [(Cn.resL ((Cn.withL (Cn.uOf (L.take k) v) v).getD p []) ((Cn.withL (Cn.uOf (L.take k) v) (-v)).getD q []) v)]) = (Cn.stX (L.take k) v p (q + 1)) from (by first | exact Cn.st_skip hi1 ht | exact Cn.st_add hi1 ht))) Hb
     ·
      intro un2 hI1
      replace hI1 : Cn.okX (L.take k) v many p ((Cn.withL (Cn.uOf (L.take k) v) (-v)).length) := hI1
      change Fin _ [(57, .clo 127 [.pto [.ls (.intss (Cn.uOf (L.take k) v))], .pto [.int (-v)]]), (4, .pto [.int v]), (5, .pto [.int many]), (6, .loc 0 0), (7, .loc 1 0), (8, .bool false), (12, .loc 2 0)] [(0, .box [.int N, .row 10]), (1, .box [.int v, .intss (Cn.uOf (L.take k) v)]), (2, .box [.ints ((Cn.withL (Cn.uOf (L.take k) v) v).getD p [])]), (10, .row 23 (.intss (Cn.stX (L.take k) v p ((Cn.withL (Cn.uOf (L.take k) v) (-v)).length)))), (970, .other l0 (.loop r0))] _ _
      refine Zf (Fb (Fb (Fn [(970, .to 970), (0, .to 0), (1, .to 1), (10, .to 10)] [] ?_)))
      refine fin_rnext (()) ?_ ?_
      ·
       show Cn.okX (L.take k) v many (p + 1) 0
       exact Cn.ok_next hi0 hI1
      ·
       exact Hx 10 (congrArg (fun x => AObj.row 23 (.intss x)) (show (Cn.stX (L.take k) v p ((Cn.withL (Cn.uOf (L.take k) v) (-v)).length)) = (Cn.stX (L.take k) v (p + 1) 0) from (by exact Cn.st_next hi0))) Hb
    ·
     intro D0 un hI0
     replace hI0 : Cn.okX (L.take k) v many ((Cn.withL (Cn.uOf (L.take k) v) v).length) 0 := hI0
     have hOX : (Cn.outX L v many) = (Cn.stX (L.take k) v (Cn.withL (Cn.uOf (L.take k) v) v).length 0) := by have := Cn.st_end hI0; rw [hkL] at this ⊢; exact this
     change Fin _ [(51, .clo 127 [.pto [.ls (.intss (Cn.uOf (L.take k) v))], .pto [.int v]]), (4, .pto [.int v]), (5, .pto [.int many]), (6, .loc 0 0), (7, .loc 1 0), (8, .bool false)] [(989, .other D0 dfr), (0, .box [.int N, .row 10]), (1, .box [.int v, .intss (Cn.uOf (L.take k) v)]), (10, .row 23 (.intss (Cn.stX (L.take k) v ((Cn.withL (Cn.uOf (L.take k) v) v).length) 0)))] _ _
     refine Zf (Fb (Ft (Zs (Zn [(0, .to 0), (1, .to 1), (989, .to 989), (10, .frz)] [51, 4, 5, 6, 7, 8] (Td hcx hmx [0, 1, 3, 0, 8, 31, 7, 127, 255, 511] [(0, .to 0), (1, .to 1), (1002, .to 285), (1005, .to 288)] [] [51, 4, 8] [] [((Cn.stX (L.take k) v ((Cn.withL (Cn.uOf (L.take k) v) v).length) 0).length ≤ 1000000 ∧ ∀ l ∈ (Cn.stX (L.take k) v ((Cn.withL (Cn.uOf (L.take k) v) v).length) 0), l.length ≤ 1000000), ((Cn.uOf (L.take k) v).length ≤ 1000000 ∧ ∀ l ∈ (Cn.uOf (L.take k) v), l.length ≤ 1000000)] ?_ (Ft (Sd hcx hmx [0, 0, 0, 4, 12, 0, 60, 13, 143, 511] [(0, .to 0), (1, .to 1)] [8] [5] [] [] az (Zr (Fx (Fn [(285, .to 0), (288, .to 1), (989, .to 989), (0, .to 990), (1, .to 991)] [6, 7, 8] (Fq [(6, .loc 990 0), (7, .loc 991 0), (8, .bool (decide (((Cn.stX (L.take k) v ((Cn.withL (Cn.uOf (L.take k) v) v).length) 0).length : Int) ≤ many)))] [(0, .row 23 (.intss (Cn.stX (L.take k) v ((Cn.withL (Cn.uOf (L.take k) v) v).length) 0))), (1, .row 23 (.intss (Cn.uOf (L.take k) v))), (989, .other D0 dfr), (990, .box [.int N, .row 0]), (991, .box [.int v, .row 1])] (fin_retM _ rfl [(989, D0)] rfl rfl ⟨rfl, trivial⟩ hcx (avs := [.agg [.int N, .row 0], .agg [.int v, .row 1], .bool (decide (((Cn.stX (L.take k) v ((Cn.withL (Cn.uOf (L.take k) v) v).length) 0).length : Int) ≤ many))]) (by kernel_rfl) (congrArg AV.tup (consE rfl (consE rfl (consE (congrArg AV.bool (show (decide (((Cn.stX (L.take k) v ((Cn.withL (Cn.uOf (L.take k) v) v).length) 0).length : Int) ≤ many)) = (decide (((Cn.outX L v many).length : Int) ≤ many)) from (by rw [hOX]))) rfl)))) [true, true] (Eq.trans (show _ = [some (.row 23 (.intss (Cn.stX (L.take k) v ((Cn.withL (Cn.uOf (L.take k) v) v).length) 0))), some (.row 23 (.intss (Cn.uOf (L.take k) v)))] from by kernel_rfl) (consO (congrArg some (congrArg (fun x => AObj.row 23 (.intss x)) (show (Cn.stX (L.take k) v ((Cn.withL (Cn.uOf (L.take k) v) v).length) 0) = (Cn.outX L v many) from (by exact hOX.symm)))) (consO (congrArg some (congrArg (fun x => AObj.row 23 (.intss x)) (show (Cn.uOf (L.take k) v) = (Cn.uOf L v) from (by rw [hkL])))) rfl)))))))))))))))
     ·
      refine ap ?_ (ap ?_ az) <;>
       first | (rw [← hOX]; exact hXX) | exact hUU | (first | omega | exact id | exact vcNot | exact vcG | exact vcH | (intro _; omega) | exact (fun _ h => h) | (intro h; simp at h; omega) | (simp only [List.length_cons, List.length_nil, List.length_append, List.length_map, List.length_set, List.length_replicate]; omega) | (intro h; simp [h]; done)) | exact ⟨by have := hpl p hi0; omega, by have := hql q hi1; omega, by omega, by omega⟩ | (have := hm7 k (by omega); exact ⟨by unfold maxLen; omega, by omega, by omega⟩) | (have := hpl p hi0; have := hql q hi1; have := Cn.resQ_len ((Cn.withL (Cn.uOf (L.take k) v) v).getD p []) ((Cn.withL (Cn.uOf (L.take k) v) (-v)).getD q []) v; omega) | (constructor <;> omega) | trivial
 ·
  cases hσ
def cx_eOutF : Cx := ⟨tyElim, [(27, (coeF [.agg [.id, .ld (.intss [])]] cCheck_σ)), (74, (coeF [.agg [.id, .ld (.intss [])], .id, .id] eOut_σ))], false⟩
theorem cx_eOutF_ok : CxOk Tryz.prog cx_eOutF := cx_ok tyElim_ok ⟨(cCheck_sound.coe [.agg [.id, .ld (.intss [])]] rfl), (eOut_sound.coe [.agg [.id, .ld (.intss [])], .id, .id] rfl), trivial⟩
def eOutF_σ : CtF
  | [.agg [.im (.val (.int .i64 N)), .im (.ls (.intss L))], .im (.val (.int .i64 v))], [] => some (L.length ≤ 10000 ∧ (∀ l ∈ L, l.length ≤ 1000), .tup [.agg [.int (Cn.ouN N L v), .row 0], .agg [.int (Cn.ouV N L v), .row 1], .int (Cn.ouE N L v)], [some (.row 23 (.intss (Cn.ouX N L v))), some (.row 23 (.intss (Cn.ouU N L v)))])
  | _, _ => none
theorem eOutF_sound : Sound Tryz.prog 33 eOutF_σ := by
 refine Sw (cx := cx_eOutF) Tryz.f33 Tryz.func33 ?_
 intro wW wO wβ G0 args os p r outs hσ hp
 have hcx := cx_eOutF_ok
 have hmx : Tryz.prog.follows .mixedOrders = true := by kernel_rfl
 unfold eOutF_σ at hσ
 split at hσ
 ·
  rename_i N L v
  cases hσ
  refine ⟨by kernel_rfl, ?_⟩
  obtain ⟨hm1, hm2⟩ := hp
  have hck : L.length ≤ maxLen ∧ ∀ l ∈ L, l.length ≤ maxLen := ⟨by unfold maxLen; omega, fun l hl => by have := hm2 l hl; unfold maxLen; omega⟩
  refine Sz hcx [(1001, .to 604), (1002, .to 605), (1000, .frz)] [2, 4, 5] [0] [] (Zs (Sq hcx [] [6] [] [] [(L.length ≤ maxLen ∧ ∀ l ∈ L, l.length ≤ maxLen)] ?_ (Sz hcx [] [13] [] [] (Zx (a := (Cn.chkV N L)) (b := 0) (fun h0 => ?_) fun h0 => ?_))))
  ·
   refine ap ?_ az
   first | exact hck | (first | omega | exact id | exact vcNot | exact vcG | exact vcH | (intro _; omega) | exact (fun _ h => h) | (intro h; simp at h; omega) | (simp only [List.length_cons, List.length_nil, List.length_append, List.length_map, List.length_set, List.length_replicate]; omega) | (intro h; simp [h]; done)) | exact ⟨hm1, hm2, by omega, by omega, by omega, by omega⟩ | trivial
  ·
   obtain ⟨hA, hB, hC, hD, hE⟩ := Cn.ou_no (v := v) (Cn.ou_chk h0) h0
   exact Sd hcx hmx [0, 0, 0, 1, 11, 31] [(604, .to 604), (605, .to 605)] [6] [13, 2, 1] [] [] az (Zr (Fr (Fv 604 1 700 23 (.intss []) (Fv 605 1 701 23 (.intss []) (Fn [(700, .to 0), (701, .to 1), (604, .to 990), (605, .to 991)] [4, 5, 6] (Rv hcx (congrArg AV.tup (consE (congrArg AV.agg (consE (congrArg AV.int (show 0 = (Cn.ouN N L v) from (by first | exact hA.symm | exact hC.symm | exact hE.symm))) rfl)) (consE (congrArg AV.agg (consE (congrArg AV.int (show 0 = (Cn.ouV N L v) from (by first | exact hA.symm | exact hC.symm | exact hE.symm))) rfl)) (consE (congrArg AV.int (show (Cn.chkV N L) = (Cn.ouE N L v) from (by first | exact hA.symm | exact hC.symm | exact hE.symm))) rfl)))) [true, true] (consO (congrArg some (congrArg (fun x => AObj.row 23 (.intss x)) (show [] = (Cn.ouX N L v) from (by exact hB.symm)))) (consO (congrArg some (congrArg (fun x => AObj.row 23 (.intss x)) (show [] = (Cn.ouU N L v) from (by exact hD.symm)))) rfl))))))))
  ·
   have hc0 : Cn.chkV N L = 0 := h0
   have hN := Cn.chkV_0.1 hc0
   refine Zk (Ft (Zs (Sq hcx [] [24] [13, 6] [] [((!(decide (v < 1))) = true → ((!(decide (v < 1))) = true)), ((!(decide (v < 1))) = true → ((!(decide (v < 1))) = true)), ((!(decide (v < 1))) = true → ((!(decide (v < 1))) = true)), ((decide (v < 1)) = false → (!(decide (v < 1))) = true)] ?_ (Zi (b := (decide (v < 1)) || (decide (v > N))) (fun h1 => ?_) fun h1 => ?_))))
   ·
    refine ap ?_ (ap ?_ (ap ?_ (ap (by exact vcNot) az))) <;>
     first | exact hck | (first | omega | exact id | exact vcNot | exact vcG | exact vcH | (intro _; omega) | exact (fun _ h => h) | (intro h; simp at h; omega) | (simp only [List.length_cons, List.length_nil, List.length_append, List.length_map, List.length_set, List.length_replicate]; omega) | (intro h; simp [h]; done)) | exact ⟨hm1, hm2, by omega, by omega, by omega, by omega⟩ | trivial
   ·
    try simp only [Bool.or_eq_true, Bool.or_eq_false_iff, Bool.and_eq_true, Bool.and_eq_false_iff, Bool.not_eq_true', Bool.not_eq_false', decide_eq_true_eq, decide_eq_false_iff_not, bne_iff_ne, bne_eq_false_iff_eq, beq_iff_eq, beq_eq_false_iff_ne] at h1
    obtain ⟨hA, hB, hC, hD, hE⟩ := Cn.ou_no (Cn.ou_lit hc0 (by omega)) (by decide)
    exact Sd hcx hmx [0, 0, 1, 7, 15] [(604, .to 604), (605, .to 605)] [6] [24, 2, 1] [] [] az (Zr (Fr (Fv 604 1 700 23 (.intss []) (Fv 605 1 701 23 (.intss []) (Fn [(700, .to 0), (701, .to 1), (604, .to 990), (605, .to 991)] [4, 5, 6] (Rv hcx (congrArg AV.tup (consE (congrArg AV.agg (consE (congrArg AV.int (show 0 = (Cn.ouN N L v) from (by first | exact hA.symm | exact hC.symm | exact hE.symm))) rfl)) (consE (congrArg AV.agg (consE (congrArg AV.int (show 0 = (Cn.ouV N L v) from (by first | exact hA.symm | exact hC.symm | exact hE.symm))) rfl)) (consE (congrArg AV.int (show 140 = (Cn.ouE N L v) from (by first | exact hA.symm | exact hC.symm | exact hE.symm))) rfl)))) [true, true] (consO (congrArg some (congrArg (fun x => AObj.row 23 (.intss x)) (show [] = (Cn.ouX N L v) from (by exact hB.symm)))) (consO (congrArg some (congrArg (fun x => AObj.row 23 (.intss x)) (show [] = (Cn.ouU N L v) from (by exact hD.symm)))) rfl))))))))
   ·
    try simp only [Bool.or_eq_true, Bool.or_eq_false_iff, Bool.and_eq_true, Bool.and_eq_false_iff, Bool.not_eq_true', Bool.not_eq_false', decide_eq_true_eq, decide_eq_false_iff_not, bne_iff_ne, bne_eq_false_iff_eq, beq_iff_eq, beq_eq_false_iff_ne] at h1
    have hv : ¬ (v < 1 ∨ N < v) := by omega
    refine Zk (Ft (Sq hcx [(1002, .to 230), (1007, .to 607), (1008, .to 608), (2002, .to 900)] [7, 8, 9] [24, 2, 1] [] [(L.length ≤ 10000 ∧ (∀ l ∈ L, l.length ≤ 1000) ∧ 1 ≤ v ∧ v ≤ 65536 ∧ 0 ≤ (65536 : Int) ∧ (65536 : Int) ≤ 65536)] ?_ (Zs (Sz hcx [] [35] [9] [] (Zi (b := !(decide (((Cn.outX L v (65536 : Int)).length : Int) ≤ (65536 : Int)))) (fun h2 => ?_) fun h2 => ?_)))))
    ·
     refine ap ?_ az
     first | exact hck | (first | omega | exact id | exact vcNot | exact vcG | exact vcH | (intro _; omega) | exact (fun _ h => h) | (intro h; simp at h; omega) | (simp only [List.length_cons, List.length_nil, List.length_append, List.length_map, List.length_set, List.length_replicate]; omega) | (intro h; simp [h]; done)) | exact ⟨hm1, hm2, by omega, by omega, by omega, by omega⟩ | trivial
    ·
     obtain ⟨hA, hB, hC, hD, hE⟩ := Cn.ou_no (Cn.ou_big hc0 hv (by simpa using h2)) (by decide)
     exact Sd hcx hmx [0, 0, 1, 7, 15] [(604, .to 604), (605, .to 605)] [6] [35, 7, 8] [230, 607, 608, 900] [] az (Zr (Fr (Fv 604 1 700 23 (.intss []) (Fv 605 1 701 23 (.intss []) (Fn [(700, .to 0), (701, .to 1), (604, .to 990), (605, .to 991)] [4, 5, 6] (Rv hcx (congrArg AV.tup (consE (congrArg AV.agg (consE (congrArg AV.int (show 0 = (Cn.ouN N L v) from (by first | exact hA.symm | exact hC.symm | exact hE.symm))) rfl)) (consE (congrArg AV.agg (consE (congrArg AV.int (show 0 = (Cn.ouV N L v) from (by first | exact hA.symm | exact hC.symm | exact hE.symm))) rfl)) (consE (congrArg AV.int (show 2 = (Cn.ouE N L v) from (by first | exact hA.symm | exact hC.symm | exact hE.symm))) rfl)))) [true, true] (consO (congrArg some (congrArg (fun x => AObj.row 23 (.intss x)) (show [] = (Cn.ouX N L v) from (by exact hB.symm)))) (consO (congrArg some (congrArg (fun x => AObj.row 23 (.intss x)) (show [] = (Cn.ouU N L v) from (by exact hD.symm)))) rfl))))))))
    ·
     obtain ⟨hE, hA, hB, hC, hD⟩ := Cn.ou_ok hc0 hv (by simpa using h2)
     exact Zk (Ft (Sd hcx hmx [0, 0, 1, 7, 15] [(604, .to 604), (605, .to 605)] [6] [35, 7, 8] [607, 608] [] az (Zr (Fn [(230, .to 0), (900, .to 1), (604, .to 990), (605, .to 991)] [4, 5, 6] (Rv hcx (congrArg AV.tup (consE (congrArg AV.agg (consE (congrArg AV.int (show N = (Cn.ouN N L v) from (by first | exact hA.symm | exact hC.symm | exact hE.symm))) rfl)) (consE (congrArg AV.agg (consE (congrArg AV.int (show v = (Cn.ouV N L v) from (by first | exact hA.symm | exact hC.symm | exact hE.symm))) rfl)) (consE (congrArg AV.int (show 0 = (Cn.ouE N L v) from (by first | exact hA.symm | exact hC.symm | exact hE.symm))) rfl)))) [true, true] (consO (congrArg some (congrArg (fun x => AObj.row 23 (.intss x)) (show (Cn.outX L v (65536 : Int)) = (Cn.ouX N L v) from (by exact hB.symm)))) (consO (congrArg some (congrArg (fun x => AObj.row 23 (.intss x)) (show (Cn.uOf L v) = (Cn.ouU N L v) from (by exact hD.symm)))) rfl)))))))
 ·
  cases hσ
end Go.Proofs.YtbpbndlgfiammaaGreatDoor.En
