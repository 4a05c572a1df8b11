/- elim.with's iterator: it yields the clauses that contain x but not its negation. -/
import Derived.Test.YthhfdjcaafckbaaCnfS
import Derived.Test.YthhfdjcaafckbaaEngCallG
import Derived.Test.YthhfdjcaafckbaaElimP
import Derived.Lib.Hide
import Derived.Shelf.SlIter.Collect
set_option linter.unusedSimpArgs false
set_option linter.unusedVariables false
set_option linter.unnecessarySimpa false
namespace Go.Proofs.Ythhfdjcaafckbaa.En
open Go Go.RowKit

def with_it : ItF
  | [.pto [.ls (.intss c)], .pto [.val (.int .i64 x)]] => some (c.length ≤ maxLen ∧ (∀ l ∈ c, l.length ≤ maxLen) ∧ -65536 ≤ x ∧ x ≤ 65536, (Cn.withL c x).length, fun i => [.ints ((Cn.withL c x).getD i [])])
  | _ => none
theorem contains_x {G : Nat → Prop} {W : World} (hG : ∀ b, G b → b < W.heap.size) (hgl : GlOk (g0 W G)) {l : List Int} {v : Value} {y : Int} (hl : l.length ≤ maxLen) (hv : Den (g0 W G) (.ints l) v) :
    CallsIn (FR none) 2 Try.prog 43 #[v, I64 y] W fun e W' => e = .returned (.bool (l.contains y)) ∧ Below W.heap.size W W' := by
  have h := sContains_sound.callsG hG hgl (args := [.ints l, .int y]) (vs := [v, I64 y]) rfl hl (by simp only [DenL]; exact ⟨_, _, rfl, hv, _, _, rfl, .val _, rfl⟩)
  refine callsIn_fr.2 (Calls.mono h fun e w' he => ?_)
  obtain ⟨u, rfl, hb, g', _, _, hd⟩ := he
  rw [den_val hd]
  exact ⟨rfl, hb⟩
set_option maxRecDepth 100000 in
set_option maxHeartbeats 1000000 in
theorem with_x {G : Nat → Prop} {W : World} (hG : ∀ b, G b → b < W.heap.size) (hgl : GlOk (g0 W G)) (vv : Nat → Value) (c : List (List Int)) (A : Option Addr) (cp p1 o1 p2 o2 : Nat) (x : Int)
    (h1 : W.cell? ⟨p1, o1, none⟩ = some (.slice A c.length cp)) (g1 : G p1) (h2 : W.cell? ⟨p2, o2, none⟩ = some (I64 x)) (g2 : G p2)
    (hA : ∀ k, k < c.length → ∃ b off, A = some ⟨b, off, none⟩ ∧ G b ∧ W.cell? ⟨b, off + k, none⟩ = some (vv k)) (hv : ∀ k, k < c.length → Den (g0 W G) (.ints (c.getD k [])) (vv k))
    (hl : c.length ≤ maxLen) (hll : ∀ l ∈ c, l.length ≤ maxLen) (hx1 : -65536 ≤ x) (hx2 : x ≤ 65536) :
    SeqX Try.prog 63 #[.pointer (some ⟨p1, o1, none⟩), .pointer (some ⟨p2, o2, none⟩)] (KRG G) (Cn.wIdx c x c.length).length (fun j => #[vv ((Cn.wIdx c x c.length).getD j 0)]) W := by
  intro l J Jx Z W1 hKR hJs hJxs hY h0
  unfold maxLen at hl
  have HC1 := Lib.hid (fun (W' : World) (h : KRG G W W') => (World.cell?_of_block (a := ⟨p1, o1, none⟩) (h p1 g1)).trans h1)
  have HC2 := Lib.hid (fun (W' : World) (h : KRG G W W') => (World.cell?_of_block (a := ⟨p2, o2, none⟩) (h p2 g2)).trans h2)
  have HA := Lib.hid (fun k (hk : k < c.length) (W' : World) (h : KRG G W W') => by
    obtain ⟨b, off, e, hb, hc⟩ := hA k hk
    exact (⟨b, off, e, (World.cell?_of_block (a := ⟨b, off + k, none⟩) (h b hb)).trans hc⟩ : ∃ b off, A = some ⟨b, off, none⟩ ∧ W'.cell? ⟨b, off + k, none⟩ = some (vv k)))
  have HCN := Lib.hid (fun k (hk : k < c.length) (y : Int) (W' : World) (h : KRG G W W') =>
    contains_x (G := G) (W := W') (y := y) (krg_lt hG h) (hgl.up (krg_le h)) (hll _ (Cn.getD_memL hk)) (Den.mono (krg_le h) _ _ (hv k hk)))
  have HJ := Lib.hid hJs
  have HY := Lib.hid hY
  have HG := Lib.hid hG
  have HK := Lib.hid hKR
  have H0 := Lib.hid h0
  clear h1 h2 hA hv hll hgl hJs hY hG hJxs h0 hKR
  refine callsIn_fr.1 (callsIn_of_wp (F := FR none) (n := 3) Try.func63 rfl trivial ?_ rfl)
  simp only [Try.ntmps63, List.size_toArray, List.length_cons, List.length_nil, Nat.reduceAdd, Nat.reduceSub, Array.replicate_succ, Array.replicate_zero, List.push_toArray, List.append_toArray, List.nil_append, List.cons_append]
  have hro : (FR none).round = none := rfl
  have hc1 := HC1.out W1 HK.out
  gi_wp2_with fail
  clear hc1
  gi_loopw [5, 8] (fun _ kv wr => ∃ (k : Nat) (Z : Nat → Prop), kv = .int .i64 k ∧ k ≤ c.length ∧ KRG G W wr ∧ J (Cn.wIdx c x k).length Z wr) (fun _ kv _ => c.length - (intOf kv).toNat)
  case atStart => exact ⟨0, Z, rfl, Nat.zero_le _, HK.out, H0.out⟩
  case round =>
    obtain ⟨k, Z2, rfl, hk, hkr, hj⟩ := hrel
    have HKR := Lib.hid hkr
    have HJ2 := Lib.hid hj
    clear hkr hj
    by_cases hlt : k < c.length
    · obtain ⟨b, off, rfl, hcell⟩ := HA.out k hlt wr HKR.out
      have HCK := Lib.hid (HCN.out k hlt)
      have HPA := Lib.hid (fun h => Cn.wIdx_at (c := c) (x := x) (n := c.length) hlt h)
      have HPS := Lib.hid (Cn.wIdx_succ (c := c) (x := x) (k := k))
      have HWP := Lib.hid (show Cn.wP x (c.getD k []) = ((c.getD k []).contains x && !((c.getD k []).contains (-x))) from rfl)
      generalize c.getD k [] = ck at HCK HPA HPS HWP
      have hc2 := HC2.out wr HKR.out
      have hng : wrap64 (-x) = -x := by unfold wrap64; omega
      have next : ∀ (w2 : World), Cn.wP x ck = false → KRG G W w2 → (∃ Z, J (Cn.wIdx c x k).length Z w2) → ∃ (k' : Nat) (Z : Nat → Prop), Value.int .i64 (k + 1 : Nat) = .int .i64 k' ∧ k' ≤ c.length ∧ KRG G W w2 ∧ J (Cn.wIdx c x k').length Z w2 := fun w2 h1 h2 ⟨Z, h3⟩ => by
        refine ⟨k + 1, Z, rfl, hlt, h2, ?_⟩
        rw [HPS.out, h1, if_neg (by simp)]; exact h3
      have HNX := Lib.hid next
      clear next
      gi_wp2_with fail
      refine ⟨trivial, (HCK.out x wr HKR.out).mono ?_⟩
      rintro e w2 ⟨rfl, hb2⟩
      have hk2 := krg_below HKR.out (krg_lt HG.out HKR.out) hb2
      have HK2 := Lib.hid hk2
      have HJ3 := Lib.hid (HJ.out _ _ _ _ HJ2.out (kp_no hb2 Z2))
      have hc3 := HC2.out w2 hk2
      clear hb2 hk2 hc2
      cases hB1 : ck.contains x with
      | false =>
        have HNO := Lib.hid (show Cn.wP x ck = false by rw [HWP.out, hB1]; rfl)
        clear hB1
        gi_wp2_with fail
        refine ⟨trivial, ?_⟩
        gi_wp2_with fail
        refine ⟨fun f hf => (by cases hf), ?_⟩
        gi_wp2_with fail
        go_roundw
        case rel => exact HNX.out _ HNO.out HK2.out ⟨_, HJ3.out⟩
        case measure => simp [intOf]; omega
      | true =>
        gi_wp2_with fail
        refine ⟨trivial, (HCK.out (-x) w2 HK2.out).mono ?_⟩
        rintro e w3 ⟨rfl, hb3⟩
        have HK3 := Lib.hid (krg_below HK2.out (krg_lt HG.out HK2.out) hb3)
        have HJ4 := Lib.hid (HJ.out _ _ _ _ HJ3.out (kp_no hb3 _))
        clear hb3
        cases hB2 : ck.contains (-x) with
        | true =>
          have HNO := Lib.hid (show Cn.wP x ck = false by rw [HWP.out, hB1, hB2]; rfl)
          clear hB1 hB2
          gi_wp2_with fail
          refine ⟨fun f hf => (by cases hf), ?_⟩
          gi_wp2_with fail
          go_roundw
          case rel => exact HNX.out _ HNO.out HK3.out ⟨_, HJ4.out⟩
          case measure => simp [intOf]; omega
        | false =>
          have HYS := Lib.hid (show Cn.wP x ck = true by rw [HWP.out, hB1, hB2]; rfl)
          clear hB1 hB2
          obtain ⟨hlt2, hat⟩ := HPA.out HYS.out
          have hyy := HY.out _ _ w3 hlt2 HJ4.out
          rw [hat] at hyy
          obtain ⟨fn, tmps, assign, body, hy, hR⟩ := hyy
          have HLEN := Lib.hid (show (Cn.wIdx c x (k + 1)).length = (Cn.wIdx c x k).length + 1 by rw [HPS.out, HYS.out, if_pos rfl]; simp)
          clear hlt2 hat
          gi_wp2_with fail
          refine hR.mono ?_
          rintro e w4 ⟨⟨rfl, hj4⟩ | ⟨rfl, hjx⟩, hk4, hz4, hs4⟩
          · have HK4 := Lib.hid (krg_tr HK3.out hk4)
            have HJ5 := Lib.hid hj4
            clear hj4 hk4 hz4 hs4
            gi_wp2_with fail
            go_roundw
            case rel => exact ⟨k + 1, _, rfl, hlt, HK4.out, by rw [HLEN.out]; exact HJ5.out⟩
            case measure => simp [intOf]; omega
          · have HJX := Lib.hid hjx
            clear hjx hk4 hz4 hs4
            gi_wp2_with fail
            refine bodyPost_ret (results_none rfl _ _ _) rfl ?_
            exact ⟨⟨_, rfl⟩, .inr ⟨_, _, HJX.out⟩⟩
    · obtain rfl : k = c.length := by omega
      gi_wp2_with fail
      go_end0
      exact ⟨⟨_, rfl⟩, .inl ⟨Z2, HJ2.out⟩⟩
theorem with_seq : SeqSound Try.prog 63 with_it := by
  refine ⟨run_enters Try.func63 (by kernel_rfl) rfl, fun W G caps vs p N el hG hgl hσ hp hd => ?_⟩
  unfold with_it at hσ
  split at hσ
  · rename_i c x
    injection hσ with hσ
    injection hσ with h1 h2
    injection h2 with h2 h3
    subst h1 h2 h3
    obtain ⟨hl, hll, hx1, hx2⟩ := hp
    simp only [DenL, Den] at hd
    obtain ⟨v1, vs1, rfl, ⟨p1, o1, rfl, g1, hc1⟩, v2, vs2, rfl, ⟨p2, o2, rfl, g2, hc2⟩, rfl⟩ := hd
    obtain ⟨u1, hu1, hr1⟩ := hc1 0 (.ls (.intss c)) rfl
    obtain ⟨u2, hu2, hr2⟩ := hc2 0 (.val (.int .i64 x)) rfl
    have e2 : u2 = I64 x := den_val (g := g0 W G) (by simp only [Den]; exact hr2)
    subst e2
    have key : ∃ (A : Option Addr) (cp : Nat) (vv : Nat → Value), u1 = .slice A c.length cp ∧ (∀ k, k < c.length → ∃ b off, A = some ⟨b, off, none⟩ ∧ G b ∧ W.cell? ⟨b, off + k, none⟩ = some (vv k)) ∧ ∀ k, k < c.length → Den (g0 W G) (.ints (c.getD k [])) (vv k) := by
      rcases hr1.cases_ls with ⟨h0, A, cp, rfl⟩ | ⟨b, off, cp, u, rfl, _, _, hb, hcell, hrep⟩
      · have h0' : c.length = 0 := h0
        exact ⟨A, cp, fun _ => undef, by rw [h0'], fun k hk => by omega, fun k hk => by omega⟩
      · refine ⟨_, cp, fun i => u i 0, rfl, fun k hk => ⟨b, off, rfl, hb, ?_⟩, fun k hk => ?_⟩
        · have h1 : W.cell? ⟨b, off + k * 1 + 0, none⟩ = some (u k 0) := hcell k 0 hk Nat.one_pos
          rwa [Nat.mul_one, Nat.add_zero] at h1
        · simp only [Den]; exact hrep k 0 hk Nat.one_pos
    obtain ⟨A, cp, vv, rfl, hA, hv⟩ := key
    refine ⟨fun j => #[vv ((Cn.wIdx c x c.length).getD j 0)], fun i hi => ?_, ?_⟩
    · simp only [DenL]
      refine ⟨_, _, rfl, ?_, rfl⟩
      rw [Cn.withL_get hi]
      exact hv _ (Cn.wIdx_lt (by rwa [← Cn.withL_len]))
    · rw [Cn.withL_len]
      exact with_x hG hgl vv c A cp p1 o1 p2 o2 x hu1 g1 hu2 g2 hA hv hl hll hx1 hx2
  · cases hσ
end Go.Proofs.Ythhfdjcaafckbaa.En
