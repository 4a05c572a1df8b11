/- 'fewUndos': what it returns, at every list of undos (its sum may wrap). -/
import Derived.Test.YthhfdjcaafckbaaRef23S
import Derived.Test.YthhfdjcaafckbaaEngCallG
import Derived.Test.YthhfdjcaafckbaaFewP
import Derived.Lib.Hide
set_option linter.unusedSimpArgs false
set_option linter.unusedVariables false
namespace Go.Proofs.Ythhfdjcaafckbaa.En
open Go Go.RowKit

theorem few_x {G : Nat → Prop} {W : World} (hG : ∀ b, G b → b < W.heap.size) (hgl : GlOk (g0 W G)) {L : List (List Int)} {v : Value} (hl : L.length ≤ maxLen) (hv : Den (g0 W G) (.intss L) v) :
    Calls Try.prog 11 #[.agg #[I64 0, v], I64 0, I64 200] W fun e W' => e = .returned (.bool (Cn.fewB 0 L 0 200)) ∧ Below W.heap.size W W' := by
  have h := qFew_sound.callsG hG hgl (args := [.agg [.int 0, .intss L], .int 0, .int 200]) (vs := [.agg #[I64 0, v], I64 0, I64 200]) rfl ⟨hl, by decide, by decide⟩
    (by simp only [DenL]; exact ⟨_, _, rfl, (by rw [Den]; exact ⟨[_, _], rfl, by simp only [DenL]; exact ⟨_, _, rfl, den_val_mk _, _, _, rfl, hv, rfl⟩⟩), _, _, rfl, den_val_mk _, _, _, rfl, den_val_mk _, rfl⟩)
  refine Calls.mono h fun e w' he => ?_
  obtain ⟨u, rfl, hb, g', _, _, hd⟩ := he
  rw [den_val hd]
  exact ⟨rfl, hb⟩
set_option maxRecDepth 100000 in
set_option maxHeartbeats 1000000 in
theorem fu_x {G : Nat → Prop} {W : World} (hG : ∀ b, G b → b < W.heap.size) (hgl : GlOk (g0 W G)) (u : List (Int × List (List Int))) (A : Option Addr) (cp : Nat) (AA : Nat → Option Addr) (cc : Nat → Nat)
    (hA : ∀ k, k < u.length → ∃ b off, A = some ⟨b, off, none⟩ ∧ G b ∧ W.cell? ⟨b, off + k * 2 + 1, none⟩ = some (.slice (AA k) (u.getD k (0, [])).2.length (cc k)))
    (hv : ∀ k, k < u.length → Den (g0 W G) (.intss (u.getD k (0, [])).2) (.slice (AA k) (u.getD k (0, [])).2.length (cc k))) (hl : u.length ≤ maxLen) (hll : ∀ k, k < u.length → (u.getD k (0, [])).2.length ≤ maxLen) :
    Calls Try.prog 16 #[.slice A u.length cp] W fun e W' => e = .returned (.bool (Cn.fuB u)) ∧ Below W.heap.size W W' := by
  unfold maxLen at hl
  have HA := Lib.hid (fun k (hk : k < u.length) (W' : World) (h : KRG G W W') => by
    obtain ⟨b, off, e, hb, hc⟩ := hA k hk
    exact (⟨b, off, e, (World.cell?_of_block (a := ⟨b, off + k * 2 + 1, none⟩) (h b hb)).trans hc⟩ : ∃ b off, A = some ⟨b, off, none⟩ ∧ W'.cell? ⟨b, off + k * 2 + 1, none⟩ = some (.slice (AA k) (u.getD k (0, [])).2.length (cc k))))
  have HF := Lib.hid (fun k (hk : k < u.length) (W' : World) (h : KRG G W W') => few_x (G := G) (W := W') (krg_lt hG h) (hgl.up (krg_le h)) (hll k hk) (Den.mono (krg_le h) _ _ (hv k hk)))
  have HG := Lib.hid hG
  have HL := Lib.hid hll
  clear hA hv hgl hG hll
  go_enter Try.func16, Try.ntmps16
  go_wp2_with fail
  go_loopw [3, 4] (fun nv iv wr => ∃ k n : Nat, nv = .int .i64 n ∧ iv = .int .i64 k ∧ n ≤ 200 ∧ k ≤ u.length ∧ k ≤ 21 ∧ KRG G W wr ∧ Below W.heap.size W wr ∧ Cn.fuC (u.take 21) 0 = Cn.fuC ((u.take 21).drop k) n) (fun _ iv _ => u.length - (intOf iv).toNat)
  case atStart => exact ⟨0, 0, rfl, rfl, Nat.zero_le _, Nat.zero_le _, Nat.zero_le _, fun _ _ => rfl, Below.refl _ _, rfl⟩
  case round =>
    obtain ⟨k, n, rfl, rfl, hn, hk, hk2, hkr, hb, hfu⟩ := hrel
    have HKR := Lib.hid hkr
    have HB := Lib.hid hb
    have HFU := Lib.hid hfu
    clear hkr hb hfu
    by_cases hlt : k < u.length
    · by_cases h20 : k ≤ 20
      · obtain ⟨b, off, rfl, hc⟩ := HA.out k hlt wr HKR.out
        have HFK := Lib.hid (HF.out k hlt wr HKR.out)
        have hmm := HL.out k hlt
        unfold maxLen at hmm
        have HBIG := Lib.hid (fun h => Cn.fu_big (n := n) hlt (by omega) h)
        have HBAD := Lib.hid (fun h => Cn.fu_bad (n := n) hlt (by omega) h)
        have HNX := Lib.hid (fun h => Cn.fu_next (n := n) hlt (by omega) h)
        have HFB := Lib.hid (fun h : Cn.fewB 0 (u.getD k (0, [])).2 0 200 = true => (Cn.few_iff h).2.1)
        generalize Cn.fewB 0 (u.getD k (0, [])).2 0 200 = fb at HFK HBAD HNX HFB
        generalize (u.getD k (0, [])).2.length = m at hc HFK hmm HBIG HBAD HNX HFB
        generalize AA k = Ak at hc HFK
        generalize cc k = ck at hc HFK
        by_cases hw : (n : Int) + (m : Int) ≤ 9223372036854775807
        · have hwr : wrap64 ((n : Int) + (m : Int)) = ((n + m : Nat) : Int) := by unfold wrap64; omega
          by_cases hbig : 200 < n + m
          · have HR := Lib.hid (show Cn.fuB u = false by unfold Cn.fuB; rw [HFU.out, HBIG.out hbig]; rfl)
            have hgt : ((n + m : Nat) : Int) > 200 := by omega
            go_wp2_with fail
            go_ret
            exact ⟨by rw [HR.out]; rfl, HB.out⟩
          · have hle : ¬ ((n + m : Nat) : Int) > 200 := by omega
            have HLE := Lib.hid hbig
            clear hbig
            go_wp2_with fail
            refine HFK.out.mono ?_
            rintro e w2 ⟨rfl, hb2⟩
            have HB2 := Lib.hid (HB.out.trans ⟨hb2.os, hb2.tape, hb2.output, hb2.size, fun b hb => hb2.block b (Nat.lt_of_lt_of_le hb HB.out.size)⟩)
            have HK2 := Lib.hid (krg_below HKR.out (krg_lt HG.out HKR.out) hb2)
            clear hb2
            cases fb with
            | false =>
              have HR := Lib.hid (show Cn.fuB u = false by unfold Cn.fuB; rw [HFU.out, HBAD.out HLE.out rfl]; rfl)
              go_wp2_with fail
              go_ret
              exact ⟨by rw [HR.out]; rfl, HB2.out⟩
            | true =>
              have HR := Lib.hid (HFU.out.trans (HNX.out HLE.out rfl))
              go_wp2_with fail
              go_roundw
              case rel => exact ⟨k + 1, n + m, rfl, by go_num, by have := HLE.out; omega, by omega, by omega, HK2.out, HB2.out, HR.out⟩
              case measure => simp [intOf]; omega
        · have hwr : wrap64 ((n : Int) + (m : Int)) = (n : Int) + (m : Int) - 18446744073709551616 := by unfold wrap64; omega
          have hle : ¬ ((n : Int) + (m : Int) - 18446744073709551616 > 200) := by omega
          have HLE := Lib.hid (show 200 < n + m by omega)
          have HFF := Lib.hid (show fb = false by cases hfb : fb with
            | false => rfl
            | true => have := HFB.out hfb; omega)
          have HR := Lib.hid (show Cn.fuB u = false by unfold Cn.fuB; rw [HFU.out, HBIG.out HLE.out]; rfl)
          clear hw
          go_wp2_with fail
          refine HFK.out.mono ?_
          rintro e w2 ⟨rfl, hb2⟩
          rw [HFF.out]
          have HB2 := Lib.hid (HB.out.trans ⟨hb2.os, hb2.tape, hb2.output, hb2.size, fun b hb => hb2.block b (Nat.lt_of_lt_of_le hb HB.out.size)⟩)
          clear hb2
          go_wp2_with fail
          go_ret
          exact ⟨by rw [HR.out]; rfl, HB2.out⟩
      · have hk21 : ¬ ((k : Int) ≤ 20) := by omega
        have HR := Lib.hid (show Cn.fuB u = decide (u.length ≤ 20) by unfold Cn.fuB; rw [HFU.out, Cn.fu_end (by omega), Bool.true_and])
        have hl20 : ¬ ((u.length : Int) ≤ 20) := by omega
        have HR2 := Lib.hid (show Cn.fuB u = false by rw [HR.out, decide_eq_false_iff_not]; omega)
        go_wp2_with fail
        go_ret
        exact ⟨by rw [HR2.out]; rfl, HB.out⟩
    · obtain rfl : k = u.length := by omega
      have HR := Lib.hid (show Cn.fuB u = decide (u.length ≤ 20) by unfold Cn.fuB; rw [HFU.out, Cn.fu_end (by omega), Bool.true_and])
      by_cases hl20 : (u.length : Int) ≤ 20
      · have HR2 := Lib.hid (show Cn.fuB u = true by rw [HR.out, decide_eq_true_eq]; omega)
        go_wp2_with fail
        go_ret
        exact ⟨by rw [HR2.out]; rfl, HB.out⟩
      · have HR2 := Lib.hid (show Cn.fuB u = false by rw [HR.out, decide_eq_false_iff_not]; omega)
        go_wp2_with fail
        go_ret
        exact ⟨by rw [HR2.out]; rfl, HB.out⟩
def sFewU1 : CtF1
  | [.im (.ls (.undos u))] => some (u.length ≤ maxLen ∧ ∀ k, k < u.length → (u.getD k (0, [])).2.length ≤ maxLen, .bool (Cn.fuB u))
  | _ => none
theorem sFewU1_sound : Sound1G Try.prog 16 sFewU1 := by
  refine ⟨run_enters Try.func16 (by kernel_rfl) rfl, fun W G args vs p r hG hgl hσ hp hd => ?_⟩
  unfold sFewU1 at hσ
  split at hσ
  · rename_i u
    injection hσ with hσ
    injection hσ with h1 h2
    subst h1 h2
    simp only [DenL, Den] at hd
    obtain ⟨v1, vs1, rfl, hr1, rfl⟩ := hd
    have key : ∃ (A : Option Addr) (cp : Nat) (AA : Nat → Option Addr) (cc : Nat → Nat), v1 = .slice A u.length cp ∧ (∀ k, k < u.length → ∃ b off, A = some ⟨b, off, none⟩ ∧ G b ∧ W.cell? ⟨b, off + k * 2 + 1, none⟩ = some (.slice (AA k) (u.getD k (0, [])).2.length (cc k))) ∧
        ∀ k, k < u.length → Den (g0 W G) (.intss (u.getD k (0, [])).2) (.slice (AA k) (u.getD k (0, [])).2.length (cc k)) := by
      rcases hr1.cases_ls with ⟨h0, A, cp, rfl⟩ | ⟨b, off, cp, z, rfl, _, _, hb, hcell, hrep⟩
      · have h0' : u.length = 0 := h0
        exact ⟨A, cp, fun _ => none, fun _ => 0, by rw [h0'], fun k hk => by omega, fun k hk => by omega⟩
      · have hz : ∀ k, ∃ Ac : Option Addr × Nat, k < u.length → z k 1 = .slice Ac.1 (u.getD k (0, [])).2.length Ac.2 := fun k => by
          by_cases hk : k < u.length
          · have h2 : Rep W G (.ls (.intss (u.getD k (0, [])).2)) (z k 1) := hrep k 1 hk (show 1 < 2 by omega)
            obtain ⟨A, c, e, _⟩ := rdL_of_intss h2
            exact ⟨(A, c), fun _ => e⟩
          · exact ⟨(none, 0), fun h => absurd h hk⟩
        obtain ⟨Ac, hAc⟩ := Classical.axiomOfChoice hz
        refine ⟨_, cp, fun k => (Ac k).1, fun k => (Ac k).2, rfl, fun k hk => ⟨b, off, rfl, hb, ?_⟩, fun k hk => ?_⟩
        · rw [← hAc k hk]; exact hcell k 1 hk (show 1 < 2 by omega)
        · rw [← hAc k hk]; simp only [Den]; exact hrep k 1 hk (show 1 < 2 by omega)
    obtain ⟨A, cp, AA, cc, rfl, hA, hv⟩ := key
    refine Calls.mono (fu_x hG hgl u A cp AA cc hA hv hp.1 hp.2) fun e w' he => ?_
    obtain ⟨rfl, hb⟩ := he
    exact ⟨_, rfl, hb, by simp only [Den]; exact .val _⟩
  · cases hσ
def sFewU : CtF := sFewU1.up
theorem sFewU_sound : Sound Try.prog 16 sFewU := sFewU1_sound.up
end Go.Proofs.Ythhfdjcaafckbaa.En
