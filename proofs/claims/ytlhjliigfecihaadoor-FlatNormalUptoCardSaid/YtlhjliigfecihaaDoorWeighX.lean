/- The reference's weigh, at every tree (its sum may wrap). -/
import Derived.Test.YtlhjliigfecihaaDoorProg
import Derived.Test.YtlhjliigfecihaaDoorPartsX
import Derived.Test.YtlhjliigfecihaaDoorWeighP
set_option linter.unusedSimpArgs false
set_option linter.unusedVariables false
set_option linter.unnecessarySimpa false
namespace Go.Proofs.YtlhjliigfecihaaDoor.En
open Go Go.RowKit Fl

set_option maxRecDepth 100000 in
set_option maxHeartbeats 2000000 in
theorem weigh_x : ∀ (n : Nat) (t : Tree), sizeT t < n → ∀ (W : World) (G : Nat → Prop), (∀ b, G b → b < W.heap.size) → ∀ s, Rep W G (.ls (.trees t.l)) s → ∀ bd : Int,
    Calls Tryd.prog 36 #[.agg #[I64 t.kind, I64 t.v, I64 t.k, s], I64 bd] W fun e W' => e = .returned (I64 (weighT bd t)) ∧ Below W.heap.size W W'
  | 0, t, h => by omega
  | n + 1, t, ht => by
    intro W G hG s hs bd
    have HMX := Lib.hid (show t.l.length ≤ maxLen from hs.lenMax)
    have key : ∃ (A : Option Addr) (cp : Nat) (us : Nat → Value), s = .slice A t.l.length cp ∧ (∀ k, k < t.l.length → ∃ b off A2 n2 c2, A = some ⟨b, off, none⟩ ∧ G b ∧ W.cell? ⟨b, off + k * 4, none⟩ = some (I64 (t.l.getD k tree0).kind) ∧
        W.cell? ⟨b, off + k * 4 + 1, none⟩ = some (I64 (t.l.getD k tree0).v) ∧ W.cell? ⟨b, off + k * 4 + 2, none⟩ = some (I64 (t.l.getD k tree0).k) ∧ W.cell? ⟨b, off + k * 4 + 3, none⟩ = some (.slice A2 n2 c2) ∧ us k = .slice A2 n2 c2) ∧
        ∀ k, k < t.l.length → Rep W G (.ls (.trees (t.l.getD k tree0).l)) (us k) := by
      rcases hs.cases_ls with ⟨h0, A, cp, rfl⟩ | ⟨b, off, cp, u, rfl, _, _, hb, hcell, hrep⟩
      · have h0' : t.l.length = 0 := h0
        exact ⟨A, cp, fun _ => undef, by rw [h0'], fun k hk => by omega, fun k hk => by omega⟩
      · refine ⟨_, cp, fun k => u k 3, rfl, fun k hk => ?_, fun k hk => hrep k 3 hk (show 3 < 4 by decide)⟩
        have hh : ∀ j, j < 4 → W.cell? ⟨b, off + k * 4 + j, none⟩ = some (u k j) := fun j hj => hcell k j hk hj
        have e0 : u k 0 = I64 (t.l.getD k tree0).kind := den_val (g := g0 W G) (by simp only [Den]; exact hrep k 0 hk (show 0 < 4 by decide))
        have e1 : u k 1 = I64 (t.l.getD k tree0).v := den_val (g := g0 W G) (by simp only [Den]; exact hrep k 1 hk (show 1 < 4 by decide))
        have e2 : u k 2 = I64 (t.l.getD k tree0).k := den_val (g := g0 W G) (by simp only [Den]; exact hrep k 2 hk (show 2 < 4 by decide))
        obtain ⟨A2, c2, e3, _⟩ := (show Rep W G (.ls (.trees (t.l.getD k tree0).l)) (u k 3) from hrep k 3 hk (show 3 < 4 by decide)).slice
        have h3 := hh 3 (by decide)
        rw [e3] at h3
        rw [← e0, ← e1, ← e2]
        exact ⟨b, off, A2, _, c2, rfl, hb, hh 0 (by decide), hh 1 (by decide), hh 2 (by decide), h3, e3⟩
    obtain ⟨A, cp, us, rfl, hA, hus⟩ := key
    have HI := Lib.hid (fun k (hk : k < t.l.length) (W' : World) (hkr : KRG G W W') (hsz : W.heap.size ≤ W'.heap.size) => weigh_x n (t.l.getD k tree0) (by have := size_at hk; omega) W' G (fun b hb => by have := hG b hb; omega) (us k) ((hus k hk).mono hkr (fun _ h => h)) bd)
    have HA := Lib.hid hA
    have HG := Lib.hid hG
    have HWG := Lib.hid (fun k (hk : k < t.l.length) m (h : m ≤ bd) => weigh_go (bd := bd) hk h)
    have HWS := Lib.hid (fun k (hk : k < t.l.length) m (h : ¬ m ≤ bd) => weigh_stop (bd := bd) hk h)
    have HWT := Lib.hid (weigh_t bd t)
    clear hA hG hus hs ht
    go_enter Tryd.func36, Tryd.ntmps36
    go_wp2_with fail
    go_loopw [5, 6] (fun nv iv wr => ∃ (m : Int) (k : Nat), nv = .int .i64 m ∧ iv = .int .i64 k ∧ k ≤ t.l.length ∧ weighL bd m (t.l.drop k) = weighT bd t ∧ Kp (fun _ => False) W wr ∧ Blk wr W.heap.size 24 #[I64 t.kind, I64 t.v, I64 t.k, .slice A t.l.length cp]) (fun _ iv _ => t.l.length - (intOf iv).toNat)
    case atStart => exact ⟨1, 0, rfl, rfl, Nat.zero_le _, by rw [HWT.out, List.drop_zero], (Kp.refl _ _).alloc _, Blk.new _ _ _⟩
    case round =>
      obtain ⟨m, k, rfl, rfl, hk, hw, hkp, hbl⟩ := hrel
      have HK := Lib.hid hkp
      have HB := Lib.hid hbl
      have HW := Lib.hid hw
      have c3 := HB.out.cell 3
      simp at c3
      clear hkp hbl hw
      by_cases hlt : k < t.l.length
      · by_cases hle : m ≤ bd
        · obtain ⟨b, off, A2, n2, c2, rfl, gb, d0, d1, d2, d3, hu⟩ := HA.out k hlt
          have hbw : wr.heap[b]? = W.heap[b]? := HK.out.block b (HG.out b gb) id
          have e0 := (World.cell?_of_block (a := ⟨b, off + k * 4, none⟩) hbw).trans d0
          have e1 := (World.cell?_of_block (a := ⟨b, off + k * 4 + 1, none⟩) hbw).trans d1
          have e2 := (World.cell?_of_block (a := ⟨b, off + k * 4 + 2, none⟩) hbw).trans d2
          have e3 := (World.cell?_of_block (a := ⟨b, off + k * 4 + 3, none⟩) hbw).trans d3
          have HIK := Lib.hid (HI.out k hlt wr (fun b hb => HK.out.block b (HG.out b hb) id) HK.out.size)
          have HWK := Lib.hid ((HWG.out k hlt m hle).symm.trans HW.out)
          have hmx := HMX.out
          unfold maxLen at hmx
          rw [hu] at HIK
          clear d0 d1 d2 d3 hbw hu
          generalize t.l.getD k tree0 = ck at e0 e1 e2 HIK HWK
          go_wp2_with fail
          refine HIK.out.mono ?_
          rintro e w2 ⟨rfl, hb2⟩
          have HK2 := Lib.hid (show Kp (fun _ => False) W w2 from HK.out.trans ((Kp.of_below hb2).mono fun b hb h => absurd hb (Nat.not_lt.2 h)) (fun _ _ h => h))
          have HB2 := Lib.hid (show Blk w2 W.heap.size 24 #[I64 t.kind, I64 t.v, I64 t.k, .slice (some ⟨b, off, none⟩) t.l.length cp] from (hb2.block _ HB.out.lt).trans HB.out)
          clear hb2
          generalize weighT bd ck = z at HWK
          go_wp2_with fail
          go_roundw
          case rel => exact ⟨wrap64 (m + z), k + 1, rfl, by go_num, hlt, HWK.out, HK2.out, HB2.out⟩
          case measure => simp [intOf]; omega
        · have HR := Lib.hid ((HWS.out k hlt m (by omega)).symm.trans HW.out)
          go_wp2_with fail
          go_ret
          exact ⟨by rw [HR.out]; rfl, HK.out.none_below⟩
      · have hk3 : k = t.l.length := by omega
        have HR := Lib.hid (show m = weighT bd t by have := HW.out; rwa [List.drop_of_length_le (by omega), weigh_nil] at this)
        go_wp2_with fail
        go_ret
        exact ⟨by rw [HR.out]; rfl, HK.out.none_below⟩
def rWeigh1 : CtF1
  | [.agg [.im (.val (.int .i64 q)), .im (.val (.int .i64 v)), .im (.val (.int .i64 k)), .im (.ls (.trees l))], .im (.val (.int .i64 bd))] => some (True, .int (weighL bd 1 l))
  | _ => none
theorem rWeigh1_sound : Sound1G Tryd.prog 36 rWeigh1 := by
  refine ⟨run_enters Tryd.func36 (by kernel_rfl) rfl, fun W G args vs p r hG hgl hσ hp hd => ?_⟩
  unfold rWeigh1 at hσ
  split at hσ
  · rename_i q v k l bd
    injection hσ with hσ
    injection hσ with h1 h2
    subst h1 h2
    simp only [DenL, Den] at hd
    obtain ⟨v1, vs1, rfl, ⟨us, rfl, u0, us0, rfl, h0, u1, us1, rfl, h1, u2, us2, rfl, h2, u3, us3, rfl, h3, rfl⟩, v2, vs2, rfl, h4, rfl⟩ := hd
    have e0 : u0 = I64 q := den_val (g := g0 W G) (by simp only [Den]; exact h0)
    have e1 : u1 = I64 v := den_val (g := g0 W G) (by simp only [Den]; exact h1)
    have e2 : u2 = I64 k := den_val (g := g0 W G) (by simp only [Den]; exact h2)
    have e4 : v2 = I64 bd := den_val (g := g0 W G) (by simp only [Den]; exact h4)
    subst e0 e1 e2 e4
    refine Calls.mono (weigh_x _ (.node q v k l) (Nat.lt_succ_self _) W G hG u3 h3 bd) fun e w' he => ?_
    obtain ⟨rfl, hb⟩ := he
    exact ⟨_, rfl, hb, by simp only [Den]; rw [weigh_t]; exact .val _⟩
  · cases hσ
def rWeigh : CtF := rWeigh1.up
theorem rWeigh_sound : Sound Tryd.prog 36 rWeigh := rWeigh1_sound.up
end Go.Proofs.YtlhjliigfecihaaDoor.En
