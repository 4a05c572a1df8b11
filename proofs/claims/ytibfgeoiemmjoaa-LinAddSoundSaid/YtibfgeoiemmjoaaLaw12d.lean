/- LinAddSound returns true at every input. -/
import Derived.Test.YtibfgeoiemmjoaaSt12
namespace Go.Proofs.Ytibfgeoiemmjoaa
open Go.RowKit Go.Shelf

structure StA (w : World) (a b x : BoxV) (W : World) : Prop where
  s : St2 w a b W
  x : BoxAt W x
theorem StA.up {w W W' : World} {a b x : BoxV} (h : StA w a b x W) (hb : Below W.heap.size W W') : StA w a b x W' := ⟨h.s.up hb, h.x.up hb⟩
theorem trL_max (p : Int) : (trL p 8).length ≤ maxLen := by rw [trL_len]; unfold maxLen; omega
set_option maxRecDepth 100000 in
set_option maxHeartbeats 3200000 in
theorem addSound_any (A L A' L' : Option Addr) (cA cL cA' cL' : Nat) (a b : LinV) (w : World) (ha : LinAt w A L a) (hb : LinAt w A' L' b) : Calls Try.prog 9 #[linV A L cA cL a, linV A' L' cA' cL' b] w fun e w' => e = .returned (.bool true) ∧ Below w.heap.size w w' := by
  have S1 := Lib.hid (show St2 w ⟨w.heap.size, A, L, cA, cL, a⟩ ⟨w.heap.size + 1, A', L', cA', cL', b⟩ ((w.alloc (linBox A L cA cL a)).alloc (linBox A' L' cA' cL' b)) from
    ⟨below2 w _ _, (BoxAt.new w ha).up (below1 _ _), by have := BoxAt.new (cA := cA') (cL := cL') (w.alloc (linBox A L cA cL a)) (hb.up (below1 _ _)); simpa using this⟩)
  clear ha hb
  go_enter Try.func9, Try.ntmps9
  go_wp2_with fail
  generalize ((w.alloc (linBox A L cA cL a)).alloc (linBox A' L' cA' cL' b)) = w1 at S1 ⊢
  generalize w.heap.size + 1 = gb at S1 ⊢
  have S0 := Lib.hid (show ∃ ga, ga = w.heap.size from ⟨_, rfl⟩)
  obtain ⟨ga, hga⟩ := S0.out
  clear S0
  have HGA := Lib.hid hga
  rw [← hga] at S1 ⊢
  clear hga
  refine (live12_any w1).mono ?_
  rintro e w2 ⟨rfl, b2⟩
  have S := Lib.hid (S1.out.up b2)
  clear b2 S1
  have HFa := Lib.hid (show ∀ W, St2 w ⟨ga, A, L, cA, cL, a⟩ ⟨gb, A', L', cA', cL', b⟩ W → Calls Try.prog 13 #[linV A L cA cL a] W fun e w' => e = .returned (.bool (fewP a)) ∧ St2 w ⟨ga, A, L, cA, cL, a⟩ ⟨gb, A', L', cA', cL', b⟩ w' from fun W hW => (few_any A L cA cL a W).mono fun e w' ⟨h1, h2⟩ => ⟨h1, hW.up h2⟩)
  have HFb := Lib.hid (show ∀ W, St2 w ⟨ga, A, L, cA, cL, a⟩ ⟨gb, A', L', cA', cL', b⟩ W → Calls Try.prog 13 #[linV A' L' cA' cL' b] W fun e w' => e = .returned (.bool (fewP b)) ∧ St2 w ⟨ga, A, L, cA, cL, a⟩ ⟨gb, A', L', cA', cL', b⟩ w' from fun W hW => (few_any A' L' cA' cL' b W).mono fun e w' ⟨h1, h2⟩ => ⟨h1, hW.up h2⟩)
  have HCa := Lib.hid (show ∀ W, St2 w ⟨ga, A, L, cA, cL, a⟩ ⟨gb, A', L', cA', cL', b⟩ W → Calls Try.prog 17 #[linV A L cA cL a, I64 8] W fun e w' => e = .returned (I64 (lcheck a 8)) ∧ St2 w ⟨ga, A, L, cA, cL, a⟩ ⟨gb, A', L', cA', cL', b⟩ w' from fun W hW => (lcheck_any A L cA cL a 8 W hW.a.at_).mono fun e w' ⟨h1, h2⟩ => ⟨h1, hW.up h2⟩)
  have HCb := Lib.hid (show ∀ W, St2 w ⟨ga, A, L, cA, cL, a⟩ ⟨gb, A', L', cA', cL', b⟩ W → Calls Try.prog 17 #[linV A' L' cA' cL' b, I64 8] W fun e w' => e = .returned (I64 (lcheck b 8)) ∧ St2 w ⟨ga, A, L, cA, cL, a⟩ ⟨gb, A', L', cA', cL', b⟩ w' from fun W hW => (lcheck_any A' L' cA' cL' b 8 W hW.b.at_).mono fun e w' ⟨h1, h2⟩ => ⟨h1, hW.up h2⟩)
  have c0 := S.out.a.c0
  have c1 := S.out.a.c1
  have c2 := S.out.a.c2
  have d0 := S.out.b.c0
  have d1 := S.out.b.c1
  have d2 := S.out.b.c2
  simp only at c0 c1 c2 d0 d1 d2
  cases hfa : fewP a
  · rw [hfa] at HFa
    clear hfa
    go_wp2_with (first | (go_at_call 13; with_reducible refine (HFa.out _ ?_).mono ?_; exact S.out; rintro e w3 ⟨rfl, s3⟩; clear c0 c1 c2 d0 d1 d2 S; have S := Lib.hid s3; clear s3; have c0 := S.out.a.c0; have c1 := S.out.a.c1; have c2 := S.out.a.c2; have d0 := S.out.b.c0; have d1 := S.out.b.c1; have d2 := S.out.b.c2; simp only at c0 c1 c2 d0 d1 d2) | (go_at_call 13; with_reducible refine (HFb.out _ ?_).mono ?_; exact S.out; rintro e w3 ⟨rfl, s3⟩; clear c0 c1 c2 d0 d1 d2 S; have S := Lib.hid s3; clear s3; have c0 := S.out.a.c0; have c1 := S.out.a.c1; have c2 := S.out.a.c2; have d0 := S.out.b.c0; have d1 := S.out.b.c1; have d2 := S.out.b.c2; simp only at c0 c1 c2 d0 d1 d2) | (go_at_call 17; with_reducible refine (HCa.out _ ?_).mono ?_; exact S.out; rintro e w3 ⟨rfl, s3⟩; clear c0 c1 c2 d0 d1 d2 S; have S := Lib.hid s3; clear s3; have c0 := S.out.a.c0; have c1 := S.out.a.c1; have c2 := S.out.a.c2; have d0 := S.out.b.c0; have d1 := S.out.b.c1; have d2 := S.out.b.c2; simp only at c0 c1 c2 d0 d1 d2) | (go_at_call 17; with_reducible refine (HCb.out _ ?_).mono ?_; exact S.out; rintro e w3 ⟨rfl, s3⟩; clear c0 c1 c2 d0 d1 d2 S; have S := Lib.hid s3; clear s3; have c0 := S.out.a.c0; have c1 := S.out.a.c1; have c2 := S.out.a.c2; have d0 := S.out.b.c0; have d1 := S.out.b.c1; have d2 := S.out.b.c2; simp only at c0 c1 c2 d0 d1 d2))
    go_ret
    exact ⟨rfl, S.out.bel⟩
  · rw [hfa] at HFa
    clear hfa
    cases hfb : fewP b
    · rw [hfb] at HFb
      clear hfb
      go_wp2_with (first | (go_at_call 13; with_reducible refine (HFa.out _ ?_).mono ?_; exact S.out; rintro e w3 ⟨rfl, s3⟩; clear c0 c1 c2 d0 d1 d2 S; have S := Lib.hid s3; clear s3; have c0 := S.out.a.c0; have c1 := S.out.a.c1; have c2 := S.out.a.c2; have d0 := S.out.b.c0; have d1 := S.out.b.c1; have d2 := S.out.b.c2; simp only at c0 c1 c2 d0 d1 d2) | (go_at_call 13; with_reducible refine (HFb.out _ ?_).mono ?_; exact S.out; rintro e w3 ⟨rfl, s3⟩; clear c0 c1 c2 d0 d1 d2 S; have S := Lib.hid s3; clear s3; have c0 := S.out.a.c0; have c1 := S.out.a.c1; have c2 := S.out.a.c2; have d0 := S.out.b.c0; have d1 := S.out.b.c1; have d2 := S.out.b.c2; simp only at c0 c1 c2 d0 d1 d2) | (go_at_call 17; with_reducible refine (HCa.out _ ?_).mono ?_; exact S.out; rintro e w3 ⟨rfl, s3⟩; clear c0 c1 c2 d0 d1 d2 S; have S := Lib.hid s3; clear s3; have c0 := S.out.a.c0; have c1 := S.out.a.c1; have c2 := S.out.a.c2; have d0 := S.out.b.c0; have d1 := S.out.b.c1; have d2 := S.out.b.c2; simp only at c0 c1 c2 d0 d1 d2) | (go_at_call 17; with_reducible refine (HCb.out _ ?_).mono ?_; exact S.out; rintro e w3 ⟨rfl, s3⟩; clear c0 c1 c2 d0 d1 d2 S; have S := Lib.hid s3; clear s3; have c0 := S.out.a.c0; have c1 := S.out.a.c1; have c2 := S.out.a.c2; have d0 := S.out.b.c0; have d1 := S.out.b.c1; have d2 := S.out.b.c2; simp only at c0 c1 c2 d0 d1 d2))
      go_ret
      exact ⟨rfl, S.out.bel⟩
    · rw [hfb] at HFb
      clear hfb
      by_cases hza : lcheck a 8 = 0
      · by_cases hzb : lcheck b 8 = 0
        · have HZa := Lib.hid (lcheck_up hza (m := 65536) (by omega) (by omega))
          have HZb := Lib.hid (lcheck_up hzb (m := 65536) (by omega) (by omega))
          rw [hza] at HCa
          rw [hzb] at HCb
          clear hza hzb
          go_wp2_with (first | (go_at_call 13; with_reducible refine (HFa.out _ ?_).mono ?_; exact S.out; rintro e w3 ⟨rfl, s3⟩; clear c0 c1 c2 d0 d1 d2 S; have S := Lib.hid s3; clear s3; have c0 := S.out.a.c0; have c1 := S.out.a.c1; have c2 := S.out.a.c2; have d0 := S.out.b.c0; have d1 := S.out.b.c1; have d2 := S.out.b.c2; simp only at c0 c1 c2 d0 d1 d2) | (go_at_call 13; with_reducible refine (HFb.out _ ?_).mono ?_; exact S.out; rintro e w3 ⟨rfl, s3⟩; clear c0 c1 c2 d0 d1 d2 S; have S := Lib.hid s3; clear s3; have c0 := S.out.a.c0; have c1 := S.out.a.c1; have c2 := S.out.a.c2; have d0 := S.out.b.c0; have d1 := S.out.b.c1; have d2 := S.out.b.c2; simp only at c0 c1 c2 d0 d1 d2) | (go_at_call 17; with_reducible refine (HCa.out _ ?_).mono ?_; exact S.out; rintro e w3 ⟨rfl, s3⟩; clear c0 c1 c2 d0 d1 d2 S; have S := Lib.hid s3; clear s3; have c0 := S.out.a.c0; have c1 := S.out.a.c1; have c2 := S.out.a.c2; have d0 := S.out.b.c0; have d1 := S.out.b.c1; have d2 := S.out.b.c2; simp only at c0 c1 c2 d0 d1 d2) | (go_at_call 17; with_reducible refine (HCb.out _ ?_).mono ?_; exact S.out; rintro e w3 ⟨rfl, s3⟩; clear c0 c1 c2 d0 d1 d2 S; have S := Lib.hid s3; clear s3; have c0 := S.out.a.c0; have c1 := S.out.a.c1; have c2 := S.out.a.c2; have d0 := S.out.b.c0; have d1 := S.out.b.c1; have d2 := S.out.b.c2; simp only at c0 c1 c2 d0 d1 d2))
          clear c0 c1 c2 d0 d1 d2 HFa HFb HCa HCb
          refine (add_any A L A' L' cA cL cA' cL' a b _ S.out.a.at_ S.out.b.at_).mono ?_
          intro e w4 hp
          obtain ⟨A1, L1, cA1, cL1, rfl, ho, b4⟩ := hp
          have HO := Lib.hid ho.at_
          have S4 := Lib.hid (S.out.up b4)
          clear ho b4 S
          have HSd := Lib.hid (fun (t : List Bool) => add_sound HZa.out HZb.out t)
          rcases add_ok HZa.out HZb.out with h1 | ⟨h2, h3⟩
          · rw [h1] at HO ⊢
            clear h1 HSd HO
            have BL := Lib.hid (below_up S4.out.bel (below1 w4 (linBox A1 L1 cA1 cL1 lin0)))
            go_wp2_with fail
            go_ret
            exact ⟨rfl, BL.out⟩
          · clear h3
            have HSn := Lib.hid (fun (t : List Bool) => HSd.out t h2)
            rw [h2]
            clear h2 HSd HZa HZb
            generalize (addP a b).1 = x at HO HSn ⊢
            have SA := Lib.hid (show StA w ⟨ga, A, L, cA, cL, a⟩ ⟨gb, A', L', cA', cL', b⟩ ⟨w4.heap.size, A1, L1, cA1, cL1, x⟩ (w4.alloc (linBox A1 L1 cA1 cL1 x)) from ⟨S4.out.up (below1 _ _), BoxAt.new w4 HO.out⟩)
            clear S4 HO
            go_wp2_with fail
            generalize w4.alloc (linBox A1 L1 cA1 cL1 x) = w5 at SA ⊢
            generalize w4.heap.size = gx at SA ⊢
            go_loopw [7, 8] (fun kv _ wr => ∃ k : Nat, kv = .int .i64 k ∧ k ≤ 256 ∧ StA w ⟨ga, A, L, cA, cL, a⟩ ⟨gb, A', L', cA', cL', b⟩ ⟨gx, A1, L1, cA1, cL1, x⟩ wr) (fun kv _ _ => 256 - (intOf kv).toNat)
            case atStart => exact ⟨0, rfl, Nat.zero_le _, SA.out⟩
            case round =>
              obtain ⟨k, rfl, hk, hs⟩ := hrel
              have S := Lib.hid hs
              clear hs SA
              by_cases hlt : k < 256
              · go_wp2_with fail
                refine (truths12_any k wr).mono ?_
                rintro e w6 ⟨T, cT, rfl, rt, b6⟩
                have S6 := Lib.hid (S.out.up b6)
                have HV := Lib.hid (HSn.out (trL k 8))
                have HVa := Lib.hid (show ∀ W, Below w6.heap.size w6 W → Calls Try.prog 23 #[linV A L cA cL a, .slice T 9 cT] W fun e w' => e = .returned (.bool (lvalue a (trL k 8))) ∧ Below w6.heap.size w6 w' from fun W hW => (lvalue_any A L T cA cL cT a (trL k 8) W (S6.out.up hW).s.a.at_ (rt.up hW) (trL_max _)).mono fun e w' ⟨h1, h2⟩ => ⟨h1, below_up hW h2⟩)
                have HVb := Lib.hid (show ∀ W, Below w6.heap.size w6 W → Calls Try.prog 23 #[linV A' L' cA' cL' b, .slice T 9 cT] W fun e w' => e = .returned (.bool (lvalue b (trL k 8))) ∧ Below w6.heap.size w6 w' from fun W hW => (lvalue_any A' L' T cA' cL' cT b (trL k 8) W (S6.out.up hW).s.b.at_ (rt.up hW) (trL_max _)).mono fun e w' ⟨h1, h2⟩ => ⟨h1, below_up hW h2⟩)
                have HVx := Lib.hid (show ∀ W, Below w6.heap.size w6 W → Calls Try.prog 23 #[linV A1 L1 cA1 cL1 x, .slice T 9 cT] W fun e w' => e = .returned (.bool (lvalue x (trL k 8))) ∧ Below w6.heap.size w6 w' from fun W hW => (lvalue_any A1 L1 T cA1 cL1 cT x (trL k 8) W (S6.out.up hW).x.at_ (rt.up hW) (trL_max _)).mono fun e w' ⟨h1, h2⟩ => ⟨h1, below_up hW h2⟩)
                have HCe := Lib.hid (show ∀ W, Below w6.heap.size w6 W → (W.cell? ⟨ga, 0, none⟩ = some (.slice A a.C.length cA) ∧ W.cell? ⟨ga, 1, none⟩ = some (.slice L a.L.length cL) ∧ W.cell? ⟨ga, 2, none⟩ = some (I64 a.B)) ∧ (W.cell? ⟨gb, 0, none⟩ = some (.slice A' b.C.length cA') ∧ W.cell? ⟨gb, 1, none⟩ = some (.slice L' b.L.length cL') ∧ W.cell? ⟨gb, 2, none⟩ = some (I64 b.B)) ∧ (W.cell? ⟨gx, 0, none⟩ = some (.slice A1 x.C.length cA1) ∧ W.cell? ⟨gx, 1, none⟩ = some (.slice L1 x.L.length cL1) ∧ W.cell? ⟨gx, 2, none⟩ = some (I64 x.B)) from fun W hW =>
                  have hd := S6.out.up hW
                  ⟨⟨hd.s.a.c0, hd.s.a.c1, hd.s.a.c2⟩, ⟨hd.s.b.c0, hd.s.b.c1, hd.s.b.c2⟩, hd.x.c0, hd.x.c1, hd.x.c2⟩)
                clear rt b6 S
                generalize lvalue a (trL k 8) = va at HV HVa
                generalize lvalue b (trL k 8) = vb at HV HVb
                generalize lvalue x (trL k 8) = vx at HV HVx
                have BX := Lib.hid (Below.refl w6.heap.size w6)
                obtain ⟨⟨c0, c1, c2⟩, ⟨c3, c4, c5⟩, c6, c7, c8⟩ := HCe.out _ BX.out
                cases va <;> cases vb <;> cases vx <;> first | (exfalso; exact Bool.noConfusion HV.out) | skip
                all_goals
                  clear HV
                  go_wp2_with (first | (go_at_call 23; with_reducible refine (HVa.out _ ?_).mono ?_; exact BX.out; rintro e w7 ⟨rfl, b7⟩; clear c0 c1 c2 c3 c4 c5 c6 c7 c8 BX; have BX := Lib.hid b7; clear b7; obtain ⟨⟨c0, c1, c2⟩, ⟨c3, c4, c5⟩, c6, c7, c8⟩ := HCe.out _ BX.out) | (go_at_call 23; with_reducible refine (HVb.out _ ?_).mono ?_; exact BX.out; rintro e w7 ⟨rfl, b7⟩; clear c0 c1 c2 c3 c4 c5 c6 c7 c8 BX; have BX := Lib.hid b7; clear b7; obtain ⟨⟨c0, c1, c2⟩, ⟨c3, c4, c5⟩, c6, c7, c8⟩ := HCe.out _ BX.out) | (go_at_call 23; with_reducible refine (HVx.out _ ?_).mono ?_; exact BX.out; rintro e w7 ⟨rfl, b7⟩; clear c0 c1 c2 c3 c4 c5 c6 c7 c8 BX; have BX := Lib.hid b7; clear b7; obtain ⟨⟨c0, c1, c2⟩, ⟨c3, c4, c5⟩, c6, c7, c8⟩ := HCe.out _ BX.out))
                  go_roundw
                  case rel => exact ⟨k + 1, by go_num, by omega, S6.out.up BX.out⟩
                  case measure => simp [intOf]; omega
              · obtain rfl : k = 256 := by omega
                go_wp2_with fail
                go_ret
                exact ⟨rfl, S.out.s.bel⟩
        · have e0 := lcheck_vals' hzb
          rw [hza] at HCa
          clear hza hzb
          rcases e0 with e0 | e0
          all_goals
            rw [e0] at HCb
            clear e0
            go_wp2_with (first | (go_at_call 13; with_reducible refine (HFa.out _ ?_).mono ?_; exact S.out; rintro e w3 ⟨rfl, s3⟩; clear c0 c1 c2 d0 d1 d2 S; have S := Lib.hid s3; clear s3; have c0 := S.out.a.c0; have c1 := S.out.a.c1; have c2 := S.out.a.c2; have d0 := S.out.b.c0; have d1 := S.out.b.c1; have d2 := S.out.b.c2; simp only at c0 c1 c2 d0 d1 d2) | (go_at_call 13; with_reducible refine (HFb.out _ ?_).mono ?_; exact S.out; rintro e w3 ⟨rfl, s3⟩; clear c0 c1 c2 d0 d1 d2 S; have S := Lib.hid s3; clear s3; have c0 := S.out.a.c0; have c1 := S.out.a.c1; have c2 := S.out.a.c2; have d0 := S.out.b.c0; have d1 := S.out.b.c1; have d2 := S.out.b.c2; simp only at c0 c1 c2 d0 d1 d2) | (go_at_call 17; with_reducible refine (HCa.out _ ?_).mono ?_; exact S.out; rintro e w3 ⟨rfl, s3⟩; clear c0 c1 c2 d0 d1 d2 S; have S := Lib.hid s3; clear s3; have c0 := S.out.a.c0; have c1 := S.out.a.c1; have c2 := S.out.a.c2; have d0 := S.out.b.c0; have d1 := S.out.b.c1; have d2 := S.out.b.c2; simp only at c0 c1 c2 d0 d1 d2) | (go_at_call 17; with_reducible refine (HCb.out _ ?_).mono ?_; exact S.out; rintro e w3 ⟨rfl, s3⟩; clear c0 c1 c2 d0 d1 d2 S; have S := Lib.hid s3; clear s3; have c0 := S.out.a.c0; have c1 := S.out.a.c1; have c2 := S.out.a.c2; have d0 := S.out.b.c0; have d1 := S.out.b.c1; have d2 := S.out.b.c2; simp only at c0 c1 c2 d0 d1 d2))
            go_ret
            exact ⟨rfl, S.out.bel⟩
      · have e0 := lcheck_vals' hza
        clear hza
        rcases e0 with e0 | e0
        all_goals
          rw [e0] at HCa
          clear e0
          go_wp2_with (first | (go_at_call 13; with_reducible refine (HFa.out _ ?_).mono ?_; exact S.out; rintro e w3 ⟨rfl, s3⟩; clear c0 c1 c2 d0 d1 d2 S; have S := Lib.hid s3; clear s3; have c0 := S.out.a.c0; have c1 := S.out.a.c1; have c2 := S.out.a.c2; have d0 := S.out.b.c0; have d1 := S.out.b.c1; have d2 := S.out.b.c2; simp only at c0 c1 c2 d0 d1 d2) | (go_at_call 13; with_reducible refine (HFb.out _ ?_).mono ?_; exact S.out; rintro e w3 ⟨rfl, s3⟩; clear c0 c1 c2 d0 d1 d2 S; have S := Lib.hid s3; clear s3; have c0 := S.out.a.c0; have c1 := S.out.a.c1; have c2 := S.out.a.c2; have d0 := S.out.b.c0; have d1 := S.out.b.c1; have d2 := S.out.b.c2; simp only at c0 c1 c2 d0 d1 d2) | (go_at_call 17; with_reducible refine (HCa.out _ ?_).mono ?_; exact S.out; rintro e w3 ⟨rfl, s3⟩; clear c0 c1 c2 d0 d1 d2 S; have S := Lib.hid s3; clear s3; have c0 := S.out.a.c0; have c1 := S.out.a.c1; have c2 := S.out.a.c2; have d0 := S.out.b.c0; have d1 := S.out.b.c1; have d2 := S.out.b.c2; simp only at c0 c1 c2 d0 d1 d2) | (go_at_call 17; with_reducible refine (HCb.out _ ?_).mono ?_; exact S.out; rintro e w3 ⟨rfl, s3⟩; clear c0 c1 c2 d0 d1 d2 S; have S := Lib.hid s3; clear s3; have c0 := S.out.a.c0; have c1 := S.out.a.c1; have c2 := S.out.a.c2; have d0 := S.out.b.c0; have d1 := S.out.b.c1; have d2 := S.out.b.c2; simp only at c0 c1 c2 d0 d1 d2))
          go_ret
          exact ⟨rfl, S.out.bel⟩
end Go.Proofs.Ytibfgeoiemmjoaa

