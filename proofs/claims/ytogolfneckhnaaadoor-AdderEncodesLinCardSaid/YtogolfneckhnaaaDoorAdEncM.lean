/- AdderEncodesLin's walk: at every input the law's Go text returns true, and writes nothing that was there. -/
import Derived.Test.YtogolfneckhnaaaDoorAdEncL
set_option linter.unusedSimpArgs false
set_option linter.unusedVariables false
set_option linter.unnecessarySimpa false
namespace Go.Proofs.YtogolfneckhnaaaDoor
open Go.RowKit Go.Shelf

set_option maxRecDepth 100000 in
set_option maxHeartbeats 3200000 in
theorem encL_any (A L : Option Addr) (cA cL : Nat) (x : LinV) (next pick : Int) (w : World) (h : LinAt w A L x) (hT : TabAt w) :
    Calls Tryd.prog 11 #[linV A L cA cL x, I64 next, I64 pick] w fun e w' => e = .returned (.bool true) ∧ Below w.heap.size w w' := by
  have S1 := Lib.hid (show St1 w ⟨w.heap.size, A, L, cA, cL, x⟩ (w.alloc (linBox A L cA cL x)) from ⟨below1 w _, hT.below (below1 w _), BoxAt.new w h⟩)
  obtain ⟨j0, hj, hy0, hy1, hy2⟩ := info_parts info_ints
  have HJ := Lib.hid (And.intro hj (And.intro hy0 (And.intro hy1 hy2)))
  clear h hT hj hy0 hy1 hy2
  go_enter Tryd.func11, Tryd.ntmps11
  go_wp2_with fail
  generalize w.alloc (linBox A L cA cL x) = w1 at S1 ⊢
  obtain ⟨ga, hga⟩ : ∃ ga, ga = w.heap.size := ⟨_, rfl⟩
  rw [← hga] at S1 ⊢
  clear hga
  refine (live_any w1 S1.out.tab).mono ?_
  rintro e w2 ⟨rfl, b2⟩
  have S := Lib.hid (S1.out.up b2)
  clear b2 S1
  have c0 := S.out.a.c0
  have c1 := S.out.a.c1
  have c2 := S.out.a.c2
  simp only at c0 c1 c2
  have HSm := Lib.hid (small_any A L cA cL x.C.length x.L.length next w2)
  cases hsm : smallB x.C.length x.L.length next
  · rw [hsm] at HSm
    clear hsm
    go_wp2_with fail
    refine HSm.out.mono ?_
    rintro e w3 ⟨rfl, rfl⟩
    go_wp2_with fail
    go_ret
    exact ⟨rfl, S.out.bel⟩
  · have hs8 : x.C.length ≤ 8 ∧ x.L.length ≤ 8 ∧ next ≤ 40 := by simp [smallB] at hsm; omega
    rw [hsm] at HSm
    clear hsm
    by_cases hn1 : next < 1
    · have d1 : decide (next < 1) = true := by simpa using hn1
      go_wp2_with fail
      refine HSm.out.mono ?_
      rintro e w3 ⟨rfl, rfl⟩
      go_wp2_with fail
      go_ret
      exact ⟨rfl, S.out.bel⟩
    · have d1 : decide (next < 1) = false := by simpa using hn1
      have hw1 : wrap64 (next - 1) = next - 1 := by unfold wrap64; omega
      have HCk := Lib.hid (lcheck_any A L cA cL x (next - 1) w2 S.out.a.at_)
      by_cases hc : lcheck x (next - 1) = 0
      · rw [hc] at HCk
        have HC := Lib.hid hc
        clear hc
        go_wp2_with fail
        refine HSm.out.mono ?_
        rintro e w3 ⟨rfl, rfl⟩
        go_wp2_with fail
        refine HCk.out.mono ?_
        rintro e w3 ⟨rfl, b3⟩
        have S3 := Lib.hid (S.out.up b3)
        clear b3 c0 c1 c2 S HCk HSm
        have c0 := S3.out.a.c0
        have c1 := S3.out.a.c1
        have c2 := S3.out.a.c2
        simp only at c0 c1 c2
        go_wp2_with fail
        refine (norm_any A L cA cL x w3 S3.out.a.at_).mono ?_
        intro e w4 hp
        obtain ⟨A1, L1, cA1, cL1, rfl, ho, b4⟩ := hp
        obtain ⟨_, _, hyl, hyB0, hyB1⟩ := norm_small (x := x) (n := next - 1) (by omega) (by omega) HC.out
        have hyc : (normP x).C.length ≤ 4096 ∧ (normP x).L.length ≤ 4096 := ho.len
        have HE := Lib.hid (fun bits cs after hs g hg => enc_ok (x := x) (next := next) (by omega) hs8.2.2 hs8.2.1 HC.out (bits := bits) (cs := cs) (after := after) hs g hg)
        have LY := Lib.hid (ho.at_.up (below1 w4 (linBox A1 L1 cA1 cL1 (normP x))))
        have BY := Lib.hid (BoxAt.new w4 (cA := cA1) (cL := cL1) ho.at_)
        have S5 := Lib.hid ((S3.out.up b4).up (below1 w4 (linBox A1 L1 cA1 cL1 (normP x))))
        clear ho b4 c0 c1 c2 S3
        generalize normP x = y at HE LY BY S5 hyl hyB0 hyB1 hyc ⊢
        go_wp2_with fail
        generalize w4.alloc (linBox A1 L1 cA1 cL1 y) = w5 at LY BY S5 ⊢
        generalize w4.heap.size = gy at BY ⊢
        cases hr : sumP y.C y.L next with
        | err c =>
          have HR := Lib.hid hr
          have hc0 : (c != 0) = true := sumP_err hr
          clear hr
          refine (sum_err A1 L1 cA1 cL1 y.C.length y.L.length y.C y.L next c w5 rfl rfl LY.out.1 LY.out.2.1 S5.out.tab (by omega) (by omega) HR.out).mono ?_
          rintro e w6 ⟨rfl, b6⟩
          have B6 := Lib.hid (below_up S5.out.bel b6)
          clear b6
          go_wp2_with fail
          go_ret
          exact ⟨rfl, B6.out⟩
        | ok bits cs after =>
          have HR := Lib.hid hr
          clear hr
          refine (sum_ok A1 L1 cA1 cL1 y.C.length y.L.length y.C y.L next bits cs after w5 rfl rfl LY.out.1 LY.out.2.1 S5.out.tab (by omega) (by omega) HR.out).mono ?_
          rintro e w6 ⟨A6, cA6, C6, cC6, rfl, _, _, rd6, rl6, b6⟩
          have S6 := Lib.hid (S5.out.up b6)
          have Y6 := Lib.hid (BY.out.up b6)
          have R6 := Lib.hid (And.intro rd6 rl6)
          clear b6 rd6 rl6 S5 BY LY
          obtain ⟨n, hn⟩ : ∃ n : Nat, next = n + 1 := ⟨(next - 1).toNat, by omega⟩
          obtain ⟨more, hl, hml, hbl, ha1, ha2, F, f1, f2, f3⟩ := HE.out bits cs after HR.out (truthsP n pick) (by rw [truthsP_len]; omega)
          obtain ⟨_, _, _, q4, q5, _, _, q8, _, q10, _⟩ := sumP_size HR.out
          have QL := Lib.hid (sum_lits HR.out)
          have hml2 := leastP_okC hl
          have HL9 := Lib.hid hl
          have F1 := Lib.hid f1
          have HN := Lib.hid (show next - 1 = (n : Int) by omega)
          have HTL := Lib.hid (truthsP_len n pick)
          have hcs : cs.length ≤ 100000 := by omega
          have hmr : more.length ≤ 64 := by rw [hml2.2.2.2.2]; unfold leastTo; rw [List.length_map]; exact Nat.le_trans (List.length_filter_le _ _) (by simp)
          have hn39 : n ≤ 39 := by omega
          have hF : F.length ≤ 66000 := by omega
          have QM := Lib.hid (show ∀ c ∈ cs ++ more, c.length ≤ maxLen from fun c hcm => by
            unfold maxLen
            rcases List.mem_append.1 hcm with h1 | h1
            · have := (QL.out c h1).1; omega
            · rw [hml2.2.2.2.2] at h1; have := leastTo_mem h1; omega)
          have QV := Lib.hid (show valueP (after - 1) (cs ++ more) F = lvalue x (truthsP n pick) from by
            unfold valueP
            rw [check_ok (by omega) (by omega) (by rw [List.length_append]; omega) (fun c hcm y hy => by
              rcases List.mem_append.1 hcm with h1 | h1
              · obtain ⟨a, b, d⟩ := q10 c h1 y hy; exact ⟨a, by omega, by omega⟩
              · obtain ⟨a, b, d⟩ := hml c h1 y hy; exact ⟨a, by omega, by omega⟩)]
            rw [← f3]
            rfl)
          clear hml hml2 hl f1 f3 q4 q5 q8 q10 hn
          have hf0 : ((0 : Int) != 0) = false := rfl
          have o1 : decide (after < next) = false := by simp; omega
          have o2 : decide (next + 2000 < after) = false := by simp; omega
          have y2 := Y6.out.c2
          simp only at y2
          go_wp2_with fail
          refine (least_okC A6 cA6 bits y.B more w6 R6.out.1 S6.out.tab (by omega) HL9.out).mono ?_
          rintro e w7 ⟨C7, cC7, rfl, r7, b7⟩
          have S7 := Lib.hid (S6.out.up b7)
          have R7 := Lib.hid (And.intro (R6.out.2.up b7) r7)
          clear b7 r7 S6 R6 y2 Y6
          go_wp2_with fail
          refine (truths_at (n := n) HN.out (by omega)).mono ?_
          rintro e w8 ⟨ta, tc, rfl, tr, b8⟩
          have S8 := Lib.hid (S7.out.up b8)
          have R8 := Lib.hid (And.intro (R7.out.1.up b8) (R7.out.2.up b8))
          have T8 := Lib.hid tr
          clear b8 tr S7 R7
          go_wp2_with fail
          refine (told_at (a := truthsP n pick) (F := F) R8.out.1 T8.out (by omega) QL.out (by rw [HTL.out]; omega) (by rw [HTL.out]; omega) (by omega) (by omega) (by omega) (by omega) HTL.out F1.out).mono ?_
          rintro e w9 ⟨Fa, Fc, rfl, fr, b9⟩
          have S9 := Lib.hid (S8.out.up b9)
          have R9 := Lib.hid (And.intro (R8.out.1.up b9) (R8.out.2.up b9))
          have FR9 := Lib.hid fr
          clear b9 fr S8 R8 T8
          obtain ⟨vs, v1, v2, v3, v4⟩ := rdl_src R9.out.1
          obtain ⟨us, u1, u2, u3, u4⟩ := rdl_src R9.out.2
          have V1 := Lib.hid v1
          have V2 := Lib.hid (fun W hb => src_up v2 (W' := W) hb)
          have V3 := Lib.hid v3
          have V4 := Lib.hid v4
          have U1 := Lib.hid u1
          have U2 := Lib.hid (fun W hb => src_up u2 (W' := W) hb)
          have U3 := Lib.hid u3
          have U4 := Lib.hid u4
          clear v1 v2 v3 v4 u1 u2 u3 u4
          go_wp2_with (at_builtin; refine wpList_appendR _ rfl (.tmp 86) (.tmp 87) 24 rfl 22 j0 (.slice none 0 0) 24 Tryd.underlying24 HJ.out.1 HJ.out.2.1 HJ.out.2.2.1 HJ.out.2.2.2 rfl _ [] 0 rfl rfl (Own.empty w9 _) _ _ vs cs.length V1.out rfl (V2.out _ (below1 w9 _)) V3.out (by unfold maxLen; omega) (by omega) ?_)
          intro A10 cp10 w10 hown10 hg10 hat10
          have B10 := Lib.hid (show Below w9.heap.size w9 w10 from (below1 w9 _).grown hg10 (by simp) (fun g e => by simp [Value.ownBlock] at e; omega))
          have O10 := Lib.hid (show Own w10 22 (.slice A10 cs.length cp10) vs from by simpa using hown10)
          have G10 := Lib.hid (show ∀ g, (Value.slice A10 cs.length cp10).ownBlock = some g → w9.heap.size ≤ g from fun g hg => by
            rcases hat10 g hg with h1 | h1
            · simp [Value.ownBlock] at h1; omega
            · have : (w9.alloc (.cells #[] 22)).heap.size = w9.heap.size + 1 := by simp
              omega)
          clear hown10 hg10 hat10
          go_wp2_with (at_builtin; refine wpList_appendR _ rfl (.tmp 88) (.tmp 89) 24 rfl 22 j0 (.slice none 0 0) 24 Tryd.underlying24 HJ.out.1 HJ.out.2.1 HJ.out.2.2.1 HJ.out.2.2.2 rfl _ vs cs.length V1.out rfl O10.out _ _ us more.length U1.out rfl (U2.out _ B10.out) U3.out (by unfold maxLen; omega) (by omega) ?_)
          intro A11 cp11 w11 hown11 hg11 hat11
          have B11 := Lib.hid (show Below w9.heap.size w9 w11 from B10.out.grown hg11 B10.out.size (fun g e => G10.out g e))
          have RJ := Lib.hid (rdl_join hown11 B11.out V1.out U1.out V4.out U4.out)
          have S11 := Lib.hid (S9.out.up B11.out)
          have F11 := Lib.hid (FR9.out.up B11.out)
          clear hown11 hg11 hat11 B10 O10 G10 B11 V1 V2 V3 V4 U1 U2 U3 U4 S9 R9 FR9
          have hjl : (cs ++ more).length = cs.length + more.length := by simp
          generalize cs.length + more.length = zl at hjl ⊢
          have hzl : zl ≤ 200000 := by simp at hjl; omega
          generalize cs ++ more = all at hjl QM QV RJ
          subst hjl
          have hw2 : IntKind.i64.wrap (after - 1) = after - 1 := IntWalk.i64_in _ (by omega)
          have hw4 : IntKind.i64.wrap (next - 1) = next - 1 := IntWalk.i64_in _ (by omega)
          have HV := Lib.hid (show ∀ W, Below w11.heap.size w11 W → Calls Tryd.prog 25 #[.agg #[I64 (after - 1), .slice A11 all.length cp11], .slice Fa F.length Fc] W fun e w' => e = .returned (.bool (lvalue x (truthsP n pick))) ∧ Below w11.heap.size w11 w' ∧ Below W.heap.size W w' from
            fun W hW => (value_at (N := after - 1) (a := F) (RJ.out.up hW) (F11.out.up hW) (by unfold maxLen; omega) QM.out (by unfold maxLen; omega) rfl QV.out).mono fun e w' ⟨h1, h2⟩ => ⟨h1, below_up hW h2, h2⟩)
          have HTr := Lib.hid (show ∀ W, Below w11.heap.size w11 W → Calls Tryd.prog 19 #[I64 (next - 1), I64 pick] W fun e w' => ∃ A c, e = .returned (.slice A (n + 1) c) ∧ Rd Value.bool (· < w'.heap.size) w' A (truthsP n pick) ∧ Below w11.heap.size w11 w' ∧ Below W.heap.size W w' from
            fun W hW => (truths_at (n := n) HN.out (by omega)).mono fun e w' ⟨A, c, h1, h2, h3⟩ => ⟨A, c, h1, h2, below_up hW h3, h3⟩)
          have HLv := Lib.hid (show ∀ W T cT, Below w11.heap.size w11 W → Rd Value.bool (· < W.heap.size) W T (truthsP n pick) → Calls Tryd.prog 29 #[linV A L cA cL x, .slice T (n + 1) cT] W fun e w' => e = .returned (.bool (lvalue x (truthsP n pick))) ∧ Below w11.heap.size w11 w' ∧ Below W.heap.size W w' from
            fun W T cT hW hr => by
              have h9 := lvalue_any A L T cA cL cT x (truthsP n pick) W (S11.out.up hW).a.at_ hr (by rw [HTL.out]; unfold maxLen; omega)
              rw [HTL.out] at h9
              exact h9.mono fun e w' ⟨h1, h2⟩ => ⟨h1, below_up hW h2, h2⟩)
          have HCe := Lib.hid (show ∀ W, Below w11.heap.size w11 W → W.cell? ⟨ga, 0, none⟩ = some (.slice A x.C.length cA) ∧ W.cell? ⟨ga, 1, none⟩ = some (.slice L x.L.length cL) ∧ W.cell? ⟨ga, 2, none⟩ = some (I64 x.B) from fun W hW =>
            have hd := S11.out.up hW
            ⟨hd.a.c0, hd.a.c1, hd.a.c2⟩)
          clear RJ F11 QM QV
          generalize lvalue x (truthsP n pick) = v at HV HLv
          generalize truthsP n pick = tr at HTr HLv
          have BX := Lib.hid (Below.refl w11.heap.size w11)
          have RT := Lib.hid True.intro
          obtain ⟨c0, c1, c2⟩ := HCe.out _ BX.out
          cases v
          all_goals
            go_wp2_with fail
            go_region_held3 (fun W => W.cell? ⟨ga, 0, none⟩ = some (.slice A x.C.length cA) ∧ W.cell? ⟨ga, 1, none⟩ = some (.slice L x.L.length cL) ∧ W.cell? ⟨ga, 2, none⟩ = some (I64 x.B))
              (first | go_keep | (exact HCe.out _ BX.out) | (exact HCe.out _ (below_drew BX.out)))
              (first
                | (go_at_call 25; with_reducible refine (HV.out _ ?_).mono ?_; (first | exact BX.out | exact below_drew BX.out); rintro e w7 ⟨rfl, b7, u7⟩; clear BX; have BX := Lib.hid b7; clear b7; (first | (have RT2 := Lib.hid (RT.out.up u7); clear RT u7; have RT := Lib.hid RT2.out; clear RT2) | clear u7))
                | (go_at_call 19; with_reducible refine (HTr.out _ ?_).mono ?_; (first | exact BX.out | exact below_drew BX.out); rintro e w7 ⟨ta7, tc7, rfl, rt7, b7, u7⟩; clear BX RT u7; have BX := Lib.hid b7; have RT := Lib.hid rt7; clear b7 rt7)
                | (go_at_call 29; with_reducible refine (HLv.out _ _ _ ?_ ?_).mono ?_; (first | exact BX.out | exact below_drew BX.out); exact RT.out; rintro e w7 ⟨rfl, b7, u7⟩; clear BX RT u7; have BX := Lib.hid b7; have RT := Lib.hid True.intro; clear b7))
            all_goals
              go_wp2_with fail
              go_ret
              exact ⟨rfl, below_up S11.out.bel BX.out⟩
      · have e0 : (lcheck x (next - 1) != 0) = true := by simpa using hc
        clear hc
        go_wp2_with fail
        refine HSm.out.mono ?_
        rintro e w3 ⟨rfl, rfl⟩
        go_wp2_with fail
        refine HCk.out.mono ?_
        rintro e w3 ⟨rfl, b3⟩
        have B3 := Lib.hid (below_up S.out.bel b3)
        clear b3
        go_wp2_with fail
        go_ret
        exact ⟨rfl, B3.out⟩
end Go.Proofs.YtogolfneckhnaaaDoor
