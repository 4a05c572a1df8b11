/- Lemmas and contracts for the row. -/
import Derived.Test.YtkkapbnopmmmjaaDoorPkRowEncodeNormalizedY
import Derived.Test.YtkkapbnopmmmjaaDoorPkRowEncodeNormalizedV
import Derived.Test.YtkkapbnopmmmjaaDoorPkRowEncodeNormalizedK
set_option linter.unusedVariables false
set_option linter.unusedSimpArgs false
set_option linter.unnecessarySimpa false
namespace Go.Proofs.YtkkapbnopmmmjaaDoor.En
open Go Go.RowKit
abbrev linA (l : LinV) : AV := .agg [.ints l.C, .ints l.L, .int l.B]
theorem lin_of_den {W : World} {G : Nat → Prop} {C L : List Int} {B : Int} {u : Value} (hG : ∀ b, G b → b < W.heap.size) (h : Den (g0 W G) (.agg [.ints C, .ints L, .int B]) u) :
    ∃ A A' c c', u = linV A A' c c' ⟨C, L, B⟩ ∧ LinAt W A A' ⟨C, L, B⟩ := by
  simp only [Den] at h
  obtain ⟨vs, rfl, hl⟩ := h
  obtain ⟨a, b, c, rfl, h1, h2, h3⟩ := denL3 hl
  simp only [Den] at h1 h2
  obtain ⟨A, k, rfl, r1, m1⟩ := rd_of_rep h1 hG
  obtain ⟨A', k', rfl, r2, m2⟩ := rd_of_rep h2 hG
  rw [den_val h3]
  exact ⟨A, A', k, k', rfl, r1, r2, m1, m2⟩
theorem den_of_own {W W' : World} {G : Nat → Prop} {A L : Option Addr} {cA cL : Nat} {l : LinV} (h : OwnLin W.heap.size W' A L cA cL l) :
    Den (g0 W' (fun b => G b ∨ (W.heap.size ≤ b ∧ b < W'.heap.size))) (linA l) (linV A L cA cL l) := by
  simp only [Den]
  refine ⟨[_, _, _], rfl, ?_⟩
  simp only [DenL]
  refine ⟨_, _, rfl, ?_, _, _, rfl, ?_, _, _, rfl, ?_, rfl⟩
  · simp only [Den]
    exact rep_of_own h.c (by have := h.len.1; unfold maxLen; omega) (fun b hb => .inr ⟨h.cB b hb, h.c.lt hb⟩)
  · simp only [Den]
    exact rep_of_own h.li (by have := h.len.2; unfold maxLen; omega) (fun b hb => .inr ⟨h.lB b hb, h.li.lt hb⟩)
  · exact den_val_mk _
def lcheck_σ : CtF1
  | [.agg [.im (.ls (.ints C)), .im (.ls (.ints L)), .im (.val (.int .i64 B))], .im (.val (.int .i64 n))] => some (True, .int (lcheck ⟨C, L, B⟩ n))
  | _ => none
theorem lcheck_sound : Sound1 Tryd.prog 14 lcheck_σ := by
  refine ⟨fun args W => run_enters (fn := Tryd.f14) Tryd.func14 (by kernel_rfl) rfl args W, fun W G args vs p r hG hs _ hd => ?_⟩
  unfold lcheck_σ at hs
  split at hs
  · simp only [Option.some.injEq, Prod.mk.injEq] at hs
    obtain ⟨rfl, rfl⟩ := hs
    obtain ⟨u, u', rfl, h1, h2⟩ := denL2 hd
    obtain ⟨A, A', c, c', rfl, hA⟩ := lin_of_den hG h1
    rw [den_val h2]
    refine (lcheck_any A A' c c' _ _ W hA).mono ?_
    rintro e w' ⟨rfl, hb⟩
    exact ⟨_, rfl, hb, den_val_mk _⟩
  · cases hs
def lnorm_σ : CtF1
  | [.agg [.im (.ls (.ints C)), .im (.ls (.ints L)), .im (.val (.int .i64 B))]] => some (True, linA (normP ⟨C, L, B⟩))
  | _ => none
theorem lnorm_sound : Sound1 Tryd.prog 10 lnorm_σ := by
  refine ⟨fun args W => run_enters (fn := Tryd.f10) Tryd.func10 (by kernel_rfl) rfl args W, fun W G args vs p r hG hs _ hd => ?_⟩
  unfold lnorm_σ at hs
  split at hs
  · simp only [Option.some.injEq, Prod.mk.injEq] at hs
    obtain ⟨rfl, rfl⟩ := hs
    obtain ⟨u, rfl, h1⟩ := denL1 hd
    obtain ⟨A, A', c, c', rfl, hA⟩ := lin_of_den hG h1
    refine (norm_any A A' c c' _ W hA).mono ?_
    rintro e w' ⟨A1, L1, k1, k2, rfl, ho, hb⟩
    exact ⟨_, rfl, hb, den_of_own ho⟩
  · cases hs
end Go.Proofs.YtkkapbnopmmmjaaDoor.En
namespace Go.Proofs.YtkkapbnopmmmjaaDoor.En
open Go Go.RowKit
def ty12 : List (Nat × TD) := [(3, ⟨1, false, [.int .i64 0], [], none, 8, false, 1, 1⟩),
  (24, ⟨1, false, [.slice none 0 0], [], some 3, 24, false, 0, 3⟩),
  (26, ⟨3, true, [.slice none 0 0, .slice none 0 0, .int .i64 0], [(0, 24), (1, 24), (2, 3)], none, 56, false, 0, 5⟩)]
theorem ty12_ok : AllTy Tryd.prog ty12 := ⟨⟨by kernel_rfl, by kernel_rfl, by kernel_rfl⟩, ⟨by kernel_rfl, by kernel_rfl, by kernel_rfl⟩, ⟨by kernel_rfl, by kernel_rfl, by kernel_rfl⟩, trivial⟩
def cx_rSame12 : Cx := ⟨ty12, [], false⟩
theorem cx_rSame12_ok : CxOk Tryd.prog cx_rSame12 := cx_ok ty12_ok trivial
def rSame12_σ : CtF
  | [.agg [.im (.ls (.ints C)), .im (.ls (.ints L)), .im (.val (.int .i64 B))], .agg [.im (.ls (.ints C')), .im (.ls (.ints L')), .im (.val (.int .i64 B'))]], [] => some (C.length ≤ maxLen ∧ L.length ≤ maxLen, .bool (sameP ⟨C, L, B⟩ ⟨C', L', B'⟩), [])
  | _, _ => none
theorem rSame12_sound : Sound Tryd.prog 12 rSame12_σ := by
 refine sound_mk (cx := cx_rSame12) (fn := Tryd.f12) Tryd.func12 (by kernel_rfl) rfl ?_
 intro w0 G0 args os p r outs hσ hp hm0 hd0
 have hcx : CxOk Tryd.prog cx_rSame12 := cx_rSame12_ok
 have hmx : Tryd.prog.follows .mixedOrders = true := by kernel_rfl
 unfold rSame12_σ at hσ
 split at hσ
 ·
  rename_i C L B C' L' B'
  simp only [Option.some.injEq, Prod.mk.injEq] at hσ
  obtain ⟨rfl, rfl, rfl⟩ := hσ
  obtain ⟨wW, wO, wm, wβ, wd⟩ := w0
  replace hm0 : wm = 0 := hm0
  subst hm0
  replace hd0 : wd = [] := hd0
  subst hd0
  refine ⟨by kernel_rfl, ?_⟩
  change Tri ⟨_, _, _, _, _, _⟩ [(0, .agg [.ints C, .ints L, .int B]), (1, .agg [.ints C', .ints L', .int B'])] [] _ _
  obtain ⟨hm1, hm2⟩ := hp
  unfold maxLen at hm1 hm2
  refine tri_seq ?_
  refine tri_regD hcx [(1000, .frz), (1001, .frz)] [2, 3] [] [] [] [(2, .pto [.ls (.ints C), .ls (.ints L), .int B]), (3, .pto [.ls (.ints C'), .ls (.ints L'), .int B'])] [] (by kernel_rfl) ?_ ?_
  ·
   exact az
  refine fin_then ?_
  refine tri_seq ?_
  refine tri_seq ?_
  refine tri_regD hcx [] [29] [2, 3] [] [((!((C.length : Int) != (C'.length : Int))) = true → ((!((C.length : Int) != (C'.length : Int))) = true)), ((!((C.length : Int) != (C'.length : Int))) = true → ((!((C.length : Int) != (C'.length : Int))) = true)), ((!((C.length : Int) != (C'.length : Int))) = true → ((!((C.length : Int) != (C'.length : Int))) = true)), ((!((C.length : Int) != (C'.length : Int))) = true → ((!((C.length : Int) != (C'.length : Int))) = true)), ((!((C.length : Int) != (C'.length : Int))) = true → ((!((C.length : Int) != (C'.length : Int))) = true)), ((!((C.length : Int) != (C'.length : Int))) = true → ((!((C.length : Int) != (C'.length : Int))) = true)), (((C.length : Int) != (C'.length : Int)) = false → (!((C.length : Int) != (C'.length : Int))) = true), ((!(((C.length : Int) != (C'.length : Int)) || ((L.length : Int) != (L'.length : Int)))) = true → ((!(((C.length : Int) != (C'.length : Int)) || ((L.length : Int) != (L'.length : Int)))) = true)), ((!(((C.length : Int) != (C'.length : Int)) || ((L.length : Int) != (L'.length : Int)))) = true → ((!(((C.length : Int) != (C'.length : Int)) || ((L.length : Int) != (L'.length : Int)))) = true)), ((!(((C.length : Int) != (C'.length : Int)) || ((L.length : Int) != (L'.length : Int)))) = true → ((!(((C.length : Int) != (C'.length : Int)) || ((L.length : Int) != (L'.length : Int)))) = true)), ((!(((C.length : Int) != (C'.length : Int)) || ((L.length : Int) != (L'.length : Int)))) = true → ((!(((C.length : Int) != (C'.length : Int)) || ((L.length : Int) != (L'.length : Int)))) = true)), ((((C.length : Int) != (C'.length : Int)) || ((L.length : Int) != (L'.length : Int))) = false → (!(((C.length : Int) != (C'.length : Int)) || ((L.length : Int) != (L'.length : Int)))) = true)] [(29, .bool ((((C.length : Int) != (C'.length : Int)) || ((L.length : Int) != (L'.length : Int))) || (B != B')))] [] (by kernel_rfl) ?_ ?_
  ·
   refine (ap ?_ (ap ?_ (ap ?_ (ap ?_ (ap ?_ (ap ?_ (ap (by exact vcNot) (ap ?_ (ap ?_ (ap ?_ (ap ?_ (ap (by exact vcNot) az))))))))))))
   all_goals
    first | omega | exact id | exact vcNot | exact vcG | exact vcH | (intro _; omega) | exact (fun _ h => h) | (intro h; simp at h; omega) | (simp only [List.length_cons, List.length_nil, List.length_append, List.length_map, List.length_set, List.length_replicate]; omega) | (intro h; simp [h]; done)
  refine fin_then ?_
  refine tri_cond (b := ((((C.length : Int) != (C'.length : Int)) || ((L.length : Int) != (L'.length : Int))) || (B != B'))) (by kernel_rfl) (fun hb0 => ?_) (fun hb0 => ?_)
  ·
   skip
   have h0 := hb0
   try simp only [Bool.or_eq_true, Bool.or_eq_false_iff, Bool.and_eq_true, Bool.and_eq_false_iff, Bool.not_eq_true', Bool.not_eq_false', decide_eq_true_eq, decide_eq_false_iff_not, bne_iff_ne, bne_eq_false_iff_eq, beq_iff_eq, beq_eq_false_iff_ne] at h0
   refine tri_seq ?_
   refine tri_regD hcx [] [4] [] [] [] [(4, .bool false)] [] (by kernel_rfl) ?_ ?_
   ·
    exact az
   refine fin_then ?_
   refine tri_ret ?_
   refine fin_then_ret ?_
   exact fin_ret [] rfl rfl trivial hcx (avs := [.bool false]) (by kernel_rfl) (congrArg AV.bool (show false = sameP ⟨C, L, B⟩ ⟨C', L', B'⟩ from (by exact (same_no1 (by omega)).symm))) [] rfl
  ·
   skip
   have h0 := hb0
   try simp only [Bool.or_eq_true, Bool.or_eq_false_iff, Bool.and_eq_true, Bool.and_eq_false_iff, Bool.not_eq_true', Bool.not_eq_false', decide_eq_true_eq, decide_eq_false_iff_not, bne_iff_ne, bne_eq_false_iff_eq, beq_iff_eq, beq_eq_false_iff_ne] at h0
   refine tri_skip ?_
   refine fin_then ?_
   refine tri_seq ?_
   refine tri_seq ?_
   refine tri_regD hcx [] [5] [2, 3] [] [] [(5, .int 0)] [] (by kernel_rfl) ?_ ?_
   ·
    exact az
   refine fin_then ?_
   refine tri_block ?_
   refine tri_loop (X := Nat) (fun x0 => x0 ≤ C.length ∧ ∀ j, j < x0 → C.getD j 0 = C'.getD j 0) (fun x0 => [(2, .pto [.ls (.ints C), .ls (.ints L), .int B]), (3, .pto [.ls (.ints C'), .ls (.ints L'), .int B']), (5, .int (x0 : Int))]) (fun x0 => []) (fun x0 => C.length - x0) (0) ?_ ?_ ?_ ?_
   ·
    show 0 ≤ C.length ∧ ∀ j, j < 0 → C.getD j 0 = C'.getD j 0
    exact ⟨Nat.zero_le _, fun j hj => by omega⟩
   ·
    exact subE_mk (l := [.pto [.ls (.ints C), .ls (.ints L), .int B], .pto [.ls (.ints C'), .ls (.ints L'), .int B'], .int 0]) (m := [.pto [.ls (.ints C), .ls (.ints L), .int B], .pto [.ls (.ints C'), .ls (.ints L'), .int B'], .int (0 : Int)]) (by kernel_rfl) (by kernel_rfl) (consE rfl (consE rfl (consE (congrArg AV.int (show 0 = (0 : Int) from (by first | rfl | omega | (simp; done)))) rfl)))
   ·
    kernel_rfl
   ·
    intro k hI
    replace hI : k ≤ C.length ∧ ∀ j, j < k → C.getD j 0 = C'.getD j 0 := hI
    change Tri _ [(2, .pto [.ls (.ints C), .ls (.ints L), .int B]), (3, .pto [.ls (.ints C'), .ls (.ints L'), .int B']), (5, .int (k : Int))] [] _ _
    obtain ⟨hk, hok⟩ := hI
    have hCL : C.length = C'.length ∧ L.length = L'.length ∧ B = B' := by omega
    refine tri_seq ?_
    refine tri_seq ?_
    refine tri_regD hcx [] [34] [2, 3, 5] [] [] [(34, .bool (decide ((k : Int) < (C.length : Int))))] [] (by kernel_rfl) ?_ ?_
    ·
     exact az
    refine fin_then ?_
    refine tri_cond (b := (decide ((k : Int) < (C.length : Int)))) (by kernel_rfl) (fun hb1 => ?_) (fun hb1 => ?_)
    ·
     skip
     have h1 := of_decide_eq_true hb1
     refine tri_skip ?_
     refine fin_then ?_
     refine tri_seq ?_
     refine tri_block ?_
     refine tri_seq ?_
     refine tri_drawD [0, 1, 0, 7, 15, 0, 32, 0, 224, 480, 1023] hcx hmx [] [47] [2, 3, 5] [] [((0 : Int) ≤ (k : Int) ∧ (k : Int) < (C.length : Int)), ((0 : Int) ≤ (k : Int) ∧ (k : Int) < (C'.length : Int))] [(47, .bool ((C.getD k 0) != (C'.getD k 0)))] [] (by kernel_rfl) ?_ ?_
     ·
      refine (ap ?_ (ap ?_ az))
      all_goals
       omega
     refine fin_then ?_
     refine tri_cond (b := ((C.getD k 0) != (C'.getD k 0))) (by kernel_rfl) (fun hb2 => ?_) (fun hb2 => ?_)
     ·
      skip
      have h2 := bne_iff_ne.1 hb2
      refine tri_seq ?_
      refine tri_regD hcx [] [4] [] [] [] [(4, .bool false)] [] (by kernel_rfl) ?_ ?_
      ·
       exact az
      refine fin_then ?_
      refine tri_ret ?_
      refine fin_block_ret ?_
      refine fin_then_ret ?_
      refine fin_then_ret ?_
      refine fin_block_ret ?_
      refine fin_then_ret ?_
      exact fin_ret [] rfl rfl trivial hcx (avs := [.bool false]) (by kernel_rfl) (congrArg AV.bool (show false = sameP ⟨C, L, B⟩ ⟨C', L', B'⟩ from (by exact (same_noC (k := k) (by omega)).symm))) [] rfl
     ·
      skip
      have h2 := bneF hb2
      refine tri_skip ?_
      refine fin_block ?_
      refine fin_then ?_
      refine tri_regD hcx [] [5] [2, 3] [] [Fit ((k : Int) + 1)] [(5, .int ((k : Int) + 1))] [] (by kernel_rfl) ?_ ?_
      ·
       refine (ap ?_ az)
       omega
      refine fin_round (k + 1) ?_ ?_ ?_ ?_
      ·
       show (k + 1) ≤ C.length ∧ ∀ j, j < (k + 1) → C.getD j 0 = C'.getD j 0
       exact ⟨by omega, allSucc hok (by omega)⟩
      ·
       show C.length - (k + 1) < C.length - k
       omega
      ·
       exact subE_mk (l := [.pto [.ls (.ints C), .ls (.ints L), .int B], .pto [.ls (.ints C'), .ls (.ints L'), .int B'], .int ((k : Int) + 1)]) (m := [.pto [.ls (.ints C), .ls (.ints L), .int B], .pto [.ls (.ints C'), .ls (.ints L'), .int B'], .int ((k + 1) : Int)]) (by kernel_rfl) (by kernel_rfl) (consE rfl (consE rfl (consE (congrArg AV.int (show ((k : Int) + 1) = ((k + 1) : Int) from (by first | rfl | omega | (simp; done)))) rfl)))
      ·
       kernel_rfl
    ·
     skip
     have h1 := of_decide_eq_false hb1
     refine tri_exit ?_
     refine fin_then_exit ?_
     refine fin_then_exit ?_
     refine fin_block_same ?_
     refine fin_then ?_
     refine tri_seq ?_
     refine tri_seq ?_
     refine tri_regD hcx [] [6] [2, 3] [] [] [(6, .int 0)] [] (by kernel_rfl) ?_ ?_
     ·
      exact az
     refine fin_then ?_
     refine tri_block ?_
     refine tri_loop (X := Nat) (fun x0 => x0 ≤ L.length ∧ ∀ j, j < x0 → L.getD j 0 = L'.getD j 0) (fun x0 => [(2, .pto [.ls (.ints C), .ls (.ints L), .int B]), (3, .pto [.ls (.ints C'), .ls (.ints L'), .int B']), (6, .int (x0 : Int))]) (fun x0 => []) (fun x0 => L.length - x0) (0) ?_ ?_ ?_ ?_
     ·
      show 0 ≤ L.length ∧ ∀ j, j < 0 → L.getD j 0 = L'.getD j 0
      exact ⟨Nat.zero_le _, fun j hj => by omega⟩
     ·
      exact subE_mk (l := [.pto [.ls (.ints C), .ls (.ints L), .int B], .pto [.ls (.ints C'), .ls (.ints L'), .int B'], .int 0]) (m := [.pto [.ls (.ints C), .ls (.ints L), .int B], .pto [.ls (.ints C'), .ls (.ints L'), .int B'], .int (0 : Int)]) (by kernel_rfl) (by kernel_rfl) (consE rfl (consE rfl (consE (congrArg AV.int (show 0 = (0 : Int) from (by first | rfl | omega | (simp; done)))) rfl)))
     ·
      kernel_rfl
     ·
      intro i hI
      replace hI : i ≤ L.length ∧ ∀ j, j < i → L.getD j 0 = L'.getD j 0 := hI
      change Tri _ [(2, .pto [.ls (.ints C), .ls (.ints L), .int B]), (3, .pto [.ls (.ints C'), .ls (.ints L'), .int B']), (6, .int (i : Int))] [] _ _
      obtain ⟨hi, hoi⟩ := hI
      refine tri_seq ?_
      refine tri_seq ?_
      refine tri_regD hcx [] [52] [2, 3, 6] [] [] [(52, .bool (decide ((i : Int) < (L.length : Int))))] [] (by kernel_rfl) ?_ ?_
      ·
       exact az
      refine fin_then ?_
      refine tri_cond (b := (decide ((i : Int) < (L.length : Int)))) (by kernel_rfl) (fun hb3 => ?_) (fun hb3 => ?_)
      ·
       skip
       have h3 := of_decide_eq_true hb3
       refine tri_skip ?_
       refine fin_then ?_
       refine tri_seq ?_
       refine tri_block ?_
       refine tri_seq ?_
       refine tri_drawD [0, 1, 0, 7, 15, 0, 32, 0, 224, 480, 1023] hcx hmx [] [65] [2, 3, 6] [] [((0 : Int) ≤ (i : Int) ∧ (i : Int) < (L.length : Int)), ((0 : Int) ≤ (i : Int) ∧ (i : Int) < (L'.length : Int))] [(65, .bool ((L.getD i 0) != (L'.getD i 0)))] [] (by kernel_rfl) ?_ ?_
       ·
        refine (ap ?_ (ap ?_ az))
        all_goals
         omega
       refine fin_then ?_
       refine tri_cond (b := ((L.getD i 0) != (L'.getD i 0))) (by kernel_rfl) (fun hb4 => ?_) (fun hb4 => ?_)
       ·
        skip
        have h4 := bne_iff_ne.1 hb4
        refine tri_seq ?_
        refine tri_regD hcx [] [4] [] [] [] [(4, .bool false)] [] (by kernel_rfl) ?_ ?_
        ·
         exact az
        refine fin_then ?_
        refine tri_ret ?_
        refine fin_block_ret ?_
        refine fin_then_ret ?_
        refine fin_then_ret ?_
        refine fin_block_ret ?_
        refine fin_then_ret ?_
        exact fin_ret [] rfl rfl trivial hcx (avs := [.bool false]) (by kernel_rfl) (congrArg AV.bool (show false = sameP ⟨C, L, B⟩ ⟨C', L', B'⟩ from (by exact (same_noL (k := i) (by omega)).symm))) [] rfl
       ·
        skip
        have h4 := bneF hb4
        refine tri_skip ?_
        refine fin_block ?_
        refine fin_then ?_
        refine tri_regD hcx [] [6] [2, 3] [] [Fit ((i : Int) + 1)] [(6, .int ((i : Int) + 1))] [] (by kernel_rfl) ?_ ?_
        ·
         refine (ap ?_ az)
         omega
        refine fin_round (i + 1) ?_ ?_ ?_ ?_
        ·
         show (i + 1) ≤ L.length ∧ ∀ j, j < (i + 1) → L.getD j 0 = L'.getD j 0
         exact ⟨by omega, allSucc hoi (by omega)⟩
        ·
         show L.length - (i + 1) < L.length - i
         omega
        ·
         exact subE_mk (l := [.pto [.ls (.ints C), .ls (.ints L), .int B], .pto [.ls (.ints C'), .ls (.ints L'), .int B'], .int ((i : Int) + 1)]) (m := [.pto [.ls (.ints C), .ls (.ints L), .int B], .pto [.ls (.ints C'), .ls (.ints L'), .int B'], .int ((i + 1) : Int)]) (by kernel_rfl) (by kernel_rfl) (consE rfl (consE rfl (consE (congrArg AV.int (show ((i : Int) + 1) = ((i + 1) : Int) from (by first | rfl | omega | (simp; done)))) rfl)))
        ·
         kernel_rfl
      ·
       skip
       have h3 := of_decide_eq_false hb3
       refine tri_exit ?_
       refine fin_then_exit ?_
       refine fin_then_exit ?_
       refine fin_block_same ?_
       refine fin_then ?_
       refine tri_seq ?_
       refine tri_regD hcx [] [4] [] [] [] [(4, .bool true)] [] (by kernel_rfl) ?_ ?_
       ·
        exact az
       refine fin_then ?_
       refine tri_ret ?_
       exact fin_ret [] rfl rfl trivial hcx (avs := [.bool true]) (by kernel_rfl) (congrArg AV.bool (show true = sameP ⟨C, L, B⟩ ⟨C', L', B'⟩ from (by exact (same_yes hCL.1 hCL.2.1 hCL.2.2 (fun j hj => hok j (by omega)) (fun j hj => hoi j (by omega))).symm))) [] rfl
 ·
  cases hσ
end Go.Proofs.YtkkapbnopmmmjaaDoor.En
