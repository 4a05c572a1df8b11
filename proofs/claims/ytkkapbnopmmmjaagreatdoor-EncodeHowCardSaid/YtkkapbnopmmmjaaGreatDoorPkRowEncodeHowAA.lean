/- Lemmas and contracts for the row. -/
import Derived.Test.YtkkapbnopmmmjaaGreatDoorPkRowEncodeHowY
import Derived.Test.YtkkapbnopmmmjaaGreatDoorPkRowEncodeHowV
import Derived.Test.YtkkapbnopmmmjaaGreatDoorPkRowEncodeHowL
set_option linter.unusedVariables false
set_option linter.unusedSimpArgs false
set_option linter.unnecessarySimpa false
namespace Go.Proofs.YtkkapbnopmmmjaaGreatDoor.En
open Go Go.RowKit
abbrev linA (l : LinV) : AV := .agg [.ints l.C, .ints l.L, .int l.B]
theorem lin_of_den {W : World} {G : Nat → Prop} {C L : List Int} {B : Int} {u : Value} (hG : ∀ b, G b → b < W.heap.size) (h : Den (g0 W G) (.agg [.ints C, .ints L, .int B]) u) :
    ∃ A A' c c', u = linV A A' c c' ⟨C, L, B⟩ ∧ LinAt W A A' ⟨C, L, B⟩ := by
  simp only [Den] at h
  obtain ⟨vs, rfl, hl⟩ := h
  obtain ⟨a, b, c, rfl, h1, h2, h3⟩ := denL3 hl
  simp only [Den] at h1 h2
  obtain ⟨A, k, rfl, r1, m1⟩ := rd_of_rep h1 hG
  obtain ⟨A', k', rfl, r2, m2⟩ := rd_of_rep h2 hG
  rw [den_val h3]
  exact ⟨A, A', k, k', rfl, r1, r2, m1, m2⟩
theorem den_of_own {W W' : World} {G : Nat → Prop} {A L : Option Addr} {cA cL : Nat} {l : LinV} (h : OwnLin W.heap.size W' A L cA cL l) :
    Den (g0 W' (fun b => G b ∨ (W.heap.size ≤ b ∧ b < W'.heap.size))) (linA l) (linV A L cA cL l) := by
  simp only [Den]
  refine ⟨[_, _, _], rfl, ?_⟩
  simp only [DenL]
  refine ⟨_, _, rfl, ?_, _, _, rfl, ?_, _, _, rfl, ?_, rfl⟩
  · simp only [Den]
    exact rep_of_own h.c (by have := h.len.1; unfold maxLen; omega) (fun b hb => .inr ⟨h.cB b hb, h.c.lt hb⟩)
  · simp only [Den]
    exact rep_of_own h.li (by have := h.len.2; unfold maxLen; omega) (fun b hb => .inr ⟨h.lB b hb, h.li.lt hb⟩)
  · exact den_val_mk _
def lcheck_σ : CtF1
  | [.agg [.im (.ls (.ints C)), .im (.ls (.ints L)), .im (.val (.int .i64 B))], .im (.val (.int .i64 n))] => some (True, .int (lcheck ⟨C, L, B⟩ n))
  | _ => none
theorem lcheck_sound : Sound1 Tryz.prog 22 lcheck_σ := by
  refine ⟨fun args W => run_enters (fn := Tryz.f22) Tryz.func22 (by kernel_rfl) rfl args W, fun W G args vs p r hG hs _ hd => ?_⟩
  unfold lcheck_σ at hs
  split at hs
  · simp only [Option.some.injEq, Prod.mk.injEq] at hs
    obtain ⟨rfl, rfl⟩ := hs
    obtain ⟨u, u', rfl, h1, h2⟩ := denL2 hd
    obtain ⟨A, A', c, c', rfl, hA⟩ := lin_of_den hG h1
    rw [den_val h2]
    refine (lcheck_any A A' c c' _ _ W hA).mono ?_
    rintro e w' ⟨rfl, hb⟩
    exact ⟨_, rfl, hb, den_val_mk _⟩
  · cases hs
def lnorm_σ : CtF1
  | [.agg [.im (.ls (.ints C)), .im (.ls (.ints L)), .im (.val (.int .i64 B))]] => some (True, linA (normP ⟨C, L, B⟩))
  | _ => none
theorem lnorm_sound : Sound1 Tryz.prog 33 lnorm_σ := by
  refine ⟨fun args W => run_enters (fn := Tryz.f33) Tryz.func33 (by kernel_rfl) rfl args W, fun W G args vs p r hG hs _ hd => ?_⟩
  unfold lnorm_σ at hs
  split at hs
  · simp only [Option.some.injEq, Prod.mk.injEq] at hs
    obtain ⟨rfl, rfl⟩ := hs
    obtain ⟨u, rfl, h1⟩ := denL1 hd
    obtain ⟨A, A', c, c', rfl, hA⟩ := lin_of_den hG h1
    refine (norm_any A A' c c' _ W hA).mono ?_
    rintro e w' ⟨A1, L1, k1, k2, rfl, ho, hb⟩
    exact ⟨_, rfl, hb, den_of_own ho⟩
  · cases hs
end Go.Proofs.YtkkapbnopmmmjaaGreatDoor.En
namespace Go.Proofs.YtkkapbnopmmmjaaGreatDoor.En
open Go Go.RowKit
def ty12 : List (Nat × TD) := [(3, ⟨1, false, [.int .i64 0], [], none, 8, false, 1, 1⟩),
  (22, ⟨1, false, [.slice none 0 0], [], some 3, 24, false, 0, 3⟩),
  (24, ⟨3, true, [.slice none 0 0, .slice none 0 0, .int .i64 0], [(0, 22), (1, 22), (2, 3)], none, 56, false, 0, 5⟩),
  (26, ⟨1, false, [.int .i64 0], [], none, 8, false, 1, 1⟩)]
theorem ty12_ok : AllTy Tryz.prog ty12 := ⟨⟨by kernel_rfl, by kernel_rfl, by kernel_rfl⟩, ⟨by kernel_rfl, by kernel_rfl, by kernel_rfl⟩, ⟨by kernel_rfl, by kernel_rfl, by kernel_rfl⟩, ⟨by kernel_rfl, by kernel_rfl, by kernel_rfl⟩, trivial⟩
def cx_rOf12 : Cx := ⟨ty12, [], false⟩
theorem cx_rOf12_ok : CxOk Tryz.prog cx_rOf12 := cx_ok ty12_ok trivial
def rOf12_σ : CtF
  | [.im (.val (.int .i64 x))], [] => some (-9223372036854775807 ≤ x ∧ x ≤ 9223372036854775807, .int (x.natAbs : Int), [])
  | _, _ => none
theorem rOf12_sound : Sound Tryz.prog 128 rOf12_σ := by
 refine sound_mk (cx := cx_rOf12) (fn := Tryz.f128) Tryz.func128 (by kernel_rfl) rfl ?_
 intro w0 G0 args os p r outs hσ hp hm0 hd0
 have hcx : CxOk Tryz.prog cx_rOf12 := cx_rOf12_ok
 unfold rOf12_σ at hσ
 split at hσ
 ·
  rename_i x
  simp only [Option.some.injEq, Prod.mk.injEq] at hσ
  obtain ⟨rfl, rfl, rfl⟩ := hσ
  obtain ⟨wW, wO, wm, wβ, wd⟩ := w0
  replace hm0 : wm = 0 := hm0
  subst hm0
  replace hd0 : wd = [] := hd0
  subst hd0
  refine ⟨by kernel_rfl, ?_⟩
  change Tri ⟨_, _, _, _, _, _⟩ [(0, .int x)] [] _ _
  obtain ⟨hx1, hx2⟩ := hp
  refine tri_seq ?_
  refine tri_regD hcx [] [] [0] [] [] [] [] (by kernel_rfl) ?_ ?_
  ·
   exact az
  refine fin_then ?_
  refine tri_seq ?_
  refine tri_seq ?_
  refine tri_regD hcx [] [4] [0] [] [] [(4, .bool (decide (x < 0)))] [] (by kernel_rfl) ?_ ?_
  ·
   exact az
  refine fin_then ?_
  refine tri_cond (b := (decide (x < 0))) (by kernel_rfl) (fun hb0 => ?_) (fun hb0 => ?_)
  ·
   skip
   have h0 := of_decide_eq_true hb0
   refine tri_seq ?_
   refine tri_regD hcx [] [2] [] [] [Fit (0 - x)] [(2, .int (0 - x))] [] (by kernel_rfl) ?_ ?_
   ·
    refine (ap ?_ az)
    omega
   refine fin_then ?_
   refine tri_ret ?_
   refine fin_then_ret ?_
   exact fin_ret [] rfl rfl trivial hcx (avs := [.int (0 - x)]) (by kernel_rfl) (congrArg AV.int (show (0 - x) = (x.natAbs : Int) from (by omega))) [] rfl
  ·
   skip
   have h0 := of_decide_eq_false hb0
   refine tri_skip ?_
   refine fin_then ?_
   refine tri_seq ?_
   refine tri_regD hcx [] [2] [] [] [] [(2, .int x)] [] (by kernel_rfl) ?_ ?_
   ·
    exact az
   refine fin_then ?_
   refine tri_ret ?_
   exact fin_ret [] rfl rfl trivial hcx (avs := [.int x]) (by kernel_rfl) (congrArg AV.int (show x = (x.natAbs : Int) from (by omega))) [] rfl
 ·
  cases hσ
def cx_rCheck12 : Cx := ⟨ty12, [], false⟩
theorem cx_rCheck12_ok : CxOk Tryz.prog cx_rCheck12 := cx_ok ty12_ok trivial
def rCheck12_σ : CtF
  | [.agg [.im (.ls (.ints C)), .im (.ls (.ints L)), .im (.val (.int .i64 B))], .im (.val (.int .i64 n))], [] => some (L.length ≤ maxLen ∧ Fit n, .int (lcheck ⟨C, L, B⟩ n), [])
  | _, _ => none
theorem rCheck12_sound : Sound Tryz.prog 35 rCheck12_σ := by
 refine sound_mk (cx := cx_rCheck12) (fn := Tryz.f35) Tryz.func35 (by kernel_rfl) rfl ?_
 intro w0 G0 args os p r outs hσ hp hm0 hd0
 have hcx : CxOk Tryz.prog cx_rCheck12 := cx_rCheck12_ok
 unfold rCheck12_σ at hσ
 split at hσ
 ·
  rename_i C L B n
  simp only [Option.some.injEq, Prod.mk.injEq] at hσ
  obtain ⟨rfl, rfl, rfl⟩ := hσ
  obtain ⟨wW, wO, wm, wβ, wd⟩ := w0
  replace hm0 : wm = 0 := hm0
  subst hm0
  replace hd0 : wd = [] := hd0
  subst hd0
  refine ⟨by kernel_rfl, ?_⟩
  change Tri ⟨_, _, _, _, _, _⟩ [(0, .agg [.ints C, .ints L, .int B]), (1, .int n)] [] _ _
  obtain ⟨hmx0, hn⟩ := hp
  unfold maxLen at hmx0
  refine tri_seq ?_
  refine tri_regD hcx [(1000, .frz)] [2] [1] [] [] [(2, .pto [.ls (.ints C), .ls (.ints L), .int B])] [] (by kernel_rfl) ?_ ?_
  ·
   exact az
  refine fin_then ?_
  refine tri_seq ?_
  refine tri_seq ?_
  refine tri_regD hcx [] [30] [2, 1] [] [((!(decide (n < 0))) = true → ((!(decide (n < 0))) = true)), ((decide (n < 0)) = false → (!(decide (n < 0))) = true), ((!((decide (n < 0)) || (decide (n > 65536)))) = true → ((!((decide (n < 0)) || (decide (n > 65536)))) = true)), ((!((decide (n < 0)) || (decide (n > 65536)))) = true → ((!((decide (n < 0)) || (decide (n > 65536)))) = true)), ((!((decide (n < 0)) || (decide (n > 65536)))) = true → ((!((decide (n < 0)) || (decide (n > 65536)))) = true)), ((!((decide (n < 0)) || (decide (n > 65536)))) = true → ((!((decide (n < 0)) || (decide (n > 65536)))) = true)), ((!((decide (n < 0)) || (decide (n > 65536)))) = true → ((!((decide (n < 0)) || (decide (n > 65536)))) = true)), ((!((decide (n < 0)) || (decide (n > 65536)))) = true → ((!((decide (n < 0)) || (decide (n > 65536)))) = true)), (((decide (n < 0)) || (decide (n > 65536))) = false → (!((decide (n < 0)) || (decide (n > 65536)))) = true), ((!(((decide (n < 0)) || (decide (n > 65536))) || ((C.length : Int) != (L.length : Int)))) = true → ((!(((decide (n < 0)) || (decide (n > 65536))) || ((C.length : Int) != (L.length : Int)))) = true)), ((!(((decide (n < 0)) || (decide (n > 65536))) || ((C.length : Int) != (L.length : Int)))) = true → ((!(((decide (n < 0)) || (decide (n > 65536))) || ((C.length : Int) != (L.length : Int)))) = true)), ((((decide (n < 0)) || (decide (n > 65536))) || ((C.length : Int) != (L.length : Int))) = false → (!(((decide (n < 0)) || (decide (n > 65536))) || ((C.length : Int) != (L.length : Int)))) = true), ((!((((decide (n < 0)) || (decide (n > 65536))) || ((C.length : Int) != (L.length : Int))) || (decide (B < (-1099511627776))))) = true → ((!((((decide (n < 0)) || (decide (n > 65536))) || ((C.length : Int) != (L.length : Int))) || (decide (B < (-1099511627776))))) = true)), ((!((((decide (n < 0)) || (decide (n > 65536))) || ((C.length : Int) != (L.length : Int))) || (decide (B < (-1099511627776))))) = true → ((!((((decide (n < 0)) || (decide (n > 65536))) || ((C.length : Int) != (L.length : Int))) || (decide (B < (-1099511627776))))) = true)), (((((decide (n < 0)) || (decide (n > 65536))) || ((C.length : Int) != (L.length : Int))) || (decide (B < (-1099511627776)))) = false → (!((((decide (n < 0)) || (decide (n > 65536))) || ((C.length : Int) != (L.length : Int))) || (decide (B < (-1099511627776))))) = true)] [(30, .bool (((((decide (n < 0)) || (decide (n > 65536))) || ((C.length : Int) != (L.length : Int))) || (decide (B < (-1099511627776)))) || (decide (B > 1099511627776))))] [] (by kernel_rfl) ?_ ?_
  ·
   refine (ap ?_ (ap (by exact vcNot) (ap ?_ (ap ?_ (ap ?_ (ap ?_ (ap ?_ (ap ?_ (ap (by exact vcNot) (ap ?_ (ap ?_ (ap (by exact vcNot) (ap ?_ (ap ?_ (ap (by exact vcNot) az)))))))))))))))
   all_goals
    first | omega | exact id | exact vcNot | exact vcG | exact vcH | (intro _; omega) | exact (fun _ h => h) | (intro h; simp at h; omega) | (simp only [List.length_cons, List.length_nil, List.length_append, List.length_map, List.length_set, List.length_replicate]; omega) | (intro h; simp [h]; done)
  refine fin_then ?_
  refine tri_cond (b := (((((decide (n < 0)) || (decide (n > 65536))) || ((C.length : Int) != (L.length : Int))) || (decide (B < (-1099511627776)))) || (decide (B > 1099511627776)))) (by kernel_rfl) (fun hb0 => ?_) (fun hb0 => ?_)
  ·
   skip
   have h0 := hb0
   try simp only [Bool.or_eq_true, Bool.or_eq_false_iff, Bool.and_eq_true, Bool.and_eq_false_iff, Bool.not_eq_true', Bool.not_eq_false', decide_eq_true_eq, decide_eq_false_iff_not, bne_iff_ne, bne_eq_false_iff_eq, beq_iff_eq, beq_eq_false_iff_ne] at h0
   refine tri_seq ?_
   refine tri_regD hcx [] [4] [] [] [] [(4, .int 1)] [] (by kernel_rfl) ?_ ?_
   ·
    exact az
   refine fin_then ?_
   refine tri_ret ?_
   refine fin_then_ret ?_
   exact fin_ret [] rfl rfl trivial hcx (avs := [.int 1]) (by kernel_rfl) (congrArg AV.int (show 1 = lcheck ⟨C, L, B⟩ n from (by rw [lc1 (by omega)]))) [] rfl
  ·
   skip
   have h0 := hb0
   try simp only [Bool.or_eq_true, Bool.or_eq_false_iff, Bool.and_eq_true, Bool.and_eq_false_iff, Bool.not_eq_true', Bool.not_eq_false', decide_eq_true_eq, decide_eq_false_iff_not, bne_iff_ne, bne_eq_false_iff_eq, beq_iff_eq, beq_eq_false_iff_ne] at h0
   refine tri_skip ?_
   refine fin_then ?_
   refine tri_seq ?_
   refine tri_seq ?_
   refine tri_regD hcx [] [5] [2, 1] [] [] [(5, .int 0)] [] (by kernel_rfl) ?_ ?_
   ·
    exact az
   refine fin_then ?_
   refine tri_block ?_
   refine tri_loop (X := Nat) (fun x0 => x0 ≤ L.length ∧ OkTo C L n x0) (fun x0 => [(1, .int n), (2, .pto [.ls (.ints C), .ls (.ints L), .int B]), (5, .int (x0 : Int))]) (fun x0 => []) (fun x0 => L.length - x0) (0) ?_ ?_ ?_ ?_
   ·
    show 0 ≤ L.length ∧ OkTo C L n 0
    exact ⟨Nat.zero_le _, fun j hj => by omega⟩
   ·
    exact subE_mk (l := [.int n, .pto [.ls (.ints C), .ls (.ints L), .int B], .int 0]) (m := [.int n, .pto [.ls (.ints C), .ls (.ints L), .int B], .int (0 : Int)]) (by kernel_rfl) (by kernel_rfl) (consE rfl (consE rfl (consE (congrArg AV.int (show 0 = (0 : Int) from (by first | rfl | omega | (simp; done)))) rfl)))
   ·
    kernel_rfl
   ·
    intro k hI
    replace hI : k ≤ L.length ∧ OkTo C L n k := hI
    change Tri _ [(1, .int n), (2, .pto [.ls (.ints C), .ls (.ints L), .int B]), (5, .int (k : Int))] [] _ _
    obtain ⟨hk, hok⟩ := hI
    have hCL : C.length = L.length := by omega
    refine tri_seq ?_
    refine tri_seq ?_
    refine tri_regD hcx [] [35] [1, 2, 5] [] [] [(35, .bool (decide ((k : Int) < (L.length : Int))))] [] (by kernel_rfl) ?_ ?_
    ·
     exact az
    refine fin_then ?_
    refine tri_cond (b := (decide ((k : Int) < (L.length : Int)))) (by kernel_rfl) (fun hb1 => ?_) (fun hb1 => ?_)
    ·
     skip
     have h1 := of_decide_eq_true hb1
     refine tri_skip ?_
     refine fin_then ?_
     refine tri_seq ?_
     refine tri_block ?_
     refine tri_seq ?_
     refine tri_regD hcx [] [78] [1, 2, 5] [] [((0 : Int) ≤ (k : Int) ∧ (k : Int) < (C.length : Int)), ((!(decide ((C.getD k 0) < (-1099511627776)))) = true → ((!(decide ((C.getD k 0) < (-1099511627776)))) = true)), ((!(decide ((C.getD k 0) < (-1099511627776)))) = true → ((!(decide ((C.getD k 0) < (-1099511627776)))) = true)), ((!(decide ((C.getD k 0) < (-1099511627776)))) = true → ((!(decide ((C.getD k 0) < (-1099511627776)))) = true)), ((!(decide ((C.getD k 0) < (-1099511627776)))) = true → ((0 : Int) ≤ (k : Int) ∧ (k : Int) < (C.length : Int))), ((!(decide ((C.getD k 0) < (-1099511627776)))) = true → ((!(decide ((C.getD k 0) < (-1099511627776)))) = true)), ((!(decide ((C.getD k 0) < (-1099511627776)))) = true → ((!(decide ((C.getD k 0) < (-1099511627776)))) = true)), ((decide ((C.getD k 0) < (-1099511627776))) = false → (!(decide ((C.getD k 0) < (-1099511627776)))) = true), ((!((decide ((C.getD k 0) < (-1099511627776))) || (decide ((C.getD k 0) > 1099511627776)))) = true → ((!((decide ((C.getD k 0) < (-1099511627776))) || (decide ((C.getD k 0) > 1099511627776)))) = true)), ((!((decide ((C.getD k 0) < (-1099511627776))) || (decide ((C.getD k 0) > 1099511627776)))) = true → ((!((decide ((C.getD k 0) < (-1099511627776))) || (decide ((C.getD k 0) > 1099511627776)))) = true)), ((!((decide ((C.getD k 0) < (-1099511627776))) || (decide ((C.getD k 0) > 1099511627776)))) = true → ((!((decide ((C.getD k 0) < (-1099511627776))) || (decide ((C.getD k 0) > 1099511627776)))) = true)), ((!((decide ((C.getD k 0) < (-1099511627776))) || (decide ((C.getD k 0) > 1099511627776)))) = true → ((0 : Int) ≤ (k : Int) ∧ (k : Int) < (L.length : Int))), ((!((decide ((C.getD k 0) < (-1099511627776))) || (decide ((C.getD k 0) > 1099511627776)))) = true → ((!((decide ((C.getD k 0) < (-1099511627776))) || (decide ((C.getD k 0) > 1099511627776)))) = true)), ((!((decide ((C.getD k 0) < (-1099511627776))) || (decide ((C.getD k 0) > 1099511627776)))) = true → ((!((decide ((C.getD k 0) < (-1099511627776))) || (decide ((C.getD k 0) > 1099511627776)))) = true)), (((decide ((C.getD k 0) < (-1099511627776))) || (decide ((C.getD k 0) > 1099511627776))) = false → (!((decide ((C.getD k 0) < (-1099511627776))) || (decide ((C.getD k 0) > 1099511627776)))) = true), ((!(((decide ((C.getD k 0) < (-1099511627776))) || (decide ((C.getD k 0) > 1099511627776))) || ((L.getD k 0) == 0))) = true → ((!(((decide ((C.getD k 0) < (-1099511627776))) || (decide ((C.getD k 0) > 1099511627776))) || ((L.getD k 0) == 0))) = true)), ((!(((decide ((C.getD k 0) < (-1099511627776))) || (decide ((C.getD k 0) > 1099511627776))) || ((L.getD k 0) == 0))) = true → ((!(((decide ((C.getD k 0) < (-1099511627776))) || (decide ((C.getD k 0) > 1099511627776))) || ((L.getD k 0) == 0))) = true)), ((!(((decide ((C.getD k 0) < (-1099511627776))) || (decide ((C.getD k 0) > 1099511627776))) || ((L.getD k 0) == 0))) = true → ((!(((decide ((C.getD k 0) < (-1099511627776))) || (decide ((C.getD k 0) > 1099511627776))) || ((L.getD k 0) == 0))) = true)), ((!(((decide ((C.getD k 0) < (-1099511627776))) || (decide ((C.getD k 0) > 1099511627776))) || ((L.getD k 0) == 0))) = true → ((0 : Int) ≤ (k : Int) ∧ (k : Int) < (L.length : Int))), ((!(((decide ((C.getD k 0) < (-1099511627776))) || (decide ((C.getD k 0) > 1099511627776))) || ((L.getD k 0) == 0))) = true → ((!(((decide ((C.getD k 0) < (-1099511627776))) || (decide ((C.getD k 0) > 1099511627776))) || ((L.getD k 0) == 0))) = true)), ((!(((decide ((C.getD k 0) < (-1099511627776))) || (decide ((C.getD k 0) > 1099511627776))) || ((L.getD k 0) == 0))) = true → ((!(((decide ((C.getD k 0) < (-1099511627776))) || (decide ((C.getD k 0) > 1099511627776))) || ((L.getD k 0) == 0))) = true)), ((!(((decide ((C.getD k 0) < (-1099511627776))) || (decide ((C.getD k 0) > 1099511627776))) || ((L.getD k 0) == 0))) = true → Fit (0 - n)), ((!(((decide ((C.getD k 0) < (-1099511627776))) || (decide ((C.getD k 0) > 1099511627776))) || ((L.getD k 0) == 0))) = true → ((!(((decide ((C.getD k 0) < (-1099511627776))) || (decide ((C.getD k 0) > 1099511627776))) || ((L.getD k 0) == 0))) = true)), ((!(((decide ((C.getD k 0) < (-1099511627776))) || (decide ((C.getD k 0) > 1099511627776))) || ((L.getD k 0) == 0))) = true → ((!(((decide ((C.getD k 0) < (-1099511627776))) || (decide ((C.getD k 0) > 1099511627776))) || ((L.getD k 0) == 0))) = true)), ((((decide ((C.getD k 0) < (-1099511627776))) || (decide ((C.getD k 0) > 1099511627776))) || ((L.getD k 0) == 0)) = false → (!(((decide ((C.getD k 0) < (-1099511627776))) || (decide ((C.getD k 0) > 1099511627776))) || ((L.getD k 0) == 0))) = true), ((!((((decide ((C.getD k 0) < (-1099511627776))) || (decide ((C.getD k 0) > 1099511627776))) || ((L.getD k 0) == 0)) || (decide ((L.getD k 0) < (0 - n))))) = true → ((!((((decide ((C.getD k 0) < (-1099511627776))) || (decide ((C.getD k 0) > 1099511627776))) || ((L.getD k 0) == 0)) || (decide ((L.getD k 0) < (0 - n))))) = true)), ((!((((decide ((C.getD k 0) < (-1099511627776))) || (decide ((C.getD k 0) > 1099511627776))) || ((L.getD k 0) == 0)) || (decide ((L.getD k 0) < (0 - n))))) = true → ((!((((decide ((C.getD k 0) < (-1099511627776))) || (decide ((C.getD k 0) > 1099511627776))) || ((L.getD k 0) == 0)) || (decide ((L.getD k 0) < (0 - n))))) = true)), ((!((((decide ((C.getD k 0) < (-1099511627776))) || (decide ((C.getD k 0) > 1099511627776))) || ((L.getD k 0) == 0)) || (decide ((L.getD k 0) < (0 - n))))) = true → ((!((((decide ((C.getD k 0) < (-1099511627776))) || (decide ((C.getD k 0) > 1099511627776))) || ((L.getD k 0) == 0)) || (decide ((L.getD k 0) < (0 - n))))) = true)), ((!((((decide ((C.getD k 0) < (-1099511627776))) || (decide ((C.getD k 0) > 1099511627776))) || ((L.getD k 0) == 0)) || (decide ((L.getD k 0) < (0 - n))))) = true → ((0 : Int) ≤ (k : Int) ∧ (k : Int) < (L.length : Int))), ((!((((decide ((C.getD k 0) < (-1099511627776))) || (decide ((C.getD k 0) > 1099511627776))) || ((L.getD k 0) == 0)) || (decide ((L.getD k 0) < (0 - n))))) = true → ((!((((decide ((C.getD k 0) < (-1099511627776))) || (decide ((C.getD k 0) > 1099511627776))) || ((L.getD k 0) == 0)) || (decide ((L.getD k 0) < (0 - n))))) = true)), ((!((((decide ((C.getD k 0) < (-1099511627776))) || (decide ((C.getD k 0) > 1099511627776))) || ((L.getD k 0) == 0)) || (decide ((L.getD k 0) < (0 - n))))) = true → ((!((((decide ((C.getD k 0) < (-1099511627776))) || (decide ((C.getD k 0) > 1099511627776))) || ((L.getD k 0) == 0)) || (decide ((L.getD k 0) < (0 - n))))) = true)), ((!((((decide ((C.getD k 0) < (-1099511627776))) || (decide ((C.getD k 0) > 1099511627776))) || ((L.getD k 0) == 0)) || (decide ((L.getD k 0) < (0 - n))))) = true → ((!((((decide ((C.getD k 0) < (-1099511627776))) || (decide ((C.getD k 0) > 1099511627776))) || ((L.getD k 0) == 0)) || (decide ((L.getD k 0) < (0 - n))))) = true)), (((((decide ((C.getD k 0) < (-1099511627776))) || (decide ((C.getD k 0) > 1099511627776))) || ((L.getD k 0) == 0)) || (decide ((L.getD k 0) < (0 - n)))) = false → (!((((decide ((C.getD k 0) < (-1099511627776))) || (decide ((C.getD k 0) > 1099511627776))) || ((L.getD k 0) == 0)) || (decide ((L.getD k 0) < (0 - n))))) = true)] [(78, .bool (((((decide ((C.getD k 0) < (-1099511627776))) || (decide ((C.getD k 0) > 1099511627776))) || ((L.getD k 0) == 0)) || (decide ((L.getD k 0) < (0 - n)))) || (decide ((L.getD k 0) > n))))] [] (by kernel_rfl) ?_ ?_
     ·
      refine (ap (by omega) (ap ?_ (ap ?_ (ap ?_ (ap ?_ (ap ?_ (ap ?_ (ap (by exact vcNot) (ap ?_ (ap ?_ (ap ?_ (ap ?_ (ap ?_ (ap ?_ (ap (by exact vcNot) (ap ?_ (ap ?_ (ap ?_ (ap ?_ (ap ?_ (ap ?_ (ap ?_ (ap ?_ (ap ?_ (ap (by exact vcNot) (ap ?_ (ap ?_ (ap ?_ (ap ?_ (ap ?_ (ap ?_ (ap ?_ (ap (by exact vcNot) az)))))))))))))))))))))))))))))))))
      all_goals
       first | omega | exact id | exact vcNot | exact vcG | exact vcH | (intro _; omega) | exact (fun _ h => h) | (intro h; simp at h; omega) | (simp only [List.length_cons, List.length_nil, List.length_append, List.length_map, List.length_set, List.length_replicate]; omega) | (intro h; simp [h]; done)
     refine fin_then ?_
     refine tri_cond (b := (((((decide ((C.getD k 0) < (-1099511627776))) || (decide ((C.getD k 0) > 1099511627776))) || ((L.getD k 0) == 0)) || (decide ((L.getD k 0) < (0 - n)))) || (decide ((L.getD k 0) > n)))) (by kernel_rfl) (fun hb2 => ?_) (fun hb2 => ?_)
     ·
      skip
      have h2 := hb2
      try simp only [Bool.or_eq_true, Bool.or_eq_false_iff, Bool.and_eq_true, Bool.and_eq_false_iff, Bool.not_eq_true', Bool.not_eq_false', decide_eq_true_eq, decide_eq_false_iff_not, bne_iff_ne, bne_eq_false_iff_eq, beq_iff_eq, beq_eq_false_iff_ne] at h2
      refine tri_seq ?_
      refine tri_regD hcx [] [4] [] [] [] [(4, .int 1)] [] (by kernel_rfl) ?_ ?_
      ·
       exact az
      refine fin_then ?_
      refine tri_ret ?_
      refine fin_block_ret ?_
      refine fin_then_ret ?_
      refine fin_then_ret ?_
      refine fin_block_ret ?_
      refine fin_then_ret ?_
      exact fin_ret [] rfl rfl trivial hcx (avs := [.int 1]) (by kernel_rfl) (congrArg AV.int (show 1 = lcheck ⟨C, L, B⟩ n from (by rw [lc2 (by omega) (k := k) (by omega) (by omega)]))) [] rfl
     ·
      skip
      have h2 := hb2
      try simp only [Bool.or_eq_true, Bool.or_eq_false_iff, Bool.and_eq_true, Bool.and_eq_false_iff, Bool.not_eq_true', Bool.not_eq_false', decide_eq_true_eq, decide_eq_false_iff_not, bne_iff_ne, bne_eq_false_iff_eq, beq_iff_eq, beq_eq_false_iff_ne] at h2
      refine tri_skip ?_
      refine fin_block ?_
      refine fin_then ?_
      refine tri_regD hcx [] [5] [1, 2] [] [Fit ((k : Int) + 1)] [(5, .int ((k : Int) + 1))] [] (by kernel_rfl) ?_ ?_
      ·
       refine (ap ?_ az)
       omega
      refine fin_round (k + 1) ?_ ?_ ?_ ?_
      ·
       show (k + 1) ≤ L.length ∧ OkTo C L n (k + 1)
       exact ⟨by omega, hok.succ (by omega)⟩
      ·
       show L.length - (k + 1) < L.length - k
       omega
      ·
       exact subE_mk (l := [.int n, .pto [.ls (.ints C), .ls (.ints L), .int B], .int ((k : Int) + 1)]) (m := [.int n, .pto [.ls (.ints C), .ls (.ints L), .int B], .int ((k + 1) : Int)]) (by kernel_rfl) (by kernel_rfl) (consE rfl (consE rfl (consE (congrArg AV.int (show ((k : Int) + 1) = ((k + 1) : Int) from (by first | rfl | omega | (simp; done)))) rfl)))
      ·
       kernel_rfl
    ·
     skip
     have h1 := of_decide_eq_false hb1
     refine tri_exit ?_
     refine fin_then_exit ?_
     refine fin_then_exit ?_
     refine fin_block_same ?_
     refine fin_then ?_
     refine tri_seq ?_
     refine tri_seq ?_
     refine tri_regD hcx [] [82] [] [] [] [(82, .bool (decide ((L.length : Int) > 4096)))] [] (by kernel_rfl) ?_ ?_
     ·
      exact az
     refine fin_then ?_
     refine tri_cond (b := (decide ((L.length : Int) > 4096))) (by kernel_rfl) (fun hb3 => ?_) (fun hb3 => ?_)
     ·
      skip
      have h3 := of_decide_eq_true hb3
      refine tri_seq ?_
      refine tri_regD hcx [] [4] [] [] [] [(4, .int 2)] [] (by kernel_rfl) ?_ ?_
      ·
       exact az
      refine fin_then ?_
      refine tri_ret ?_
      refine fin_then_ret ?_
      exact fin_ret [] rfl rfl trivial hcx (avs := [.int 2]) (by kernel_rfl) (congrArg AV.int (show 2 = lcheck ⟨C, L, B⟩ n from (by rw [lc3 (by omega) (by omega) (by omega) (by omega) (by rw [show L.length = k by omega]; exact hok), if_pos (by omega)]))) [] rfl
     ·
      skip
      have h3 := of_decide_eq_false hb3
      refine tri_skip ?_
      refine fin_then ?_
      refine tri_seq ?_
      refine tri_regD hcx [] [4] [] [] [] [(4, .int 0)] [] (by kernel_rfl) ?_ ?_
      ·
       exact az
      refine fin_then ?_
      refine tri_ret ?_
      exact fin_ret [] rfl rfl trivial hcx (avs := [.int 0]) (by kernel_rfl) (congrArg AV.int (show 0 = lcheck ⟨C, L, B⟩ n from (by rw [lc3 (by omega) (by omega) (by omega) (by omega) (by rw [show L.length = k by omega]; exact hok), if_neg (by omega)]))) [] rfl
 ·
  cases hσ
def cx_rboth12 : Cx := ⟨ty12, [], false⟩
theorem cx_rboth12_ok : CxOk Tryz.prog cx_rboth12 := cx_ok ty12_ok trivial
def rboth12_σ : CtF
  | [.agg [.im (.ls (.ints C)), .im (.ls (.ints L)), .im (.val (.int .i64 B))], .im (.val (.int .i64 x))], [] => some (lcheck ⟨C, L, B⟩ 65536 = 0 ∧ -9223372036854775807 ≤ x ∧ x ≤ 9223372036854775807, .tup [.int (cf ⟨C, L, B⟩ x), .int (cf ⟨C, L, B⟩ (-x))], [])
  | _, _ => none
theorem rboth12_sound : Sound Tryz.prog 87 rboth12_σ := by
 refine sound_mk (cx := cx_rboth12) (fn := Tryz.f87) Tryz.func87 (by kernel_rfl) rfl ?_
 intro w0 G0 args os p r outs hσ hp hm0 hd0
 have hcx : CxOk Tryz.prog cx_rboth12 := cx_rboth12_ok
 unfold rboth12_σ at hσ
 split at hσ
 ·
  rename_i C L B x
  simp only [Option.some.injEq, Prod.mk.injEq] at hσ
  obtain ⟨rfl, rfl, rfl⟩ := hσ
  obtain ⟨wW, wO, wm, wβ, wd⟩ := w0
  replace hm0 : wm = 0 := hm0
  subst hm0
  replace hd0 : wd = [] := hd0
  subst hd0
  refine ⟨by kernel_rfl, ?_⟩
  change Tri ⟨_, _, _, _, _, _⟩ [(0, .agg [.ints C, .ints L, .int B]), (1, .int x)] [] _ _
  obtain ⟨hc, hx1, hx2⟩ := hp
  obtain ⟨_, _, hl, _, _, _, h4⟩ := id (lcheck_ok hc)
  replace hl : C.length = L.length := hl
  replace h4 : L.length ≤ 4096 := h4
  have hneg : 0 - x = -x := by omega
  have bd := cfK_bd hc
  refine tri_seq ?_
  refine tri_regD hcx [(1000, .frz)] [2] [1] [] [] [(2, .pto [.ls (.ints C), .ls (.ints L), .int B])] [] (by kernel_rfl) ?_ ?_
  ·
   exact az
  refine fin_then ?_
  refine tri_seq ?_
  refine tri_regD hcx [] [6, 7] [2, 1] [] [] [(6, .int 0), (7, .int 0)] [] (by kernel_rfl) ?_ ?_
  ·
   exact az
  refine fin_then ?_
  refine tri_seq ?_
  refine tri_seq ?_
  refine tri_regD hcx [] [8] [6, 7, 2, 1] [] [] [(8, .int 0)] [] (by kernel_rfl) ?_ ?_
  ·
   exact az
  refine fin_then ?_
  refine tri_block ?_
  refine tri_loop (X := Nat) (fun x0 => x0 ≤ L.length) (fun x0 => [(1, .int x), (2, .pto [.ls (.ints C), .ls (.ints L), .int B]), (6, .int (cfK C L x x0)), (7, .int (cfK C L (-x) x0)), (8, .int (x0 : Int))]) (fun x0 => []) (fun x0 => L.length - x0) (0) ?_ ?_ ?_ ?_
  ·
   show 0 ≤ L.length
   omega
  ·
   exact subE_mk (l := [.int x, .pto [.ls (.ints C), .ls (.ints L), .int B], .int 0, .int 0, .int 0]) (m := [.int x, .pto [.ls (.ints C), .ls (.ints L), .int B], .int (cfK C L x 0), .int (cfK C L (-x) 0), .int (0 : Int)]) (by kernel_rfl) (by kernel_rfl) (consE rfl (consE rfl (consE (congrArg AV.int (show 0 = cfK C L x 0 from (by first | rfl | omega | (simp; done)))) (consE (congrArg AV.int (show 0 = cfK C L (-x) 0 from (by first | rfl | omega | (simp; done)))) (consE (congrArg AV.int (show 0 = (0 : Int) from (by first | rfl | omega | (simp; done)))) rfl)))))
  ·
   kernel_rfl
  ·
   intro k hI
   replace hI : k ≤ L.length := hI
   change Tri _ [(1, .int x), (2, .pto [.ls (.ints C), .ls (.ints L), .int B]), (6, .int (cfK C L x k)), (7, .int (cfK C L (-x) k)), (8, .int (k : Int))] [] _ _
   have b1 := bd x
   have b2 := bd (-x)
   have b3 := b1 k
   have b4 := b2 k
   have b5 := b1 (k + 1)
   have b6 := b2 (k + 1)
   refine tri_seq ?_
   refine tri_seq ?_
   refine tri_regD hcx [] [13] [1, 2, 6, 7, 8] [] [] [(13, .bool (decide ((k : Int) < (L.length : Int))))] [] (by kernel_rfl) ?_ ?_
   ·
    exact az
   refine fin_then ?_
   refine tri_cond (b := (decide ((k : Int) < (L.length : Int)))) (by kernel_rfl) (fun hb0 => ?_) (fun hb0 => ?_)
   ·
    skip
    have h0 := of_decide_eq_true hb0
    refine tri_skip ?_
    refine fin_then ?_
    refine tri_seq ?_
    refine tri_block ?_
    refine tri_seq ?_
    refine tri_seq ?_
    refine tri_regD hcx [] [22] [1, 2, 6, 7, 8] [] [((0 : Int) ≤ (k : Int) ∧ (k : Int) < (L.length : Int))] [(22, .bool ((L.getD k 0) == x))] [] (by kernel_rfl) ?_ ?_
    ·
     refine (ap ?_ az)
     omega
    refine fin_then ?_
    refine tri_cond (b := ((L.getD k 0) == x)) (by kernel_rfl) (fun hb1 => ?_) (fun hb1 => ?_)
    ·
     skip
     have h1 := eq_of_beq hb1
     refine tri_regD hcx [] [6] [1, 2, 7, 8] [] [((0 : Int) ≤ (k : Int) ∧ (k : Int) < (C.length : Int)), Fit (cfK C L x k + (C.getD k 0))] [(6, .int (cfK C L x k + (C.getD k 0)))] [] (by kernel_rfl) ?_ ?_
     ·
      refine (ap (by omega) (ap ?_ az))
      rw [← cfK_yes hl (by omega) h1]; have := b5 (by omega); omega
     refine fin_then ?_
     refine tri_seq ?_
     refine tri_regD hcx [] [37] [6, 1, 2, 7, 8] [] [((0 : Int) ≤ (k : Int) ∧ (k : Int) < (L.length : Int)), Fit (0 - x)] [(37, .bool ((L.getD k 0) == (0 - x)))] [] (by kernel_rfl) ?_ ?_
     ·
      refine (ap ?_ (ap ?_ az))
      all_goals
       omega
     refine fin_then ?_
     refine tri_cond (b := ((L.getD k 0) == (0 - x))) (by kernel_rfl) (fun hb2 => ?_) (fun hb2 => ?_)
     ·
      skip
      have h2 := eq_of_beq hb2
      refine tri_regD hcx [] [7] [6, 1, 2, 8] [] [((0 : Int) ≤ (k : Int) ∧ (k : Int) < (C.length : Int)), Fit (cfK C L (-x) k + (C.getD k 0))] [(7, .int (cfK C L (-x) k + (C.getD k 0)))] [] (by kernel_rfl) ?_ ?_
      ·
       refine (ap (by omega) (ap ?_ az))
       rw [← cfK_yes hl (by omega) (show _ = -x by omega)]; have := b6 (by omega); omega
      refine fin_block ?_
      refine fin_then ?_
      refine tri_regD hcx [] [8] [7, 6, 1, 2] [] [Fit ((k : Int) + 1)] [(8, .int ((k : Int) + 1))] [] (by kernel_rfl) ?_ ?_
      ·
       refine (ap ?_ az)
       omega
      refine fin_round (k + 1) ?_ ?_ ?_ ?_
      ·
       show (k + 1) ≤ L.length
       omega
      ·
       show L.length - (k + 1) < L.length - k
       omega
      ·
       exact subE_mk (l := [.int x, .pto [.ls (.ints C), .ls (.ints L), .int B], .int (cfK C L x k + (C.getD k 0)), .int (cfK C L (-x) k + (C.getD k 0)), .int ((k : Int) + 1)]) (m := [.int x, .pto [.ls (.ints C), .ls (.ints L), .int B], .int (cfK C L x (k + 1)), .int (cfK C L (-x) (k + 1)), .int ((k + 1) : Int)]) (by kernel_rfl) (by kernel_rfl) (consE rfl (consE rfl (consE (congrArg AV.int (show (cfK C L x k + (C.getD k 0)) = cfK C L x (k + 1) from (by first | exact (cfK_yes hl (by omega) (by omega)).symm | exact (cfK_no hl (by omega) (by omega)).symm))) (consE (congrArg AV.int (show (cfK C L (-x) k + (C.getD k 0)) = cfK C L (-x) (k + 1) from (by first | exact (cfK_yes hl (by omega) (by omega)).symm | exact (cfK_no hl (by omega) (by omega)).symm))) (consE (congrArg AV.int (show ((k : Int) + 1) = ((k + 1) : Int) from (by first | rfl | omega | (simp; done)))) rfl)))))
      ·
       kernel_rfl
     ·
      skip
      have h2 := neB hb2
      refine tri_skip ?_
      refine fin_block ?_
      refine fin_then ?_
      refine tri_regD hcx [] [8] [6, 1, 2, 7] [] [Fit ((k : Int) + 1)] [(8, .int ((k : Int) + 1))] [] (by kernel_rfl) ?_ ?_
      ·
       refine (ap ?_ az)
       omega
      refine fin_round (k + 1) ?_ ?_ ?_ ?_
      ·
       show (k + 1) ≤ L.length
       omega
      ·
       show L.length - (k + 1) < L.length - k
       omega
      ·
       exact subE_mk (l := [.int x, .pto [.ls (.ints C), .ls (.ints L), .int B], .int (cfK C L x k + (C.getD k 0)), .int (cfK C L (-x) k), .int ((k : Int) + 1)]) (m := [.int x, .pto [.ls (.ints C), .ls (.ints L), .int B], .int (cfK C L x (k + 1)), .int (cfK C L (-x) (k + 1)), .int ((k + 1) : Int)]) (by kernel_rfl) (by kernel_rfl) (consE rfl (consE rfl (consE (congrArg AV.int (show (cfK C L x k + (C.getD k 0)) = cfK C L x (k + 1) from (by first | exact (cfK_yes hl (by omega) (by omega)).symm | exact (cfK_no hl (by omega) (by omega)).symm))) (consE (congrArg AV.int (show cfK C L (-x) k = cfK C L (-x) (k + 1) from (by first | exact (cfK_yes hl (by omega) (by omega)).symm | exact (cfK_no hl (by omega) (by omega)).symm))) (consE (congrArg AV.int (show ((k : Int) + 1) = ((k + 1) : Int) from (by first | rfl | omega | (simp; done)))) rfl)))))
      ·
       kernel_rfl
    ·
     skip
     have h1 := neB hb1
     refine tri_skip ?_
     refine fin_then ?_
     refine tri_seq ?_
     refine tri_regD hcx [] [37] [1, 2, 6, 7, 8] [] [((0 : Int) ≤ (k : Int) ∧ (k : Int) < (L.length : Int)), Fit (0 - x)] [(37, .bool ((L.getD k 0) == (0 - x)))] [] (by kernel_rfl) ?_ ?_
     ·
      refine (ap ?_ (ap ?_ az))
      all_goals
       omega
     refine fin_then ?_
     refine tri_cond (b := ((L.getD k 0) == (0 - x))) (by kernel_rfl) (fun hb3 => ?_) (fun hb3 => ?_)
     ·
      skip
      have h3 := eq_of_beq hb3
      refine tri_regD hcx [] [7] [1, 2, 6, 8] [] [((0 : Int) ≤ (k : Int) ∧ (k : Int) < (C.length : Int)), Fit (cfK C L (-x) k + (C.getD k 0))] [(7, .int (cfK C L (-x) k + (C.getD k 0)))] [] (by kernel_rfl) ?_ ?_
      ·
       refine (ap (by omega) (ap ?_ az))
       rw [← cfK_yes hl (by omega) (show _ = -x by omega)]; have := b6 (by omega); omega
      refine fin_block ?_
      refine fin_then ?_
      refine tri_regD hcx [] [8] [7, 1, 2, 6] [] [Fit ((k : Int) + 1)] [(8, .int ((k : Int) + 1))] [] (by kernel_rfl) ?_ ?_
      ·
       refine (ap ?_ az)
       omega
      refine fin_round (k + 1) ?_ ?_ ?_ ?_
      ·
       show (k + 1) ≤ L.length
       omega
      ·
       show L.length - (k + 1) < L.length - k
       omega
      ·
       exact subE_mk (l := [.int x, .pto [.ls (.ints C), .ls (.ints L), .int B], .int (cfK C L x k), .int (cfK C L (-x) k + (C.getD k 0)), .int ((k : Int) + 1)]) (m := [.int x, .pto [.ls (.ints C), .ls (.ints L), .int B], .int (cfK C L x (k + 1)), .int (cfK C L (-x) (k + 1)), .int ((k + 1) : Int)]) (by kernel_rfl) (by kernel_rfl) (consE rfl (consE rfl (consE (congrArg AV.int (show cfK C L x k = cfK C L x (k + 1) from (by first | exact (cfK_yes hl (by omega) (by omega)).symm | exact (cfK_no hl (by omega) (by omega)).symm))) (consE (congrArg AV.int (show (cfK C L (-x) k + (C.getD k 0)) = cfK C L (-x) (k + 1) from (by first | exact (cfK_yes hl (by omega) (by omega)).symm | exact (cfK_no hl (by omega) (by omega)).symm))) (consE (congrArg AV.int (show ((k : Int) + 1) = ((k + 1) : Int) from (by first | rfl | omega | (simp; done)))) rfl)))))
      ·
       kernel_rfl
     ·
      skip
      have h3 := neB hb3
      refine tri_skip ?_
      refine fin_block ?_
      refine fin_then ?_
      refine tri_regD hcx [] [8] [1, 2, 6, 7] [] [Fit ((k : Int) + 1)] [(8, .int ((k : Int) + 1))] [] (by kernel_rfl) ?_ ?_
      ·
       refine (ap ?_ az)
       omega
      refine fin_round (k + 1) ?_ ?_ ?_ ?_
      ·
       show (k + 1) ≤ L.length
       omega
      ·
       show L.length - (k + 1) < L.length - k
       omega
      ·
       exact subE_mk (l := [.int x, .pto [.ls (.ints C), .ls (.ints L), .int B], .int (cfK C L x k), .int (cfK C L (-x) k), .int ((k : Int) + 1)]) (m := [.int x, .pto [.ls (.ints C), .ls (.ints L), .int B], .int (cfK C L x (k + 1)), .int (cfK C L (-x) (k + 1)), .int ((k + 1) : Int)]) (by kernel_rfl) (by kernel_rfl) (consE rfl (consE rfl (consE (congrArg AV.int (show cfK C L x k = cfK C L x (k + 1) from (by first | exact (cfK_yes hl (by omega) (by omega)).symm | exact (cfK_no hl (by omega) (by omega)).symm))) (consE (congrArg AV.int (show cfK C L (-x) k = cfK C L (-x) (k + 1) from (by first | exact (cfK_yes hl (by omega) (by omega)).symm | exact (cfK_no hl (by omega) (by omega)).symm))) (consE (congrArg AV.int (show ((k : Int) + 1) = ((k + 1) : Int) from (by first | rfl | omega | (simp; done)))) rfl)))))
      ·
       kernel_rfl
   ·
    skip
    have h0 := of_decide_eq_false hb0
    refine tri_exit ?_
    refine fin_then_exit ?_
    refine fin_then_exit ?_
    refine fin_block_same ?_
    refine fin_then ?_
    refine tri_seq ?_
    refine tri_regD hcx [] [4, 5] [] [] [] [(4, .int (cfK C L x k)), (5, .int (cfK C L (-x) k))] [] (by kernel_rfl) ?_ ?_
    ·
     exact az
    refine fin_then ?_
    refine tri_ret ?_
    exact fin_ret [] rfl rfl trivial hcx (avs := [.int (cfK C L x k), .int (cfK C L (-x) k)]) (by kernel_rfl) (congrArg AV.tup (consE (congrArg AV.int (show cfK C L x k = cf ⟨C, L, B⟩ x from (by exact cfK_all hl (by omega)))) (consE (congrArg AV.int (show cfK C L (-x) k = cf ⟨C, L, B⟩ (-x) from (by exact cfK_all hl (by omega)))) rfl))) [] rfl
 ·
  cases hσ
def cx_rvars12 : Cx := ⟨ty12, [(128, rOf12_σ)], false⟩
theorem cx_rvars12_ok : CxOk Tryz.prog cx_rvars12 := cx_ok ty12_ok ⟨rOf12_sound, trivial⟩
def rvars12_σ : CtF
  | [.agg [.im (.ls (.ints C)), .im (.ls (.ints L)), .im (.val (.int .i64 B))]], [] => some (L.length ≤ 4096 ∧ ∀ x ∈ L, -9223372036854775807 ≤ x ∧ x ≤ 9223372036854775807, .ints (varsZ L), [])
  | _, _ => none
theorem rvars12_sound : Sound Tryz.prog 86 rvars12_σ := by
 refine sound_mk (cx := cx_rvars12) (fn := Tryz.f86) Tryz.func86 (by kernel_rfl) rfl ?_
 intro w0 G0 args os p r outs hσ hp hm0 hd0
 have hcx : CxOk Tryz.prog cx_rvars12 := cx_rvars12_ok
 unfold rvars12_σ at hσ
 split at hσ
 ·
  rename_i C L B
  simp only [Option.some.injEq, Prod.mk.injEq] at hσ
  obtain ⟨rfl, rfl, rfl⟩ := hσ
  obtain ⟨wW, wO, wm, wβ, wd⟩ := w0
  replace hm0 : wm = 0 := hm0
  subst hm0
  replace hd0 : wd = [] := hd0
  subst hd0
  refine ⟨by kernel_rfl, ?_⟩
  change Tri ⟨_, _, _, _, _, _⟩ [(0, .agg [.ints C, .ints L, .int B])] [] _ _
  obtain ⟨h4, hx⟩ := hp
  refine tri_seq ?_
  refine tri_regD hcx [(1000, .frz)] [1] [] [] [] [(1, .pto [.ls (.ints C), .ls (.ints L), .int B])] [] (by kernel_rfl) ?_ ?_
  ·
   exact az
  refine fin_then ?_
  refine tri_seq ?_
  refine tri_regD hcx [] [3] [1] [] [] [(3, .im (.val (.slice none 0 0)))] [] (by kernel_rfl) ?_ ?_
  ·
   exact az
  refine fin_then ?_
  refine tri_seq ?_
  refine tri_seq ?_
  refine tri_regD hcx [] [4] [3, 1] [] [] [(4, .int 0)] [] (by kernel_rfl) ?_ ?_
  ·
   exact az
  refine fin_then ?_
  refine tri_block ?_
  refine tri_nil 3 (.ints []) (by kernel_rfl) (E' := [(4, .int 0), (3, .ints []), (1, .pto [.ls (.ints C), .ls (.ints L), .int B])]) (by kernel_rfl) ?_
  refine tri_loop (X := Nat) (fun x0 => x0 ≤ L.length) (fun x0 => [(1, .pto [.ls (.ints C), .ls (.ints L), .int B]), (3, .ints (varsZ (L.take x0))), (4, .int (x0 : Int))]) (fun x0 => []) (fun x0 => L.length - x0) (0) ?_ ?_ ?_ ?_
  ·
   show 0 ≤ L.length
   omega
  ·
   exact subE_mk (l := [.pto [.ls (.ints C), .ls (.ints L), .int B], .ints [], .int 0]) (m := [.pto [.ls (.ints C), .ls (.ints L), .int B], .ints (varsZ (L.take 0)), .int (0 : Int)]) (by kernel_rfl) (by kernel_rfl) (consE rfl (consE (congrArg AV.ints (show [] = varsZ (L.take 0) from (by first | rfl | omega | (simp; done)))) (consE (congrArg AV.int (show 0 = (0 : Int) from (by first | rfl | omega | (simp; done)))) rfl)))
  ·
   kernel_rfl
  ·
   intro k hI
   replace hI : k ≤ L.length := hI
   change Tri _ [(1, .pto [.ls (.ints C), .ls (.ints L), .int B]), (3, .ints (varsZ (L.take k))), (4, .int (k : Int))] [] _ _
   have hvl := varsZ_take_len L k
   refine tri_seq ?_
   refine tri_seq ?_
   refine tri_regD hcx [] [12] [1, 3, 4] [] [] [(12, .bool (decide ((k : Int) < (L.length : Int))))] [] (by kernel_rfl) ?_ ?_
   ·
    exact az
   refine fin_then ?_
   refine tri_cond (b := (decide ((k : Int) < (L.length : Int)))) (by kernel_rfl) (fun hb0 => ?_) (fun hb0 => ?_)
   ·
    skip
    have h0 := of_decide_eq_true hb0
    refine tri_skip ?_
    refine fin_then ?_
    refine tri_seq ?_
    refine tri_block ?_
    refine tri_seq ?_
    refine tri_regD hcx [] [5] [1, 3, 4] [] [((0 : Int) ≤ (k : Int) ∧ (k : Int) < (L.length : Int)), (-9223372036854775807 ≤ (L.getD k 0) ∧ (L.getD k 0) ≤ 9223372036854775807)] [(5, .int ((L.getD k 0).natAbs : Int))] [] (by kernel_rfl) ?_ ?_
    ·
     refine (ap ?_ (ap ?_ az))
     all_goals
      first | exact hx _ (getD_mem (by omega)) | omega
    refine fin_then ?_
    refine tri_seq ?_
    refine tri_regD hcx [] [6] [5, 1, 3, 4] [] [] [(6, .int 0)] [] (by kernel_rfl) ?_ ?_
    ·
     exact az
    refine fin_then ?_
    refine tri_seq ?_
    refine tri_block ?_
    refine tri_loop (X := Nat) (fun x0 => x0 ≤ (varsZ (L.take k)).length ∧ ∀ j, j < x0 → (varsZ (L.take k)).getD j 0 < ((L.getD k 0).natAbs : Int)) (fun x0 => [(1, .pto [.ls (.ints C), .ls (.ints L), .int B]), (3, .ints (varsZ (L.take k))), (4, .int (k : Int)), (5, .int ((L.getD k 0).natAbs : Int)), (6, .int (x0 : Int))]) (fun x0 => []) (fun x0 => (varsZ (L.take k)).length - x0) (0) ?_ ?_ ?_ ?_
    ·
     show 0 ≤ (varsZ (L.take k)).length ∧ ∀ j, j < 0 → (varsZ (L.take k)).getD j 0 < ((L.getD k 0).natAbs : Int)
     exact ⟨Nat.zero_le _, fun j hj => by omega⟩
    ·
     exact subE_mk (l := [.pto [.ls (.ints C), .ls (.ints L), .int B], .ints (varsZ (L.take k)), .int (k : Int), .int ((L.getD k 0).natAbs : Int), .int 0]) (m := [.pto [.ls (.ints C), .ls (.ints L), .int B], .ints (varsZ (L.take k)), .int (k : Int), .int ((L.getD k 0).natAbs : Int), .int (0 : Int)]) (by kernel_rfl) (by kernel_rfl) (consE rfl (consE rfl (consE rfl (consE rfl (consE (congrArg AV.int (show 0 = (0 : Int) from (by first | rfl | omega | (simp; done)))) rfl)))))
    ·
     kernel_rfl
    ·
     intro i hI
     replace hI : i ≤ (varsZ (L.take k)).length ∧ ∀ j, j < i → (varsZ (L.take k)).getD j 0 < ((L.getD k 0).natAbs : Int) := hI
     change Tri _ [(1, .pto [.ls (.ints C), .ls (.ints L), .int B]), (3, .ints (varsZ (L.take k))), (4, .int (k : Int)), (5, .int ((L.getD k 0).natAbs : Int)), (6, .int (i : Int))] [] _ _
     obtain ⟨hi, hlt⟩ := hI
     refine tri_seq ?_
     refine tri_seq ?_
     refine tri_regD hcx [] [32] [1, 3, 4, 5, 6] [] [((decide ((i : Int) < ((varsZ (L.take k)).length : Int))) = true → ((decide ((i : Int) < ((varsZ (L.take k)).length : Int))) = true)), ((decide ((i : Int) < ((varsZ (L.take k)).length : Int))) = true → ((decide ((i : Int) < ((varsZ (L.take k)).length : Int))) = true)), ((decide ((i : Int) < ((varsZ (L.take k)).length : Int))) = true → ((0 : Int) ≤ (i : Int) ∧ (i : Int) < ((varsZ (L.take k)).length : Int))), ((decide ((i : Int) < ((varsZ (L.take k)).length : Int))) = true → ((decide ((i : Int) < ((varsZ (L.take k)).length : Int))) = true)), ((decide ((i : Int) < ((varsZ (L.take k)).length : Int))) = true → ((decide ((i : Int) < ((varsZ (L.take k)).length : Int))) = true)), ((decide ((i : Int) < ((varsZ (L.take k)).length : Int))) = true → ((decide ((i : Int) < ((varsZ (L.take k)).length : Int))) = true)), ((decide ((i : Int) < ((varsZ (L.take k)).length : Int))) = true → (decide ((i : Int) < ((varsZ (L.take k)).length : Int))) = true)] [(32, .bool ((decide ((i : Int) < ((varsZ (L.take k)).length : Int))) && (decide (((varsZ (L.take k)).getD i 0) < ((L.getD k 0).natAbs : Int)))))] [] (by kernel_rfl) ?_ ?_
     ·
      refine (ap ?_ (ap ?_ (ap ?_ (ap ?_ (ap ?_ (ap ?_ (ap (by exact id) az)))))))
      all_goals
       first | omega | exact id | exact vcNot | exact vcG | exact vcH | (intro _; omega) | exact (fun _ h => h) | (intro h; simp at h; omega) | (simp only [List.length_cons, List.length_nil, List.length_append, List.length_map, List.length_set, List.length_replicate]; omega) | (intro h; simp [h]; done)
     refine fin_then ?_
     refine tri_cond (b := ((decide ((i : Int) < ((varsZ (L.take k)).length : Int))) && (decide (((varsZ (L.take k)).getD i 0) < ((L.getD k 0).natAbs : Int))))) (by kernel_rfl) (fun hb1 => ?_) (fun hb1 => ?_)
     ·
      skip
      have h1 := hb1
      simp only [Bool.and_eq_true, decide_eq_true_eq] at h1
      refine tri_skip ?_
      refine fin_then ?_
      refine tri_block ?_
      refine tri_regD hcx [] [6] [1, 3, 4, 5] [] [Fit ((i : Int) + 1)] [(6, .int ((i : Int) + 1))] [] (by kernel_rfl) ?_ ?_
      ·
       refine (ap ?_ az)
       omega
      refine fin_block ?_
      refine fin_round (i + 1) ?_ ?_ ?_ ?_
      ·
       show (i + 1) ≤ (varsZ (L.take k)).length ∧ ∀ j, j < (i + 1) → (varsZ (L.take k)).getD j 0 < ((L.getD k 0).natAbs : Int)
       exact ⟨by omega, allSuccL hlt (by omega)⟩
      ·
       show (varsZ (L.take k)).length - (i + 1) < (varsZ (L.take k)).length - i
       omega
      ·
       exact subE_mk (l := [.pto [.ls (.ints C), .ls (.ints L), .int B], .ints (varsZ (L.take k)), .int (k : Int), .int ((L.getD k 0).natAbs : Int), .int ((i : Int) + 1)]) (m := [.pto [.ls (.ints C), .ls (.ints L), .int B], .ints (varsZ (L.take k)), .int (k : Int), .int ((L.getD k 0).natAbs : Int), .int ((i + 1) : Int)]) (by kernel_rfl) (by kernel_rfl) (consE rfl (consE rfl (consE rfl (consE rfl (consE (congrArg AV.int (show ((i : Int) + 1) = ((i + 1) : Int) from (by first | rfl | omega | (simp; done)))) rfl)))))
      ·
       kernel_rfl
     ·
      skip
      have h1 := hb1
      simp only [Bool.and_eq_false_iff, decide_eq_false_iff_not] at h1
      have hcn := h1
      refine tri_exit ?_
      refine fin_then_exit ?_
      refine fin_then_exit ?_
      refine fin_block_same ?_
      refine fin_then ?_
      refine tri_seq ?_
      refine tri_seq ?_
      refine tri_regD hcx [] [46] [1, 3, 4, 5, 6] [] [((decide ((i : Int) < ((varsZ (L.take k)).length : Int))) = true → ((decide ((i : Int) < ((varsZ (L.take k)).length : Int))) = true)), ((decide ((i : Int) < ((varsZ (L.take k)).length : Int))) = true → ((decide ((i : Int) < ((varsZ (L.take k)).length : Int))) = true)), ((decide ((i : Int) < ((varsZ (L.take k)).length : Int))) = true → ((0 : Int) ≤ (i : Int) ∧ (i : Int) < ((varsZ (L.take k)).length : Int))), ((decide ((i : Int) < ((varsZ (L.take k)).length : Int))) = true → ((decide ((i : Int) < ((varsZ (L.take k)).length : Int))) = true)), ((decide ((i : Int) < ((varsZ (L.take k)).length : Int))) = true → ((decide ((i : Int) < ((varsZ (L.take k)).length : Int))) = true)), ((decide ((i : Int) < ((varsZ (L.take k)).length : Int))) = true → ((decide ((i : Int) < ((varsZ (L.take k)).length : Int))) = true)), ((decide ((i : Int) < ((varsZ (L.take k)).length : Int))) = true → (decide ((i : Int) < ((varsZ (L.take k)).length : Int))) = true)] [(46, .bool ((decide ((i : Int) < ((varsZ (L.take k)).length : Int))) && (((varsZ (L.take k)).getD i 0) == ((L.getD k 0).natAbs : Int))))] [] (by kernel_rfl) ?_ ?_
      ·
       refine (ap ?_ (ap ?_ (ap ?_ (ap ?_ (ap ?_ (ap ?_ (ap (by exact id) az)))))))
       all_goals
        first | omega | exact id | exact vcNot | exact vcG | exact vcH | (intro _; omega) | exact (fun _ h => h) | (intro h; simp at h; omega) | (simp only [List.length_cons, List.length_nil, List.length_append, List.length_map, List.length_set, List.length_replicate]; omega) | (intro h; simp [h]; done)
      refine fin_then ?_
      refine tri_cond (b := ((decide ((i : Int) < ((varsZ (L.take k)).length : Int))) && (((varsZ (L.take k)).getD i 0) == ((L.getD k 0).natAbs : Int)))) (by kernel_rfl) (fun hb2 => ?_) (fun hb2 => ?_)
      ·
       skip
       have h2 := hb2
       simp only [Bool.and_eq_true, decide_eq_true_eq, beq_iff_eq] at h2
       refine tri_exit ?_
       refine fin_then_exit ?_
       refine fin_block_same ?_
       refine fin_then ?_
       refine tri_regD hcx [] [4] [1, 3] [] [Fit ((k : Int) + 1)] [(4, .int ((k : Int) + 1))] [] (by kernel_rfl) ?_ ?_
       ·
        refine (ap ?_ az)
        omega
       refine fin_round (k + 1) ?_ ?_ ?_ ?_
       ·
        show (k + 1) ≤ L.length
        omega
       ·
        show L.length - (k + 1) < L.length - k
        omega
       ·
        exact subE_mk (l := [.pto [.ls (.ints C), .ls (.ints L), .int B], .ints (varsZ (L.take k)), .int ((k : Int) + 1)]) (m := [.pto [.ls (.ints C), .ls (.ints L), .int B], .ints (varsZ (L.take (k + 1))), .int ((k + 1) : Int)]) (by kernel_rfl) (by kernel_rfl) (consE rfl (consE (congrArg AV.ints (show varsZ (L.take k) = varsZ (L.take (k + 1)) from (by first | (rw [varsZ_take (by omega)]; exact (insV_here (by omega) hlt (by omega)).symm) | (rw [varsZ_take (by omega)]; exact (vars_new hi hlt hcn hcn2).symm)))) (consE (congrArg AV.int (show ((k : Int) + 1) = ((k + 1) : Int) from (by first | rfl | omega | (simp; done)))) rfl)))
       ·
        kernel_rfl
      ·
       skip
       have h2 := hb2
       simp only [Bool.and_eq_false_iff, decide_eq_false_iff_not, beq_eq_false_iff_ne] at h2
       have hcn2 := h2
       refine tri_skip ?_
       refine fin_then ?_
       refine tri_seq ?_
       refine tri_regD hcx [] [7] [1, 3, 4, 5, 6] [] [] [(7, .im (.val (.slice none 0 0)))] [] (by kernel_rfl) ?_ ?_
       ·
        exact az
       refine fin_then ?_
       refine tri_seq ?_
       refine tri_regD hcx [(1004, .to 251)] [7] [1, 3, 4, 5, 6] [] [((0 : Int) ≤ (i : Int) ∧ (i : Int) ≤ ((varsZ (L.take k)).length : Int)), ((((varsZ (L.take k)).take i).drop 0).length * 8 ≤ 140737488355328)] [(7, .row 251)] [(251, .row 3 (.ints (((varsZ (L.take k)).take i).drop 0)))] (by kernel_rfl) ?_ ?_
       ·
        refine (ap (by omega) (ap ?_ az))
        simp; omega
       refine fin_then ?_
       refine tri_seq ?_
       refine tri_regD hcx [(1003, .to 251)] [7] [1, 3, 4, 6] [] [(((((varsZ (L.take k)).take i).drop 0).length + [((L.getD k 0).natAbs : Int)].length) * 8 ≤ 140737488355328)] [(7, .row 251)] [(251, .row 3 (.ints ((((varsZ (L.take k)).take i).drop 0) ++ [((L.getD k 0).natAbs : Int)])))] (by kernel_rfl) ?_ ?_
       ·
        refine (ap ?_ az)
        simp; omega
       refine fin_then ?_
       refine tri_seq ?_
       refine tri_regD hcx [(1004, .to 251)] [7] [1, 4] [] [((0 : Int) ≤ (i : Int) ∧ (i : Int) ≤ ((varsZ (L.take k)).length : Int)), ((((((varsZ (L.take k)).take i).drop 0) ++ [((L.getD k 0).natAbs : Int)]).length + (((varsZ (L.take k)).take ((varsZ (L.take k)).length)).drop i).length) * 8 ≤ 140737488355328)] [(7, .row 251)] [(251, .row 3 (.ints (((((varsZ (L.take k)).take i).drop 0) ++ [((L.getD k 0).natAbs : Int)]) ++ (((varsZ (L.take k)).take ((varsZ (L.take k)).length)).drop i))))] (by kernel_rfl) ?_ ?_
       ·
        refine (ap (by omega) (ap ?_ az))
        simp; omega
       refine fin_then ?_
       refine tri_regD hcx [] [3] [1, 4] [251] [] [(3, .row 251)] [] (by kernel_rfl) ?_ ?_
       ·
        exact az
       refine fin_block ?_
       refine fin_then ?_
       refine tri_regD hcx [] [4] [3, 1] [251] [Fit ((k : Int) + 1)] [(4, .int ((k : Int) + 1))] [] (by kernel_rfl) ?_ ?_
       ·
        refine (ap ?_ az)
        omega
       refine fin_ren (ρ := [(251, .frz)]) (keys := [1, 3, 4]) (E' := [(1, .pto [.ls (.ints C), .ls (.ints L), .int B]), (3, .ints (((((varsZ (L.take k)).take i).drop 0) ++ [((L.getD k 0).natAbs : Int)]) ++ (((varsZ (L.take k)).take ((varsZ (L.take k)).length)).drop i))), (4, .int ((k : Int) + 1))]) (H' := []) (by kernel_rfl) ?_
       refine fin_round (k + 1) ?_ ?_ ?_ ?_
       ·
        show (k + 1) ≤ L.length
        omega
       ·
        show L.length - (k + 1) < L.length - k
        omega
       ·
        exact subE_mk (l := [.pto [.ls (.ints C), .ls (.ints L), .int B], .ints (((((varsZ (L.take k)).take i).drop 0) ++ [((L.getD k 0).natAbs : Int)]) ++ (((varsZ (L.take k)).take ((varsZ (L.take k)).length)).drop i)), .int ((k : Int) + 1)]) (m := [.pto [.ls (.ints C), .ls (.ints L), .int B], .ints (varsZ (L.take (k + 1))), .int ((k + 1) : Int)]) (by kernel_rfl) (by kernel_rfl) (consE rfl (consE (congrArg AV.ints (show (((((varsZ (L.take k)).take i).drop 0) ++ [((L.getD k 0).natAbs : Int)]) ++ (((varsZ (L.take k)).take ((varsZ (L.take k)).length)).drop i)) = varsZ (L.take (k + 1)) from (by first | (rw [varsZ_take (by omega)]; exact (insV_here (by omega) hlt (by omega)).symm) | (rw [varsZ_take (by omega)]; exact (vars_new hi hlt hcn hcn2).symm)))) (consE (congrArg AV.int (show ((k : Int) + 1) = ((k + 1) : Int) from (by first | rfl | omega | (simp; done)))) rfl)))
       ·
        kernel_rfl
   ·
    skip
    have h0 := of_decide_eq_false hb0
    refine tri_exit ?_
    refine fin_then_exit ?_
    refine fin_then_exit ?_
    refine fin_block_same ?_
    refine fin_then ?_
    refine tri_seq ?_
    refine tri_regD hcx [] [2] [] [] [] [(2, .ints (varsZ (L.take k)))] [] (by kernel_rfl) ?_ ?_
    ·
     exact az
    refine fin_then ?_
    refine tri_ret ?_
    exact fin_ret [] rfl rfl trivial hcx (avs := [.ints (varsZ (L.take k))]) (by kernel_rfl) (congrArg AV.ints (show varsZ (L.take k) = varsZ L from (by rw [List.take_of_length_le (by omega)]))) [] rfl
 ·
  cases hσ
def cx_rNorm12 : Cx := ⟨ty12, [(35, (coeF [.agg [.ld (.ints []), .ld (.ints []), .id], .id] rCheck12_σ)), (87, (coeF [.agg [.ld (.ints []), .ld (.ints []), .id], .id] rboth12_σ)), (86, (coeF [.agg [.ld (.ints []), .ld (.ints []), .id]] rvars12_σ))], false⟩
theorem cx_rNorm12_ok : CxOk Tryz.prog cx_rNorm12 := cx_ok ty12_ok ⟨(rCheck12_sound.coe [.agg [.ld (.ints []), .ld (.ints []), .id], .id] rfl), (rboth12_sound.coe [.agg [.ld (.ints []), .ld (.ints []), .id], .id] rfl), (rvars12_sound.coe [.agg [.ld (.ints []), .ld (.ints []), .id]] rfl), trivial⟩
def rNorm12_σ : CtF
  | [.agg [.im (.ls (.ints C)), .im (.ls (.ints L)), .im (.val (.int .i64 B))]], [] => some (C.length ≤ maxLen ∧ L.length ≤ maxLen, .agg [.row 0, .row 1, .int ((normP ⟨C, L, B⟩).B)], [some (.row 3 (.ints ((normP ⟨C, L, B⟩).C))), some (.row 3 (.ints ((normP ⟨C, L, B⟩).L)))])
  | _, _ => none
theorem rNorm12_sound : Sound Tryz.prog 37 rNorm12_σ := by
 refine sound_mk (cx := cx_rNorm12) (fn := Tryz.f37) Tryz.func37 (by kernel_rfl) rfl ?_
 intro w0 G0 args os p r outs hσ hp hm0 hd0
 have hcx : CxOk Tryz.prog cx_rNorm12 := cx_rNorm12_ok
 have hmx : Tryz.prog.follows .mixedOrders = true := by kernel_rfl
 unfold rNorm12_σ at hσ
 split at hσ
 ·
  rename_i C L B
  simp only [Option.some.injEq, Prod.mk.injEq] at hσ
  obtain ⟨rfl, rfl, rfl⟩ := hσ
  obtain ⟨wW, wO, wm, wβ, wd⟩ := w0
  replace hm0 : wm = 0 := hm0
  subst hm0
  replace hd0 : wd = [] := hd0
  subst hd0
  refine ⟨by kernel_rfl, ?_⟩
  change Tri ⟨_, _, _, _, _, _⟩ [(0, .agg [.ints C, .ints L, .int B])] [] _ _
  obtain ⟨hm1, hm2⟩ := hp
  refine tri_seq ?_
  refine tri_regD hcx [(1001, .to 602), (1000, .frz)] [1, 2] [] [] [] [(1, .pto [.ls (.ints C), .ls (.ints L), .int B]), (2, .loc 602 0)] [(602, .box [.im (.val (.slice none 0 0)), .im (.val (.slice none 0 0)), .int 0])] (by kernel_rfl) ?_ ?_
  ·
   exact az
  refine fin_then ?_
  refine tri_seq ?_
  refine tri_seq ?_
  refine tri_regD hcx [] [12] [1, 2] [602] [(L.length ≤ maxLen ∧ Fit (65536 : Int))] [(12, .bool ((lcheck ⟨C, L, B⟩ (65536 : Int)) != 0))] [] (by kernel_rfl) ?_ ?_
  ·
   refine (ap ?_ az)
   exact ⟨hm2, by omega⟩
  refine fin_then ?_
  refine tri_cond (b := ((lcheck ⟨C, L, B⟩ (65536 : Int)) != 0)) (by kernel_rfl) (fun hb0 => ?_) (fun hb0 => ?_)
  ·
   skip
   have h0 := bne_iff_ne.1 hb0
   have hnc : ¬ lcheck ⟨C, L, B⟩ 65536 = 0 := h0
   refine tri_seq ?_
   refine tri_regD hcx [(602, .to 602)] [] [2] [] [] [] [(602, .box [.im (.val (.slice none 0 0)), .im (.val (.slice none 0 0)), .int 0])] (by kernel_rfl) ?_ ?_
   ·
    exact az
   refine fin_then ?_
   refine tri_ret ?_
   refine fin_then_ret ?_
   refine fin_rowB 602 0 700 3 (.ints []) (by kernel_rfl) (by kernel_rfl) (by kernel_rfl) (by kernel_rfl) (H' := [(602, .box [.row 700, .im (.val (.slice none 0 0)), .int 0])]) (by kernel_rfl) ?_
   refine fin_rowB 602 1 701 3 (.ints []) (by kernel_rfl) (by kernel_rfl) (by kernel_rfl) (by kernel_rfl) (H' := [(700, .row 3 (.ints [])), (602, .box [.row 700, .row 701, .int 0])]) (by kernel_rfl) ?_
   refine fin_ren (ρ := [(700, .to 0), (701, .to 1), (602, .to 990)]) (keys := [2]) (E' := [(2, .loc 990 0)]) (H' := [(0, .row 3 (.ints [])), (1, .row 3 (.ints [])), (990, .box [.row 0, .row 1, .int 0])]) (by kernel_rfl) ?_
   exact fin_ret [] rfl rfl trivial hcx (avs := [.agg [.row 0, .row 1, .int 0]]) (by kernel_rfl) (congrArg AV.agg (consE rfl (consE rfl (consE (congrArg AV.int (show 0 = (normP ⟨C, L, B⟩).B from (by exact (congrArg LinV.B (norm_no hnc)).symm))) rfl)))) [true, true] (Eq.trans (show _ = [some (.row 3 (.ints [])), some (.row 3 (.ints []))] from by kernel_rfl) (consO (congrArg some (congrArg (fun x => AObj.row 3 (.ints x)) (show [] = (normP ⟨C, L, B⟩).C from (by exact (congrArg LinV.C (norm_no hnc)).symm)))) (consO (congrArg some (congrArg (fun x => AObj.row 3 (.ints x)) (show [] = (normP ⟨C, L, B⟩).L from (by exact (congrArg LinV.L (norm_no hnc)).symm)))) rfl)))
  ·
   skip
   have h0 := bneF hb0
   have hc : lcheck ⟨C, L, B⟩ 65536 = 0 := by first | exact h0 | exact h0.1 | omega
   obtain ⟨_, _, hl, hB, hC, hL, h4⟩ := id (lcheck_ok hc)
   replace hl : C.length = L.length := hl
   replace h4 : L.length ≤ 4096 := h4
   replace hL : ∀ x ∈ L, x ≠ 0 ∧ -65536 ≤ x ∧ x ≤ 65536 := hL
   have hvs := vars_le hL
   have hvl := varsZ_len L
   refine tri_skip ?_
   refine fin_then ?_
   refine tri_seq ?_
   refine tri_regD hcx [(1003, .to 603)] [3] [1, 2] [602] [] [(3, .loc 603 0)] [(603, .box [.im (.val (.slice none 0 0)), .im (.val (.slice none 0 0)), .int B])] (by kernel_rfl) ?_ ?_
   ·
    exact az
   refine fin_then ?_
   refine tri_seq ?_
   refine tri_regD hcx [] [4] [3, 1, 2] [603, 602] [] [(4, .int 0)] [] (by kernel_rfl) ?_ ?_
   ·
    exact az
   refine fin_then ?_
   refine tri_seq ?_
   refine tri_regD hcx [] [5] [4, 3, 1, 2] [603, 602] [(L.length ≤ 4096 ∧ ∀ x ∈ L, -9223372036854775807 ≤ x ∧ x ≤ 9223372036854775807)] [(5, .ints (varsZ L))] [] (by kernel_rfl) ?_ ?_
   ·
    refine (ap ?_ az)
    exact ⟨h4, fun x hx => by have := hL x hx; omega⟩
   refine fin_then ?_
   refine tri_seq ?_
   refine tri_seq ?_
   refine tri_regD hcx [] [6] [5, 4, 3, 1, 2] [603, 602] [] [(6, .int 0)] [] (by kernel_rfl) ?_ ?_
   ·
    exact az
   refine fin_then ?_
   refine tri_block ?_
   refine tri_rowB 603 0 10 3 (.ints []) (by kernel_rfl) (by kernel_rfl) (by kernel_rfl) (by kernel_rfl) (H' := [(603, .box [.row 10, .im (.val (.slice none 0 0)), .int B]), (602, .box [.im (.val (.slice none 0 0)), .im (.val (.slice none 0 0)), .int 0])]) (by kernel_rfl) ?_
   refine tri_rowB 603 1 11 3 (.ints []) (by kernel_rfl) (by kernel_rfl) (by kernel_rfl) (by kernel_rfl) (H' := [(10, .row 3 (.ints [])), (603, .box [.row 10, .row 11, .int B]), (602, .box [.im (.val (.slice none 0 0)), .im (.val (.slice none 0 0)), .int 0])]) (by kernel_rfl) ?_
   refine tri_ren (ρ := [(10, .to 10), (11, .to 11), (602, .to 602), (603, .to 603)]) (keys := [1, 2, 3, 4, 5, 6]) (E' := [(1, .pto [.ls (.ints C), .ls (.ints L), .int B]), (2, .loc 602 0), (3, .loc 603 0), (4, .int 0), (5, .ints (varsZ L)), (6, .int 0)]) (H' := [(10, .row 3 (.ints [])), (11, .row 3 (.ints [])), (602, .box [.im (.val (.slice none 0 0)), .im (.val (.slice none 0 0)), .int 0]), (603, .box [.row 10, .row 11, .int B])]) (by kernel_rfl) ?_
   refine tri_loop (X := Nat) (fun x0 => x0 ≤ (varsZ L).length) (fun x0 => [(1, .pto [.ls (.ints C), .ls (.ints L), .int B]), (2, .loc 602 0), (3, .loc 603 0), (4, .int (nA ⟨C, L, B⟩ (varsZ L) x0)), (5, .ints (varsZ L)), (6, .int (x0 : Int))]) (fun x0 => [(10, .row 3 (.ints (nC ⟨C, L, B⟩ (varsZ L) x0))), (11, .row 3 (.ints (nL ⟨C, L, B⟩ (varsZ L) x0))), (602, .box [.im (.val (.slice none 0 0)), .im (.val (.slice none 0 0)), .int 0]), (603, .box [.row 10, .row 11, .int (nB ⟨C, L, B⟩ (varsZ L) x0)])]) (fun x0 => (varsZ L).length - x0) (0) ?_ ?_ ?_ ?_
   ·
    show 0 ≤ (varsZ L).length
    omega
   ·
    exact subE_mk (l := [.pto [.ls (.ints C), .ls (.ints L), .int B], .loc 602 0, .loc 603 0, .int 0, .ints (varsZ L), .int 0]) (m := [.pto [.ls (.ints C), .ls (.ints L), .int B], .loc 602 0, .loc 603 0, .int (nA ⟨C, L, B⟩ (varsZ L) 0), .ints (varsZ L), .int (0 : Int)]) (by kernel_rfl) (by kernel_rfl) (consE rfl (consE rfl (consE rfl (consE (congrArg AV.int (show 0 = nA ⟨C, L, B⟩ (varsZ L) 0 from (by simp [nA, termsP, sumF1]))) (consE rfl (consE (congrArg AV.int (show 0 = (0 : Int) from (by first | rfl | omega | (simp; done)))) rfl))))))
   ·
    exact Eq.trans (show _ = [(10, .row 3 (.ints [])), (11, .row 3 (.ints [])), (602, .box [.im (.val (.slice none 0 0)), .im (.val (.slice none 0 0)), .int 0]), (603, .box [.row 10, .row 11, .int B])] from by kernel_rfl) (consH (congrArg (fun x => ((10 : Nat), x)) (congrArg (fun x => AObj.row 3 (.ints x)) (show [] = nC ⟨C, L, B⟩ (varsZ L) 0 from (by simp [nC, termsP])))) (consH (congrArg (fun x => ((11 : Nat), x)) (congrArg (fun x => AObj.row 3 (.ints x)) (show [] = nL ⟨C, L, B⟩ (varsZ L) 0 from (by simp [nL, termsP])))) (consH rfl (consH (congrArg (fun x => ((603 : Nat), x)) (congrArg AObj.box (consE rfl (consE rfl (consE (congrArg AV.int (show B = nB ⟨C, L, B⟩ (varsZ L) 0 from (by simp [nB, minsP]))) rfl))))) rfl))))
   ·
    intro k hI
    replace hI : k ≤ (varsZ L).length := hI
    change Tri _ [(1, .pto [.ls (.ints C), .ls (.ints L), .int B]), (2, .loc 602 0), (3, .loc 603 0), (4, .int (nA ⟨C, L, B⟩ (varsZ L) k)), (5, .ints (varsZ L)), (6, .int (k : Int))] [(10, .row 3 (.ints (nC ⟨C, L, B⟩ (varsZ L) k))), (11, .row 3 (.ints (nL ⟨C, L, B⟩ (varsZ L) k))), (602, .box [.im (.val (.slice none 0 0)), .im (.val (.slice none 0 0)), .int 0]), (603, .box [.row 10, .row 11, .int (nB ⟨C, L, B⟩ (varsZ L) k)])] _ _
    have ha1 := cf_bd hc ((varsZ L).getD k 0)
    have ha2 := cf_bd hc (-((varsZ L).getD k 0))
    have hb1 : -4504699138998272 ≤ nB ⟨C, L, B⟩ (varsZ L) k ∧ nB ⟨C, L, B⟩ (varsZ L) k ≤ 4504699138998272 := nB_bd hc k
    have hA1 : 0 ≤ nA ⟨C, L, B⟩ (varsZ L) k ∧ nA ⟨C, L, B⟩ (varsZ L) k ≤ 4503599627370496 := nA_bd hc k
    have hnl := nC_len ⟨C, L, B⟩ (varsZ L) k
    have hvp : k < (varsZ L).length → -65536 ≤ (varsZ L).getD k 0 ∧ (varsZ L).getD k 0 ≤ 65536 := fun hk => by have := hvs _ (getD_mem hk); omega
    refine tri_seq ?_
    refine tri_seq ?_
    refine tri_regD hcx [] [22] [1, 2, 3, 4, 5, 6] [10, 11, 602, 603] [] [(22, .bool (decide ((k : Int) < ((varsZ L).length : Int))))] [] (by kernel_rfl) ?_ ?_
    ·
     exact az
    refine fin_then ?_
    refine tri_cond (b := (decide ((k : Int) < ((varsZ L).length : Int)))) (by kernel_rfl) (fun hb1 => ?_) (fun hb1 => ?_)
    ·
     skip
     have h1 := of_decide_eq_true hb1
     refine tri_skip ?_
     refine fin_then ?_
     refine tri_seq ?_
     refine tri_block ?_
     refine tri_seq ?_
     refine tri_drawD [0, 0, 0, 6, 14, 31, 63, 127, 127, 255, 1023] hcx hmx [] [7, 8] [1, 2, 3, 4, 5, 6] [10, 11, 602, 603] [((0 : Int) ≤ (k : Int) ∧ (k : Int) < ((varsZ L).length : Int)), (lcheck ⟨C, L, B⟩ 65536 = 0 ∧ -9223372036854775807 ≤ ((varsZ L).getD k 0) ∧ ((varsZ L).getD k 0) ≤ 9223372036854775807)] [(7, .int (cf ⟨C, L, B⟩ ((varsZ L).getD k 0))), (8, .int (cf ⟨C, L, B⟩ (-((varsZ L).getD k 0))))] [] (by kernel_rfl) ?_ ?_
     ·
      refine (ap (by omega) (ap ?_ az))
      have hv := hvs _ (getD_mem (l := varsZ L) (k := k) (by omega)); exact ⟨hc, by omega, by omega⟩
     refine fin_then ?_
     refine tri_seq ?_
     refine tri_regD hcx [(603, .to 603)] [] [7, 8, 1, 2, 3, 4, 5, 6] [10, 11, 602] [Fit (nB ⟨C, L, B⟩ (varsZ L) k - (min (cf ⟨C, L, B⟩ ((varsZ L).getD k 0)) (cf ⟨C, L, B⟩ (-((varsZ L).getD k 0)))))] [] [(603, .box [.row 10, .row 11, .int (nB ⟨C, L, B⟩ (varsZ L) k - (min (cf ⟨C, L, B⟩ ((varsZ L).getD k 0)) (cf ⟨C, L, B⟩ (-((varsZ L).getD k 0)))))])] (by kernel_rfl) ?_ ?_
     ·
      refine (ap ?_ az)
      omega
     refine fin_then ?_
     refine tri_seq ?_
     refine tri_seq ?_
     refine tri_regD hcx [] [43] [7, 8, 1, 2, 3, 4, 5, 6] [603, 10, 11, 602] [] [(43, .bool (decide (cf ⟨C, L, B⟩ ((varsZ L).getD k 0) > cf ⟨C, L, B⟩ (-((varsZ L).getD k 0)))))] [] (by kernel_rfl) ?_ ?_
     ·
      exact az
     refine fin_then ?_
     refine tri_cond (b := (decide (cf ⟨C, L, B⟩ ((varsZ L).getD k 0) > cf ⟨C, L, B⟩ (-((varsZ L).getD k 0))))) (by kernel_rfl) (fun hb2 => ?_) (fun hb2 => ?_)
     ·
      skip
      have h2 := of_decide_eq_true hb2
      refine tri_seq ?_
      refine tri_regD hcx [(1006, .to 10), (603, .to 603)] [] [7, 8, 1, 2, 3, 4, 5, 6] [11, 602] [Fit (cf ⟨C, L, B⟩ ((varsZ L).getD k 0) - cf ⟨C, L, B⟩ (-((varsZ L).getD k 0))), (((nC ⟨C, L, B⟩ (varsZ L) k).length + [(cf ⟨C, L, B⟩ ((varsZ L).getD k 0) - cf ⟨C, L, B⟩ (-((varsZ L).getD k 0)))].length) * 8 ≤ 140737488355328)] [] [(10, .row 3 (.ints ((nC ⟨C, L, B⟩ (varsZ L) k) ++ [(cf ⟨C, L, B⟩ ((varsZ L).getD k 0) - cf ⟨C, L, B⟩ (-((varsZ L).getD k 0)))]))), (603, .box [.row 10, .row 11, .int (nB ⟨C, L, B⟩ (varsZ L) k - (min (cf ⟨C, L, B⟩ ((varsZ L).getD k 0)) (cf ⟨C, L, B⟩ (-((varsZ L).getD k 0)))))])] (by kernel_rfl) ?_ ?_
      ·
       refine (ap (by omega) (ap ?_ az))
       simp only [List.length_cons, List.length_nil]; omega
      refine fin_then ?_
      refine tri_drawD [0, 1, 0, 0, 12, 28, 60, 127, 255, 511] hcx hmx [(1007, .to 11), (603, .to 603)] [] [7, 8, 1, 2, 3, 4, 5, 6] [10, 602] [((0 : Int) ≤ (k : Int) ∧ (k : Int) < ((varsZ L).length : Int)), (((nL ⟨C, L, B⟩ (varsZ L) k).length + [((varsZ L).getD k 0)].length) * 8 ≤ 140737488355328)] [] [(11, .row 3 (.ints ((nL ⟨C, L, B⟩ (varsZ L) k) ++ [((varsZ L).getD k 0)]))), (603, .box [.row 10, .row 11, .int (nB ⟨C, L, B⟩ (varsZ L) k - (min (cf ⟨C, L, B⟩ ((varsZ L).getD k 0)) (cf ⟨C, L, B⟩ (-((varsZ L).getD k 0)))))])] (by kernel_rfl) ?_ ?_
      ·
       refine (ap (by omega) (ap ?_ az))
       simp only [List.length_cons, List.length_nil]; omega
      refine fin_then ?_
      refine tri_seq ?_
      refine tri_seq ?_
      refine tri_regD hcx [] [63] [7, 8, 1, 2, 3, 4, 5, 6] [11, 603, 10, 602] [] [(63, .bool (decide (cf ⟨C, L, B⟩ (-((varsZ L).getD k 0)) > cf ⟨C, L, B⟩ ((varsZ L).getD k 0))))] [] (by kernel_rfl) ?_ ?_
      ·
       exact az
      refine fin_then ?_
      refine tri_cond (b := (decide (cf ⟨C, L, B⟩ (-((varsZ L).getD k 0)) > cf ⟨C, L, B⟩ ((varsZ L).getD k 0)))) (by kernel_rfl) (fun hb3 => ?_) (fun hb3 => ?_)
      ·
       skip
       have h3 := of_decide_eq_true hb3
       refine tri_seq ?_
       refine tri_regD hcx [(1006, .to 10), (603, .to 603)] [] [7, 8, 1, 2, 3, 4, 5, 6] [11, 602] [Fit (cf ⟨C, L, B⟩ (-((varsZ L).getD k 0)) - cf ⟨C, L, B⟩ ((varsZ L).getD k 0)), ((((nC ⟨C, L, B⟩ (varsZ L) k) ++ [(cf ⟨C, L, B⟩ ((varsZ L).getD k 0) - cf ⟨C, L, B⟩ (-((varsZ L).getD k 0)))]).length + [(cf ⟨C, L, B⟩ (-((varsZ L).getD k 0)) - cf ⟨C, L, B⟩ ((varsZ L).getD k 0))].length) * 8 ≤ 140737488355328)] [] [(10, .row 3 (.ints (((nC ⟨C, L, B⟩ (varsZ L) k) ++ [(cf ⟨C, L, B⟩ ((varsZ L).getD k 0) - cf ⟨C, L, B⟩ (-((varsZ L).getD k 0)))]) ++ [(cf ⟨C, L, B⟩ (-((varsZ L).getD k 0)) - cf ⟨C, L, B⟩ ((varsZ L).getD k 0))]))), (603, .box [.row 10, .row 11, .int (nB ⟨C, L, B⟩ (varsZ L) k - (min (cf ⟨C, L, B⟩ ((varsZ L).getD k 0)) (cf ⟨C, L, B⟩ (-((varsZ L).getD k 0)))))])] (by kernel_rfl) ?_ ?_
       ·
        refine (ap (by omega) (ap ?_ az))
        simp only [List.length_cons, List.length_nil]; omega
       refine fin_then ?_
       refine tri_drawD [0, 1, 0, 0, 12, 28, 60, 124, 255, 511, 1023] hcx hmx [(1008, .to 11), (603, .to 603)] [] [7, 8, 1, 2, 3, 4, 5, 6] [10, 602] [((0 : Int) ≤ (k : Int) ∧ (k : Int) < ((varsZ L).length : Int)), Fit (0 - ((varsZ L).getD k 0)), ((((nL ⟨C, L, B⟩ (varsZ L) k) ++ [((varsZ L).getD k 0)]).length + [(0 - ((varsZ L).getD k 0))].length) * 8 ≤ 140737488355328)] [] [(11, .row 3 (.ints (((nL ⟨C, L, B⟩ (varsZ L) k) ++ [((varsZ L).getD k 0)]) ++ [(0 - ((varsZ L).getD k 0))]))), (603, .box [.row 10, .row 11, .int (nB ⟨C, L, B⟩ (varsZ L) k - (min (cf ⟨C, L, B⟩ ((varsZ L).getD k 0)) (cf ⟨C, L, B⟩ (-((varsZ L).getD k 0)))))])] (by kernel_rfl) ?_ ?_
       ·
        refine (ap (by omega) (ap (by omega) (ap ?_ az)))
        simp only [List.length_cons, List.length_nil]; omega
       refine fin_then ?_
       refine tri_regD hcx [] [4] [1, 2, 3, 5, 6] [11, 603, 10, 602] [Fit (nA ⟨C, L, B⟩ (varsZ L) k + (max (cf ⟨C, L, B⟩ ((varsZ L).getD k 0)) (cf ⟨C, L, B⟩ (-((varsZ L).getD k 0))))), Fit ((nA ⟨C, L, B⟩ (varsZ L) k + (max (cf ⟨C, L, B⟩ ((varsZ L).getD k 0)) (cf ⟨C, L, B⟩ (-((varsZ L).getD k 0))))) - (min (cf ⟨C, L, B⟩ ((varsZ L).getD k 0)) (cf ⟨C, L, B⟩ (-((varsZ L).getD k 0)))))] [(4, .int ((nA ⟨C, L, B⟩ (varsZ L) k + (max (cf ⟨C, L, B⟩ ((varsZ L).getD k 0)) (cf ⟨C, L, B⟩ (-((varsZ L).getD k 0))))) - (min (cf ⟨C, L, B⟩ ((varsZ L).getD k 0)) (cf ⟨C, L, B⟩ (-((varsZ L).getD k 0))))))] [] (by kernel_rfl) ?_ ?_
       ·
        refine (ap ?_ (ap ?_ az))
        all_goals
         omega
       refine fin_block ?_
       refine fin_then ?_
       refine tri_regD hcx [] [6] [4, 1, 2, 3, 5] [11, 603, 10, 602] [Fit ((k : Int) + 1)] [(6, .int ((k : Int) + 1))] [] (by kernel_rfl) ?_ ?_
       ·
        refine (ap ?_ az)
        omega
       refine fin_ren (ρ := [(10, .to 10), (11, .to 11), (602, .to 602), (603, .to 603)]) (keys := [1, 2, 3, 4, 5, 6]) (E' := [(1, .pto [.ls (.ints C), .ls (.ints L), .int B]), (2, .loc 602 0), (3, .loc 603 0), (4, .int ((nA ⟨C, L, B⟩ (varsZ L) k + (max (cf ⟨C, L, B⟩ ((varsZ L).getD k 0)) (cf ⟨C, L, B⟩ (-((varsZ L).getD k 0))))) - (min (cf ⟨C, L, B⟩ ((varsZ L).getD k 0)) (cf ⟨C, L, B⟩ (-((varsZ L).getD k 0)))))), (5, .ints (varsZ L)), (6, .int ((k : Int) + 1))]) (H' := [(10, .row 3 (.ints (((nC ⟨C, L, B⟩ (varsZ L) k) ++ [(cf ⟨C, L, B⟩ ((varsZ L).getD k 0) - cf ⟨C, L, B⟩ (-((varsZ L).getD k 0)))]) ++ [(cf ⟨C, L, B⟩ (-((varsZ L).getD k 0)) - cf ⟨C, L, B⟩ ((varsZ L).getD k 0))]))), (11, .row 3 (.ints (((nL ⟨C, L, B⟩ (varsZ L) k) ++ [((varsZ L).getD k 0)]) ++ [(0 - ((varsZ L).getD k 0))]))), (602, .box [.im (.val (.slice none 0 0)), .im (.val (.slice none 0 0)), .int 0]), (603, .box [.row 10, .row 11, .int (nB ⟨C, L, B⟩ (varsZ L) k - (min (cf ⟨C, L, B⟩ ((varsZ L).getD k 0)) (cf ⟨C, L, B⟩ (-((varsZ L).getD k 0)))))])]) (by kernel_rfl) ?_
       refine fin_round (k + 1) ?_ ?_ ?_ ?_
       ·
        show (k + 1) ≤ (varsZ L).length
        omega
       ·
        show (varsZ L).length - (k + 1) < (varsZ L).length - k
        omega
       ·
        exact subE_mk (l := [.pto [.ls (.ints C), .ls (.ints L), .int B], .loc 602 0, .loc 603 0, .int ((nA ⟨C, L, B⟩ (varsZ L) k + (max (cf ⟨C, L, B⟩ ((varsZ L).getD k 0)) (cf ⟨C, L, B⟩ (-((varsZ L).getD k 0))))) - (min (cf ⟨C, L, B⟩ ((varsZ L).getD k 0)) (cf ⟨C, L, B⟩ (-((varsZ L).getD k 0))))), .ints (varsZ L), .int ((k : Int) + 1)]) (m := [.pto [.ls (.ints C), .ls (.ints L), .int B], .loc 602 0, .loc 603 0, .int (nA ⟨C, L, B⟩ (varsZ L) (k + 1)), .ints (varsZ L), .int ((k + 1) : Int)]) (by kernel_rfl) (by kernel_rfl) (consE rfl (consE rfl (consE rfl (consE (congrArg AV.int (show ((nA ⟨C, L, B⟩ (varsZ L) k + (max (cf ⟨C, L, B⟩ ((varsZ L).getD k 0)) (cf ⟨C, L, B⟩ (-((varsZ L).getD k 0))))) - (min (cf ⟨C, L, B⟩ ((varsZ L).getD k 0)) (cf ⟨C, L, B⟩ (-((varsZ L).getD k 0))))) = nA ⟨C, L, B⟩ (varsZ L) (k + 1) from (by exact (nA_succ (by omega)).symm))) (consE rfl (consE (congrArg AV.int (show ((k : Int) + 1) = ((k + 1) : Int) from (by first | rfl | omega | (simp; done)))) rfl))))))
       ·
        exact Eq.trans (show _ = [(10, .row 3 (.ints (((nC ⟨C, L, B⟩ (varsZ L) k) ++ [(cf ⟨C, L, B⟩ ((varsZ L).getD k 0) - cf ⟨C, L, B⟩ (-((varsZ L).getD k 0)))]) ++ [(cf ⟨C, L, B⟩ (-((varsZ L).getD k 0)) - cf ⟨C, L, B⟩ ((varsZ L).getD k 0))]))), (11, .row 3 (.ints (((nL ⟨C, L, B⟩ (varsZ L) k) ++ [((varsZ L).getD k 0)]) ++ [(0 - ((varsZ L).getD k 0))]))), (602, .box [.im (.val (.slice none 0 0)), .im (.val (.slice none 0 0)), .int 0]), (603, .box [.row 10, .row 11, .int (nB ⟨C, L, B⟩ (varsZ L) k - (min (cf ⟨C, L, B⟩ ((varsZ L).getD k 0)) (cf ⟨C, L, B⟩ (-((varsZ L).getD k 0)))))])] from by kernel_rfl) (consH (congrArg (fun x => ((10 : Nat), x)) (congrArg (fun x => AObj.row 3 (.ints x)) (show (((nC ⟨C, L, B⟩ (varsZ L) k) ++ [(cf ⟨C, L, B⟩ ((varsZ L).getD k 0) - cf ⟨C, L, B⟩ (-((varsZ L).getD k 0)))]) ++ [(cf ⟨C, L, B⟩ (-((varsZ L).getD k 0)) - cf ⟨C, L, B⟩ ((varsZ L).getD k 0))]) = nC ⟨C, L, B⟩ (varsZ L) (k + 1) from (by first | exact (nC_gt (by omega) (by omega)).1.symm | exact (nC_lt (by omega) (by omega)).1.symm | exact (nC_eq (by omega) (by omega) (by omega)).1.symm | (exfalso; omega))))) (consH (congrArg (fun x => ((11 : Nat), x)) (congrArg (fun x => AObj.row 3 (.ints x)) (show (((nL ⟨C, L, B⟩ (varsZ L) k) ++ [((varsZ L).getD k 0)]) ++ [(0 - ((varsZ L).getD k 0))]) = nL ⟨C, L, B⟩ (varsZ L) (k + 1) from (by first | exact (nC_gt (by omega) (by omega)).2.symm | (rw [Int.zero_sub]; exact (nC_lt (by omega) (by omega)).2.symm) | exact (nC_eq (by omega) (by omega) (by omega)).2.symm | (exfalso; omega))))) (consH rfl (consH (congrArg (fun x => ((603 : Nat), x)) (congrArg AObj.box (consE rfl (consE rfl (consE (congrArg AV.int (show (nB ⟨C, L, B⟩ (varsZ L) k - (min (cf ⟨C, L, B⟩ ((varsZ L).getD k 0)) (cf ⟨C, L, B⟩ (-((varsZ L).getD k 0))))) = nB ⟨C, L, B⟩ (varsZ L) (k + 1) from (by exact (nB_succ (by omega)).symm))) rfl))))) rfl))))
      ·
       skip
       have h3 := of_decide_eq_false hb3
       refine tri_skip ?_
       refine fin_then ?_
       refine tri_regD hcx [] [4] [1, 2, 3, 5, 6] [11, 603, 10, 602] [Fit (nA ⟨C, L, B⟩ (varsZ L) k + (max (cf ⟨C, L, B⟩ ((varsZ L).getD k 0)) (cf ⟨C, L, B⟩ (-((varsZ L).getD k 0))))), Fit ((nA ⟨C, L, B⟩ (varsZ L) k + (max (cf ⟨C, L, B⟩ ((varsZ L).getD k 0)) (cf ⟨C, L, B⟩ (-((varsZ L).getD k 0))))) - (min (cf ⟨C, L, B⟩ ((varsZ L).getD k 0)) (cf ⟨C, L, B⟩ (-((varsZ L).getD k 0)))))] [(4, .int ((nA ⟨C, L, B⟩ (varsZ L) k + (max (cf ⟨C, L, B⟩ ((varsZ L).getD k 0)) (cf ⟨C, L, B⟩ (-((varsZ L).getD k 0))))) - (min (cf ⟨C, L, B⟩ ((varsZ L).getD k 0)) (cf ⟨C, L, B⟩ (-((varsZ L).getD k 0))))))] [] (by kernel_rfl) ?_ ?_
       ·
        refine (ap ?_ (ap ?_ az))
        all_goals
         omega
       refine fin_block ?_
       refine fin_then ?_
       refine tri_regD hcx [] [6] [4, 1, 2, 3, 5] [11, 603, 10, 602] [Fit ((k : Int) + 1)] [(6, .int ((k : Int) + 1))] [] (by kernel_rfl) ?_ ?_
       ·
        refine (ap ?_ az)
        omega
       refine fin_ren (ρ := [(10, .to 10), (11, .to 11), (602, .to 602), (603, .to 603)]) (keys := [1, 2, 3, 4, 5, 6]) (E' := [(1, .pto [.ls (.ints C), .ls (.ints L), .int B]), (2, .loc 602 0), (3, .loc 603 0), (4, .int ((nA ⟨C, L, B⟩ (varsZ L) k + (max (cf ⟨C, L, B⟩ ((varsZ L).getD k 0)) (cf ⟨C, L, B⟩ (-((varsZ L).getD k 0))))) - (min (cf ⟨C, L, B⟩ ((varsZ L).getD k 0)) (cf ⟨C, L, B⟩ (-((varsZ L).getD k 0)))))), (5, .ints (varsZ L)), (6, .int ((k : Int) + 1))]) (H' := [(10, .row 3 (.ints ((nC ⟨C, L, B⟩ (varsZ L) k) ++ [(cf ⟨C, L, B⟩ ((varsZ L).getD k 0) - cf ⟨C, L, B⟩ (-((varsZ L).getD k 0)))]))), (11, .row 3 (.ints ((nL ⟨C, L, B⟩ (varsZ L) k) ++ [((varsZ L).getD k 0)]))), (602, .box [.im (.val (.slice none 0 0)), .im (.val (.slice none 0 0)), .int 0]), (603, .box [.row 10, .row 11, .int (nB ⟨C, L, B⟩ (varsZ L) k - (min (cf ⟨C, L, B⟩ ((varsZ L).getD k 0)) (cf ⟨C, L, B⟩ (-((varsZ L).getD k 0)))))])]) (by kernel_rfl) ?_
       refine fin_round (k + 1) ?_ ?_ ?_ ?_
       ·
        show (k + 1) ≤ (varsZ L).length
        omega
       ·
        show (varsZ L).length - (k + 1) < (varsZ L).length - k
        omega
       ·
        exact subE_mk (l := [.pto [.ls (.ints C), .ls (.ints L), .int B], .loc 602 0, .loc 603 0, .int ((nA ⟨C, L, B⟩ (varsZ L) k + (max (cf ⟨C, L, B⟩ ((varsZ L).getD k 0)) (cf ⟨C, L, B⟩ (-((varsZ L).getD k 0))))) - (min (cf ⟨C, L, B⟩ ((varsZ L).getD k 0)) (cf ⟨C, L, B⟩ (-((varsZ L).getD k 0))))), .ints (varsZ L), .int ((k : Int) + 1)]) (m := [.pto [.ls (.ints C), .ls (.ints L), .int B], .loc 602 0, .loc 603 0, .int (nA ⟨C, L, B⟩ (varsZ L) (k + 1)), .ints (varsZ L), .int ((k + 1) : Int)]) (by kernel_rfl) (by kernel_rfl) (consE rfl (consE rfl (consE rfl (consE (congrArg AV.int (show ((nA ⟨C, L, B⟩ (varsZ L) k + (max (cf ⟨C, L, B⟩ ((varsZ L).getD k 0)) (cf ⟨C, L, B⟩ (-((varsZ L).getD k 0))))) - (min (cf ⟨C, L, B⟩ ((varsZ L).getD k 0)) (cf ⟨C, L, B⟩ (-((varsZ L).getD k 0))))) = nA ⟨C, L, B⟩ (varsZ L) (k + 1) from (by exact (nA_succ (by omega)).symm))) (consE rfl (consE (congrArg AV.int (show ((k : Int) + 1) = ((k + 1) : Int) from (by first | rfl | omega | (simp; done)))) rfl))))))
       ·
        exact Eq.trans (show _ = [(10, .row 3 (.ints ((nC ⟨C, L, B⟩ (varsZ L) k) ++ [(cf ⟨C, L, B⟩ ((varsZ L).getD k 0) - cf ⟨C, L, B⟩ (-((varsZ L).getD k 0)))]))), (11, .row 3 (.ints ((nL ⟨C, L, B⟩ (varsZ L) k) ++ [((varsZ L).getD k 0)]))), (602, .box [.im (.val (.slice none 0 0)), .im (.val (.slice none 0 0)), .int 0]), (603, .box [.row 10, .row 11, .int (nB ⟨C, L, B⟩ (varsZ L) k - (min (cf ⟨C, L, B⟩ ((varsZ L).getD k 0)) (cf ⟨C, L, B⟩ (-((varsZ L).getD k 0)))))])] from by kernel_rfl) (consH (congrArg (fun x => ((10 : Nat), x)) (congrArg (fun x => AObj.row 3 (.ints x)) (show ((nC ⟨C, L, B⟩ (varsZ L) k) ++ [(cf ⟨C, L, B⟩ ((varsZ L).getD k 0) - cf ⟨C, L, B⟩ (-((varsZ L).getD k 0)))]) = nC ⟨C, L, B⟩ (varsZ L) (k + 1) from (by first | exact (nC_gt (by omega) (by omega)).1.symm | exact (nC_lt (by omega) (by omega)).1.symm | exact (nC_eq (by omega) (by omega) (by omega)).1.symm | (exfalso; omega))))) (consH (congrArg (fun x => ((11 : Nat), x)) (congrArg (fun x => AObj.row 3 (.ints x)) (show ((nL ⟨C, L, B⟩ (varsZ L) k) ++ [((varsZ L).getD k 0)]) = nL ⟨C, L, B⟩ (varsZ L) (k + 1) from (by first | exact (nC_gt (by omega) (by omega)).2.symm | (rw [Int.zero_sub]; exact (nC_lt (by omega) (by omega)).2.symm) | exact (nC_eq (by omega) (by omega) (by omega)).2.symm | (exfalso; omega))))) (consH rfl (consH (congrArg (fun x => ((603 : Nat), x)) (congrArg AObj.box (consE rfl (consE rfl (consE (congrArg AV.int (show (nB ⟨C, L, B⟩ (varsZ L) k - (min (cf ⟨C, L, B⟩ ((varsZ L).getD k 0)) (cf ⟨C, L, B⟩ (-((varsZ L).getD k 0))))) = nB ⟨C, L, B⟩ (varsZ L) (k + 1) from (by exact (nB_succ (by omega)).symm))) rfl))))) rfl))))
     ·
      skip
      have h2 := of_decide_eq_false hb2
      refine tri_skip ?_
      refine fin_then ?_
      refine tri_seq ?_
      refine tri_seq ?_
      refine tri_regD hcx [] [63] [7, 8, 1, 2, 3, 4, 5, 6] [603, 10, 11, 602] [] [(63, .bool (decide (cf ⟨C, L, B⟩ (-((varsZ L).getD k 0)) > cf ⟨C, L, B⟩ ((varsZ L).getD k 0))))] [] (by kernel_rfl) ?_ ?_
      ·
       exact az
      refine fin_then ?_
      refine tri_cond (b := (decide (cf ⟨C, L, B⟩ (-((varsZ L).getD k 0)) > cf ⟨C, L, B⟩ ((varsZ L).getD k 0)))) (by kernel_rfl) (fun hb4 => ?_) (fun hb4 => ?_)
      ·
       skip
       have h4 := of_decide_eq_true hb4
       refine tri_seq ?_
       refine tri_regD hcx [(1006, .to 10), (603, .to 603)] [] [7, 8, 1, 2, 3, 4, 5, 6] [11, 602] [Fit (cf ⟨C, L, B⟩ (-((varsZ L).getD k 0)) - cf ⟨C, L, B⟩ ((varsZ L).getD k 0)), (((nC ⟨C, L, B⟩ (varsZ L) k).length + [(cf ⟨C, L, B⟩ (-((varsZ L).getD k 0)) - cf ⟨C, L, B⟩ ((varsZ L).getD k 0))].length) * 8 ≤ 140737488355328)] [] [(10, .row 3 (.ints ((nC ⟨C, L, B⟩ (varsZ L) k) ++ [(cf ⟨C, L, B⟩ (-((varsZ L).getD k 0)) - cf ⟨C, L, B⟩ ((varsZ L).getD k 0))]))), (603, .box [.row 10, .row 11, .int (nB ⟨C, L, B⟩ (varsZ L) k - (min (cf ⟨C, L, B⟩ ((varsZ L).getD k 0)) (cf ⟨C, L, B⟩ (-((varsZ L).getD k 0)))))])] (by kernel_rfl) ?_ ?_
       ·
        refine (ap (by omega) (ap ?_ az))
        simp only [List.length_cons, List.length_nil]; omega
       refine fin_then ?_
       refine tri_drawD [0, 1, 0, 0, 12, 28, 60, 124, 255, 511, 1023] hcx hmx [(1008, .to 11), (603, .to 603)] [] [7, 8, 1, 2, 3, 4, 5, 6] [10, 602] [((0 : Int) ≤ (k : Int) ∧ (k : Int) < ((varsZ L).length : Int)), Fit (0 - ((varsZ L).getD k 0)), (((nL ⟨C, L, B⟩ (varsZ L) k).length + [(0 - ((varsZ L).getD k 0))].length) * 8 ≤ 140737488355328)] [] [(11, .row 3 (.ints ((nL ⟨C, L, B⟩ (varsZ L) k) ++ [(0 - ((varsZ L).getD k 0))]))), (603, .box [.row 10, .row 11, .int (nB ⟨C, L, B⟩ (varsZ L) k - (min (cf ⟨C, L, B⟩ ((varsZ L).getD k 0)) (cf ⟨C, L, B⟩ (-((varsZ L).getD k 0)))))])] (by kernel_rfl) ?_ ?_
       ·
        refine (ap (by omega) (ap (by omega) (ap ?_ az)))
        simp only [List.length_cons, List.length_nil]; omega
       refine fin_then ?_
       refine tri_regD hcx [] [4] [1, 2, 3, 5, 6] [11, 603, 10, 602] [Fit (nA ⟨C, L, B⟩ (varsZ L) k + (max (cf ⟨C, L, B⟩ ((varsZ L).getD k 0)) (cf ⟨C, L, B⟩ (-((varsZ L).getD k 0))))), Fit ((nA ⟨C, L, B⟩ (varsZ L) k + (max (cf ⟨C, L, B⟩ ((varsZ L).getD k 0)) (cf ⟨C, L, B⟩ (-((varsZ L).getD k 0))))) - (min (cf ⟨C, L, B⟩ ((varsZ L).getD k 0)) (cf ⟨C, L, B⟩ (-((varsZ L).getD k 0)))))] [(4, .int ((nA ⟨C, L, B⟩ (varsZ L) k + (max (cf ⟨C, L, B⟩ ((varsZ L).getD k 0)) (cf ⟨C, L, B⟩ (-((varsZ L).getD k 0))))) - (min (cf ⟨C, L, B⟩ ((varsZ L).getD k 0)) (cf ⟨C, L, B⟩ (-((varsZ L).getD k 0))))))] [] (by kernel_rfl) ?_ ?_
       ·
        refine (ap ?_ (ap ?_ az))
        all_goals
         omega
       refine fin_block ?_
       refine fin_then ?_
       refine tri_regD hcx [] [6] [4, 1, 2, 3, 5] [11, 603, 10, 602] [Fit ((k : Int) + 1)] [(6, .int ((k : Int) + 1))] [] (by kernel_rfl) ?_ ?_
       ·
        refine (ap ?_ az)
        omega
       refine fin_ren (ρ := [(10, .to 10), (11, .to 11), (602, .to 602), (603, .to 603)]) (keys := [1, 2, 3, 4, 5, 6]) (E' := [(1, .pto [.ls (.ints C), .ls (.ints L), .int B]), (2, .loc 602 0), (3, .loc 603 0), (4, .int ((nA ⟨C, L, B⟩ (varsZ L) k + (max (cf ⟨C, L, B⟩ ((varsZ L).getD k 0)) (cf ⟨C, L, B⟩ (-((varsZ L).getD k 0))))) - (min (cf ⟨C, L, B⟩ ((varsZ L).getD k 0)) (cf ⟨C, L, B⟩ (-((varsZ L).getD k 0)))))), (5, .ints (varsZ L)), (6, .int ((k : Int) + 1))]) (H' := [(10, .row 3 (.ints ((nC ⟨C, L, B⟩ (varsZ L) k) ++ [(cf ⟨C, L, B⟩ (-((varsZ L).getD k 0)) - cf ⟨C, L, B⟩ ((varsZ L).getD k 0))]))), (11, .row 3 (.ints ((nL ⟨C, L, B⟩ (varsZ L) k) ++ [(0 - ((varsZ L).getD k 0))]))), (602, .box [.im (.val (.slice none 0 0)), .im (.val (.slice none 0 0)), .int 0]), (603, .box [.row 10, .row 11, .int (nB ⟨C, L, B⟩ (varsZ L) k - (min (cf ⟨C, L, B⟩ ((varsZ L).getD k 0)) (cf ⟨C, L, B⟩ (-((varsZ L).getD k 0)))))])]) (by kernel_rfl) ?_
       refine fin_round (k + 1) ?_ ?_ ?_ ?_
       ·
        show (k + 1) ≤ (varsZ L).length
        omega
       ·
        show (varsZ L).length - (k + 1) < (varsZ L).length - k
        omega
       ·
        exact subE_mk (l := [.pto [.ls (.ints C), .ls (.ints L), .int B], .loc 602 0, .loc 603 0, .int ((nA ⟨C, L, B⟩ (varsZ L) k + (max (cf ⟨C, L, B⟩ ((varsZ L).getD k 0)) (cf ⟨C, L, B⟩ (-((varsZ L).getD k 0))))) - (min (cf ⟨C, L, B⟩ ((varsZ L).getD k 0)) (cf ⟨C, L, B⟩ (-((varsZ L).getD k 0))))), .ints (varsZ L), .int ((k : Int) + 1)]) (m := [.pto [.ls (.ints C), .ls (.ints L), .int B], .loc 602 0, .loc 603 0, .int (nA ⟨C, L, B⟩ (varsZ L) (k + 1)), .ints (varsZ L), .int ((k + 1) : Int)]) (by kernel_rfl) (by kernel_rfl) (consE rfl (consE rfl (consE rfl (consE (congrArg AV.int (show ((nA ⟨C, L, B⟩ (varsZ L) k + (max (cf ⟨C, L, B⟩ ((varsZ L).getD k 0)) (cf ⟨C, L, B⟩ (-((varsZ L).getD k 0))))) - (min (cf ⟨C, L, B⟩ ((varsZ L).getD k 0)) (cf ⟨C, L, B⟩ (-((varsZ L).getD k 0))))) = nA ⟨C, L, B⟩ (varsZ L) (k + 1) from (by exact (nA_succ (by omega)).symm))) (consE rfl (consE (congrArg AV.int (show ((k : Int) + 1) = ((k + 1) : Int) from (by first | rfl | omega | (simp; done)))) rfl))))))
       ·
        exact Eq.trans (show _ = [(10, .row 3 (.ints ((nC ⟨C, L, B⟩ (varsZ L) k) ++ [(cf ⟨C, L, B⟩ (-((varsZ L).getD k 0)) - cf ⟨C, L, B⟩ ((varsZ L).getD k 0))]))), (11, .row 3 (.ints ((nL ⟨C, L, B⟩ (varsZ L) k) ++ [(0 - ((varsZ L).getD k 0))]))), (602, .box [.im (.val (.slice none 0 0)), .im (.val (.slice none 0 0)), .int 0]), (603, .box [.row 10, .row 11, .int (nB ⟨C, L, B⟩ (varsZ L) k - (min (cf ⟨C, L, B⟩ ((varsZ L).getD k 0)) (cf ⟨C, L, B⟩ (-((varsZ L).getD k 0)))))])] from by kernel_rfl) (consH (congrArg (fun x => ((10 : Nat), x)) (congrArg (fun x => AObj.row 3 (.ints x)) (show ((nC ⟨C, L, B⟩ (varsZ L) k) ++ [(cf ⟨C, L, B⟩ (-((varsZ L).getD k 0)) - cf ⟨C, L, B⟩ ((varsZ L).getD k 0))]) = nC ⟨C, L, B⟩ (varsZ L) (k + 1) from (by first | exact (nC_gt (by omega) (by omega)).1.symm | exact (nC_lt (by omega) (by omega)).1.symm | exact (nC_eq (by omega) (by omega) (by omega)).1.symm | (exfalso; omega))))) (consH (congrArg (fun x => ((11 : Nat), x)) (congrArg (fun x => AObj.row 3 (.ints x)) (show ((nL ⟨C, L, B⟩ (varsZ L) k) ++ [(0 - ((varsZ L).getD k 0))]) = nL ⟨C, L, B⟩ (varsZ L) (k + 1) from (by first | exact (nC_gt (by omega) (by omega)).2.symm | (rw [Int.zero_sub]; exact (nC_lt (by omega) (by omega)).2.symm) | exact (nC_eq (by omega) (by omega) (by omega)).2.symm | (exfalso; omega))))) (consH rfl (consH (congrArg (fun x => ((603 : Nat), x)) (congrArg AObj.box (consE rfl (consE rfl (consE (congrArg AV.int (show (nB ⟨C, L, B⟩ (varsZ L) k - (min (cf ⟨C, L, B⟩ ((varsZ L).getD k 0)) (cf ⟨C, L, B⟩ (-((varsZ L).getD k 0))))) = nB ⟨C, L, B⟩ (varsZ L) (k + 1) from (by exact (nB_succ (by omega)).symm))) rfl))))) rfl))))
      ·
       skip
       have h4 := of_decide_eq_false hb4
       refine tri_skip ?_
       refine fin_then ?_
       refine tri_regD hcx [] [4] [1, 2, 3, 5, 6] [603, 10, 11, 602] [Fit (nA ⟨C, L, B⟩ (varsZ L) k + (max (cf ⟨C, L, B⟩ ((varsZ L).getD k 0)) (cf ⟨C, L, B⟩ (-((varsZ L).getD k 0))))), Fit ((nA ⟨C, L, B⟩ (varsZ L) k + (max (cf ⟨C, L, B⟩ ((varsZ L).getD k 0)) (cf ⟨C, L, B⟩ (-((varsZ L).getD k 0))))) - (min (cf ⟨C, L, B⟩ ((varsZ L).getD k 0)) (cf ⟨C, L, B⟩ (-((varsZ L).getD k 0)))))] [(4, .int ((nA ⟨C, L, B⟩ (varsZ L) k + (max (cf ⟨C, L, B⟩ ((varsZ L).getD k 0)) (cf ⟨C, L, B⟩ (-((varsZ L).getD k 0))))) - (min (cf ⟨C, L, B⟩ ((varsZ L).getD k 0)) (cf ⟨C, L, B⟩ (-((varsZ L).getD k 0))))))] [] (by kernel_rfl) ?_ ?_
       ·
        refine (ap ?_ (ap ?_ az))
        all_goals
         omega
       refine fin_block ?_
       refine fin_then ?_
       refine tri_regD hcx [] [6] [4, 1, 2, 3, 5] [603, 10, 11, 602] [Fit ((k : Int) + 1)] [(6, .int ((k : Int) + 1))] [] (by kernel_rfl) ?_ ?_
       ·
        refine (ap ?_ az)
        omega
       refine fin_ren (ρ := [(10, .to 10), (11, .to 11), (602, .to 602), (603, .to 603)]) (keys := [1, 2, 3, 4, 5, 6]) (E' := [(1, .pto [.ls (.ints C), .ls (.ints L), .int B]), (2, .loc 602 0), (3, .loc 603 0), (4, .int ((nA ⟨C, L, B⟩ (varsZ L) k + (max (cf ⟨C, L, B⟩ ((varsZ L).getD k 0)) (cf ⟨C, L, B⟩ (-((varsZ L).getD k 0))))) - (min (cf ⟨C, L, B⟩ ((varsZ L).getD k 0)) (cf ⟨C, L, B⟩ (-((varsZ L).getD k 0)))))), (5, .ints (varsZ L)), (6, .int ((k : Int) + 1))]) (H' := [(10, .row 3 (.ints (nC ⟨C, L, B⟩ (varsZ L) k))), (11, .row 3 (.ints (nL ⟨C, L, B⟩ (varsZ L) k))), (602, .box [.im (.val (.slice none 0 0)), .im (.val (.slice none 0 0)), .int 0]), (603, .box [.row 10, .row 11, .int (nB ⟨C, L, B⟩ (varsZ L) k - (min (cf ⟨C, L, B⟩ ((varsZ L).getD k 0)) (cf ⟨C, L, B⟩ (-((varsZ L).getD k 0)))))])]) (by kernel_rfl) ?_
       refine fin_round (k + 1) ?_ ?_ ?_ ?_
       ·
        show (k + 1) ≤ (varsZ L).length
        omega
       ·
        show (varsZ L).length - (k + 1) < (varsZ L).length - k
        omega
       ·
        exact subE_mk (l := [.pto [.ls (.ints C), .ls (.ints L), .int B], .loc 602 0, .loc 603 0, .int ((nA ⟨C, L, B⟩ (varsZ L) k + (max (cf ⟨C, L, B⟩ ((varsZ L).getD k 0)) (cf ⟨C, L, B⟩ (-((varsZ L).getD k 0))))) - (min (cf ⟨C, L, B⟩ ((varsZ L).getD k 0)) (cf ⟨C, L, B⟩ (-((varsZ L).getD k 0))))), .ints (varsZ L), .int ((k : Int) + 1)]) (m := [.pto [.ls (.ints C), .ls (.ints L), .int B], .loc 602 0, .loc 603 0, .int (nA ⟨C, L, B⟩ (varsZ L) (k + 1)), .ints (varsZ L), .int ((k + 1) : Int)]) (by kernel_rfl) (by kernel_rfl) (consE rfl (consE rfl (consE rfl (consE (congrArg AV.int (show ((nA ⟨C, L, B⟩ (varsZ L) k + (max (cf ⟨C, L, B⟩ ((varsZ L).getD k 0)) (cf ⟨C, L, B⟩ (-((varsZ L).getD k 0))))) - (min (cf ⟨C, L, B⟩ ((varsZ L).getD k 0)) (cf ⟨C, L, B⟩ (-((varsZ L).getD k 0))))) = nA ⟨C, L, B⟩ (varsZ L) (k + 1) from (by exact (nA_succ (by omega)).symm))) (consE rfl (consE (congrArg AV.int (show ((k : Int) + 1) = ((k + 1) : Int) from (by first | rfl | omega | (simp; done)))) rfl))))))
       ·
        exact Eq.trans (show _ = [(10, .row 3 (.ints (nC ⟨C, L, B⟩ (varsZ L) k))), (11, .row 3 (.ints (nL ⟨C, L, B⟩ (varsZ L) k))), (602, .box [.im (.val (.slice none 0 0)), .im (.val (.slice none 0 0)), .int 0]), (603, .box [.row 10, .row 11, .int (nB ⟨C, L, B⟩ (varsZ L) k - (min (cf ⟨C, L, B⟩ ((varsZ L).getD k 0)) (cf ⟨C, L, B⟩ (-((varsZ L).getD k 0)))))])] from by kernel_rfl) (consH (congrArg (fun x => ((10 : Nat), x)) (congrArg (fun x => AObj.row 3 (.ints x)) (show nC ⟨C, L, B⟩ (varsZ L) k = nC ⟨C, L, B⟩ (varsZ L) (k + 1) from (by first | exact (nC_gt (by omega) (by omega)).1.symm | exact (nC_lt (by omega) (by omega)).1.symm | exact (nC_eq (by omega) (by omega) (by omega)).1.symm | (exfalso; omega))))) (consH (congrArg (fun x => ((11 : Nat), x)) (congrArg (fun x => AObj.row 3 (.ints x)) (show nL ⟨C, L, B⟩ (varsZ L) k = nL ⟨C, L, B⟩ (varsZ L) (k + 1) from (by first | exact (nC_gt (by omega) (by omega)).2.symm | (rw [Int.zero_sub]; exact (nC_lt (by omega) (by omega)).2.symm) | exact (nC_eq (by omega) (by omega) (by omega)).2.symm | (exfalso; omega))))) (consH rfl (consH (congrArg (fun x => ((603 : Nat), x)) (congrArg AObj.box (consE rfl (consE rfl (consE (congrArg AV.int (show (nB ⟨C, L, B⟩ (varsZ L) k - (min (cf ⟨C, L, B⟩ ((varsZ L).getD k 0)) (cf ⟨C, L, B⟩ (-((varsZ L).getD k 0))))) = nB ⟨C, L, B⟩ (varsZ L) (k + 1) from (by exact (nB_succ (by omega)).symm))) rfl))))) rfl))))
    ·
     skip
     have h1 := of_decide_eq_false hb1
     have q1 : nB ⟨C, L, B⟩ (varsZ L) k = B - minsP ⟨C, L, B⟩ (varsZ L) := (nAll (l := ⟨C, L, B⟩) (by show (varsZ L).length ≤ k; omega)).1
     have q2 : nA ⟨C, L, B⟩ (varsZ L) k = sumF1 (termsP ⟨C, L, B⟩ (varsZ L)) := (nAll (l := ⟨C, L, B⟩) (by show (varsZ L).length ≤ k; omega)).2.1
     have q3 : nC ⟨C, L, B⟩ (varsZ L) k = (termsP ⟨C, L, B⟩ (varsZ L)).map (·.1) := (nAll (l := ⟨C, L, B⟩) (by show (varsZ L).length ≤ k; omega)).2.2.1
     have q4 : nL ⟨C, L, B⟩ (varsZ L) k = (termsP ⟨C, L, B⟩ (varsZ L)).map (·.2) := (nAll (l := ⟨C, L, B⟩) (by show (varsZ L).length ≤ k; omega)).2.2.2
     refine tri_exit ?_
     refine fin_then_exit ?_
     refine fin_then_exit ?_
     refine fin_block_same ?_
     refine fin_then ?_
     refine tri_seq ?_
     refine tri_seq ?_
     refine tri_regD hcx [] [93] [2, 3, 4] [10, 11, 602, 603] [] [(93, .bool (decide (nB ⟨C, L, B⟩ (varsZ L) k ≤ 0)))] [] (by kernel_rfl) ?_ ?_
     ·
      exact az
     refine fin_then ?_
     refine tri_cond (b := (decide (nB ⟨C, L, B⟩ (varsZ L) k ≤ 0))) (by kernel_rfl) (fun hb5 => ?_) (fun hb5 => ?_)
     ·
      skip
      have h5 := of_decide_eq_true hb5
      have hN : normP ⟨C, L, B⟩ = lin0 := (normC hc).1 (by show B - minsP ⟨C, L, B⟩ (varsZ L) ≤ 0; omega)
      refine tri_seq ?_
      refine tri_regD hcx [(602, .to 602)] [] [2] [] [] [] [(602, .box [.im (.val (.slice none 0 0)), .im (.val (.slice none 0 0)), .int 0])] (by kernel_rfl) ?_ ?_
      ·
       exact az
      refine fin_then ?_
      refine tri_ret ?_
      refine fin_then_ret ?_
      refine fin_rowB 602 0 700 3 (.ints []) (by kernel_rfl) (by kernel_rfl) (by kernel_rfl) (by kernel_rfl) (H' := [(602, .box [.row 700, .im (.val (.slice none 0 0)), .int 0])]) (by kernel_rfl) ?_
      refine fin_rowB 602 1 701 3 (.ints []) (by kernel_rfl) (by kernel_rfl) (by kernel_rfl) (by kernel_rfl) (H' := [(700, .row 3 (.ints [])), (602, .box [.row 700, .row 701, .int 0])]) (by kernel_rfl) ?_
      refine fin_ren (ρ := [(700, .to 0), (701, .to 1), (602, .to 990)]) (keys := [2]) (E' := [(2, .loc 990 0)]) (H' := [(0, .row 3 (.ints [])), (1, .row 3 (.ints [])), (990, .box [.row 0, .row 1, .int 0])]) (by kernel_rfl) ?_
      exact fin_ret [] rfl rfl trivial hcx (avs := [.agg [.row 0, .row 1, .int 0]]) (by kernel_rfl) (congrArg AV.agg (consE rfl (consE rfl (consE (congrArg AV.int (show 0 = (normP ⟨C, L, B⟩).B from (by exact (congrArg LinV.B hN).symm))) rfl)))) [true, true] (Eq.trans (show _ = [some (.row 3 (.ints [])), some (.row 3 (.ints []))] from by kernel_rfl) (consO (congrArg some (congrArg (fun x => AObj.row 3 (.ints x)) (show [] = (normP ⟨C, L, B⟩).C from (by exact (congrArg LinV.C hN).symm)))) (consO (congrArg some (congrArg (fun x => AObj.row 3 (.ints x)) (show [] = (normP ⟨C, L, B⟩).L from (by exact (congrArg LinV.L hN).symm)))) rfl)))
     ·
      skip
      have h5 := of_decide_eq_false hb5
      refine tri_skip ?_
      refine fin_then ?_
      refine tri_seq ?_
      refine tri_seq ?_
      refine tri_regD hcx [] [98] [2, 3] [10, 11, 602, 603] [] [(98, .bool (decide (nA ⟨C, L, B⟩ (varsZ L) k < nB ⟨C, L, B⟩ (varsZ L) k)))] [] (by kernel_rfl) ?_ ?_
      ·
       exact az
      refine fin_then ?_
      refine tri_cond (b := (decide (nA ⟨C, L, B⟩ (varsZ L) k < nB ⟨C, L, B⟩ (varsZ L) k))) (by kernel_rfl) (fun hb6 => ?_) (fun hb6 => ?_)
      ·
       skip
       have h6 := of_decide_eq_true hb6
       have hN : normP ⟨C, L, B⟩ = ⟨[], [], 1⟩ := (normC hc).2.1 (by show ¬ B - minsP ⟨C, L, B⟩ (varsZ L) ≤ 0; omega) (by show sumF1 (termsP ⟨C, L, B⟩ (varsZ L)) < B - minsP ⟨C, L, B⟩ (varsZ L); omega)
       refine tri_seq ?_
       refine tri_regD hcx [(602, .to 602)] [] [2] [] [] [] [(602, .box [.im (.val (.slice none 0 0)), .im (.val (.slice none 0 0)), .int 1])] (by kernel_rfl) ?_ ?_
       ·
        exact az
       refine fin_then ?_
       refine tri_ret ?_
       refine fin_then_ret ?_
       refine fin_rowB 602 0 700 3 (.ints []) (by kernel_rfl) (by kernel_rfl) (by kernel_rfl) (by kernel_rfl) (H' := [(602, .box [.row 700, .im (.val (.slice none 0 0)), .int 1])]) (by kernel_rfl) ?_
       refine fin_rowB 602 1 701 3 (.ints []) (by kernel_rfl) (by kernel_rfl) (by kernel_rfl) (by kernel_rfl) (H' := [(700, .row 3 (.ints [])), (602, .box [.row 700, .row 701, .int 1])]) (by kernel_rfl) ?_
       refine fin_ren (ρ := [(700, .to 0), (701, .to 1), (602, .to 990)]) (keys := [2]) (E' := [(2, .loc 990 0)]) (H' := [(0, .row 3 (.ints [])), (1, .row 3 (.ints [])), (990, .box [.row 0, .row 1, .int 1])]) (by kernel_rfl) ?_
       exact fin_ret [] rfl rfl trivial hcx (avs := [.agg [.row 0, .row 1, .int 1]]) (by kernel_rfl) (congrArg AV.agg (consE rfl (consE rfl (consE (congrArg AV.int (show 1 = (normP ⟨C, L, B⟩).B from (by exact (congrArg LinV.B hN).symm))) rfl)))) [true, true] (Eq.trans (show _ = [some (.row 3 (.ints [])), some (.row 3 (.ints []))] from by kernel_rfl) (consO (congrArg some (congrArg (fun x => AObj.row 3 (.ints x)) (show [] = (normP ⟨C, L, B⟩).C from (by exact (congrArg LinV.C hN).symm)))) (consO (congrArg some (congrArg (fun x => AObj.row 3 (.ints x)) (show [] = (normP ⟨C, L, B⟩).L from (by exact (congrArg LinV.L hN).symm)))) rfl)))
      ·
       skip
       have h6 := of_decide_eq_false hb6
       have hN : normP ⟨C, L, B⟩ = ⟨(nC ⟨C, L, B⟩ (varsZ L) k).map (fun c => min c (nB ⟨C, L, B⟩ (varsZ L) k)), nL ⟨C, L, B⟩ (varsZ L) k, nB ⟨C, L, B⟩ (varsZ L) k⟩ := by rw [q1, q3, q4]; exact (normC hc).2.2 (by show ¬ B - minsP ⟨C, L, B⟩ (varsZ L) ≤ 0; omega) (by show ¬ sumF1 (termsP ⟨C, L, B⟩ (varsZ L)) < B - minsP ⟨C, L, B⟩ (varsZ L); omega)
       refine tri_skip ?_
       refine fin_then ?_
       refine tri_seq ?_
       refine tri_seq ?_
       refine tri_regD hcx [] [9] [2, 3] [10, 11, 602, 603] [] [(9, .int 0)] [] (by kernel_rfl) ?_ ?_
       ·
        exact az
       refine fin_then ?_
       refine tri_block ?_
       refine tri_loop (X := Nat) (fun x0 => x0 ≤ (nC ⟨C, L, B⟩ (varsZ L) k).length) (fun x0 => [(2, .loc 602 0), (3, .loc 603 0), (9, .int (x0 : Int))]) (fun x0 => [(10, .row 3 (.ints (minTo (nC ⟨C, L, B⟩ (varsZ L) k) (nB ⟨C, L, B⟩ (varsZ L) k) x0))), (11, .row 3 (.ints (nL ⟨C, L, B⟩ (varsZ L) k))), (602, .box [.im (.val (.slice none 0 0)), .im (.val (.slice none 0 0)), .int 0]), (603, .box [.row 10, .row 11, .int (nB ⟨C, L, B⟩ (varsZ L) k)])]) (fun x0 => (nC ⟨C, L, B⟩ (varsZ L) k).length - x0) (0) ?_ ?_ ?_ ?_
       ·
        show 0 ≤ (nC ⟨C, L, B⟩ (varsZ L) k).length
        omega
       ·
        exact subE_mk (l := [.loc 602 0, .loc 603 0, .int 0]) (m := [.loc 602 0, .loc 603 0, .int (0 : Int)]) (by kernel_rfl) (by kernel_rfl) (consE rfl (consE rfl (consE (congrArg AV.int (show 0 = (0 : Int) from (by first | rfl | omega | (simp; done)))) rfl)))
       ·
        exact Eq.trans (show _ = [(10, .row 3 (.ints (nC ⟨C, L, B⟩ (varsZ L) k))), (11, .row 3 (.ints (nL ⟨C, L, B⟩ (varsZ L) k))), (602, .box [.im (.val (.slice none 0 0)), .im (.val (.slice none 0 0)), .int 0]), (603, .box [.row 10, .row 11, .int (nB ⟨C, L, B⟩ (varsZ L) k)])] from by kernel_rfl) (consH (congrArg (fun x => ((10 : Nat), x)) (congrArg (fun x => AObj.row 3 (.ints x)) (show nC ⟨C, L, B⟩ (varsZ L) k = minTo (nC ⟨C, L, B⟩ (varsZ L) k) (nB ⟨C, L, B⟩ (varsZ L) k) 0 from (by exact (minTo_zero _ _).symm)))) (consH rfl (consH rfl (consH rfl rfl))))
       ·
        intro i hI
        replace hI : i ≤ (nC ⟨C, L, B⟩ (varsZ L) k).length := hI
        change Tri _ [(2, .loc 602 0), (3, .loc 603 0), (9, .int (i : Int))] [(10, .row 3 (.ints (minTo (nC ⟨C, L, B⟩ (varsZ L) k) (nB ⟨C, L, B⟩ (varsZ L) k) i))), (11, .row 3 (.ints (nL ⟨C, L, B⟩ (varsZ L) k))), (602, .box [.im (.val (.slice none 0 0)), .im (.val (.slice none 0 0)), .int 0]), (603, .box [.row 10, .row 11, .int (nB ⟨C, L, B⟩ (varsZ L) k)])] _ _
        have hml := minTo_len (nC ⟨C, L, B⟩ (varsZ L) k) (nB ⟨C, L, B⟩ (varsZ L) k) i
        refine tri_seq ?_
        refine tri_seq ?_
        refine tri_regD hcx [] [104] [2, 3, 9] [10, 11, 602, 603] [] [(104, .bool (decide ((i : Int) < ((minTo (nC ⟨C, L, B⟩ (varsZ L) k) (nB ⟨C, L, B⟩ (varsZ L) k) i).length : Int))))] [] (by kernel_rfl) ?_ ?_
        ·
         exact az
        refine fin_then ?_
        refine tri_cond (b := (decide ((i : Int) < ((minTo (nC ⟨C, L, B⟩ (varsZ L) k) (nB ⟨C, L, B⟩ (varsZ L) k) i).length : Int)))) (by kernel_rfl) (fun hb7 => ?_) (fun hb7 => ?_)
        ·
         skip
         have h7 := of_decide_eq_true hb7
         refine tri_skip ?_
         refine fin_then ?_
         refine tri_seq ?_
         refine tri_block ?_
         refine tri_drawD [0, 1, 0, 0, 8, 0, 56, 120, 0, 256, 1016, 2047, 4095] hcx hmx [(10, .to 10)] [] [2, 3, 9] [11, 602, 603] [((0 : Int) ≤ (i : Int) ∧ (i : Int) < ((minTo (nC ⟨C, L, B⟩ (varsZ L) k) (nB ⟨C, L, B⟩ (varsZ L) k) i).length : Int)), (i < (minTo (nC ⟨C, L, B⟩ (varsZ L) k) (nB ⟨C, L, B⟩ (varsZ L) k) i).length), ((0 : Int) ≤ (i : Int) ∧ (i : Int) < ((minTo (nC ⟨C, L, B⟩ (varsZ L) k) (nB ⟨C, L, B⟩ (varsZ L) k) i).length : Int)), (i < (minTo (nC ⟨C, L, B⟩ (varsZ L) k) (nB ⟨C, L, B⟩ (varsZ L) k) i).length)] [] [(10, .row 3 (.ints ((minTo (nC ⟨C, L, B⟩ (varsZ L) k) (nB ⟨C, L, B⟩ (varsZ L) k) i).set i (min ((minTo (nC ⟨C, L, B⟩ (varsZ L) k) (nB ⟨C, L, B⟩ (varsZ L) k) i).getD i 0) (nB ⟨C, L, B⟩ (varsZ L) k)))))] (by kernel_rfl) ?_ ?_
         ·
          refine (ap ?_ (ap ?_ (ap ?_ (ap ?_ az))))
          all_goals
           first | omega | (rw [minTo_len]; omega)
         refine fin_block ?_
         refine fin_then ?_
         refine tri_regD hcx [] [9] [2, 3] [10, 11, 602, 603] [Fit ((i : Int) + 1)] [(9, .int ((i : Int) + 1))] [] (by kernel_rfl) ?_ ?_
         ·
          refine (ap ?_ az)
          omega
         refine fin_round (i + 1) ?_ ?_ ?_ ?_
         ·
          show (i + 1) ≤ (nC ⟨C, L, B⟩ (varsZ L) k).length
          omega
         ·
          show (nC ⟨C, L, B⟩ (varsZ L) k).length - (i + 1) < (nC ⟨C, L, B⟩ (varsZ L) k).length - i
          omega
         ·
          exact subE_mk (l := [.loc 602 0, .loc 603 0, .int ((i : Int) + 1)]) (m := [.loc 602 0, .loc 603 0, .int ((i + 1) : Int)]) (by kernel_rfl) (by kernel_rfl) (consE rfl (consE rfl (consE (congrArg AV.int (show ((i : Int) + 1) = ((i + 1) : Int) from (by first | rfl | omega | (simp; done)))) rfl)))
         ·
          exact Eq.trans (show _ = [(10, .row 3 (.ints ((minTo (nC ⟨C, L, B⟩ (varsZ L) k) (nB ⟨C, L, B⟩ (varsZ L) k) i).set i (min ((minTo (nC ⟨C, L, B⟩ (varsZ L) k) (nB ⟨C, L, B⟩ (varsZ L) k) i).getD i 0) (nB ⟨C, L, B⟩ (varsZ L) k))))), (11, .row 3 (.ints (nL ⟨C, L, B⟩ (varsZ L) k))), (602, .box [.im (.val (.slice none 0 0)), .im (.val (.slice none 0 0)), .int 0]), (603, .box [.row 10, .row 11, .int (nB ⟨C, L, B⟩ (varsZ L) k)])] from by kernel_rfl) (consH (congrArg (fun x => ((10 : Nat), x)) (congrArg (fun x => AObj.row 3 (.ints x)) (show ((minTo (nC ⟨C, L, B⟩ (varsZ L) k) (nB ⟨C, L, B⟩ (varsZ L) k) i).set i (min ((minTo (nC ⟨C, L, B⟩ (varsZ L) k) (nB ⟨C, L, B⟩ (varsZ L) k) i).getD i 0) (nB ⟨C, L, B⟩ (varsZ L) k))) = minTo (nC ⟨C, L, B⟩ (varsZ L) k) (nB ⟨C, L, B⟩ (varsZ L) k) (i + 1) from (by exact minTo_succ (by omega))))) (consH rfl (consH rfl (consH rfl rfl))))
        ·
         skip
         have h7 := of_decide_eq_false hb7
         refine tri_exit ?_
         refine fin_then_exit ?_
         refine fin_then_exit ?_
         refine fin_block_same ?_
         refine fin_then ?_
         refine tri_seq ?_
         refine tri_regD hcx [(602, .to 602)] [] [2] [10, 11] [] [] [(602, .box [.row 10, .row 11, .int (nB ⟨C, L, B⟩ (varsZ L) k)])] (by kernel_rfl) ?_ ?_
         ·
          exact az
         refine fin_then ?_
         refine tri_ret ?_
         refine fin_ren (ρ := [(10, .to 0), (11, .to 1), (602, .to 990)]) (keys := [2]) (E' := [(2, .loc 990 0)]) (H' := [(0, .row 3 (.ints (minTo (nC ⟨C, L, B⟩ (varsZ L) k) (nB ⟨C, L, B⟩ (varsZ L) k) i))), (1, .row 3 (.ints (nL ⟨C, L, B⟩ (varsZ L) k))), (990, .box [.row 0, .row 1, .int (nB ⟨C, L, B⟩ (varsZ L) k)])]) (by kernel_rfl) ?_
         exact fin_ret [] rfl rfl trivial hcx (avs := [.agg [.row 0, .row 1, .int (nB ⟨C, L, B⟩ (varsZ L) k)]]) (by kernel_rfl) (congrArg AV.agg (consE rfl (consE rfl (consE (congrArg AV.int (show nB ⟨C, L, B⟩ (varsZ L) k = (normP ⟨C, L, B⟩).B from (by exact (congrArg LinV.B hN).symm))) rfl)))) [true, true] (Eq.trans (show _ = [some (.row 3 (.ints (minTo (nC ⟨C, L, B⟩ (varsZ L) k) (nB ⟨C, L, B⟩ (varsZ L) k) i))), some (.row 3 (.ints (nL ⟨C, L, B⟩ (varsZ L) k)))] from by kernel_rfl) (consO (congrArg some (congrArg (fun x => AObj.row 3 (.ints x)) (show minTo (nC ⟨C, L, B⟩ (varsZ L) k) (nB ⟨C, L, B⟩ (varsZ L) k) i = (normP ⟨C, L, B⟩).C from (by rw [minTo_all (by omega)]; exact (congrArg LinV.C hN).symm)))) (consO (congrArg some (congrArg (fun x => AObj.row 3 (.ints x)) (show nL ⟨C, L, B⟩ (varsZ L) k = (normP ⟨C, L, B⟩).L from (by exact (congrArg LinV.L hN).symm)))) rfl)))
 ·
  cases hσ
end Go.Proofs.YtkkapbnopmmmjaaGreatDoor.En
