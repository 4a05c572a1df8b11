/- The reference of layer 12, in the reader's words. -/
import Derived.Test.YtibfgeoiemmjoaaEngLin
import Derived.Test.YtibfgeoiemmjoaaRef12R
namespace Go.Proofs.Ytibfgeoiemmjoaa.En
open Go Go.RowKit
set_option linter.unusedVariables false
set_option linter.unusedSimpArgs false
set_option linter.unnecessarySimpa false

def ty12 : List (Nat × TD) := [(3, ⟨1, false, [.int .i64 0], [], none, 8, false, 1, 1⟩),
  (4, ⟨1, false, [.bool false], [], none, 1, true, 0, 2⟩),
  (22, ⟨1, false, [.slice none 0 0], [], some 3, 24, false, 0, 3⟩),
  (24, ⟨3, true, [.slice none 0 0, .slice none 0 0, .int .i64 0], [(0, 22), (1, 22), (2, 3)], none, 56, false, 0, 5⟩),
  (29, ⟨1, false, [.int .i64 0], [], none, 8, false, 1, 1⟩),
  (32, ⟨1, false, [.slice none 0 0], [], some 4, 24, false, 0, 0⟩),
  (45, ⟨1, false, [.int .u64 0], [], none, 8, false, 3, 0⟩)]
theorem ty12_ok : AllTy Try.prog ty12 := ⟨⟨by kernel_rfl, by kernel_rfl⟩, ⟨by kernel_rfl, by kernel_rfl⟩, ⟨by kernel_rfl, by kernel_rfl⟩, ⟨by kernel_rfl, by kernel_rfl⟩, ⟨by kernel_rfl, by kernel_rfl⟩, ⟨by kernel_rfl, by kernel_rfl⟩, ⟨by kernel_rfl, by kernel_rfl⟩, trivial⟩
def cx_rOf12 : Cx := ⟨ty12, []⟩
theorem cx_rOf12_ok : CxOk Try.prog cx_rOf12 := cx_ok ty12_ok trivial
def rOf12_σ : CtF
  | [.im (.val (.int .i64 x))], [] => some (-9223372036854775807 ≤ x ∧ x ≤ 9223372036854775807, .int (x.natAbs : Int), [])
  | _, _ => none
theorem rOf12_sound : Sound Try.prog 65 rOf12_σ := by
 refine sound_mk (cx := cx_rOf12) (fn := Try.f65) Try.func65 (by kernel_rfl) rfl ?_
 intro w0 G0 args os p r outs hσ hp hm0 hd0
 have hcx : CxOk Try.prog cx_rOf12 := cx_rOf12_ok
 unfold rOf12_σ at hσ
 split at hσ
 ·
  rename_i x
  simp only [Option.some.injEq, Prod.mk.injEq] at hσ
  obtain ⟨rfl, rfl, rfl⟩ := hσ
  obtain ⟨wW, wO, wm, wβ, wd⟩ := w0
  replace hm0 : wm = 0 := hm0
  subst hm0
  replace hd0 : wd = [] := hd0
  subst hd0
  refine ⟨by kernel_rfl, ?_⟩
  change Tri ⟨_, _, _, _, _, _⟩ [(0, .int x)] [] _ _
  obtain ⟨hx1, hx2⟩ := hp
  refine tri_seq ?_
  refine tri_regD hcx [] [] [0] [] [] [] [] (by kernel_rfl) ?_ ?_
  ·
   exact az
  refine fin_then ?_
  refine tri_seq ?_
  refine tri_seq ?_
  refine tri_regD hcx [] [4] [0] [] [] [(4, .bool (decide (x < 0)))] [] (by kernel_rfl) ?_ ?_
  ·
   exact az
  refine fin_then ?_
  refine tri_cond (b := (decide (x < 0))) (by kernel_rfl) (fun hb0 => ?_) (fun hb0 => ?_)
  ·
   skip
   have h0 := of_decide_eq_true hb0
   refine tri_seq ?_
   refine tri_regD hcx [] [2] [] [] [Fit (0 - x)] [(2, .int (0 - x))] [] (by kernel_rfl) ?_ ?_
   ·
    refine (ap ?_ az)
    omega
   refine fin_then ?_
   refine tri_ret ?_
   refine fin_then_ret ?_
   exact fin_ret [] rfl rfl trivial hcx (avs := [.int (0 - x)]) (by kernel_rfl) (congrArg AV.int (show (0 - x) = (x.natAbs : Int) from (by omega))) [] rfl
  ·
   skip
   have h0 := of_decide_eq_false hb0
   refine tri_skip ?_
   refine fin_then ?_
   refine tri_seq ?_
   refine tri_regD hcx [] [2] [] [] [] [(2, .int x)] [] (by kernel_rfl) ?_ ?_
   ·
    exact az
   refine fin_then ?_
   refine tri_ret ?_
   exact fin_ret [] rfl rfl trivial hcx (avs := [.int x]) (by kernel_rfl) (congrArg AV.int (show x = (x.natAbs : Int) from (by omega))) [] rfl
 ·
  cases hσ
def cx_rLit12 : Cx := ⟨ty12, [(65, rOf12_σ)]⟩
theorem cx_rLit12_ok : CxOk Try.prog cx_rLit12 := cx_ok ty12_ok ⟨rOf12_sound, trivial⟩
def rLit12_σ : CtF
  | [.im (.val (.int .i64 x)), .im (.ls (.bools a))], [] => some (-9223372036854775807 ≤ x ∧ x ≤ 9223372036854775807 ∧ x ≠ 0, .bool (lval a x), [])
  | _, _ => none
theorem rLit12_sound : Sound Try.prog 67 rLit12_σ := by
 refine sound_mk (cx := cx_rLit12) (fn := Try.f67) Try.func67 (by kernel_rfl) rfl ?_
 intro w0 G0 args os p r outs hσ hp hm0 hd0
 have hcx : CxOk Try.prog cx_rLit12 := cx_rLit12_ok
 unfold rLit12_σ at hσ
 split at hσ
 ·
  rename_i x a
  simp only [Option.some.injEq, Prod.mk.injEq] at hσ
  obtain ⟨rfl, rfl, rfl⟩ := hσ
  obtain ⟨wW, wO, wm, wβ, wd⟩ := w0
  replace hm0 : wm = 0 := hm0
  subst hm0
  replace hd0 : wd = [] := hd0
  subst hd0
  refine ⟨by kernel_rfl, ?_⟩
  change Tri ⟨_, _, _, _, _, _⟩ [(0, .int x), (1, .bools a)] [] _ _
  obtain ⟨hx1, hx2, hx3⟩ := hp
  refine tri_seq ?_
  refine tri_regD hcx [] [] [0, 1] [] [] [] [] (by kernel_rfl) ?_ ?_
  ·
   exact az
  refine fin_then ?_
  refine tri_seq ?_
  refine tri_regD hcx [] [5] [0, 1] [] [(-9223372036854775807 ≤ x ∧ x ≤ 9223372036854775807)] [(5, .int (x.natAbs : Int))] [] (by kernel_rfl) ?_ ?_
  ·
   refine (ap ?_ az)
   exact ⟨hx1, hx2⟩
  refine fin_then ?_
  refine tri_seq ?_
  refine tri_regD hcx [] [6] [0] [] [((decide ((x.natAbs : Int) > 0)) = true → ((decide ((x.natAbs : Int) > 0)) = true)), ((decide ((x.natAbs : Int) > 0)) = true → ((decide ((x.natAbs : Int) > 0)) = true)), ((decide ((x.natAbs : Int) > 0)) = true → ((decide ((x.natAbs : Int) > 0)) = true)), ((decide ((x.natAbs : Int) > 0)) = true → (decide ((x.natAbs : Int) > 0)) = true), (((decide ((x.natAbs : Int) > 0)) && (decide ((x.natAbs : Int) < (a.length : Int)))) = true → (((decide ((x.natAbs : Int) > 0)) && (decide ((x.natAbs : Int) < (a.length : Int)))) = true)), (((decide ((x.natAbs : Int) > 0)) && (decide ((x.natAbs : Int) < (a.length : Int)))) = true → (((decide ((x.natAbs : Int) > 0)) && (decide ((x.natAbs : Int) < (a.length : Int)))) = true)), (((decide ((x.natAbs : Int) > 0)) && (decide ((x.natAbs : Int) < (a.length : Int)))) = true → ((0 : Int) ≤ (x.natAbs : Int) ∧ (x.natAbs : Int) < (a.length : Int))), (((decide ((x.natAbs : Int) > 0)) && (decide ((x.natAbs : Int) < (a.length : Int)))) = true → (((decide ((x.natAbs : Int) > 0)) && (decide ((x.natAbs : Int) < (a.length : Int)))) = true)), (((decide ((x.natAbs : Int) > 0)) && (decide ((x.natAbs : Int) < (a.length : Int)))) = true → ((decide ((x.natAbs : Int) > 0)) && (decide ((x.natAbs : Int) < (a.length : Int)))) = true)] [(6, .bool (((decide ((x.natAbs : Int) > 0)) && (decide ((x.natAbs : Int) < (a.length : Int)))) && (a.getD ((x.natAbs : Int).toNat) false)))] [] (by kernel_rfl) ?_ ?_
  ·
   refine (ap ?_ (ap ?_ (ap ?_ (ap (by exact id) (ap ?_ (ap ?_ (ap ?_ (ap ?_ (ap (by exact id) az)))))))))
   all_goals
    first | omega | exact id | exact vcNot | exact vcG | exact vcH | (intro _; omega) | exact (fun _ h => h) | (intro h; simp at h; omega) | (simp only [List.length_cons, List.length_nil, List.length_append, List.length_map, List.length_set, List.length_replicate]; omega) | (intro h; simp [h]; done)
  refine fin_then ?_
  refine tri_seq ?_
  refine tri_regD hcx [] [4] [] [] [] [(4, .bool ((((decide ((x.natAbs : Int) > 0)) && (decide ((x.natAbs : Int) < (a.length : Int)))) && (a.getD ((x.natAbs : Int).toNat) false)) == (decide (x > 0))))] [] (by kernel_rfl) ?_ ?_
  ·
   exact az
  refine fin_then ?_
  refine tri_ret ?_
  exact fin_ret [] rfl rfl trivial hcx (avs := [.bool ((((decide ((x.natAbs : Int) > 0)) && (decide ((x.natAbs : Int) < (a.length : Int)))) && (a.getD ((x.natAbs : Int).toNat) false)) == (decide (x > 0)))]) (by kernel_rfl) (congrArg AV.bool (show ((((decide ((x.natAbs : Int) > 0)) && (decide ((x.natAbs : Int) < (a.length : Int)))) && (a.getD ((x.natAbs : Int).toNat) false)) == (decide (x > 0))) = lval a x from (by exact lit12 hx3))) [] rfl
 ·
  cases hσ
def cx_rCheck12 : Cx := ⟨ty12, [(65, rOf12_σ), (67, (coeF [.id, .ld (.bools [])] rLit12_σ))]⟩
theorem cx_rCheck12_ok : CxOk Try.prog cx_rCheck12 := cx_ok ty12_ok ⟨rOf12_sound, (rLit12_sound.coe [.id, .ld (.bools [])] rfl), trivial⟩
def rCheck12_σ : CtF
  | [.agg [.im (.ls (.ints C)), .im (.ls (.ints L)), .im (.val (.int .i64 B))], .im (.val (.int .i64 n))], [] => some (L.length ≤ maxLen ∧ Fit n, .int (lcheck ⟨C, L, B⟩ n), [])
  | _, _ => none
theorem rCheck12_sound : Sound Try.prog 18 rCheck12_σ := by
 refine sound_mk (cx := cx_rCheck12) (fn := Try.f18) Try.func18 (by kernel_rfl) rfl ?_
 intro w0 G0 args os p r outs hσ hp hm0 hd0
 have hcx : CxOk Try.prog cx_rCheck12 := cx_rCheck12_ok
 unfold rCheck12_σ at hσ
 split at hσ
 ·
  rename_i C L B n
  simp only [Option.some.injEq, Prod.mk.injEq] at hσ
  obtain ⟨rfl, rfl, rfl⟩ := hσ
  obtain ⟨wW, wO, wm, wβ, wd⟩ := w0
  replace hm0 : wm = 0 := hm0
  subst hm0
  replace hd0 : wd = [] := hd0
  subst hd0
  refine ⟨by kernel_rfl, ?_⟩
  change Tri ⟨_, _, _, _, _, _⟩ [(0, .agg [.ints C, .ints L, .int B]), (1, .int n)] [] _ _
  obtain ⟨hmx0, hn⟩ := hp
  unfold maxLen at hmx0
  refine tri_seq ?_
  refine tri_regD hcx [(1000, .frz)] [2] [1] [] [] [(2, .pto [.ls (.ints C), .ls (.ints L), .int B])] [] (by kernel_rfl) ?_ ?_
  ·
   exact az
  refine fin_then ?_
  refine tri_seq ?_
  refine tri_seq ?_
  refine tri_regD hcx [] [30] [2, 1] [] [((!(decide (n < 0))) = true → ((!(decide (n < 0))) = true)), ((decide (n < 0)) = false → (!(decide (n < 0))) = true), ((!((decide (n < 0)) || (decide (n > 65536)))) = true → ((!((decide (n < 0)) || (decide (n > 65536)))) = true)), ((!((decide (n < 0)) || (decide (n > 65536)))) = true → ((!((decide (n < 0)) || (decide (n > 65536)))) = true)), ((!((decide (n < 0)) || (decide (n > 65536)))) = true → ((!((decide (n < 0)) || (decide (n > 65536)))) = true)), ((!((decide (n < 0)) || (decide (n > 65536)))) = true → ((!((decide (n < 0)) || (decide (n > 65536)))) = true)), ((!((decide (n < 0)) || (decide (n > 65536)))) = true → ((!((decide (n < 0)) || (decide (n > 65536)))) = true)), ((!((decide (n < 0)) || (decide (n > 65536)))) = true → ((!((decide (n < 0)) || (decide (n > 65536)))) = true)), (((decide (n < 0)) || (decide (n > 65536))) = false → (!((decide (n < 0)) || (decide (n > 65536)))) = true), ((!(((decide (n < 0)) || (decide (n > 65536))) || ((C.length : Int) != (L.length : Int)))) = true → ((!(((decide (n < 0)) || (decide (n > 65536))) || ((C.length : Int) != (L.length : Int)))) = true)), ((!(((decide (n < 0)) || (decide (n > 65536))) || ((C.length : Int) != (L.length : Int)))) = true → ((!(((decide (n < 0)) || (decide (n > 65536))) || ((C.length : Int) != (L.length : Int)))) = true)), ((((decide (n < 0)) || (decide (n > 65536))) || ((C.length : Int) != (L.length : Int))) = false → (!(((decide (n < 0)) || (decide (n > 65536))) || ((C.length : Int) != (L.length : Int)))) = true), ((!((((decide (n < 0)) || (decide (n > 65536))) || ((C.length : Int) != (L.length : Int))) || (decide (B < (-1099511627776))))) = true → ((!((((decide (n < 0)) || (decide (n > 65536))) || ((C.length : Int) != (L.length : Int))) || (decide (B < (-1099511627776))))) = true)), ((!((((decide (n < 0)) || (decide (n > 65536))) || ((C.length : Int) != (L.length : Int))) || (decide (B < (-1099511627776))))) = true → ((!((((decide (n < 0)) || (decide (n > 65536))) || ((C.length : Int) != (L.length : Int))) || (decide (B < (-1099511627776))))) = true)), (((((decide (n < 0)) || (decide (n > 65536))) || ((C.length : Int) != (L.length : Int))) || (decide (B < (-1099511627776)))) = false → (!((((decide (n < 0)) || (decide (n > 65536))) || ((C.length : Int) != (L.length : Int))) || (decide (B < (-1099511627776))))) = true)] [(30, .bool (((((decide (n < 0)) || (decide (n > 65536))) || ((C.length : Int) != (L.length : Int))) || (decide (B < (-1099511627776)))) || (decide (B > 1099511627776))))] [] (by kernel_rfl) ?_ ?_
  ·
   refine (ap ?_ (ap (by exact vcNot) (ap ?_ (ap ?_ (ap ?_ (ap ?_ (ap ?_ (ap ?_ (ap (by exact vcNot) (ap ?_ (ap ?_ (ap (by exact vcNot) (ap ?_ (ap ?_ (ap (by exact vcNot) az)))))))))))))))
   all_goals
    first | omega | exact id | exact vcNot | exact vcG | exact vcH | (intro _; omega) | exact (fun _ h => h) | (intro h; simp at h; omega) | (simp only [List.length_cons, List.length_nil, List.length_append, List.length_map, List.length_set, List.length_replicate]; omega) | (intro h; simp [h]; done)
  refine fin_then ?_
  refine tri_cond (b := (((((decide (n < 0)) || (decide (n > 65536))) || ((C.length : Int) != (L.length : Int))) || (decide (B < (-1099511627776)))) || (decide (B > 1099511627776)))) (by kernel_rfl) (fun hb0 => ?_) (fun hb0 => ?_)
  ·
   skip
   have h0 := hb0
   try simp only [Bool.or_eq_true, Bool.or_eq_false_iff, Bool.and_eq_true, Bool.and_eq_false_iff, Bool.not_eq_true', Bool.not_eq_false', decide_eq_true_eq, decide_eq_false_iff_not, bne_iff_ne, bne_eq_false_iff_eq, beq_iff_eq, beq_eq_false_iff_ne] at h0
   refine tri_seq ?_
   refine tri_regD hcx [] [4] [] [] [] [(4, .int 1)] [] (by kernel_rfl) ?_ ?_
   ·
    exact az
   refine fin_then ?_
   refine tri_ret ?_
   refine fin_then_ret ?_
   exact fin_ret [] rfl rfl trivial hcx (avs := [.int 1]) (by kernel_rfl) (congrArg AV.int (show 1 = lcheck ⟨C, L, B⟩ n from (by rw [lc1 (by omega)]))) [] rfl
  ·
   skip
   have h0 := hb0
   try simp only [Bool.or_eq_true, Bool.or_eq_false_iff, Bool.and_eq_true, Bool.and_eq_false_iff, Bool.not_eq_true', Bool.not_eq_false', decide_eq_true_eq, decide_eq_false_iff_not, bne_iff_ne, bne_eq_false_iff_eq, beq_iff_eq, beq_eq_false_iff_ne] at h0
   refine tri_skip ?_
   refine fin_then ?_
   refine tri_seq ?_
   refine tri_seq ?_
   refine tri_regD hcx [] [5] [2, 1] [] [] [(5, .int 0)] [] (by kernel_rfl) ?_ ?_
   ·
    exact az
   refine fin_then ?_
   refine tri_block ?_
   refine tri_loop (X := Nat) (fun x0 => x0 ≤ L.length ∧ OkTo C L n x0) (fun x0 => [(1, .int n), (2, .pto [.ls (.ints C), .ls (.ints L), .int B]), (5, .int (x0 : Int))]) (fun x0 => []) (fun x0 => L.length - x0) (0) ?_ ?_ ?_ ?_
   ·
    show 0 ≤ L.length ∧ OkTo C L n 0
    exact ⟨Nat.zero_le _, fun j hj => by omega⟩
   ·
    exact subE_mk (l := [.int n, .pto [.ls (.ints C), .ls (.ints L), .int B], .int 0]) (m := [.int n, .pto [.ls (.ints C), .ls (.ints L), .int B], .int (0 : Int)]) (by kernel_rfl) (by kernel_rfl) (consE rfl (consE rfl (consE (congrArg AV.int (show 0 = (0 : Int) from (by first | rfl | omega | (simp; done)))) rfl)))
   ·
    kernel_rfl
   ·
    intro k hI
    replace hI : k ≤ L.length ∧ OkTo C L n k := hI
    change Tri _ [(1, .int n), (2, .pto [.ls (.ints C), .ls (.ints L), .int B]), (5, .int (k : Int))] [] _ _
    obtain ⟨hk, hok⟩ := hI
    have hCL : C.length = L.length := by omega
    refine tri_seq ?_
    refine tri_seq ?_
    refine tri_regD hcx [] [35] [1, 2, 5] [] [] [(35, .bool (decide ((k : Int) < (L.length : Int))))] [] (by kernel_rfl) ?_ ?_
    ·
     exact az
    refine fin_then ?_
    refine tri_cond (b := (decide ((k : Int) < (L.length : Int)))) (by kernel_rfl) (fun hb1 => ?_) (fun hb1 => ?_)
    ·
     skip
     have h1 := of_decide_eq_true hb1
     refine tri_skip ?_
     refine fin_then ?_
     refine tri_seq ?_
     refine tri_block ?_
     refine tri_seq ?_
     refine tri_regD hcx [] [78] [1, 2, 5] [] [((0 : Int) ≤ (k : Int) ∧ (k : Int) < (C.length : Int)), ((!(decide ((C.getD k 0) < (-1099511627776)))) = true → ((!(decide ((C.getD k 0) < (-1099511627776)))) = true)), ((!(decide ((C.getD k 0) < (-1099511627776)))) = true → ((!(decide ((C.getD k 0) < (-1099511627776)))) = true)), ((!(decide ((C.getD k 0) < (-1099511627776)))) = true → ((!(decide ((C.getD k 0) < (-1099511627776)))) = true)), ((!(decide ((C.getD k 0) < (-1099511627776)))) = true → ((0 : Int) ≤ (k : Int) ∧ (k : Int) < (C.length : Int))), ((!(decide ((C.getD k 0) < (-1099511627776)))) = true → ((!(decide ((C.getD k 0) < (-1099511627776)))) = true)), ((!(decide ((C.getD k 0) < (-1099511627776)))) = true → ((!(decide ((C.getD k 0) < (-1099511627776)))) = true)), ((decide ((C.getD k 0) < (-1099511627776))) = false → (!(decide ((C.getD k 0) < (-1099511627776)))) = true), ((!((decide ((C.getD k 0) < (-1099511627776))) || (decide ((C.getD k 0) > 1099511627776)))) = true → ((!((decide ((C.getD k 0) < (-1099511627776))) || (decide ((C.getD k 0) > 1099511627776)))) = true)), ((!((decide ((C.getD k 0) < (-1099511627776))) || (decide ((C.getD k 0) > 1099511627776)))) = true → ((!((decide ((C.getD k 0) < (-1099511627776))) || (decide ((C.getD k 0) > 1099511627776)))) = true)), ((!((decide ((C.getD k 0) < (-1099511627776))) || (decide ((C.getD k 0) > 1099511627776)))) = true → ((!((decide ((C.getD k 0) < (-1099511627776))) || (decide ((C.getD k 0) > 1099511627776)))) = true)), ((!((decide ((C.getD k 0) < (-1099511627776))) || (decide ((C.getD k 0) > 1099511627776)))) = true → ((0 : Int) ≤ (k : Int) ∧ (k : Int) < (L.length : Int))), ((!((decide ((C.getD k 0) < (-1099511627776))) || (decide ((C.getD k 0) > 1099511627776)))) = true → ((!((decide ((C.getD k 0) < (-1099511627776))) || (decide ((C.getD k 0) > 1099511627776)))) = true)), ((!((decide ((C.getD k 0) < (-1099511627776))) || (decide ((C.getD k 0) > 1099511627776)))) = true → ((!((decide ((C.getD k 0) < (-1099511627776))) || (decide ((C.getD k 0) > 1099511627776)))) = true)), (((decide ((C.getD k 0) < (-1099511627776))) || (decide ((C.getD k 0) > 1099511627776))) = false → (!((decide ((C.getD k 0) < (-1099511627776))) || (decide ((C.getD k 0) > 1099511627776)))) = true), ((!(((decide ((C.getD k 0) < (-1099511627776))) || (decide ((C.getD k 0) > 1099511627776))) || ((L.getD k 0) == 0))) = true → ((!(((decide ((C.getD k 0) < (-1099511627776))) || (decide ((C.getD k 0) > 1099511627776))) || ((L.getD k 0) == 0))) = true)), ((!(((decide ((C.getD k 0) < (-1099511627776))) || (decide ((C.getD k 0) > 1099511627776))) || ((L.getD k 0) == 0))) = true → ((!(((decide ((C.getD k 0) < (-1099511627776))) || (decide ((C.getD k 0) > 1099511627776))) || ((L.getD k 0) == 0))) = true)), ((!(((decide ((C.getD k 0) < (-1099511627776))) || (decide ((C.getD k 0) > 1099511627776))) || ((L.getD k 0) == 0))) = true → ((!(((decide ((C.getD k 0) < (-1099511627776))) || (decide ((C.getD k 0) > 1099511627776))) || ((L.getD k 0) == 0))) = true)), ((!(((decide ((C.getD k 0) < (-1099511627776))) || (decide ((C.getD k 0) > 1099511627776))) || ((L.getD k 0) == 0))) = true → ((0 : Int) ≤ (k : Int) ∧ (k : Int) < (L.length : Int))), ((!(((decide ((C.getD k 0) < (-1099511627776))) || (decide ((C.getD k 0) > 1099511627776))) || ((L.getD k 0) == 0))) = true → ((!(((decide ((C.getD k 0) < (-1099511627776))) || (decide ((C.getD k 0) > 1099511627776))) || ((L.getD k 0) == 0))) = true)), ((!(((decide ((C.getD k 0) < (-1099511627776))) || (decide ((C.getD k 0) > 1099511627776))) || ((L.getD k 0) == 0))) = true → ((!(((decide ((C.getD k 0) < (-1099511627776))) || (decide ((C.getD k 0) > 1099511627776))) || ((L.getD k 0) == 0))) = true)), ((!(((decide ((C.getD k 0) < (-1099511627776))) || (decide ((C.getD k 0) > 1099511627776))) || ((L.getD k 0) == 0))) = true → Fit (0 - n)), ((!(((decide ((C.getD k 0) < (-1099511627776))) || (decide ((C.getD k 0) > 1099511627776))) || ((L.getD k 0) == 0))) = true → ((!(((decide ((C.getD k 0) < (-1099511627776))) || (decide ((C.getD k 0) > 1099511627776))) || ((L.getD k 0) == 0))) = true)), ((!(((decide ((C.getD k 0) < (-1099511627776))) || (decide ((C.getD k 0) > 1099511627776))) || ((L.getD k 0) == 0))) = true → ((!(((decide ((C.getD k 0) < (-1099511627776))) || (decide ((C.getD k 0) > 1099511627776))) || ((L.getD k 0) == 0))) = true)), ((((decide ((C.getD k 0) < (-1099511627776))) || (decide ((C.getD k 0) > 1099511627776))) || ((L.getD k 0) == 0)) = false → (!(((decide ((C.getD k 0) < (-1099511627776))) || (decide ((C.getD k 0) > 1099511627776))) || ((L.getD k 0) == 0))) = true), ((!((((decide ((C.getD k 0) < (-1099511627776))) || (decide ((C.getD k 0) > 1099511627776))) || ((L.getD k 0) == 0)) || (decide ((L.getD k 0) < (0 - n))))) = true → ((!((((decide ((C.getD k 0) < (-1099511627776))) || (decide ((C.getD k 0) > 1099511627776))) || ((L.getD k 0) == 0)) || (decide ((L.getD k 0) < (0 - n))))) = true)), ((!((((decide ((C.getD k 0) < (-1099511627776))) || (decide ((C.getD k 0) > 1099511627776))) || ((L.getD k 0) == 0)) || (decide ((L.getD k 0) < (0 - n))))) = true → ((!((((decide ((C.getD k 0) < (-1099511627776))) || (decide ((C.getD k 0) > 1099511627776))) || ((L.getD k 0) == 0)) || (decide ((L.getD k 0) < (0 - n))))) = true)), ((!((((decide ((C.getD k 0) < (-1099511627776))) || (decide ((C.getD k 0) > 1099511627776))) || ((L.getD k 0) == 0)) || (decide ((L.getD k 0) < (0 - n))))) = true → ((!((((decide ((C.getD k 0) < (-1099511627776))) || (decide ((C.getD k 0) > 1099511627776))) || ((L.getD k 0) == 0)) || (decide ((L.getD k 0) < (0 - n))))) = true)), ((!((((decide ((C.getD k 0) < (-1099511627776))) || (decide ((C.getD k 0) > 1099511627776))) || ((L.getD k 0) == 0)) || (decide ((L.getD k 0) < (0 - n))))) = true → ((0 : Int) ≤ (k : Int) ∧ (k : Int) < (L.length : Int))), ((!((((decide ((C.getD k 0) < (-1099511627776))) || (decide ((C.getD k 0) > 1099511627776))) || ((L.getD k 0) == 0)) || (decide ((L.getD k 0) < (0 - n))))) = true → ((!((((decide ((C.getD k 0) < (-1099511627776))) || (decide ((C.getD k 0) > 1099511627776))) || ((L.getD k 0) == 0)) || (decide ((L.getD k 0) < (0 - n))))) = true)), ((!((((decide ((C.getD k 0) < (-1099511627776))) || (decide ((C.getD k 0) > 1099511627776))) || ((L.getD k 0) == 0)) || (decide ((L.getD k 0) < (0 - n))))) = true → ((!((((decide ((C.getD k 0) < (-1099511627776))) || (decide ((C.getD k 0) > 1099511627776))) || ((L.getD k 0) == 0)) || (decide ((L.getD k 0) < (0 - n))))) = true)), ((!((((decide ((C.getD k 0) < (-1099511627776))) || (decide ((C.getD k 0) > 1099511627776))) || ((L.getD k 0) == 0)) || (decide ((L.getD k 0) < (0 - n))))) = true → ((!((((decide ((C.getD k 0) < (-1099511627776))) || (decide ((C.getD k 0) > 1099511627776))) || ((L.getD k 0) == 0)) || (decide ((L.getD k 0) < (0 - n))))) = true)), (((((decide ((C.getD k 0) < (-1099511627776))) || (decide ((C.getD k 0) > 1099511627776))) || ((L.getD k 0) == 0)) || (decide ((L.getD k 0) < (0 - n)))) = false → (!((((decide ((C.getD k 0) < (-1099511627776))) || (decide ((C.getD k 0) > 1099511627776))) || ((L.getD k 0) == 0)) || (decide ((L.getD k 0) < (0 - n))))) = true)] [(78, .bool (((((decide ((C.getD k 0) < (-1099511627776))) || (decide ((C.getD k 0) > 1099511627776))) || ((L.getD k 0) == 0)) || (decide ((L.getD k 0) < (0 - n)))) || (decide ((L.getD k 0) > n))))] [] (by kernel_rfl) ?_ ?_
     ·
      refine (ap (by omega) (ap ?_ (ap ?_ (ap ?_ (ap ?_ (ap ?_ (ap ?_ (ap (by exact vcNot) (ap ?_ (ap ?_ (ap ?_ (ap ?_ (ap ?_ (ap ?_ (ap (by exact vcNot) (ap ?_ (ap ?_ (ap ?_ (ap ?_ (ap ?_ (ap ?_ (ap ?_ (ap ?_ (ap ?_ (ap (by exact vcNot) (ap ?_ (ap ?_ (ap ?_ (ap ?_ (ap ?_ (ap ?_ (ap ?_ (ap (by exact vcNot) az)))))))))))))))))))))))))))))))))
      all_goals
       first | omega | exact id | exact vcNot | exact vcG | exact vcH | (intro _; omega) | exact (fun _ h => h) | (intro h; simp at h; omega) | (simp only [List.length_cons, List.length_nil, List.length_append, List.length_map, List.length_set, List.length_replicate]; omega) | (intro h; simp [h]; done)
     refine fin_then ?_
     refine tri_cond (b := (((((decide ((C.getD k 0) < (-1099511627776))) || (decide ((C.getD k 0) > 1099511627776))) || ((L.getD k 0) == 0)) || (decide ((L.getD k 0) < (0 - n)))) || (decide ((L.getD k 0) > n)))) (by kernel_rfl) (fun hb2 => ?_) (fun hb2 => ?_)
     ·
      skip
      have h2 := hb2
      try simp only [Bool.or_eq_true, Bool.or_eq_false_iff, Bool.and_eq_true, Bool.and_eq_false_iff, Bool.not_eq_true', Bool.not_eq_false', decide_eq_true_eq, decide_eq_false_iff_not, bne_iff_ne, bne_eq_false_iff_eq, beq_iff_eq, beq_eq_false_iff_ne] at h2
      refine tri_seq ?_
      refine tri_regD hcx [] [4] [] [] [] [(4, .int 1)] [] (by kernel_rfl) ?_ ?_
      ·
       exact az
      refine fin_then ?_
      refine tri_ret ?_
      refine fin_block_ret ?_
      refine fin_then_ret ?_
      refine fin_then_ret ?_
      refine fin_block_ret ?_
      refine fin_then_ret ?_
      exact fin_ret [] rfl rfl trivial hcx (avs := [.int 1]) (by kernel_rfl) (congrArg AV.int (show 1 = lcheck ⟨C, L, B⟩ n from (by rw [lc2 (by omega) (k := k) (by omega) (by omega)]))) [] rfl
     ·
      skip
      have h2 := hb2
      try simp only [Bool.or_eq_true, Bool.or_eq_false_iff, Bool.and_eq_true, Bool.and_eq_false_iff, Bool.not_eq_true', Bool.not_eq_false', decide_eq_true_eq, decide_eq_false_iff_not, bne_iff_ne, bne_eq_false_iff_eq, beq_iff_eq, beq_eq_false_iff_ne] at h2
      refine tri_skip ?_
      refine fin_block ?_
      refine fin_then ?_
      refine tri_regD hcx [] [5] [1, 2] [] [Fit ((k : Int) + 1)] [(5, .int ((k : Int) + 1))] [] (by kernel_rfl) ?_ ?_
      ·
       refine (ap ?_ az)
       omega
      refine fin_round (k + 1) ?_ ?_ ?_ ?_
      ·
       show (k + 1) ≤ L.length ∧ OkTo C L n (k + 1)
       exact ⟨by omega, hok.succ (by omega)⟩
      ·
       show L.length - (k + 1) < L.length - k
       omega
      ·
       exact subE_mk (l := [.int n, .pto [.ls (.ints C), .ls (.ints L), .int B], .int ((k : Int) + 1)]) (m := [.int n, .pto [.ls (.ints C), .ls (.ints L), .int B], .int ((k + 1) : Int)]) (by kernel_rfl) (by kernel_rfl) (consE rfl (consE rfl (consE (congrArg AV.int (show ((k : Int) + 1) = ((k + 1) : Int) from (by first | rfl | omega | (simp; done)))) rfl)))
      ·
       kernel_rfl
    ·
     skip
     have h1 := of_decide_eq_false hb1
     refine tri_exit ?_
     refine fin_then_exit ?_
     refine fin_then_exit ?_
     refine fin_block_same ?_
     refine fin_then ?_
     refine tri_seq ?_
     refine tri_seq ?_
     refine tri_regD hcx [] [82] [] [] [] [(82, .bool (decide ((L.length : Int) > 4096)))] [] (by kernel_rfl) ?_ ?_
     ·
      exact az
     refine fin_then ?_
     refine tri_cond (b := (decide ((L.length : Int) > 4096))) (by kernel_rfl) (fun hb3 => ?_) (fun hb3 => ?_)
     ·
      skip
      have h3 := of_decide_eq_true hb3
      refine tri_seq ?_
      refine tri_regD hcx [] [4] [] [] [] [(4, .int 2)] [] (by kernel_rfl) ?_ ?_
      ·
       exact az
      refine fin_then ?_
      refine tri_ret ?_
      refine fin_then_ret ?_
      exact fin_ret [] rfl rfl trivial hcx (avs := [.int 2]) (by kernel_rfl) (congrArg AV.int (show 2 = lcheck ⟨C, L, B⟩ n from (by rw [lc3 (by omega) (by omega) (by omega) (by omega) (by rw [show L.length = k by omega]; exact hok), if_pos (by omega)]))) [] rfl
     ·
      skip
      have h3 := of_decide_eq_false hb3
      refine tri_skip ?_
      refine fin_then ?_
      refine tri_seq ?_
      refine tri_regD hcx [] [4] [] [] [] [(4, .int 0)] [] (by kernel_rfl) ?_ ?_
      ·
       exact az
      refine fin_then ?_
      refine tri_ret ?_
      exact fin_ret [] rfl rfl trivial hcx (avs := [.int 0]) (by kernel_rfl) (congrArg AV.int (show 0 = lcheck ⟨C, L, B⟩ n from (by rw [lc3 (by omega) (by omega) (by omega) (by omega) (by rw [show L.length = k by omega]; exact hok), if_neg (by omega)]))) [] rfl
 ·
  cases hσ
def cx_rSame12 : Cx := ⟨ty12, [(65, rOf12_σ), (67, (coeF [.id, .ld (.bools [])] rLit12_σ)), (18, (coeF [.agg [.ld (.ints []), .ld (.ints []), .id], .id] rCheck12_σ))]⟩
theorem cx_rSame12_ok : CxOk Try.prog cx_rSame12 := cx_ok ty12_ok ⟨rOf12_sound, (rLit12_sound.coe [.id, .ld (.bools [])] rfl), (rCheck12_sound.coe [.agg [.ld (.ints []), .ld (.ints []), .id], .id] rfl), trivial⟩
def rSame12_σ : CtF
  | [.agg [.im (.ls (.ints C)), .im (.ls (.ints L)), .im (.val (.int .i64 B))], .agg [.im (.ls (.ints C')), .im (.ls (.ints L')), .im (.val (.int .i64 B'))]], [] => some (C.length ≤ maxLen ∧ L.length ≤ maxLen, .bool (sameP ⟨C, L, B⟩ ⟨C', L', B'⟩), [])
  | _, _ => none
theorem rSame12_sound : Sound Try.prog 14 rSame12_σ := by
 refine sound_mk (cx := cx_rSame12) (fn := Try.f14) Try.func14 (by kernel_rfl) rfl ?_
 intro w0 G0 args os p r outs hσ hp hm0 hd0
 have hcx : CxOk Try.prog cx_rSame12 := cx_rSame12_ok
 have hmx : Try.prog.follows .mixedOrders = true := by kernel_rfl
 unfold rSame12_σ at hσ
 split at hσ
 ·
  rename_i C L B C' L' B'
  simp only [Option.some.injEq, Prod.mk.injEq] at hσ
  obtain ⟨rfl, rfl, rfl⟩ := hσ
  obtain ⟨wW, wO, wm, wβ, wd⟩ := w0
  replace hm0 : wm = 0 := hm0
  subst hm0
  replace hd0 : wd = [] := hd0
  subst hd0
  refine ⟨by kernel_rfl, ?_⟩
  change Tri ⟨_, _, _, _, _, _⟩ [(0, .agg [.ints C, .ints L, .int B]), (1, .agg [.ints C', .ints L', .int B'])] [] _ _
  obtain ⟨hm1, hm2⟩ := hp
  unfold maxLen at hm1 hm2
  refine tri_seq ?_
  refine tri_regD hcx [(1000, .frz), (1001, .frz)] [2, 3] [] [] [] [(2, .pto [.ls (.ints C), .ls (.ints L), .int B]), (3, .pto [.ls (.ints C'), .ls (.ints L'), .int B'])] [] (by kernel_rfl) ?_ ?_
  ·
   exact az
  refine fin_then ?_
  refine tri_seq ?_
  refine tri_seq ?_
  refine tri_regD hcx [] [29] [2, 3] [] [((!((C.length : Int) != (C'.length : Int))) = true → ((!((C.length : Int) != (C'.length : Int))) = true)), ((!((C.length : Int) != (C'.length : Int))) = true → ((!((C.length : Int) != (C'.length : Int))) = true)), ((!((C.length : Int) != (C'.length : Int))) = true → ((!((C.length : Int) != (C'.length : Int))) = true)), ((!((C.length : Int) != (C'.length : Int))) = true → ((!((C.length : Int) != (C'.length : Int))) = true)), ((!((C.length : Int) != (C'.length : Int))) = true → ((!((C.length : Int) != (C'.length : Int))) = true)), ((!((C.length : Int) != (C'.length : Int))) = true → ((!((C.length : Int) != (C'.length : Int))) = true)), (((C.length : Int) != (C'.length : Int)) = false → (!((C.length : Int) != (C'.length : Int))) = true), ((!(((C.length : Int) != (C'.length : Int)) || ((L.length : Int) != (L'.length : Int)))) = true → ((!(((C.length : Int) != (C'.length : Int)) || ((L.length : Int) != (L'.length : Int)))) = true)), ((!(((C.length : Int) != (C'.length : Int)) || ((L.length : Int) != (L'.length : Int)))) = true → ((!(((C.length : Int) != (C'.length : Int)) || ((L.length : Int) != (L'.length : Int)))) = true)), ((!(((C.length : Int) != (C'.length : Int)) || ((L.length : Int) != (L'.length : Int)))) = true → ((!(((C.length : Int) != (C'.length : Int)) || ((L.length : Int) != (L'.length : Int)))) = true)), ((!(((C.length : Int) != (C'.length : Int)) || ((L.length : Int) != (L'.length : Int)))) = true → ((!(((C.length : Int) != (C'.length : Int)) || ((L.length : Int) != (L'.length : Int)))) = true)), ((((C.length : Int) != (C'.length : Int)) || ((L.length : Int) != (L'.length : Int))) = false → (!(((C.length : Int) != (C'.length : Int)) || ((L.length : Int) != (L'.length : Int)))) = true)] [(29, .bool ((((C.length : Int) != (C'.length : Int)) || ((L.length : Int) != (L'.length : Int))) || (B != B')))] [] (by kernel_rfl) ?_ ?_
  ·
   refine (ap ?_ (ap ?_ (ap ?_ (ap ?_ (ap ?_ (ap ?_ (ap (by exact vcNot) (ap ?_ (ap ?_ (ap ?_ (ap ?_ (ap (by exact vcNot) az))))))))))))
   all_goals
    first | omega | exact id | exact vcNot | exact vcG | exact vcH | (intro _; omega) | exact (fun _ h => h) | (intro h; simp at h; omega) | (simp only [List.length_cons, List.length_nil, List.length_append, List.length_map, List.length_set, List.length_replicate]; omega) | (intro h; simp [h]; done)
  refine fin_then ?_
  refine tri_cond (b := ((((C.length : Int) != (C'.length : Int)) || ((L.length : Int) != (L'.length : Int))) || (B != B'))) (by kernel_rfl) (fun hb0 => ?_) (fun hb0 => ?_)
  ·
   skip
   have h0 := hb0
   try simp only [Bool.or_eq_true, Bool.or_eq_false_iff, Bool.and_eq_true, Bool.and_eq_false_iff, Bool.not_eq_true', Bool.not_eq_false', decide_eq_true_eq, decide_eq_false_iff_not, bne_iff_ne, bne_eq_false_iff_eq, beq_iff_eq, beq_eq_false_iff_ne] at h0
   refine tri_seq ?_
   refine tri_regD hcx [] [4] [] [] [] [(4, .bool false)] [] (by kernel_rfl) ?_ ?_
   ·
    exact az
   refine fin_then ?_
   refine tri_ret ?_
   refine fin_then_ret ?_
   exact fin_ret [] rfl rfl trivial hcx (avs := [.bool false]) (by kernel_rfl) (congrArg AV.bool (show false = sameP ⟨C, L, B⟩ ⟨C', L', B'⟩ from (by exact (same_no1 (by omega)).symm))) [] rfl
  ·
   skip
   have h0 := hb0
   try simp only [Bool.or_eq_true, Bool.or_eq_false_iff, Bool.and_eq_true, Bool.and_eq_false_iff, Bool.not_eq_true', Bool.not_eq_false', decide_eq_true_eq, decide_eq_false_iff_not, bne_iff_ne, bne_eq_false_iff_eq, beq_iff_eq, beq_eq_false_iff_ne] at h0
   refine tri_skip ?_
   refine fin_then ?_
   refine tri_seq ?_
   refine tri_seq ?_
   refine tri_regD hcx [] [5] [2, 3] [] [] [(5, .int 0)] [] (by kernel_rfl) ?_ ?_
   ·
    exact az
   refine fin_then ?_
   refine tri_block ?_
   refine tri_loop (X := Nat) (fun x0 => x0 ≤ C.length ∧ ∀ j, j < x0 → C.getD j 0 = C'.getD j 0) (fun x0 => [(2, .pto [.ls (.ints C), .ls (.ints L), .int B]), (3, .pto [.ls (.ints C'), .ls (.ints L'), .int B']), (5, .int (x0 : Int))]) (fun x0 => []) (fun x0 => C.length - x0) (0) ?_ ?_ ?_ ?_
   ·
    show 0 ≤ C.length ∧ ∀ j, j < 0 → C.getD j 0 = C'.getD j 0
    exact ⟨Nat.zero_le _, fun j hj => by omega⟩
   ·
    exact subE_mk (l := [.pto [.ls (.ints C), .ls (.ints L), .int B], .pto [.ls (.ints C'), .ls (.ints L'), .int B'], .int 0]) (m := [.pto [.ls (.ints C), .ls (.ints L), .int B], .pto [.ls (.ints C'), .ls (.ints L'), .int B'], .int (0 : Int)]) (by kernel_rfl) (by kernel_rfl) (consE rfl (consE rfl (consE (congrArg AV.int (show 0 = (0 : Int) from (by first | rfl | omega | (simp; done)))) rfl)))
   ·
    kernel_rfl
   ·
    intro k hI
    replace hI : k ≤ C.length ∧ ∀ j, j < k → C.getD j 0 = C'.getD j 0 := hI
    change Tri _ [(2, .pto [.ls (.ints C), .ls (.ints L), .int B]), (3, .pto [.ls (.ints C'), .ls (.ints L'), .int B']), (5, .int (k : Int))] [] _ _
    obtain ⟨hk, hok⟩ := hI
    have hCL : C.length = C'.length ∧ L.length = L'.length ∧ B = B' := by omega
    refine tri_seq ?_
    refine tri_seq ?_
    refine tri_regD hcx [] [34] [2, 3, 5] [] [] [(34, .bool (decide ((k : Int) < (C.length : Int))))] [] (by kernel_rfl) ?_ ?_
    ·
     exact az
    refine fin_then ?_
    refine tri_cond (b := (decide ((k : Int) < (C.length : Int)))) (by kernel_rfl) (fun hb1 => ?_) (fun hb1 => ?_)
    ·
     skip
     have h1 := of_decide_eq_true hb1
     refine tri_skip ?_
     refine fin_then ?_
     refine tri_seq ?_
     refine tri_block ?_
     refine tri_seq ?_
     refine tri_drawD [0, 1, 0, 7, 15, 0, 32, 0, 224, 480, 1023] hcx hmx [] [47] [2, 3, 5] [] [((0 : Int) ≤ (k : Int) ∧ (k : Int) < (C.length : Int)), ((0 : Int) ≤ (k : Int) ∧ (k : Int) < (C'.length : Int))] [(47, .bool ((C.getD k 0) != (C'.getD k 0)))] [] (by kernel_rfl) ?_ ?_
     ·
      refine (ap ?_ (ap ?_ az))
      all_goals
       omega
     refine fin_then ?_
     refine tri_cond (b := ((C.getD k 0) != (C'.getD k 0))) (by kernel_rfl) (fun hb2 => ?_) (fun hb2 => ?_)
     ·
      skip
      have h2 := bne_iff_ne.1 hb2
      refine tri_seq ?_
      refine tri_regD hcx [] [4] [] [] [] [(4, .bool false)] [] (by kernel_rfl) ?_ ?_
      ·
       exact az
      refine fin_then ?_
      refine tri_ret ?_
      refine fin_block_ret ?_
      refine fin_then_ret ?_
      refine fin_then_ret ?_
      refine fin_block_ret ?_
      refine fin_then_ret ?_
      exact fin_ret [] rfl rfl trivial hcx (avs := [.bool false]) (by kernel_rfl) (congrArg AV.bool (show false = sameP ⟨C, L, B⟩ ⟨C', L', B'⟩ from (by exact (same_noC (k := k) (by omega)).symm))) [] rfl
     ·
      skip
      have h2 := bneF hb2
      refine tri_skip ?_
      refine fin_block ?_
      refine fin_then ?_
      refine tri_regD hcx [] [5] [2, 3] [] [Fit ((k : Int) + 1)] [(5, .int ((k : Int) + 1))] [] (by kernel_rfl) ?_ ?_
      ·
       refine (ap ?_ az)
       omega
      refine fin_round (k + 1) ?_ ?_ ?_ ?_
      ·
       show (k + 1) ≤ C.length ∧ ∀ j, j < (k + 1) → C.getD j 0 = C'.getD j 0
       exact ⟨by omega, allSucc hok (by omega)⟩
      ·
       show C.length - (k + 1) < C.length - k
       omega
      ·
       exact subE_mk (l := [.pto [.ls (.ints C), .ls (.ints L), .int B], .pto [.ls (.ints C'), .ls (.ints L'), .int B'], .int ((k : Int) + 1)]) (m := [.pto [.ls (.ints C), .ls (.ints L), .int B], .pto [.ls (.ints C'), .ls (.ints L'), .int B'], .int ((k + 1) : Int)]) (by kernel_rfl) (by kernel_rfl) (consE rfl (consE rfl (consE (congrArg AV.int (show ((k : Int) + 1) = ((k + 1) : Int) from (by first | rfl | omega | (simp; done)))) rfl)))
      ·
       kernel_rfl
    ·
     skip
     have h1 := of_decide_eq_false hb1
     refine tri_exit ?_
     refine fin_then_exit ?_
     refine fin_then_exit ?_
     refine fin_block_same ?_
     refine fin_then ?_
     refine tri_seq ?_
     refine tri_seq ?_
     refine tri_regD hcx [] [6] [2, 3] [] [] [(6, .int 0)] [] (by kernel_rfl) ?_ ?_
     ·
      exact az
     refine fin_then ?_
     refine tri_block ?_
     refine tri_loop (X := Nat) (fun x0 => x0 ≤ L.length ∧ ∀ j, j < x0 → L.getD j 0 = L'.getD j 0) (fun x0 => [(2, .pto [.ls (.ints C), .ls (.ints L), .int B]), (3, .pto [.ls (.ints C'), .ls (.ints L'), .int B']), (6, .int (x0 : Int))]) (fun x0 => []) (fun x0 => L.length - x0) (0) ?_ ?_ ?_ ?_
     ·
      show 0 ≤ L.length ∧ ∀ j, j < 0 → L.getD j 0 = L'.getD j 0
      exact ⟨Nat.zero_le _, fun j hj => by omega⟩
     ·
      exact subE_mk (l := [.pto [.ls (.ints C), .ls (.ints L), .int B], .pto [.ls (.ints C'), .ls (.ints L'), .int B'], .int 0]) (m := [.pto [.ls (.ints C), .ls (.ints L), .int B], .pto [.ls (.ints C'), .ls (.ints L'), .int B'], .int (0 : Int)]) (by kernel_rfl) (by kernel_rfl) (consE rfl (consE rfl (consE (congrArg AV.int (show 0 = (0 : Int) from (by first | rfl | omega | (simp; done)))) rfl)))
     ·
      kernel_rfl
     ·
      intro i hI
      replace hI : i ≤ L.length ∧ ∀ j, j < i → L.getD j 0 = L'.getD j 0 := hI
      change Tri _ [(2, .pto [.ls (.ints C), .ls (.ints L), .int B]), (3, .pto [.ls (.ints C'), .ls (.ints L'), .int B']), (6, .int (i : Int))] [] _ _
      obtain ⟨hi, hoi⟩ := hI
      refine tri_seq ?_
      refine tri_seq ?_
      refine tri_regD hcx [] [52] [2, 3, 6] [] [] [(52, .bool (decide ((i : Int) < (L.length : Int))))] [] (by kernel_rfl) ?_ ?_
      ·
       exact az
      refine fin_then ?_
      refine tri_cond (b := (decide ((i : Int) < (L.length : Int)))) (by kernel_rfl) (fun hb3 => ?_) (fun hb3 => ?_)
      ·
       skip
       have h3 := of_decide_eq_true hb3
       refine tri_skip ?_
       refine fin_then ?_
       refine tri_seq ?_
       refine tri_block ?_
       refine tri_seq ?_
       refine tri_drawD [0, 1, 0, 7, 15, 0, 32, 0, 224, 480, 1023] hcx hmx [] [65] [2, 3, 6] [] [((0 : Int) ≤ (i : Int) ∧ (i : Int) < (L.length : Int)), ((0 : Int) ≤ (i : Int) ∧ (i : Int) < (L'.length : Int))] [(65, .bool ((L.getD i 0) != (L'.getD i 0)))] [] (by kernel_rfl) ?_ ?_
       ·
        refine (ap ?_ (ap ?_ az))
        all_goals
         omega
       refine fin_then ?_
       refine tri_cond (b := ((L.getD i 0) != (L'.getD i 0))) (by kernel_rfl) (fun hb4 => ?_) (fun hb4 => ?_)
       ·
        skip
        have h4 := bne_iff_ne.1 hb4
        refine tri_seq ?_
        refine tri_regD hcx [] [4] [] [] [] [(4, .bool false)] [] (by kernel_rfl) ?_ ?_
        ·
         exact az
        refine fin_then ?_
        refine tri_ret ?_
        refine fin_block_ret ?_
        refine fin_then_ret ?_
        refine fin_then_ret ?_
        refine fin_block_ret ?_
        refine fin_then_ret ?_
        exact fin_ret [] rfl rfl trivial hcx (avs := [.bool false]) (by kernel_rfl) (congrArg AV.bool (show false = sameP ⟨C, L, B⟩ ⟨C', L', B'⟩ from (by exact (same_noL (k := i) (by omega)).symm))) [] rfl
       ·
        skip
        have h4 := bneF hb4
        refine tri_skip ?_
        refine fin_block ?_
        refine fin_then ?_
        refine tri_regD hcx [] [6] [2, 3] [] [Fit ((i : Int) + 1)] [(6, .int ((i : Int) + 1))] [] (by kernel_rfl) ?_ ?_
        ·
         refine (ap ?_ az)
         omega
        refine fin_round (i + 1) ?_ ?_ ?_ ?_
        ·
         show (i + 1) ≤ L.length ∧ ∀ j, j < (i + 1) → L.getD j 0 = L'.getD j 0
         exact ⟨by omega, allSucc hoi (by omega)⟩
        ·
         show L.length - (i + 1) < L.length - i
         omega
        ·
         exact subE_mk (l := [.pto [.ls (.ints C), .ls (.ints L), .int B], .pto [.ls (.ints C'), .ls (.ints L'), .int B'], .int ((i : Int) + 1)]) (m := [.pto [.ls (.ints C), .ls (.ints L), .int B], .pto [.ls (.ints C'), .ls (.ints L'), .int B'], .int ((i + 1) : Int)]) (by kernel_rfl) (by kernel_rfl) (consE rfl (consE rfl (consE (congrArg AV.int (show ((i : Int) + 1) = ((i + 1) : Int) from (by first | rfl | omega | (simp; done)))) rfl)))
        ·
         kernel_rfl
      ·
       skip
       have h3 := of_decide_eq_false hb3
       refine tri_exit ?_
       refine fin_then_exit ?_
       refine fin_then_exit ?_
       refine fin_block_same ?_
       refine fin_then ?_
       refine tri_seq ?_
       refine tri_regD hcx [] [4] [] [] [] [(4, .bool true)] [] (by kernel_rfl) ?_ ?_
       ·
        exact az
       refine fin_then ?_
       refine tri_ret ?_
       exact fin_ret [] rfl rfl trivial hcx (avs := [.bool true]) (by kernel_rfl) (congrArg AV.bool (show true = sameP ⟨C, L, B⟩ ⟨C', L', B'⟩ from (by exact (same_yes hCL.1 hCL.2.1 hCL.2.2 (fun j hj => hok j (by omega)) (fun j hj => hoi j (by omega))).symm))) [] rfl
 ·
  cases hσ
def cx_rboth12 : Cx := ⟨ty12, [(65, rOf12_σ), (67, (coeF [.id, .ld (.bools [])] rLit12_σ)), (18, (coeF [.agg [.ld (.ints []), .ld (.ints []), .id], .id] rCheck12_σ)), (14, (coeF [.agg [.ld (.ints []), .ld (.ints []), .id], .agg [.ld (.ints []), .ld (.ints []), .id]] rSame12_σ))]⟩
theorem cx_rboth12_ok : CxOk Try.prog cx_rboth12 := cx_ok ty12_ok ⟨rOf12_sound, (rLit12_sound.coe [.id, .ld (.bools [])] rfl), (rCheck12_sound.coe [.agg [.ld (.ints []), .ld (.ints []), .id], .id] rfl), (rSame12_sound.coe [.agg [.ld (.ints []), .ld (.ints []), .id], .agg [.ld (.ints []), .ld (.ints []), .id]] rfl), trivial⟩
def rboth12_σ : CtF
  | [.agg [.im (.ls (.ints C)), .im (.ls (.ints L)), .im (.val (.int .i64 B))], .im (.val (.int .i64 x))], [] => some (lcheck ⟨C, L, B⟩ 65536 = 0 ∧ -9223372036854775807 ≤ x ∧ x ≤ 9223372036854775807, .tup [.int (cf ⟨C, L, B⟩ x), .int (cf ⟨C, L, B⟩ (-x))], [])
  | _, _ => none
theorem rboth12_sound : Sound Try.prog 46 rboth12_σ := by
 refine sound_mk (cx := cx_rboth12) (fn := Try.f46) Try.func46 (by kernel_rfl) rfl ?_
 intro w0 G0 args os p r outs hσ hp hm0 hd0
 have hcx : CxOk Try.prog cx_rboth12 := cx_rboth12_ok
 unfold rboth12_σ at hσ
 split at hσ
 ·
  rename_i C L B x
  simp only [Option.some.injEq, Prod.mk.injEq] at hσ
  obtain ⟨rfl, rfl, rfl⟩ := hσ
  obtain ⟨wW, wO, wm, wβ, wd⟩ := w0
  replace hm0 : wm = 0 := hm0
  subst hm0
  replace hd0 : wd = [] := hd0
  subst hd0
  refine ⟨by kernel_rfl, ?_⟩
  change Tri ⟨_, _, _, _, _, _⟩ [(0, .agg [.ints C, .ints L, .int B]), (1, .int x)] [] _ _
  obtain ⟨hc, hx1, hx2⟩ := hp
  obtain ⟨_, _, hl, _, _, _, h4⟩ := id (lcheck_ok hc)
  replace hl : C.length = L.length := hl
  replace h4 : L.length ≤ 4096 := h4
  have hneg : 0 - x = -x := by omega
  have bd := cfK_bd hc
  refine tri_seq ?_
  refine tri_regD hcx [(1000, .frz)] [2] [1] [] [] [(2, .pto [.ls (.ints C), .ls (.ints L), .int B])] [] (by kernel_rfl) ?_ ?_
  ·
   exact az
  refine fin_then ?_
  refine tri_seq ?_
  refine tri_regD hcx [] [6, 7] [2, 1] [] [] [(6, .int 0), (7, .int 0)] [] (by kernel_rfl) ?_ ?_
  ·
   exact az
  refine fin_then ?_
  refine tri_seq ?_
  refine tri_seq ?_
  refine tri_regD hcx [] [8] [6, 7, 2, 1] [] [] [(8, .int 0)] [] (by kernel_rfl) ?_ ?_
  ·
   exact az
  refine fin_then ?_
  refine tri_block ?_
  refine tri_loop (X := Nat) (fun x0 => x0 ≤ L.length) (fun x0 => [(1, .int x), (2, .pto [.ls (.ints C), .ls (.ints L), .int B]), (6, .int (cfK C L x x0)), (7, .int (cfK C L (-x) x0)), (8, .int (x0 : Int))]) (fun x0 => []) (fun x0 => L.length - x0) (0) ?_ ?_ ?_ ?_
  ·
   show 0 ≤ L.length
   omega
  ·
   exact subE_mk (l := [.int x, .pto [.ls (.ints C), .ls (.ints L), .int B], .int 0, .int 0, .int 0]) (m := [.int x, .pto [.ls (.ints C), .ls (.ints L), .int B], .int (cfK C L x 0), .int (cfK C L (-x) 0), .int (0 : Int)]) (by kernel_rfl) (by kernel_rfl) (consE rfl (consE rfl (consE (congrArg AV.int (show 0 = cfK C L x 0 from (by first | rfl | omega | (simp; done)))) (consE (congrArg AV.int (show 0 = cfK C L (-x) 0 from (by first | rfl | omega | (simp; done)))) (consE (congrArg AV.int (show 0 = (0 : Int) from (by first | rfl | omega | (simp; done)))) rfl)))))
  ·
   kernel_rfl
  ·
   intro k hI
   replace hI : k ≤ L.length := hI
   change Tri _ [(1, .int x), (2, .pto [.ls (.ints C), .ls (.ints L), .int B]), (6, .int (cfK C L x k)), (7, .int (cfK C L (-x) k)), (8, .int (k : Int))] [] _ _
   have b1 := bd x
   have b2 := bd (-x)
   have b3 := b1 k
   have b4 := b2 k
   have b5 := b1 (k + 1)
   have b6 := b2 (k + 1)
   refine tri_seq ?_
   refine tri_seq ?_
   refine tri_regD hcx [] [13] [1, 2, 6, 7, 8] [] [] [(13, .bool (decide ((k : Int) < (L.length : Int))))] [] (by kernel_rfl) ?_ ?_
   ·
    exact az
   refine fin_then ?_
   refine tri_cond (b := (decide ((k : Int) < (L.length : Int)))) (by kernel_rfl) (fun hb0 => ?_) (fun hb0 => ?_)
   ·
    skip
    have h0 := of_decide_eq_true hb0
    refine tri_skip ?_
    refine fin_then ?_
    refine tri_seq ?_
    refine tri_block ?_
    refine tri_seq ?_
    refine tri_seq ?_
    refine tri_regD hcx [] [22] [1, 2, 6, 7, 8] [] [((0 : Int) ≤ (k : Int) ∧ (k : Int) < (L.length : Int))] [(22, .bool ((L.getD k 0) == x))] [] (by kernel_rfl) ?_ ?_
    ·
     refine (ap ?_ az)
     omega
    refine fin_then ?_
    refine tri_cond (b := ((L.getD k 0) == x)) (by kernel_rfl) (fun hb1 => ?_) (fun hb1 => ?_)
    ·
     skip
     have h1 := eq_of_beq hb1
     refine tri_regD hcx [] [6] [1, 2, 7, 8] [] [((0 : Int) ≤ (k : Int) ∧ (k : Int) < (C.length : Int)), Fit (cfK C L x k + (C.getD k 0))] [(6, .int (cfK C L x k + (C.getD k 0)))] [] (by kernel_rfl) ?_ ?_
     ·
      refine (ap (by omega) (ap ?_ az))
      rw [← cfK_yes hl (by omega) h1]; have := b5 (by omega); omega
     refine fin_then ?_
     refine tri_seq ?_
     refine tri_regD hcx [] [37] [6, 1, 2, 7, 8] [] [((0 : Int) ≤ (k : Int) ∧ (k : Int) < (L.length : Int)), Fit (0 - x)] [(37, .bool ((L.getD k 0) == (0 - x)))] [] (by kernel_rfl) ?_ ?_
     ·
      refine (ap ?_ (ap ?_ az))
      all_goals
       omega
     refine fin_then ?_
     refine tri_cond (b := ((L.getD k 0) == (0 - x))) (by kernel_rfl) (fun hb2 => ?_) (fun hb2 => ?_)
     ·
      skip
      have h2 := eq_of_beq hb2
      refine tri_regD hcx [] [7] [6, 1, 2, 8] [] [((0 : Int) ≤ (k : Int) ∧ (k : Int) < (C.length : Int)), Fit (cfK C L (-x) k + (C.getD k 0))] [(7, .int (cfK C L (-x) k + (C.getD k 0)))] [] (by kernel_rfl) ?_ ?_
      ·
       refine (ap (by omega) (ap ?_ az))
       rw [← cfK_yes hl (by omega) (show _ = -x by omega)]; have := b6 (by omega); omega
      refine fin_block ?_
      refine fin_then ?_
      refine tri_regD hcx [] [8] [7, 6, 1, 2] [] [Fit ((k : Int) + 1)] [(8, .int ((k : Int) + 1))] [] (by kernel_rfl) ?_ ?_
      ·
       refine (ap ?_ az)
       omega
      refine fin_round (k + 1) ?_ ?_ ?_ ?_
      ·
       show (k + 1) ≤ L.length
       omega
      ·
       show L.length - (k + 1) < L.length - k
       omega
      ·
       exact subE_mk (l := [.int x, .pto [.ls (.ints C), .ls (.ints L), .int B], .int (cfK C L x k + (C.getD k 0)), .int (cfK C L (-x) k + (C.getD k 0)), .int ((k : Int) + 1)]) (m := [.int x, .pto [.ls (.ints C), .ls (.ints L), .int B], .int (cfK C L x (k + 1)), .int (cfK C L (-x) (k + 1)), .int ((k + 1) : Int)]) (by kernel_rfl) (by kernel_rfl) (consE rfl (consE rfl (consE (congrArg AV.int (show (cfK C L x k + (C.getD k 0)) = cfK C L x (k + 1) from (by first | exact (cfK_yes hl (by omega) (by omega)).symm | exact (cfK_no hl (by omega) (by omega)).symm))) (consE (congrArg AV.int (show (cfK C L (-x) k + (C.getD k 0)) = cfK C L (-x) (k + 1) from (by first | exact (cfK_yes hl (by omega) (by omega)).symm | exact (cfK_no hl (by omega) (by omega)).symm))) (consE (congrArg AV.int (show ((k : Int) + 1) = ((k + 1) : Int) from (by first | rfl | omega | (simp; done)))) rfl)))))
      ·
       kernel_rfl
     ·
      skip
      have h2 := neB hb2
      refine tri_skip ?_
      refine fin_block ?_
      refine fin_then ?_
      refine tri_regD hcx [] [8] [6, 1, 2, 7] [] [Fit ((k : Int) + 1)] [(8, .int ((k : Int) + 1))] [] (by kernel_rfl) ?_ ?_
      ·
       refine (ap ?_ az)
       omega
      refine fin_round (k + 1) ?_ ?_ ?_ ?_
      ·
       show (k + 1) ≤ L.length
       omega
      ·
       show L.length - (k + 1) < L.length - k
       omega
      ·
       exact subE_mk (l := [.int x, .pto [.ls (.ints C), .ls (.ints L), .int B], .int (cfK C L x k + (C.getD k 0)), .int (cfK C L (-x) k), .int ((k : Int) + 1)]) (m := [.int x, .pto [.ls (.ints C), .ls (.ints L), .int B], .int (cfK C L x (k + 1)), .int (cfK C L (-x) (k + 1)), .int ((k + 1) : Int)]) (by kernel_rfl) (by kernel_rfl) (consE rfl (consE rfl (consE (congrArg AV.int (show (cfK C L x k + (C.getD k 0)) = cfK C L x (k + 1) from (by first | exact (cfK_yes hl (by omega) (by omega)).symm | exact (cfK_no hl (by omega) (by omega)).symm))) (consE (congrArg AV.int (show cfK C L (-x) k = cfK C L (-x) (k + 1) from (by first | exact (cfK_yes hl (by omega) (by omega)).symm | exact (cfK_no hl (by omega) (by omega)).symm))) (consE (congrArg AV.int (show ((k : Int) + 1) = ((k + 1) : Int) from (by first | rfl | omega | (simp; done)))) rfl)))))
      ·
       kernel_rfl
    ·
     skip
     have h1 := neB hb1
     refine tri_skip ?_
     refine fin_then ?_
     refine tri_seq ?_
     refine tri_regD hcx [] [37] [1, 2, 6, 7, 8] [] [((0 : Int) ≤ (k : Int) ∧ (k : Int) < (L.length : Int)), Fit (0 - x)] [(37, .bool ((L.getD k 0) == (0 - x)))] [] (by kernel_rfl) ?_ ?_
     ·
      refine (ap ?_ (ap ?_ az))
      all_goals
       omega
     refine fin_then ?_
     refine tri_cond (b := ((L.getD k 0) == (0 - x))) (by kernel_rfl) (fun hb3 => ?_) (fun hb3 => ?_)
     ·
      skip
      have h3 := eq_of_beq hb3
      refine tri_regD hcx [] [7] [1, 2, 6, 8] [] [((0 : Int) ≤ (k : Int) ∧ (k : Int) < (C.length : Int)), Fit (cfK C L (-x) k + (C.getD k 0))] [(7, .int (cfK C L (-x) k + (C.getD k 0)))] [] (by kernel_rfl) ?_ ?_
      ·
       refine (ap (by omega) (ap ?_ az))
       rw [← cfK_yes hl (by omega) (show _ = -x by omega)]; have := b6 (by omega); omega
      refine fin_block ?_
      refine fin_then ?_
      refine tri_regD hcx [] [8] [7, 1, 2, 6] [] [Fit ((k : Int) + 1)] [(8, .int ((k : Int) + 1))] [] (by kernel_rfl) ?_ ?_
      ·
       refine (ap ?_ az)
       omega
      refine fin_round (k + 1) ?_ ?_ ?_ ?_
      ·
       show (k + 1) ≤ L.length
       omega
      ·
       show L.length - (k + 1) < L.length - k
       omega
      ·
       exact subE_mk (l := [.int x, .pto [.ls (.ints C), .ls (.ints L), .int B], .int (cfK C L x k), .int (cfK C L (-x) k + (C.getD k 0)), .int ((k : Int) + 1)]) (m := [.int x, .pto [.ls (.ints C), .ls (.ints L), .int B], .int (cfK C L x (k + 1)), .int (cfK C L (-x) (k + 1)), .int ((k + 1) : Int)]) (by kernel_rfl) (by kernel_rfl) (consE rfl (consE rfl (consE (congrArg AV.int (show cfK C L x k = cfK C L x (k + 1) from (by first | exact (cfK_yes hl (by omega) (by omega)).symm | exact (cfK_no hl (by omega) (by omega)).symm))) (consE (congrArg AV.int (show (cfK C L (-x) k + (C.getD k 0)) = cfK C L (-x) (k + 1) from (by first | exact (cfK_yes hl (by omega) (by omega)).symm | exact (cfK_no hl (by omega) (by omega)).symm))) (consE (congrArg AV.int (show ((k : Int) + 1) = ((k + 1) : Int) from (by first | rfl | omega | (simp; done)))) rfl)))))
      ·
       kernel_rfl
     ·
      skip
      have h3 := neB hb3
      refine tri_skip ?_
      refine fin_block ?_
      refine fin_then ?_
      refine tri_regD hcx [] [8] [1, 2, 6, 7] [] [Fit ((k : Int) + 1)] [(8, .int ((k : Int) + 1))] [] (by kernel_rfl) ?_ ?_
      ·
       refine (ap ?_ az)
       omega
      refine fin_round (k + 1) ?_ ?_ ?_ ?_
      ·
       show (k + 1) ≤ L.length
       omega
      ·
       show L.length - (k + 1) < L.length - k
       omega
      ·
       exact subE_mk (l := [.int x, .pto [.ls (.ints C), .ls (.ints L), .int B], .int (cfK C L x k), .int (cfK C L (-x) k), .int ((k : Int) + 1)]) (m := [.int x, .pto [.ls (.ints C), .ls (.ints L), .int B], .int (cfK C L x (k + 1)), .int (cfK C L (-x) (k + 1)), .int ((k + 1) : Int)]) (by kernel_rfl) (by kernel_rfl) (consE rfl (consE rfl (consE (congrArg AV.int (show cfK C L x k = cfK C L x (k + 1) from (by first | exact (cfK_yes hl (by omega) (by omega)).symm | exact (cfK_no hl (by omega) (by omega)).symm))) (consE (congrArg AV.int (show cfK C L (-x) k = cfK C L (-x) (k + 1) from (by first | exact (cfK_yes hl (by omega) (by omega)).symm | exact (cfK_no hl (by omega) (by omega)).symm))) (consE (congrArg AV.int (show ((k : Int) + 1) = ((k + 1) : Int) from (by first | rfl | omega | (simp; done)))) rfl)))))
      ·
       kernel_rfl
   ·
    skip
    have h0 := of_decide_eq_false hb0
    refine tri_exit ?_
    refine fin_then_exit ?_
    refine fin_then_exit ?_
    refine fin_block_same ?_
    refine fin_then ?_
    refine tri_seq ?_
    refine tri_regD hcx [] [4, 5] [] [] [] [(4, .int (cfK C L x k)), (5, .int (cfK C L (-x) k))] [] (by kernel_rfl) ?_ ?_
    ·
     exact az
    refine fin_then ?_
    refine tri_ret ?_
    exact fin_ret [] rfl rfl trivial hcx (avs := [.int (cfK C L x k), .int (cfK C L (-x) k)]) (by kernel_rfl) (congrArg AV.tup (consE (congrArg AV.int (show cfK C L x k = cf ⟨C, L, B⟩ x from (by exact cfK_all hl (by omega)))) (consE (congrArg AV.int (show cfK C L (-x) k = cf ⟨C, L, B⟩ (-x) from (by exact cfK_all hl (by omega)))) rfl))) [] rfl
 ·
  cases hσ
def cx_rvars12 : Cx := ⟨ty12, [(65, rOf12_σ), (67, (coeF [.id, .ld (.bools [])] rLit12_σ)), (18, (coeF [.agg [.ld (.ints []), .ld (.ints []), .id], .id] rCheck12_σ)), (14, (coeF [.agg [.ld (.ints []), .ld (.ints []), .id], .agg [.ld (.ints []), .ld (.ints []), .id]] rSame12_σ)), (46, (coeF [.agg [.ld (.ints []), .ld (.ints []), .id], .id] rboth12_σ))]⟩
theorem cx_rvars12_ok : CxOk Try.prog cx_rvars12 := cx_ok ty12_ok ⟨rOf12_sound, (rLit12_sound.coe [.id, .ld (.bools [])] rfl), (rCheck12_sound.coe [.agg [.ld (.ints []), .ld (.ints []), .id], .id] rfl), (rSame12_sound.coe [.agg [.ld (.ints []), .ld (.ints []), .id], .agg [.ld (.ints []), .ld (.ints []), .id]] rfl), (rboth12_sound.coe [.agg [.ld (.ints []), .ld (.ints []), .id], .id] rfl), trivial⟩
def rvars12_σ : CtF
  | [.agg [.im (.ls (.ints C)), .im (.ls (.ints L)), .im (.val (.int .i64 B))]], [] => some (L.length ≤ 4096 ∧ ∀ x ∈ L, -9223372036854775807 ≤ x ∧ x ≤ 9223372036854775807, .ints (varsZ L), [])
  | _, _ => none
theorem rvars12_sound : Sound Try.prog 45 rvars12_σ := by
 refine sound_mk (cx := cx_rvars12) (fn := Try.f45) Try.func45 (by kernel_rfl) rfl ?_
 intro w0 G0 args os p r outs hσ hp hm0 hd0
 have hcx : CxOk Try.prog cx_rvars12 := cx_rvars12_ok
 unfold rvars12_σ at hσ
 split at hσ
 ·
  rename_i C L B
  simp only [Option.some.injEq, Prod.mk.injEq] at hσ
  obtain ⟨rfl, rfl, rfl⟩ := hσ
  obtain ⟨wW, wO, wm, wβ, wd⟩ := w0
  replace hm0 : wm = 0 := hm0
  subst hm0
  replace hd0 : wd = [] := hd0
  subst hd0
  refine ⟨by kernel_rfl, ?_⟩
  change Tri ⟨_, _, _, _, _, _⟩ [(0, .agg [.ints C, .ints L, .int B])] [] _ _
  obtain ⟨h4, hx⟩ := hp
  refine tri_seq ?_
  refine tri_regD hcx [(1000, .frz)] [1] [] [] [] [(1, .pto [.ls (.ints C), .ls (.ints L), .int B])] [] (by kernel_rfl) ?_ ?_
  ·
   exact az
  refine fin_then ?_
  refine tri_seq ?_
  refine tri_regD hcx [] [3] [1] [] [] [(3, .im (.val (.slice none 0 0)))] [] (by kernel_rfl) ?_ ?_
  ·
   exact az
  refine fin_then ?_
  refine tri_seq ?_
  refine tri_seq ?_
  refine tri_regD hcx [] [4] [3, 1] [] [] [(4, .int 0)] [] (by kernel_rfl) ?_ ?_
  ·
   exact az
  refine fin_then ?_
  refine tri_block ?_
  refine tri_nil 3 (.ints []) (by kernel_rfl) (E' := [(4, .int 0), (3, .ints []), (1, .pto [.ls (.ints C), .ls (.ints L), .int B])]) (by kernel_rfl) ?_
  refine tri_loop (X := Nat) (fun x0 => x0 ≤ L.length) (fun x0 => [(1, .pto [.ls (.ints C), .ls (.ints L), .int B]), (3, .ints (varsZ (L.take x0))), (4, .int (x0 : Int))]) (fun x0 => []) (fun x0 => L.length - x0) (0) ?_ ?_ ?_ ?_
  ·
   show 0 ≤ L.length
   omega
  ·
   exact subE_mk (l := [.pto [.ls (.ints C), .ls (.ints L), .int B], .ints [], .int 0]) (m := [.pto [.ls (.ints C), .ls (.ints L), .int B], .ints (varsZ (L.take 0)), .int (0 : Int)]) (by kernel_rfl) (by kernel_rfl) (consE rfl (consE (congrArg AV.ints (show [] = varsZ (L.take 0) from (by first | rfl | omega | (simp; done)))) (consE (congrArg AV.int (show 0 = (0 : Int) from (by first | rfl | omega | (simp; done)))) rfl)))
  ·
   kernel_rfl
  ·
   intro k hI
   replace hI : k ≤ L.length := hI
   change Tri _ [(1, .pto [.ls (.ints C), .ls (.ints L), .int B]), (3, .ints (varsZ (L.take k))), (4, .int (k : Int))] [] _ _
   have hvl := varsZ_take_len L k
   refine tri_seq ?_
   refine tri_seq ?_
   refine tri_regD hcx [] [12] [1, 3, 4] [] [] [(12, .bool (decide ((k : Int) < (L.length : Int))))] [] (by kernel_rfl) ?_ ?_
   ·
    exact az
   refine fin_then ?_
   refine tri_cond (b := (decide ((k : Int) < (L.length : Int)))) (by kernel_rfl) (fun hb0 => ?_) (fun hb0 => ?_)
   ·
    skip
    have h0 := of_decide_eq_true hb0
    refine tri_skip ?_
    refine fin_then ?_
    refine tri_seq ?_
    refine tri_block ?_
    refine tri_seq ?_
    refine tri_regD hcx [] [5] [1, 3, 4] [] [((0 : Int) ≤ (k : Int) ∧ (k : Int) < (L.length : Int)), (-9223372036854775807 ≤ (L.getD k 0) ∧ (L.getD k 0) ≤ 9223372036854775807)] [(5, .int ((L.getD k 0).natAbs : Int))] [] (by kernel_rfl) ?_ ?_
    ·
     refine (ap ?_ (ap ?_ az))
     all_goals
      first | exact hx _ (getD_mem (by omega)) | omega
    refine fin_then ?_
    refine tri_seq ?_
    refine tri_regD hcx [] [6] [5, 1, 3, 4] [] [] [(6, .int 0)] [] (by kernel_rfl) ?_ ?_
    ·
     exact az
    refine fin_then ?_
    refine tri_seq ?_
    refine tri_block ?_
    refine tri_loop (X := Nat) (fun x0 => x0 ≤ (varsZ (L.take k)).length ∧ ∀ j, j < x0 → (varsZ (L.take k)).getD j 0 < ((L.getD k 0).natAbs : Int)) (fun x0 => [(1, .pto [.ls (.ints C), .ls (.ints L), .int B]), (3, .ints (varsZ (L.take k))), (4, .int (k : Int)), (5, .int ((L.getD k 0).natAbs : Int)), (6, .int (x0 : Int))]) (fun x0 => []) (fun x0 => (varsZ (L.take k)).length - x0) (0) ?_ ?_ ?_ ?_
    ·
     show 0 ≤ (varsZ (L.take k)).length ∧ ∀ j, j < 0 → (varsZ (L.take k)).getD j 0 < ((L.getD k 0).natAbs : Int)
     exact ⟨Nat.zero_le _, fun j hj => by omega⟩
    ·
     exact subE_mk (l := [.pto [.ls (.ints C), .ls (.ints L), .int B], .ints (varsZ (L.take k)), .int (k : Int), .int ((L.getD k 0).natAbs : Int), .int 0]) (m := [.pto [.ls (.ints C), .ls (.ints L), .int B], .ints (varsZ (L.take k)), .int (k : Int), .int ((L.getD k 0).natAbs : Int), .int (0 : Int)]) (by kernel_rfl) (by kernel_rfl) (consE rfl (consE rfl (consE rfl (consE rfl (consE (congrArg AV.int (show 0 = (0 : Int) from (by first | rfl | omega | (simp; done)))) rfl)))))
    ·
     kernel_rfl
    ·
     intro i hI
     replace hI : i ≤ (varsZ (L.take k)).length ∧ ∀ j, j < i → (varsZ (L.take k)).getD j 0 < ((L.getD k 0).natAbs : Int) := hI
     change Tri _ [(1, .pto [.ls (.ints C), .ls (.ints L), .int B]), (3, .ints (varsZ (L.take k))), (4, .int (k : Int)), (5, .int ((L.getD k 0).natAbs : Int)), (6, .int (i : Int))] [] _ _
     obtain ⟨hi, hlt⟩ := hI
     refine tri_seq ?_
     refine tri_seq ?_
     refine tri_regD hcx [] [32] [1, 3, 4, 5, 6] [] [((decide ((i : Int) < ((varsZ (L.take k)).length : Int))) = true → ((decide ((i : Int) < ((varsZ (L.take k)).length : Int))) = true)), ((decide ((i : Int) < ((varsZ (L.take k)).length : Int))) = true → ((decide ((i : Int) < ((varsZ (L.take k)).length : Int))) = true)), ((decide ((i : Int) < ((varsZ (L.take k)).length : Int))) = true → ((0 : Int) ≤ (i : Int) ∧ (i : Int) < ((varsZ (L.take k)).length : Int))), ((decide ((i : Int) < ((varsZ (L.take k)).length : Int))) = true → ((decide ((i : Int) < ((varsZ (L.take k)).length : Int))) = true)), ((decide ((i : Int) < ((varsZ (L.take k)).length : Int))) = true → ((decide ((i : Int) < ((varsZ (L.take k)).length : Int))) = true)), ((decide ((i : Int) < ((varsZ (L.take k)).length : Int))) = true → ((decide ((i : Int) < ((varsZ (L.take k)).length : Int))) = true)), ((decide ((i : Int) < ((varsZ (L.take k)).length : Int))) = true → (decide ((i : Int) < ((varsZ (L.take k)).length : Int))) = true)] [(32, .bool ((decide ((i : Int) < ((varsZ (L.take k)).length : Int))) && (decide (((varsZ (L.take k)).getD i 0) < ((L.getD k 0).natAbs : Int)))))] [] (by kernel_rfl) ?_ ?_
     ·
      refine (ap ?_ (ap ?_ (ap ?_ (ap ?_ (ap ?_ (ap ?_ (ap (by exact id) az)))))))
      all_goals
       first | omega | exact id | exact vcNot | exact vcG | exact vcH | (intro _; omega) | exact (fun _ h => h) | (intro h; simp at h; omega) | (simp only [List.length_cons, List.length_nil, List.length_append, List.length_map, List.length_set, List.length_replicate]; omega) | (intro h; simp [h]; done)
     refine fin_then ?_
     refine tri_cond (b := ((decide ((i : Int) < ((varsZ (L.take k)).length : Int))) && (decide (((varsZ (L.take k)).getD i 0) < ((L.getD k 0).natAbs : Int))))) (by kernel_rfl) (fun hb1 => ?_) (fun hb1 => ?_)
     ·
      skip
      have h1 := hb1
      simp only [Bool.and_eq_true, decide_eq_true_eq] at h1
      refine tri_skip ?_
      refine fin_then ?_
      refine tri_block ?_
      refine tri_regD hcx [] [6] [1, 3, 4, 5] [] [Fit ((i : Int) + 1)] [(6, .int ((i : Int) + 1))] [] (by kernel_rfl) ?_ ?_
      ·
       refine (ap ?_ az)
       omega
      refine fin_block ?_
      refine fin_round (i + 1) ?_ ?_ ?_ ?_
      ·
       show (i + 1) ≤ (varsZ (L.take k)).length ∧ ∀ j, j < (i + 1) → (varsZ (L.take k)).getD j 0 < ((L.getD k 0).natAbs : Int)
       exact ⟨by omega, allSuccL hlt (by omega)⟩
      ·
       show (varsZ (L.take k)).length - (i + 1) < (varsZ (L.take k)).length - i
       omega
      ·
       exact subE_mk (l := [.pto [.ls (.ints C), .ls (.ints L), .int B], .ints (varsZ (L.take k)), .int (k : Int), .int ((L.getD k 0).natAbs : Int), .int ((i : Int) + 1)]) (m := [.pto [.ls (.ints C), .ls (.ints L), .int B], .ints (varsZ (L.take k)), .int (k : Int), .int ((L.getD k 0).natAbs : Int), .int ((i + 1) : Int)]) (by kernel_rfl) (by kernel_rfl) (consE rfl (consE rfl (consE rfl (consE rfl (consE (congrArg AV.int (show ((i : Int) + 1) = ((i + 1) : Int) from (by first | rfl | omega | (simp; done)))) rfl)))))
      ·
       kernel_rfl
     ·
      skip
      have h1 := hb1
      simp only [Bool.and_eq_false_iff, decide_eq_false_iff_not] at h1
      have hcn := h1
      refine tri_exit ?_
      refine fin_then_exit ?_
      refine fin_then_exit ?_
      refine fin_block_same ?_
      refine fin_then ?_
      refine tri_seq ?_
      refine tri_seq ?_
      refine tri_regD hcx [] [46] [1, 3, 4, 5, 6] [] [((decide ((i : Int) < ((varsZ (L.take k)).length : Int))) = true → ((decide ((i : Int) < ((varsZ (L.take k)).length : Int))) = true)), ((decide ((i : Int) < ((varsZ (L.take k)).length : Int))) = true → ((decide ((i : Int) < ((varsZ (L.take k)).length : Int))) = true)), ((decide ((i : Int) < ((varsZ (L.take k)).length : Int))) = true → ((0 : Int) ≤ (i : Int) ∧ (i : Int) < ((varsZ (L.take k)).length : Int))), ((decide ((i : Int) < ((varsZ (L.take k)).length : Int))) = true → ((decide ((i : Int) < ((varsZ (L.take k)).length : Int))) = true)), ((decide ((i : Int) < ((varsZ (L.take k)).length : Int))) = true → ((decide ((i : Int) < ((varsZ (L.take k)).length : Int))) = true)), ((decide ((i : Int) < ((varsZ (L.take k)).length : Int))) = true → ((decide ((i : Int) < ((varsZ (L.take k)).length : Int))) = true)), ((decide ((i : Int) < ((varsZ (L.take k)).length : Int))) = true → (decide ((i : Int) < ((varsZ (L.take k)).length : Int))) = true)] [(46, .bool ((decide ((i : Int) < ((varsZ (L.take k)).length : Int))) && (((varsZ (L.take k)).getD i 0) == ((L.getD k 0).natAbs : Int))))] [] (by kernel_rfl) ?_ ?_
      ·
       refine (ap ?_ (ap ?_ (ap ?_ (ap ?_ (ap ?_ (ap ?_ (ap (by exact id) az)))))))
       all_goals
        first | omega | exact id | exact vcNot | exact vcG | exact vcH | (intro _; omega) | exact (fun _ h => h) | (intro h; simp at h; omega) | (simp only [List.length_cons, List.length_nil, List.length_append, List.length_map, List.length_set, List.length_replicate]; omega) | (intro h; simp [h]; done)
      refine fin_then ?_
      refine tri_cond (b := ((decide ((i : Int) < ((varsZ (L.take k)).length : Int))) && (((varsZ (L.take k)).getD i 0) == ((L.getD k 0).natAbs : Int)))) (by kernel_rfl) (fun hb2 => ?_) (fun hb2 => ?_)
      ·
       skip
       have h2 := hb2
       simp only [Bool.and_eq_true, decide_eq_true_eq, beq_iff_eq] at h2
       refine tri_exit ?_
       refine fin_then_exit ?_
       refine fin_block_same ?_
       refine fin_then ?_
       refine tri_regD hcx [] [4] [1, 3] [] [Fit ((k : Int) + 1)] [(4, .int ((k : Int) + 1))] [] (by kernel_rfl) ?_ ?_
       ·
        refine (ap ?_ az)
        omega
       refine fin_round (k + 1) ?_ ?_ ?_ ?_
       ·
        show (k + 1) ≤ L.length
        omega
       ·
        show L.length - (k + 1) < L.length - k
        omega
       ·
        exact subE_mk (l := [.pto [.ls (.ints C), .ls (.ints L), .int B], .ints (varsZ (L.take k)), .int ((k : Int) + 1)]) (m := [.pto [.ls (.ints C), .ls (.ints L), .int B], .ints (varsZ (L.take (k + 1))), .int ((k + 1) : Int)]) (by kernel_rfl) (by kernel_rfl) (consE rfl (consE (congrArg AV.ints (show varsZ (L.take k) = varsZ (L.take (k + 1)) from (by first | (rw [varsZ_take (by omega)]; exact (insV_here (by omega) hlt (by omega)).symm) | (rw [varsZ_take (by omega)]; exact (vars_new hi hlt hcn hcn2).symm)))) (consE (congrArg AV.int (show ((k : Int) + 1) = ((k + 1) : Int) from (by first | rfl | omega | (simp; done)))) rfl)))
       ·
        kernel_rfl
      ·
       skip
       have h2 := hb2
       simp only [Bool.and_eq_false_iff, decide_eq_false_iff_not, beq_eq_false_iff_ne] at h2
       have hcn2 := h2
       refine tri_skip ?_
       refine fin_then ?_
       refine tri_seq ?_
       refine tri_regD hcx [] [7] [1, 3, 4, 5, 6] [] [] [(7, .im (.val (.slice none 0 0)))] [] (by kernel_rfl) ?_ ?_
       ·
        exact az
       refine fin_then ?_
       refine tri_seq ?_
       refine tri_regD hcx [(1004, .to 251)] [7] [1, 3, 4, 5, 6] [] [((0 : Int) ≤ (i : Int) ∧ (i : Int) ≤ ((varsZ (L.take k)).length : Int)), ((((varsZ (L.take k)).take i).drop 0).length * 8 ≤ 140737488355328)] [(7, .row 251)] [(251, .row 3 (.ints (((varsZ (L.take k)).take i).drop 0)))] (by kernel_rfl) ?_ ?_
       ·
        refine (ap (by omega) (ap ?_ az))
        simp; omega
       refine fin_then ?_
       refine tri_seq ?_
       refine tri_regD hcx [(1003, .to 251)] [7] [1, 3, 4, 6] [] [(((((varsZ (L.take k)).take i).drop 0).length + [((L.getD k 0).natAbs : Int)].length) * 8 ≤ 140737488355328)] [(7, .row 251)] [(251, .row 3 (.ints ((((varsZ (L.take k)).take i).drop 0) ++ [((L.getD k 0).natAbs : Int)])))] (by kernel_rfl) ?_ ?_
       ·
        refine (ap ?_ az)
        simp; omega
       refine fin_then ?_
       refine tri_seq ?_
       refine tri_regD hcx [(1004, .to 251)] [7] [1, 4] [] [((0 : Int) ≤ (i : Int) ∧ (i : Int) ≤ ((varsZ (L.take k)).length : Int)), ((((((varsZ (L.take k)).take i).drop 0) ++ [((L.getD k 0).natAbs : Int)]).length + (((varsZ (L.take k)).take ((varsZ (L.take k)).length)).drop i).length) * 8 ≤ 140737488355328)] [(7, .row 251)] [(251, .row 3 (.ints (((((varsZ (L.take k)).take i).drop 0) ++ [((L.getD k 0).natAbs : Int)]) ++ (((varsZ (L.take k)).take ((varsZ (L.take k)).length)).drop i))))] (by kernel_rfl) ?_ ?_
       ·
        refine (ap (by omega) (ap ?_ az))
        simp; omega
       refine fin_then ?_
       refine tri_regD hcx [] [3] [1, 4] [251] [] [(3, .row 251)] [] (by kernel_rfl) ?_ ?_
       ·
        exact az
       refine fin_block ?_
       refine fin_then ?_
       refine tri_regD hcx [] [4] [3, 1] [251] [Fit ((k : Int) + 1)] [(4, .int ((k : Int) + 1))] [] (by kernel_rfl) ?_ ?_
       ·
        refine (ap ?_ az)
        omega
       refine fin_ren (ρ := [(251, .frz)]) (keys := [1, 3, 4]) (E' := [(1, .pto [.ls (.ints C), .ls (.ints L), .int B]), (3, .ints (((((varsZ (L.take k)).take i).drop 0) ++ [((L.getD k 0).natAbs : Int)]) ++ (((varsZ (L.take k)).take ((varsZ (L.take k)).length)).drop i))), (4, .int ((k : Int) + 1))]) (H' := []) (by kernel_rfl) ?_
       refine fin_round (k + 1) ?_ ?_ ?_ ?_
       ·
        show (k + 1) ≤ L.length
        omega
       ·
        show L.length - (k + 1) < L.length - k
        omega
       ·
        exact subE_mk (l := [.pto [.ls (.ints C), .ls (.ints L), .int B], .ints (((((varsZ (L.take k)).take i).drop 0) ++ [((L.getD k 0).natAbs : Int)]) ++ (((varsZ (L.take k)).take ((varsZ (L.take k)).length)).drop i)), .int ((k : Int) + 1)]) (m := [.pto [.ls (.ints C), .ls (.ints L), .int B], .ints (varsZ (L.take (k + 1))), .int ((k + 1) : Int)]) (by kernel_rfl) (by kernel_rfl) (consE rfl (consE (congrArg AV.ints (show (((((varsZ (L.take k)).take i).drop 0) ++ [((L.getD k 0).natAbs : Int)]) ++ (((varsZ (L.take k)).take ((varsZ (L.take k)).length)).drop i)) = varsZ (L.take (k + 1)) from (by first | (rw [varsZ_take (by omega)]; exact (insV_here (by omega) hlt (by omega)).symm) | (rw [varsZ_take (by omega)]; exact (vars_new hi hlt hcn hcn2).symm)))) (consE (congrArg AV.int (show ((k : Int) + 1) = ((k + 1) : Int) from (by first | rfl | omega | (simp; done)))) rfl)))
       ·
        kernel_rfl
   ·
    skip
    have h0 := of_decide_eq_false hb0
    refine tri_exit ?_
    refine fin_then_exit ?_
    refine fin_then_exit ?_
    refine fin_block_same ?_
    refine fin_then ?_
    refine tri_seq ?_
    refine tri_regD hcx [] [2] [] [] [] [(2, .ints (varsZ (L.take k)))] [] (by kernel_rfl) ?_ ?_
    ·
     exact az
    refine fin_then ?_
    refine tri_ret ?_
    exact fin_ret [] rfl rfl trivial hcx (avs := [.ints (varsZ (L.take k))]) (by kernel_rfl) (congrArg AV.ints (show varsZ (L.take k) = varsZ L from (by rw [List.take_of_length_le (by omega)]))) [] rfl
 ·
  cases hσ
def cx_rNorm12 : Cx := ⟨ty12, [(65, rOf12_σ), (67, (coeF [.id, .ld (.bools [])] rLit12_σ)), (18, (coeF [.agg [.ld (.ints []), .ld (.ints []), .id], .id] rCheck12_σ)), (14, (coeF [.agg [.ld (.ints []), .ld (.ints []), .id], .agg [.ld (.ints []), .ld (.ints []), .id]] rSame12_σ)), (46, (coeF [.agg [.ld (.ints []), .ld (.ints []), .id], .id] rboth12_σ)), (45, (coeF [.agg [.ld (.ints []), .ld (.ints []), .id]] rvars12_σ))]⟩
theorem cx_rNorm12_ok : CxOk Try.prog cx_rNorm12 := cx_ok ty12_ok ⟨rOf12_sound, (rLit12_sound.coe [.id, .ld (.bools [])] rfl), (rCheck12_sound.coe [.agg [.ld (.ints []), .ld (.ints []), .id], .id] rfl), (rSame12_sound.coe [.agg [.ld (.ints []), .ld (.ints []), .id], .agg [.ld (.ints []), .ld (.ints []), .id]] rfl), (rboth12_sound.coe [.agg [.ld (.ints []), .ld (.ints []), .id], .id] rfl), (rvars12_sound.coe [.agg [.ld (.ints []), .ld (.ints []), .id]] rfl), trivial⟩
def rNorm12_σ : CtF
  | [.agg [.im (.ls (.ints C)), .im (.ls (.ints L)), .im (.val (.int .i64 B))]], [] => some (C.length ≤ maxLen ∧ L.length ≤ maxLen, .agg [.row 0, .row 1, .int ((normP ⟨C, L, B⟩).B)], [some (.row 3 (.ints ((normP ⟨C, L, B⟩).C))), some (.row 3 (.ints ((normP ⟨C, L, B⟩).L)))])
  | _, _ => none
theorem rNorm12_sound : Sound Try.prog 16 rNorm12_σ := by
 refine sound_mk (cx := cx_rNorm12) (fn := Try.f16) Try.func16 (by kernel_rfl) rfl ?_
 intro w0 G0 args os p r outs hσ hp hm0 hd0
 have hcx : CxOk Try.prog cx_rNorm12 := cx_rNorm12_ok
 have hmx : Try.prog.follows .mixedOrders = true := by kernel_rfl
 unfold rNorm12_σ at hσ
 split at hσ
 ·
  rename_i C L B
  simp only [Option.some.injEq, Prod.mk.injEq] at hσ
  obtain ⟨rfl, rfl, rfl⟩ := hσ
  obtain ⟨wW, wO, wm, wβ, wd⟩ := w0
  replace hm0 : wm = 0 := hm0
  subst hm0
  replace hd0 : wd = [] := hd0
  subst hd0
  refine ⟨by kernel_rfl, ?_⟩
  change Tri ⟨_, _, _, _, _, _⟩ [(0, .agg [.ints C, .ints L, .int B])] [] _ _
  obtain ⟨hm1, hm2⟩ := hp
  refine tri_seq ?_
  refine tri_regD hcx [(1001, .to 602), (1000, .frz)] [1, 2] [] [] [] [(1, .pto [.ls (.ints C), .ls (.ints L), .int B]), (2, .loc 602 0)] [(602, .box [.im (.val (.slice none 0 0)), .im (.val (.slice none 0 0)), .int 0])] (by kernel_rfl) ?_ ?_
  ·
   exact az
  refine fin_then ?_
  refine tri_seq ?_
  refine tri_seq ?_
  refine tri_regD hcx [] [12] [1, 2] [602] [(L.length ≤ maxLen ∧ Fit (65536 : Int))] [(12, .bool ((lcheck ⟨C, L, B⟩ (65536 : Int)) != 0))] [] (by kernel_rfl) ?_ ?_
  ·
   refine (ap ?_ az)
   exact ⟨hm2, by omega⟩
  refine fin_then ?_
  refine tri_cond (b := ((lcheck ⟨C, L, B⟩ (65536 : Int)) != 0)) (by kernel_rfl) (fun hb0 => ?_) (fun hb0 => ?_)
  ·
   skip
   have h0 := bne_iff_ne.1 hb0
   have hnc : ¬ lcheck ⟨C, L, B⟩ 65536 = 0 := h0
   refine tri_seq ?_
   refine tri_regD hcx [(602, .to 602)] [] [2] [] [] [] [(602, .box [.im (.val (.slice none 0 0)), .im (.val (.slice none 0 0)), .int 0])] (by kernel_rfl) ?_ ?_
   ·
    exact az
   refine fin_then ?_
   refine tri_ret ?_
   refine fin_then_ret ?_
   refine fin_rowB 602 0 700 3 (.ints []) (by kernel_rfl) (by kernel_rfl) (by kernel_rfl) (by kernel_rfl) (H' := [(602, .box [.row 700, .im (.val (.slice none 0 0)), .int 0])]) (by kernel_rfl) ?_
   refine fin_rowB 602 1 701 3 (.ints []) (by kernel_rfl) (by kernel_rfl) (by kernel_rfl) (by kernel_rfl) (H' := [(700, .row 3 (.ints [])), (602, .box [.row 700, .row 701, .int 0])]) (by kernel_rfl) ?_
   refine fin_ren (ρ := [(700, .to 0), (701, .to 1), (602, .to 990)]) (keys := [2]) (E' := [(2, .loc 990 0)]) (H' := [(0, .row 3 (.ints [])), (1, .row 3 (.ints [])), (990, .box [.row 0, .row 1, .int 0])]) (by kernel_rfl) ?_
   exact fin_ret [] rfl rfl trivial hcx (avs := [.agg [.row 0, .row 1, .int 0]]) (by kernel_rfl) (congrArg AV.agg (consE rfl (consE rfl (consE (congrArg AV.int (show 0 = (normP ⟨C, L, B⟩).B from (by exact (congrArg LinV.B (norm_no hnc)).symm))) rfl)))) [true, true] (Eq.trans (show _ = [some (.row 3 (.ints [])), some (.row 3 (.ints []))] from by kernel_rfl) (consO (congrArg some (congrArg (fun x => AObj.row 3 (.ints x)) (show [] = (normP ⟨C, L, B⟩).C from (by exact (congrArg LinV.C (norm_no hnc)).symm)))) (consO (congrArg some (congrArg (fun x => AObj.row 3 (.ints x)) (show [] = (normP ⟨C, L, B⟩).L from (by exact (congrArg LinV.L (norm_no hnc)).symm)))) rfl)))
  ·
   skip
   have h0 := bneF hb0
   have hc : lcheck ⟨C, L, B⟩ 65536 = 0 := by first | exact h0 | exact h0.1 | omega
   obtain ⟨_, _, hl, hB, hC, hL, h4⟩ := id (lcheck_ok hc)
   replace hl : C.length = L.length := hl
   replace h4 : L.length ≤ 4096 := h4
   replace hL : ∀ x ∈ L, x ≠ 0 ∧ -65536 ≤ x ∧ x ≤ 65536 := hL
   have hvs := vars_le hL
   have hvl := varsZ_len L
   refine tri_skip ?_
   refine fin_then ?_
   refine tri_seq ?_
   refine tri_regD hcx [(1003, .to 603)] [3] [1, 2] [602] [] [(3, .loc 603 0)] [(603, .box [.im (.val (.slice none 0 0)), .im (.val (.slice none 0 0)), .int B])] (by kernel_rfl) ?_ ?_
   ·
    exact az
   refine fin_then ?_
   refine tri_seq ?_
   refine tri_regD hcx [] [4] [3, 1, 2] [603, 602] [] [(4, .int 0)] [] (by kernel_rfl) ?_ ?_
   ·
    exact az
   refine fin_then ?_
   refine tri_seq ?_
   refine tri_regD hcx [] [5] [4, 3, 1, 2] [603, 602] [(L.length ≤ 4096 ∧ ∀ x ∈ L, -9223372036854775807 ≤ x ∧ x ≤ 9223372036854775807)] [(5, .ints (varsZ L))] [] (by kernel_rfl) ?_ ?_
   ·
    refine (ap ?_ az)
    exact ⟨h4, fun x hx => by have := hL x hx; omega⟩
   refine fin_then ?_
   refine tri_seq ?_
   refine tri_seq ?_
   refine tri_regD hcx [] [6] [5, 4, 3, 1, 2] [603, 602] [] [(6, .int 0)] [] (by kernel_rfl) ?_ ?_
   ·
    exact az
   refine fin_then ?_
   refine tri_block ?_
   refine tri_rowB 603 0 10 3 (.ints []) (by kernel_rfl) (by kernel_rfl) (by kernel_rfl) (by kernel_rfl) (H' := [(603, .box [.row 10, .im (.val (.slice none 0 0)), .int B]), (602, .box [.im (.val (.slice none 0 0)), .im (.val (.slice none 0 0)), .int 0])]) (by kernel_rfl) ?_
   refine tri_rowB 603 1 11 3 (.ints []) (by kernel_rfl) (by kernel_rfl) (by kernel_rfl) (by kernel_rfl) (H' := [(10, .row 3 (.ints [])), (603, .box [.row 10, .row 11, .int B]), (602, .box [.im (.val (.slice none 0 0)), .im (.val (.slice none 0 0)), .int 0])]) (by kernel_rfl) ?_
   refine tri_ren (ρ := [(10, .to 10), (11, .to 11), (602, .to 602), (603, .to 603)]) (keys := [1, 2, 3, 4, 5, 6]) (E' := [(1, .pto [.ls (.ints C), .ls (.ints L), .int B]), (2, .loc 602 0), (3, .loc 603 0), (4, .int 0), (5, .ints (varsZ L)), (6, .int 0)]) (H' := [(10, .row 3 (.ints [])), (11, .row 3 (.ints [])), (602, .box [.im (.val (.slice none 0 0)), .im (.val (.slice none 0 0)), .int 0]), (603, .box [.row 10, .row 11, .int B])]) (by kernel_rfl) ?_
   refine tri_loop (X := Nat) (fun x0 => x0 ≤ (varsZ L).length) (fun x0 => [(1, .pto [.ls (.ints C), .ls (.ints L), .int B]), (2, .loc 602 0), (3, .loc 603 0), (4, .int (nA ⟨C, L, B⟩ (varsZ L) x0)), (5, .ints (varsZ L)), (6, .int (x0 : Int))]) (fun x0 => [(10, .row 3 (.ints (nC ⟨C, L, B⟩ (varsZ L) x0))), (11, .row 3 (.ints (nL ⟨C, L, B⟩ (varsZ L) x0))), (602, .box [.im (.val (.slice none 0 0)), .im (.val (.slice none 0 0)), .int 0]), (603, .box [.row 10, .row 11, .int (nB ⟨C, L, B⟩ (varsZ L) x0)])]) (fun x0 => (varsZ L).length - x0) (0) ?_ ?_ ?_ ?_
   ·
    show 0 ≤ (varsZ L).length
    omega
   ·
    exact subE_mk (l := [.pto [.ls (.ints C), .ls (.ints L), .int B], .loc 602 0, .loc 603 0, .int 0, .ints (varsZ L), .int 0]) (m := [.pto [.ls (.ints C), .ls (.ints L), .int B], .loc 602 0, .loc 603 0, .int (nA ⟨C, L, B⟩ (varsZ L) 0), .ints (varsZ L), .int (0 : Int)]) (by kernel_rfl) (by kernel_rfl) (consE rfl (consE rfl (consE rfl (consE (congrArg AV.int (show 0 = nA ⟨C, L, B⟩ (varsZ L) 0 from (by simp [nA, termsP, sumF1]))) (consE rfl (consE (congrArg AV.int (show 0 = (0 : Int) from (by first | rfl | omega | (simp; done)))) rfl))))))
   ·
    exact Eq.trans (show _ = [(10, .row 3 (.ints [])), (11, .row 3 (.ints [])), (602, .box [.im (.val (.slice none 0 0)), .im (.val (.slice none 0 0)), .int 0]), (603, .box [.row 10, .row 11, .int B])] from by kernel_rfl) (consH (congrArg (fun x => ((10 : Nat), x)) (congrArg (fun x => AObj.row 3 (.ints x)) (show [] = nC ⟨C, L, B⟩ (varsZ L) 0 from (by simp [nC, termsP])))) (consH (congrArg (fun x => ((11 : Nat), x)) (congrArg (fun x => AObj.row 3 (.ints x)) (show [] = nL ⟨C, L, B⟩ (varsZ L) 0 from (by simp [nL, termsP])))) (consH rfl (consH (congrArg (fun x => ((603 : Nat), x)) (congrArg AObj.box (consE rfl (consE rfl (consE (congrArg AV.int (show B = nB ⟨C, L, B⟩ (varsZ L) 0 from (by simp [nB, minsP]))) rfl))))) rfl))))
   ·
    intro k hI
    replace hI : k ≤ (varsZ L).length := hI
    change Tri _ [(1, .pto [.ls (.ints C), .ls (.ints L), .int B]), (2, .loc 602 0), (3, .loc 603 0), (4, .int (nA ⟨C, L, B⟩ (varsZ L) k)), (5, .ints (varsZ L)), (6, .int (k : Int))] [(10, .row 3 (.ints (nC ⟨C, L, B⟩ (varsZ L) k))), (11, .row 3 (.ints (nL ⟨C, L, B⟩ (varsZ L) k))), (602, .box [.im (.val (.slice none 0 0)), .im (.val (.slice none 0 0)), .int 0]), (603, .box [.row 10, .row 11, .int (nB ⟨C, L, B⟩ (varsZ L) k)])] _ _
    have ha1 := cf_bd hc ((varsZ L).getD k 0)
    have ha2 := cf_bd hc (-((varsZ L).getD k 0))
    have hb1 : -4504699138998272 ≤ nB ⟨C, L, B⟩ (varsZ L) k ∧ nB ⟨C, L, B⟩ (varsZ L) k ≤ 4504699138998272 := nB_bd hc k
    have hA1 : 0 ≤ nA ⟨C, L, B⟩ (varsZ L) k ∧ nA ⟨C, L, B⟩ (varsZ L) k ≤ 4503599627370496 := nA_bd hc k
    have hnl := nC_len ⟨C, L, B⟩ (varsZ L) k
    have hvp : k < (varsZ L).length → -65536 ≤ (varsZ L).getD k 0 ∧ (varsZ L).getD k 0 ≤ 65536 := fun hk => by have := hvs _ (getD_mem hk); omega
    refine tri_seq ?_
    refine tri_seq ?_
    refine tri_regD hcx [] [22] [1, 2, 3, 4, 5, 6] [10, 11, 602, 603] [] [(22, .bool (decide ((k : Int) < ((varsZ L).length : Int))))] [] (by kernel_rfl) ?_ ?_
    ·
     exact az
    refine fin_then ?_
    refine tri_cond (b := (decide ((k : Int) < ((varsZ L).length : Int)))) (by kernel_rfl) (fun hb1 => ?_) (fun hb1 => ?_)
    ·
     skip
     have h1 := of_decide_eq_true hb1
     refine tri_skip ?_
     refine fin_then ?_
     refine tri_seq ?_
     refine tri_block ?_
     refine tri_seq ?_
     refine tri_drawD [0, 0, 0, 6, 14, 31, 63, 127, 127, 255, 1023] hcx hmx [] [7, 8] [1, 2, 3, 4, 5, 6] [10, 11, 602, 603] [((0 : Int) ≤ (k : Int) ∧ (k : Int) < ((varsZ L).length : Int)), (lcheck ⟨C, L, B⟩ 65536 = 0 ∧ -9223372036854775807 ≤ ((varsZ L).getD k 0) ∧ ((varsZ L).getD k 0) ≤ 9223372036854775807)] [(7, .int (cf ⟨C, L, B⟩ ((varsZ L).getD k 0))), (8, .int (cf ⟨C, L, B⟩ (-((varsZ L).getD k 0))))] [] (by kernel_rfl) ?_ ?_
     ·
      refine (ap (by omega) (ap ?_ az))
      have hv := hvs _ (getD_mem (l := varsZ L) (k := k) (by omega)); exact ⟨hc, by omega, by omega⟩
     refine fin_then ?_
     refine tri_seq ?_
     refine tri_regD hcx [(603, .to 603)] [] [7, 8, 1, 2, 3, 4, 5, 6] [10, 11, 602] [Fit (nB ⟨C, L, B⟩ (varsZ L) k - (min (cf ⟨C, L, B⟩ ((varsZ L).getD k 0)) (cf ⟨C, L, B⟩ (-((varsZ L).getD k 0)))))] [] [(603, .box [.row 10, .row 11, .int (nB ⟨C, L, B⟩ (varsZ L) k - (min (cf ⟨C, L, B⟩ ((varsZ L).getD k 0)) (cf ⟨C, L, B⟩ (-((varsZ L).getD k 0)))))])] (by kernel_rfl) ?_ ?_
     ·
      refine (ap ?_ az)
      omega
     refine fin_then ?_
     refine tri_seq ?_
     refine tri_seq ?_
     refine tri_regD hcx [] [43] [7, 8, 1, 2, 3, 4, 5, 6] [603, 10, 11, 602] [] [(43, .bool (decide (cf ⟨C, L, B⟩ ((varsZ L).getD k 0) > cf ⟨C, L, B⟩ (-((varsZ L).getD k 0)))))] [] (by kernel_rfl) ?_ ?_
     ·
      exact az
     refine fin_then ?_
     refine tri_cond (b := (decide (cf ⟨C, L, B⟩ ((varsZ L).getD k 0) > cf ⟨C, L, B⟩ (-((varsZ L).getD k 0))))) (by kernel_rfl) (fun hb2 => ?_) (fun hb2 => ?_)
     ·
      skip
      have h2 := of_decide_eq_true hb2
      refine tri_seq ?_
      refine tri_regD hcx [(1006, .to 10), (603, .to 603)] [] [7, 8, 1, 2, 3, 4, 5, 6] [11, 602] [Fit (cf ⟨C, L, B⟩ ((varsZ L).getD k 0) - cf ⟨C, L, B⟩ (-((varsZ L).getD k 0))), (((nC ⟨C, L, B⟩ (varsZ L) k).length + [(cf ⟨C, L, B⟩ ((varsZ L).getD k 0) - cf ⟨C, L, B⟩ (-((varsZ L).getD k 0)))].length) * 8 ≤ 140737488355328)] [] [(10, .row 3 (.ints ((nC ⟨C, L, B⟩ (varsZ L) k) ++ [(cf ⟨C, L, B⟩ ((varsZ L).getD k 0) - cf ⟨C, L, B⟩ (-((varsZ L).getD k 0)))]))), (603, .box [.row 10, .row 11, .int (nB ⟨C, L, B⟩ (varsZ L) k - (min (cf ⟨C, L, B⟩ ((varsZ L).getD k 0)) (cf ⟨C, L, B⟩ (-((varsZ L).getD k 0)))))])] (by kernel_rfl) ?_ ?_
      ·
       refine (ap (by omega) (ap ?_ az))
       simp only [List.length_cons, List.length_nil]; omega
      refine fin_then ?_
      refine tri_drawD [0, 1, 0, 0, 12, 28, 60, 127, 255, 511] hcx hmx [(1007, .to 11), (603, .to 603)] [] [7, 8, 1, 2, 3, 4, 5, 6] [10, 602] [((0 : Int) ≤ (k : Int) ∧ (k : Int) < ((varsZ L).length : Int)), (((nL ⟨C, L, B⟩ (varsZ L) k).length + [((varsZ L).getD k 0)].length) * 8 ≤ 140737488355328)] [] [(11, .row 3 (.ints ((nL ⟨C, L, B⟩ (varsZ L) k) ++ [((varsZ L).getD k 0)]))), (603, .box [.row 10, .row 11, .int (nB ⟨C, L, B⟩ (varsZ L) k - (min (cf ⟨C, L, B⟩ ((varsZ L).getD k 0)) (cf ⟨C, L, B⟩ (-((varsZ L).getD k 0)))))])] (by kernel_rfl) ?_ ?_
      ·
       refine (ap (by omega) (ap ?_ az))
       simp only [List.length_cons, List.length_nil]; omega
      refine fin_then ?_
      refine tri_seq ?_
      refine tri_seq ?_
      refine tri_regD hcx [] [63] [7, 8, 1, 2, 3, 4, 5, 6] [11, 603, 10, 602] [] [(63, .bool (decide (cf ⟨C, L, B⟩ (-((varsZ L).getD k 0)) > cf ⟨C, L, B⟩ ((varsZ L).getD k 0))))] [] (by kernel_rfl) ?_ ?_
      ·
       exact az
      refine fin_then ?_
      refine tri_cond (b := (decide (cf ⟨C, L, B⟩ (-((varsZ L).getD k 0)) > cf ⟨C, L, B⟩ ((varsZ L).getD k 0)))) (by kernel_rfl) (fun hb3 => ?_) (fun hb3 => ?_)
      ·
       skip
       have h3 := of_decide_eq_true hb3
       refine tri_seq ?_
       refine tri_regD hcx [(1006, .to 10), (603, .to 603)] [] [7, 8, 1, 2, 3, 4, 5, 6] [11, 602] [Fit (cf ⟨C, L, B⟩ (-((varsZ L).getD k 0)) - cf ⟨C, L, B⟩ ((varsZ L).getD k 0)), ((((nC ⟨C, L, B⟩ (varsZ L) k) ++ [(cf ⟨C, L, B⟩ ((varsZ L).getD k 0) - cf ⟨C, L, B⟩ (-((varsZ L).getD k 0)))]).length + [(cf ⟨C, L, B⟩ (-((varsZ L).getD k 0)) - cf ⟨C, L, B⟩ ((varsZ L).getD k 0))].length) * 8 ≤ 140737488355328)] [] [(10, .row 3 (.ints (((nC ⟨C, L, B⟩ (varsZ L) k) ++ [(cf ⟨C, L, B⟩ ((varsZ L).getD k 0) - cf ⟨C, L, B⟩ (-((varsZ L).getD k 0)))]) ++ [(cf ⟨C, L, B⟩ (-((varsZ L).getD k 0)) - cf ⟨C, L, B⟩ ((varsZ L).getD k 0))]))), (603, .box [.row 10, .row 11, .int (nB ⟨C, L, B⟩ (varsZ L) k - (min (cf ⟨C, L, B⟩ ((varsZ L).getD k 0)) (cf ⟨C, L, B⟩ (-((varsZ L).getD k 0)))))])] (by kernel_rfl) ?_ ?_
       ·
        refine (ap (by omega) (ap ?_ az))
        simp only [List.length_cons, List.length_nil]; omega
       refine fin_then ?_
       refine tri_drawD [0, 1, 0, 0, 12, 28, 60, 124, 255, 511, 1023] hcx hmx [(1008, .to 11), (603, .to 603)] [] [7, 8, 1, 2, 3, 4, 5, 6] [10, 602] [((0 : Int) ≤ (k : Int) ∧ (k : Int) < ((varsZ L).length : Int)), Fit (0 - ((varsZ L).getD k 0)), ((((nL ⟨C, L, B⟩ (varsZ L) k) ++ [((varsZ L).getD k 0)]).length + [(0 - ((varsZ L).getD k 0))].length) * 8 ≤ 140737488355328)] [] [(11, .row 3 (.ints (((nL ⟨C, L, B⟩ (varsZ L) k) ++ [((varsZ L).getD k 0)]) ++ [(0 - ((varsZ L).getD k 0))]))), (603, .box [.row 10, .row 11, .int (nB ⟨C, L, B⟩ (varsZ L) k - (min (cf ⟨C, L, B⟩ ((varsZ L).getD k 0)) (cf ⟨C, L, B⟩ (-((varsZ L).getD k 0)))))])] (by kernel_rfl) ?_ ?_
       ·
        refine (ap (by omega) (ap (by omega) (ap ?_ az)))
        simp only [List.length_cons, List.length_nil]; omega
       refine fin_then ?_
       refine tri_regD hcx [] [4] [1, 2, 3, 5, 6] [11, 603, 10, 602] [Fit (nA ⟨C, L, B⟩ (varsZ L) k + (max (cf ⟨C, L, B⟩ ((varsZ L).getD k 0)) (cf ⟨C, L, B⟩ (-((varsZ L).getD k 0))))), Fit ((nA ⟨C, L, B⟩ (varsZ L) k + (max (cf ⟨C, L, B⟩ ((varsZ L).getD k 0)) (cf ⟨C, L, B⟩ (-((varsZ L).getD k 0))))) - (min (cf ⟨C, L, B⟩ ((varsZ L).getD k 0)) (cf ⟨C, L, B⟩ (-((varsZ L).getD k 0)))))] [(4, .int ((nA ⟨C, L, B⟩ (varsZ L) k + (max (cf ⟨C, L, B⟩ ((varsZ L).getD k 0)) (cf ⟨C, L, B⟩ (-((varsZ L).getD k 0))))) - (min (cf ⟨C, L, B⟩ ((varsZ L).getD k 0)) (cf ⟨C, L, B⟩ (-((varsZ L).getD k 0))))))] [] (by kernel_rfl) ?_ ?_
       ·
        refine (ap ?_ (ap ?_ az))
        all_goals
         omega
       refine fin_block ?_
       refine fin_then ?_
       refine tri_regD hcx [] [6] [4, 1, 2, 3, 5] [11, 603, 10, 602] [Fit ((k : Int) + 1)] [(6, .int ((k : Int) + 1))] [] (by kernel_rfl) ?_ ?_
       ·
        refine (ap ?_ az)
        omega
       refine fin_ren (ρ := [(10, .to 10), (11, .to 11), (602, .to 602), (603, .to 603)]) (keys := [1, 2, 3, 4, 5, 6]) (E' := [(1, .pto [.ls (.ints C), .ls (.ints L), .int B]), (2, .loc 602 0), (3, .loc 603 0), (4, .int ((nA ⟨C, L, B⟩ (varsZ L) k + (max (cf ⟨C, L, B⟩ ((varsZ L).getD k 0)) (cf ⟨C, L, B⟩ (-((varsZ L).getD k 0))))) - (min (cf ⟨C, L, B⟩ ((varsZ L).getD k 0)) (cf ⟨C, L, B⟩ (-((varsZ L).getD k 0)))))), (5, .ints (varsZ L)), (6, .int ((k : Int) + 1))]) (H' := [(10, .row 3 (.ints (((nC ⟨C, L, B⟩ (varsZ L) k) ++ [(cf ⟨C, L, B⟩ ((varsZ L).getD k 0) - cf ⟨C, L, B⟩ (-((varsZ L).getD k 0)))]) ++ [(cf ⟨C, L, B⟩ (-((varsZ L).getD k 0)) - cf ⟨C, L, B⟩ ((varsZ L).getD k 0))]))), (11, .row 3 (.ints (((nL ⟨C, L, B⟩ (varsZ L) k) ++ [((varsZ L).getD k 0)]) ++ [(0 - ((varsZ L).getD k 0))]))), (602, .box [.im (.val (.slice none 0 0)), .im (.val (.slice none 0 0)), .int 0]), (603, .box [.row 10, .row 11, .int (nB ⟨C, L, B⟩ (varsZ L) k - (min (cf ⟨C, L, B⟩ ((varsZ L).getD k 0)) (cf ⟨C, L, B⟩ (-((varsZ L).getD k 0)))))])]) (by kernel_rfl) ?_
       refine fin_round (k + 1) ?_ ?_ ?_ ?_
       ·
        show (k + 1) ≤ (varsZ L).length
        omega
       ·
        show (varsZ L).length - (k + 1) < (varsZ L).length - k
        omega
       ·
        exact subE_mk (l := [.pto [.ls (.ints C), .ls (.ints L), .int B], .loc 602 0, .loc 603 0, .int ((nA ⟨C, L, B⟩ (varsZ L) k + (max (cf ⟨C, L, B⟩ ((varsZ L).getD k 0)) (cf ⟨C, L, B⟩ (-((varsZ L).getD k 0))))) - (min (cf ⟨C, L, B⟩ ((varsZ L).getD k 0)) (cf ⟨C, L, B⟩ (-((varsZ L).getD k 0))))), .ints (varsZ L), .int ((k : Int) + 1)]) (m := [.pto [.ls (.ints C), .ls (.ints L), .int B], .loc 602 0, .loc 603 0, .int (nA ⟨C, L, B⟩ (varsZ L) (k + 1)), .ints (varsZ L), .int ((k + 1) : Int)]) (by kernel_rfl) (by kernel_rfl) (consE rfl (consE rfl (consE rfl (consE (congrArg AV.int (show ((nA ⟨C, L, B⟩ (varsZ L) k + (max (cf ⟨C, L, B⟩ ((varsZ L).getD k 0)) (cf ⟨C, L, B⟩ (-((varsZ L).getD k 0))))) - (min (cf ⟨C, L, B⟩ ((varsZ L).getD k 0)) (cf ⟨C, L, B⟩ (-((varsZ L).getD k 0))))) = nA ⟨C, L, B⟩ (varsZ L) (k + 1) from (by exact (nA_succ (by omega)).symm))) (consE rfl (consE (congrArg AV.int (show ((k : Int) + 1) = ((k + 1) : Int) from (by first | rfl | omega | (simp; done)))) rfl))))))
       ·
        exact Eq.trans (show _ = [(10, .row 3 (.ints (((nC ⟨C, L, B⟩ (varsZ L) k) ++ [(cf ⟨C, L, B⟩ ((varsZ L).getD k 0) - cf ⟨C, L, B⟩ (-((varsZ L).getD k 0)))]) ++ [(cf ⟨C, L, B⟩ (-((varsZ L).getD k 0)) - cf ⟨C, L, B⟩ ((varsZ L).getD k 0))]))), (11, .row 3 (.ints (((nL ⟨C, L, B⟩ (varsZ L) k) ++ [((varsZ L).getD k 0)]) ++ [(0 - ((varsZ L).getD k 0))]))), (602, .box [.im (.val (.slice none 0 0)), .im (.val (.slice none 0 0)), .int 0]), (603, .box [.row 10, .row 11, .int (nB ⟨C, L, B⟩ (varsZ L) k - (min (cf ⟨C, L, B⟩ ((varsZ L).getD k 0)) (cf ⟨C, L, B⟩ (-((varsZ L).getD k 0)))))])] from by kernel_rfl) (consH (congrArg (fun x => ((10 : Nat), x)) (congrArg (fun x => AObj.row 3 (.ints x)) (show (((nC ⟨C, L, B⟩ (varsZ L) k) ++ [(cf ⟨C, L, B⟩ ((varsZ L).getD k 0) - cf ⟨C, L, B⟩ (-((varsZ L).getD k 0)))]) ++ [(cf ⟨C, L, B⟩ (-((varsZ L).getD k 0)) - cf ⟨C, L, B⟩ ((varsZ L).getD k 0))]) = nC ⟨C, L, B⟩ (varsZ L) (k + 1) from (by first | exact (nC_gt (by omega) (by omega)).1.symm | exact (nC_lt (by omega) (by omega)).1.symm | exact (nC_eq (by omega) (by omega) (by omega)).1.symm | (exfalso; omega))))) (consH (congrArg (fun x => ((11 : Nat), x)) (congrArg (fun x => AObj.row 3 (.ints x)) (show (((nL ⟨C, L, B⟩ (varsZ L) k) ++ [((varsZ L).getD k 0)]) ++ [(0 - ((varsZ L).getD k 0))]) = nL ⟨C, L, B⟩ (varsZ L) (k + 1) from (by first | exact (nC_gt (by omega) (by omega)).2.symm | (rw [Int.zero_sub]; exact (nC_lt (by omega) (by omega)).2.symm) | exact (nC_eq (by omega) (by omega) (by omega)).2.symm | (exfalso; omega))))) (consH rfl (consH (congrArg (fun x => ((603 : Nat), x)) (congrArg AObj.box (consE rfl (consE rfl (consE (congrArg AV.int (show (nB ⟨C, L, B⟩ (varsZ L) k - (min (cf ⟨C, L, B⟩ ((varsZ L).getD k 0)) (cf ⟨C, L, B⟩ (-((varsZ L).getD k 0))))) = nB ⟨C, L, B⟩ (varsZ L) (k + 1) from (by exact (nB_succ (by omega)).symm))) rfl))))) rfl))))
      ·
       skip
       have h3 := of_decide_eq_false hb3
       refine tri_skip ?_
       refine fin_then ?_
       refine tri_regD hcx [] [4] [1, 2, 3, 5, 6] [11, 603, 10, 602] [Fit (nA ⟨C, L, B⟩ (varsZ L) k + (max (cf ⟨C, L, B⟩ ((varsZ L).getD k 0)) (cf ⟨C, L, B⟩ (-((varsZ L).getD k 0))))), Fit ((nA ⟨C, L, B⟩ (varsZ L) k + (max (cf ⟨C, L, B⟩ ((varsZ L).getD k 0)) (cf ⟨C, L, B⟩ (-((varsZ L).getD k 0))))) - (min (cf ⟨C, L, B⟩ ((varsZ L).getD k 0)) (cf ⟨C, L, B⟩ (-((varsZ L).getD k 0)))))] [(4, .int ((nA ⟨C, L, B⟩ (varsZ L) k + (max (cf ⟨C, L, B⟩ ((varsZ L).getD k 0)) (cf ⟨C, L, B⟩ (-((varsZ L).getD k 0))))) - (min (cf ⟨C, L, B⟩ ((varsZ L).getD k 0)) (cf ⟨C, L, B⟩ (-((varsZ L).getD k 0))))))] [] (by kernel_rfl) ?_ ?_
       ·
        refine (ap ?_ (ap ?_ az))
        all_goals
         omega
       refine fin_block ?_
       refine fin_then ?_
       refine tri_regD hcx [] [6] [4, 1, 2, 3, 5] [11, 603, 10, 602] [Fit ((k : Int) + 1)] [(6, .int ((k : Int) + 1))] [] (by kernel_rfl) ?_ ?_
       ·
        refine (ap ?_ az)
        omega
       refine fin_ren (ρ := [(10, .to 10), (11, .to 11), (602, .to 602), (603, .to 603)]) (keys := [1, 2, 3, 4, 5, 6]) (E' := [(1, .pto [.ls (.ints C), .ls (.ints L), .int B]), (2, .loc 602 0), (3, .loc 603 0), (4, .int ((nA ⟨C, L, B⟩ (varsZ L) k + (max (cf ⟨C, L, B⟩ ((varsZ L).getD k 0)) (cf ⟨C, L, B⟩ (-((varsZ L).getD k 0))))) - (min (cf ⟨C, L, B⟩ ((varsZ L).getD k 0)) (cf ⟨C, L, B⟩ (-((varsZ L).getD k 0)))))), (5, .ints (varsZ L)), (6, .int ((k : Int) + 1))]) (H' := [(10, .row 3 (.ints ((nC ⟨C, L, B⟩ (varsZ L) k) ++ [(cf ⟨C, L, B⟩ ((varsZ L).getD k 0) - cf ⟨C, L, B⟩ (-((varsZ L).getD k 0)))]))), (11, .row 3 (.ints ((nL ⟨C, L, B⟩ (varsZ L) k) ++ [((varsZ L).getD k 0)]))), (602, .box [.im (.val (.slice none 0 0)), .im (.val (.slice none 0 0)), .int 0]), (603, .box [.row 10, .row 11, .int (nB ⟨C, L, B⟩ (varsZ L) k - (min (cf ⟨C, L, B⟩ ((varsZ L).getD k 0)) (cf ⟨C, L, B⟩ (-((varsZ L).getD k 0)))))])]) (by kernel_rfl) ?_
       refine fin_round (k + 1) ?_ ?_ ?_ ?_
       ·
        show (k + 1) ≤ (varsZ L).length
        omega
       ·
        show (varsZ L).length - (k + 1) < (varsZ L).length - k
        omega
       ·
        exact subE_mk (l := [.pto [.ls (.ints C), .ls (.ints L), .int B], .loc 602 0, .loc 603 0, .int ((nA ⟨C, L, B⟩ (varsZ L) k + (max (cf ⟨C, L, B⟩ ((varsZ L).getD k 0)) (cf ⟨C, L, B⟩ (-((varsZ L).getD k 0))))) - (min (cf ⟨C, L, B⟩ ((varsZ L).getD k 0)) (cf ⟨C, L, B⟩ (-((varsZ L).getD k 0))))), .ints (varsZ L), .int ((k : Int) + 1)]) (m := [.pto [.ls (.ints C), .ls (.ints L), .int B], .loc 602 0, .loc 603 0, .int (nA ⟨C, L, B⟩ (varsZ L) (k + 1)), .ints (varsZ L), .int ((k + 1) : Int)]) (by kernel_rfl) (by kernel_rfl) (consE rfl (consE rfl (consE rfl (consE (congrArg AV.int (show ((nA ⟨C, L, B⟩ (varsZ L) k + (max (cf ⟨C, L, B⟩ ((varsZ L).getD k 0)) (cf ⟨C, L, B⟩ (-((varsZ L).getD k 0))))) - (min (cf ⟨C, L, B⟩ ((varsZ L).getD k 0)) (cf ⟨C, L, B⟩ (-((varsZ L).getD k 0))))) = nA ⟨C, L, B⟩ (varsZ L) (k + 1) from (by exact (nA_succ (by omega)).symm))) (consE rfl (consE (congrArg AV.int (show ((k : Int) + 1) = ((k + 1) : Int) from (by first | rfl | omega | (simp; done)))) rfl))))))
       ·
        exact Eq.trans (show _ = [(10, .row 3 (.ints ((nC ⟨C, L, B⟩ (varsZ L) k) ++ [(cf ⟨C, L, B⟩ ((varsZ L).getD k 0) - cf ⟨C, L, B⟩ (-((varsZ L).getD k 0)))]))), (11, .row 3 (.ints ((nL ⟨C, L, B⟩ (varsZ L) k) ++ [((varsZ L).getD k 0)]))), (602, .box [.im (.val (.slice none 0 0)), .im (.val (.slice none 0 0)), .int 0]), (603, .box [.row 10, .row 11, .int (nB ⟨C, L, B⟩ (varsZ L) k - (min (cf ⟨C, L, B⟩ ((varsZ L).getD k 0)) (cf ⟨C, L, B⟩ (-((varsZ L).getD k 0)))))])] from by kernel_rfl) (consH (congrArg (fun x => ((10 : Nat), x)) (congrArg (fun x => AObj.row 3 (.ints x)) (show ((nC ⟨C, L, B⟩ (varsZ L) k) ++ [(cf ⟨C, L, B⟩ ((varsZ L).getD k 0) - cf ⟨C, L, B⟩ (-((varsZ L).getD k 0)))]) = nC ⟨C, L, B⟩ (varsZ L) (k + 1) from (by first | exact (nC_gt (by omega) (by omega)).1.symm | exact (nC_lt (by omega) (by omega)).1.symm | exact (nC_eq (by omega) (by omega) (by omega)).1.symm | (exfalso; omega))))) (consH (congrArg (fun x => ((11 : Nat), x)) (congrArg (fun x => AObj.row 3 (.ints x)) (show ((nL ⟨C, L, B⟩ (varsZ L) k) ++ [((varsZ L).getD k 0)]) = nL ⟨C, L, B⟩ (varsZ L) (k + 1) from (by first | exact (nC_gt (by omega) (by omega)).2.symm | (rw [Int.zero_sub]; exact (nC_lt (by omega) (by omega)).2.symm) | exact (nC_eq (by omega) (by omega) (by omega)).2.symm | (exfalso; omega))))) (consH rfl (consH (congrArg (fun x => ((603 : Nat), x)) (congrArg AObj.box (consE rfl (consE rfl (consE (congrArg AV.int (show (nB ⟨C, L, B⟩ (varsZ L) k - (min (cf ⟨C, L, B⟩ ((varsZ L).getD k 0)) (cf ⟨C, L, B⟩ (-((varsZ L).getD k 0))))) = nB ⟨C, L, B⟩ (varsZ L) (k + 1) from (by exact (nB_succ (by omega)).symm))) rfl))))) rfl))))
     ·
      skip
      have h2 := of_decide_eq_false hb2
      refine tri_skip ?_
      refine fin_then ?_
      refine tri_seq ?_
      refine tri_seq ?_
      refine tri_regD hcx [] [63] [7, 8, 1, 2, 3, 4, 5, 6] [603, 10, 11, 602] [] [(63, .bool (decide (cf ⟨C, L, B⟩ (-((varsZ L).getD k 0)) > cf ⟨C, L, B⟩ ((varsZ L).getD k 0))))] [] (by kernel_rfl) ?_ ?_
      ·
       exact az
      refine fin_then ?_
      refine tri_cond (b := (decide (cf ⟨C, L, B⟩ (-((varsZ L).getD k 0)) > cf ⟨C, L, B⟩ ((varsZ L).getD k 0)))) (by kernel_rfl) (fun hb4 => ?_) (fun hb4 => ?_)
      ·
       skip
       have h4 := of_decide_eq_true hb4
       refine tri_seq ?_
       refine tri_regD hcx [(1006, .to 10), (603, .to 603)] [] [7, 8, 1, 2, 3, 4, 5, 6] [11, 602] [Fit (cf ⟨C, L, B⟩ (-((varsZ L).getD k 0)) - cf ⟨C, L, B⟩ ((varsZ L).getD k 0)), (((nC ⟨C, L, B⟩ (varsZ L) k).length + [(cf ⟨C, L, B⟩ (-((varsZ L).getD k 0)) - cf ⟨C, L, B⟩ ((varsZ L).getD k 0))].length) * 8 ≤ 140737488355328)] [] [(10, .row 3 (.ints ((nC ⟨C, L, B⟩ (varsZ L) k) ++ [(cf ⟨C, L, B⟩ (-((varsZ L).getD k 0)) - cf ⟨C, L, B⟩ ((varsZ L).getD k 0))]))), (603, .box [.row 10, .row 11, .int (nB ⟨C, L, B⟩ (varsZ L) k - (min (cf ⟨C, L, B⟩ ((varsZ L).getD k 0)) (cf ⟨C, L, B⟩ (-((varsZ L).getD k 0)))))])] (by kernel_rfl) ?_ ?_
       ·
        refine (ap (by omega) (ap ?_ az))
        simp only [List.length_cons, List.length_nil]; omega
       refine fin_then ?_
       refine tri_drawD [0, 1, 0, 0, 12, 28, 60, 124, 255, 511, 1023] hcx hmx [(1008, .to 11), (603, .to 603)] [] [7, 8, 1, 2, 3, 4, 5, 6] [10, 602] [((0 : Int) ≤ (k : Int) ∧ (k : Int) < ((varsZ L).length : Int)), Fit (0 - ((varsZ L).getD k 0)), (((nL ⟨C, L, B⟩ (varsZ L) k).length + [(0 - ((varsZ L).getD k 0))].length) * 8 ≤ 140737488355328)] [] [(11, .row 3 (.ints ((nL ⟨C, L, B⟩ (varsZ L) k) ++ [(0 - ((varsZ L).getD k 0))]))), (603, .box [.row 10, .row 11, .int (nB ⟨C, L, B⟩ (varsZ L) k - (min (cf ⟨C, L, B⟩ ((varsZ L).getD k 0)) (cf ⟨C, L, B⟩ (-((varsZ L).getD k 0)))))])] (by kernel_rfl) ?_ ?_
       ·
        refine (ap (by omega) (ap (by omega) (ap ?_ az)))
        simp only [List.length_cons, List.length_nil]; omega
       refine fin_then ?_
       refine tri_regD hcx [] [4] [1, 2, 3, 5, 6] [11, 603, 10, 602] [Fit (nA ⟨C, L, B⟩ (varsZ L) k + (max (cf ⟨C, L, B⟩ ((varsZ L).getD k 0)) (cf ⟨C, L, B⟩ (-((varsZ L).getD k 0))))), Fit ((nA ⟨C, L, B⟩ (varsZ L) k + (max (cf ⟨C, L, B⟩ ((varsZ L).getD k 0)) (cf ⟨C, L, B⟩ (-((varsZ L).getD k 0))))) - (min (cf ⟨C, L, B⟩ ((varsZ L).getD k 0)) (cf ⟨C, L, B⟩ (-((varsZ L).getD k 0)))))] [(4, .int ((nA ⟨C, L, B⟩ (varsZ L) k + (max (cf ⟨C, L, B⟩ ((varsZ L).getD k 0)) (cf ⟨C, L, B⟩ (-((varsZ L).getD k 0))))) - (min (cf ⟨C, L, B⟩ ((varsZ L).getD k 0)) (cf ⟨C, L, B⟩ (-((varsZ L).getD k 0))))))] [] (by kernel_rfl) ?_ ?_
       ·
        refine (ap ?_ (ap ?_ az))
        all_goals
         omega
       refine fin_block ?_
       refine fin_then ?_
       refine tri_regD hcx [] [6] [4, 1, 2, 3, 5] [11, 603, 10, 602] [Fit ((k : Int) + 1)] [(6, .int ((k : Int) + 1))] [] (by kernel_rfl) ?_ ?_
       ·
        refine (ap ?_ az)
        omega
       refine fin_ren (ρ := [(10, .to 10), (11, .to 11), (602, .to 602), (603, .to 603)]) (keys := [1, 2, 3, 4, 5, 6]) (E' := [(1, .pto [.ls (.ints C), .ls (.ints L), .int B]), (2, .loc 602 0), (3, .loc 603 0), (4, .int ((nA ⟨C, L, B⟩ (varsZ L) k + (max (cf ⟨C, L, B⟩ ((varsZ L).getD k 0)) (cf ⟨C, L, B⟩ (-((varsZ L).getD k 0))))) - (min (cf ⟨C, L, B⟩ ((varsZ L).getD k 0)) (cf ⟨C, L, B⟩ (-((varsZ L).getD k 0)))))), (5, .ints (varsZ L)), (6, .int ((k : Int) + 1))]) (H' := [(10, .row 3 (.ints ((nC ⟨C, L, B⟩ (varsZ L) k) ++ [(cf ⟨C, L, B⟩ (-((varsZ L).getD k 0)) - cf ⟨C, L, B⟩ ((varsZ L).getD k 0))]))), (11, .row 3 (.ints ((nL ⟨C, L, B⟩ (varsZ L) k) ++ [(0 - ((varsZ L).getD k 0))]))), (602, .box [.im (.val (.slice none 0 0)), .im (.val (.slice none 0 0)), .int 0]), (603, .box [.row 10, .row 11, .int (nB ⟨C, L, B⟩ (varsZ L) k - (min (cf ⟨C, L, B⟩ ((varsZ L).getD k 0)) (cf ⟨C, L, B⟩ (-((varsZ L).getD k 0)))))])]) (by kernel_rfl) ?_
       refine fin_round (k + 1) ?_ ?_ ?_ ?_
       ·
        show (k + 1) ≤ (varsZ L).length
        omega
       ·
        show (varsZ L).length - (k + 1) < (varsZ L).length - k
        omega
       ·
        exact subE_mk (l := [.pto [.ls (.ints C), .ls (.ints L), .int B], .loc 602 0, .loc 603 0, .int ((nA ⟨C, L, B⟩ (varsZ L) k + (max (cf ⟨C, L, B⟩ ((varsZ L).getD k 0)) (cf ⟨C, L, B⟩ (-((varsZ L).getD k 0))))) - (min (cf ⟨C, L, B⟩ ((varsZ L).getD k 0)) (cf ⟨C, L, B⟩ (-((varsZ L).getD k 0))))), .ints (varsZ L), .int ((k : Int) + 1)]) (m := [.pto [.ls (.ints C), .ls (.ints L), .int B], .loc 602 0, .loc 603 0, .int (nA ⟨C, L, B⟩ (varsZ L) (k + 1)), .ints (varsZ L), .int ((k + 1) : Int)]) (by kernel_rfl) (by kernel_rfl) (consE rfl (consE rfl (consE rfl (consE (congrArg AV.int (show ((nA ⟨C, L, B⟩ (varsZ L) k + (max (cf ⟨C, L, B⟩ ((varsZ L).getD k 0)) (cf ⟨C, L, B⟩ (-((varsZ L).getD k 0))))) - (min (cf ⟨C, L, B⟩ ((varsZ L).getD k 0)) (cf ⟨C, L, B⟩ (-((varsZ L).getD k 0))))) = nA ⟨C, L, B⟩ (varsZ L) (k + 1) from (by exact (nA_succ (by omega)).symm))) (consE rfl (consE (congrArg AV.int (show ((k : Int) + 1) = ((k + 1) : Int) from (by first | rfl | omega | (simp; done)))) rfl))))))
       ·
        exact Eq.trans (show _ = [(10, .row 3 (.ints ((nC ⟨C, L, B⟩ (varsZ L) k) ++ [(cf ⟨C, L, B⟩ (-((varsZ L).getD k 0)) - cf ⟨C, L, B⟩ ((varsZ L).getD k 0))]))), (11, .row 3 (.ints ((nL ⟨C, L, B⟩ (varsZ L) k) ++ [(0 - ((varsZ L).getD k 0))]))), (602, .box [.im (.val (.slice none 0 0)), .im (.val (.slice none 0 0)), .int 0]), (603, .box [.row 10, .row 11, .int (nB ⟨C, L, B⟩ (varsZ L) k - (min (cf ⟨C, L, B⟩ ((varsZ L).getD k 0)) (cf ⟨C, L, B⟩ (-((varsZ L).getD k 0)))))])] from by kernel_rfl) (consH (congrArg (fun x => ((10 : Nat), x)) (congrArg (fun x => AObj.row 3 (.ints x)) (show ((nC ⟨C, L, B⟩ (varsZ L) k) ++ [(cf ⟨C, L, B⟩ (-((varsZ L).getD k 0)) - cf ⟨C, L, B⟩ ((varsZ L).getD k 0))]) = nC ⟨C, L, B⟩ (varsZ L) (k + 1) from (by first | exact (nC_gt (by omega) (by omega)).1.symm | exact (nC_lt (by omega) (by omega)).1.symm | exact (nC_eq (by omega) (by omega) (by omega)).1.symm | (exfalso; omega))))) (consH (congrArg (fun x => ((11 : Nat), x)) (congrArg (fun x => AObj.row 3 (.ints x)) (show ((nL ⟨C, L, B⟩ (varsZ L) k) ++ [(0 - ((varsZ L).getD k 0))]) = nL ⟨C, L, B⟩ (varsZ L) (k + 1) from (by first | exact (nC_gt (by omega) (by omega)).2.symm | (rw [Int.zero_sub]; exact (nC_lt (by omega) (by omega)).2.symm) | exact (nC_eq (by omega) (by omega) (by omega)).2.symm | (exfalso; omega))))) (consH rfl (consH (congrArg (fun x => ((603 : Nat), x)) (congrArg AObj.box (consE rfl (consE rfl (consE (congrArg AV.int (show (nB ⟨C, L, B⟩ (varsZ L) k - (min (cf ⟨C, L, B⟩ ((varsZ L).getD k 0)) (cf ⟨C, L, B⟩ (-((varsZ L).getD k 0))))) = nB ⟨C, L, B⟩ (varsZ L) (k + 1) from (by exact (nB_succ (by omega)).symm))) rfl))))) rfl))))
      ·
       skip
       have h4 := of_decide_eq_false hb4
       refine tri_skip ?_
       refine fin_then ?_
       refine tri_regD hcx [] [4] [1, 2, 3, 5, 6] [603, 10, 11, 602] [Fit (nA ⟨C, L, B⟩ (varsZ L) k + (max (cf ⟨C, L, B⟩ ((varsZ L).getD k 0)) (cf ⟨C, L, B⟩ (-((varsZ L).getD k 0))))), Fit ((nA ⟨C, L, B⟩ (varsZ L) k + (max (cf ⟨C, L, B⟩ ((varsZ L).getD k 0)) (cf ⟨C, L, B⟩ (-((varsZ L).getD k 0))))) - (min (cf ⟨C, L, B⟩ ((varsZ L).getD k 0)) (cf ⟨C, L, B⟩ (-((varsZ L).getD k 0)))))] [(4, .int ((nA ⟨C, L, B⟩ (varsZ L) k + (max (cf ⟨C, L, B⟩ ((varsZ L).getD k 0)) (cf ⟨C, L, B⟩ (-((varsZ L).getD k 0))))) - (min (cf ⟨C, L, B⟩ ((varsZ L).getD k 0)) (cf ⟨C, L, B⟩ (-((varsZ L).getD k 0))))))] [] (by kernel_rfl) ?_ ?_
       ·
        refine (ap ?_ (ap ?_ az))
        all_goals
         omega
       refine fin_block ?_
       refine fin_then ?_
       refine tri_regD hcx [] [6] [4, 1, 2, 3, 5] [603, 10, 11, 602] [Fit ((k : Int) + 1)] [(6, .int ((k : Int) + 1))] [] (by kernel_rfl) ?_ ?_
       ·
        refine (ap ?_ az)
        omega
       refine fin_ren (ρ := [(10, .to 10), (11, .to 11), (602, .to 602), (603, .to 603)]) (keys := [1, 2, 3, 4, 5, 6]) (E' := [(1, .pto [.ls (.ints C), .ls (.ints L), .int B]), (2, .loc 602 0), (3, .loc 603 0), (4, .int ((nA ⟨C, L, B⟩ (varsZ L) k + (max (cf ⟨C, L, B⟩ ((varsZ L).getD k 0)) (cf ⟨C, L, B⟩ (-((varsZ L).getD k 0))))) - (min (cf ⟨C, L, B⟩ ((varsZ L).getD k 0)) (cf ⟨C, L, B⟩ (-((varsZ L).getD k 0)))))), (5, .ints (varsZ L)), (6, .int ((k : Int) + 1))]) (H' := [(10, .row 3 (.ints (nC ⟨C, L, B⟩ (varsZ L) k))), (11, .row 3 (.ints (nL ⟨C, L, B⟩ (varsZ L) k))), (602, .box [.im (.val (.slice none 0 0)), .im (.val (.slice none 0 0)), .int 0]), (603, .box [.row 10, .row 11, .int (nB ⟨C, L, B⟩ (varsZ L) k - (min (cf ⟨C, L, B⟩ ((varsZ L).getD k 0)) (cf ⟨C, L, B⟩ (-((varsZ L).getD k 0)))))])]) (by kernel_rfl) ?_
       refine fin_round (k + 1) ?_ ?_ ?_ ?_
       ·
        show (k + 1) ≤ (varsZ L).length
        omega
       ·
        show (varsZ L).length - (k + 1) < (varsZ L).length - k
        omega
       ·
        exact subE_mk (l := [.pto [.ls (.ints C), .ls (.ints L), .int B], .loc 602 0, .loc 603 0, .int ((nA ⟨C, L, B⟩ (varsZ L) k + (max (cf ⟨C, L, B⟩ ((varsZ L).getD k 0)) (cf ⟨C, L, B⟩ (-((varsZ L).getD k 0))))) - (min (cf ⟨C, L, B⟩ ((varsZ L).getD k 0)) (cf ⟨C, L, B⟩ (-((varsZ L).getD k 0))))), .ints (varsZ L), .int ((k : Int) + 1)]) (m := [.pto [.ls (.ints C), .ls (.ints L), .int B], .loc 602 0, .loc 603 0, .int (nA ⟨C, L, B⟩ (varsZ L) (k + 1)), .ints (varsZ L), .int ((k + 1) : Int)]) (by kernel_rfl) (by kernel_rfl) (consE rfl (consE rfl (consE rfl (consE (congrArg AV.int (show ((nA ⟨C, L, B⟩ (varsZ L) k + (max (cf ⟨C, L, B⟩ ((varsZ L).getD k 0)) (cf ⟨C, L, B⟩ (-((varsZ L).getD k 0))))) - (min (cf ⟨C, L, B⟩ ((varsZ L).getD k 0)) (cf ⟨C, L, B⟩ (-((varsZ L).getD k 0))))) = nA ⟨C, L, B⟩ (varsZ L) (k + 1) from (by exact (nA_succ (by omega)).symm))) (consE rfl (consE (congrArg AV.int (show ((k : Int) + 1) = ((k + 1) : Int) from (by first | rfl | omega | (simp; done)))) rfl))))))
       ·
        exact Eq.trans (show _ = [(10, .row 3 (.ints (nC ⟨C, L, B⟩ (varsZ L) k))), (11, .row 3 (.ints (nL ⟨C, L, B⟩ (varsZ L) k))), (602, .box [.im (.val (.slice none 0 0)), .im (.val (.slice none 0 0)), .int 0]), (603, .box [.row 10, .row 11, .int (nB ⟨C, L, B⟩ (varsZ L) k - (min (cf ⟨C, L, B⟩ ((varsZ L).getD k 0)) (cf ⟨C, L, B⟩ (-((varsZ L).getD k 0)))))])] from by kernel_rfl) (consH (congrArg (fun x => ((10 : Nat), x)) (congrArg (fun x => AObj.row 3 (.ints x)) (show nC ⟨C, L, B⟩ (varsZ L) k = nC ⟨C, L, B⟩ (varsZ L) (k + 1) from (by first | exact (nC_gt (by omega) (by omega)).1.symm | exact (nC_lt (by omega) (by omega)).1.symm | exact (nC_eq (by omega) (by omega) (by omega)).1.symm | (exfalso; omega))))) (consH (congrArg (fun x => ((11 : Nat), x)) (congrArg (fun x => AObj.row 3 (.ints x)) (show nL ⟨C, L, B⟩ (varsZ L) k = nL ⟨C, L, B⟩ (varsZ L) (k + 1) from (by first | exact (nC_gt (by omega) (by omega)).2.symm | (rw [Int.zero_sub]; exact (nC_lt (by omega) (by omega)).2.symm) | exact (nC_eq (by omega) (by omega) (by omega)).2.symm | (exfalso; omega))))) (consH rfl (consH (congrArg (fun x => ((603 : Nat), x)) (congrArg AObj.box (consE rfl (consE rfl (consE (congrArg AV.int (show (nB ⟨C, L, B⟩ (varsZ L) k - (min (cf ⟨C, L, B⟩ ((varsZ L).getD k 0)) (cf ⟨C, L, B⟩ (-((varsZ L).getD k 0))))) = nB ⟨C, L, B⟩ (varsZ L) (k + 1) from (by exact (nB_succ (by omega)).symm))) rfl))))) rfl))))
    ·
     skip
     have h1 := of_decide_eq_false hb1
     have q1 : nB ⟨C, L, B⟩ (varsZ L) k = B - minsP ⟨C, L, B⟩ (varsZ L) := (nAll (l := ⟨C, L, B⟩) (by show (varsZ L).length ≤ k; omega)).1
     have q2 : nA ⟨C, L, B⟩ (varsZ L) k = sumF1 (termsP ⟨C, L, B⟩ (varsZ L)) := (nAll (l := ⟨C, L, B⟩) (by show (varsZ L).length ≤ k; omega)).2.1
     have q3 : nC ⟨C, L, B⟩ (varsZ L) k = (termsP ⟨C, L, B⟩ (varsZ L)).map (·.1) := (nAll (l := ⟨C, L, B⟩) (by show (varsZ L).length ≤ k; omega)).2.2.1
     have q4 : nL ⟨C, L, B⟩ (varsZ L) k = (termsP ⟨C, L, B⟩ (varsZ L)).map (·.2) := (nAll (l := ⟨C, L, B⟩) (by show (varsZ L).length ≤ k; omega)).2.2.2
     refine tri_exit ?_
     refine fin_then_exit ?_
     refine fin_then_exit ?_
     refine fin_block_same ?_
     refine fin_then ?_
     refine tri_seq ?_
     refine tri_seq ?_
     refine tri_regD hcx [] [93] [2, 3, 4] [10, 11, 602, 603] [] [(93, .bool (decide (nB ⟨C, L, B⟩ (varsZ L) k ≤ 0)))] [] (by kernel_rfl) ?_ ?_
     ·
      exact az
     refine fin_then ?_
     refine tri_cond (b := (decide (nB ⟨C, L, B⟩ (varsZ L) k ≤ 0))) (by kernel_rfl) (fun hb5 => ?_) (fun hb5 => ?_)
     ·
      skip
      have h5 := of_decide_eq_true hb5
      have hN : normP ⟨C, L, B⟩ = lin0 := (normC hc).1 (by show B - minsP ⟨C, L, B⟩ (varsZ L) ≤ 0; omega)
      refine tri_seq ?_
      refine tri_regD hcx [(602, .to 602)] [] [2] [] [] [] [(602, .box [.im (.val (.slice none 0 0)), .im (.val (.slice none 0 0)), .int 0])] (by kernel_rfl) ?_ ?_
      ·
       exact az
      refine fin_then ?_
      refine tri_ret ?_
      refine fin_then_ret ?_
      refine fin_rowB 602 0 700 3 (.ints []) (by kernel_rfl) (by kernel_rfl) (by kernel_rfl) (by kernel_rfl) (H' := [(602, .box [.row 700, .im (.val (.slice none 0 0)), .int 0])]) (by kernel_rfl) ?_
      refine fin_rowB 602 1 701 3 (.ints []) (by kernel_rfl) (by kernel_rfl) (by kernel_rfl) (by kernel_rfl) (H' := [(700, .row 3 (.ints [])), (602, .box [.row 700, .row 701, .int 0])]) (by kernel_rfl) ?_
      refine fin_ren (ρ := [(700, .to 0), (701, .to 1), (602, .to 990)]) (keys := [2]) (E' := [(2, .loc 990 0)]) (H' := [(0, .row 3 (.ints [])), (1, .row 3 (.ints [])), (990, .box [.row 0, .row 1, .int 0])]) (by kernel_rfl) ?_
      exact fin_ret [] rfl rfl trivial hcx (avs := [.agg [.row 0, .row 1, .int 0]]) (by kernel_rfl) (congrArg AV.agg (consE rfl (consE rfl (consE (congrArg AV.int (show 0 = (normP ⟨C, L, B⟩).B from (by exact (congrArg LinV.B hN).symm))) rfl)))) [true, true] (Eq.trans (show _ = [some (.row 3 (.ints [])), some (.row 3 (.ints []))] from by kernel_rfl) (consO (congrArg some (congrArg (fun x => AObj.row 3 (.ints x)) (show [] = (normP ⟨C, L, B⟩).C from (by exact (congrArg LinV.C hN).symm)))) (consO (congrArg some (congrArg (fun x => AObj.row 3 (.ints x)) (show [] = (normP ⟨C, L, B⟩).L from (by exact (congrArg LinV.L hN).symm)))) rfl)))
     ·
      skip
      have h5 := of_decide_eq_false hb5
      refine tri_skip ?_
      refine fin_then ?_
      refine tri_seq ?_
      refine tri_seq ?_
      refine tri_regD hcx [] [98] [2, 3] [10, 11, 602, 603] [] [(98, .bool (decide (nA ⟨C, L, B⟩ (varsZ L) k < nB ⟨C, L, B⟩ (varsZ L) k)))] [] (by kernel_rfl) ?_ ?_
      ·
       exact az
      refine fin_then ?_
      refine tri_cond (b := (decide (nA ⟨C, L, B⟩ (varsZ L) k < nB ⟨C, L, B⟩ (varsZ L) k))) (by kernel_rfl) (fun hb6 => ?_) (fun hb6 => ?_)
      ·
       skip
       have h6 := of_decide_eq_true hb6
       have hN : normP ⟨C, L, B⟩ = ⟨[], [], 1⟩ := (normC hc).2.1 (by show ¬ B - minsP ⟨C, L, B⟩ (varsZ L) ≤ 0; omega) (by show sumF1 (termsP ⟨C, L, B⟩ (varsZ L)) < B - minsP ⟨C, L, B⟩ (varsZ L); omega)
       refine tri_seq ?_
       refine tri_regD hcx [(602, .to 602)] [] [2] [] [] [] [(602, .box [.im (.val (.slice none 0 0)), .im (.val (.slice none 0 0)), .int 1])] (by kernel_rfl) ?_ ?_
       ·
        exact az
       refine fin_then ?_
       refine tri_ret ?_
       refine fin_then_ret ?_
       refine fin_rowB 602 0 700 3 (.ints []) (by kernel_rfl) (by kernel_rfl) (by kernel_rfl) (by kernel_rfl) (H' := [(602, .box [.row 700, .im (.val (.slice none 0 0)), .int 1])]) (by kernel_rfl) ?_
       refine fin_rowB 602 1 701 3 (.ints []) (by kernel_rfl) (by kernel_rfl) (by kernel_rfl) (by kernel_rfl) (H' := [(700, .row 3 (.ints [])), (602, .box [.row 700, .row 701, .int 1])]) (by kernel_rfl) ?_
       refine fin_ren (ρ := [(700, .to 0), (701, .to 1), (602, .to 990)]) (keys := [2]) (E' := [(2, .loc 990 0)]) (H' := [(0, .row 3 (.ints [])), (1, .row 3 (.ints [])), (990, .box [.row 0, .row 1, .int 1])]) (by kernel_rfl) ?_
       exact fin_ret [] rfl rfl trivial hcx (avs := [.agg [.row 0, .row 1, .int 1]]) (by kernel_rfl) (congrArg AV.agg (consE rfl (consE rfl (consE (congrArg AV.int (show 1 = (normP ⟨C, L, B⟩).B from (by exact (congrArg LinV.B hN).symm))) rfl)))) [true, true] (Eq.trans (show _ = [some (.row 3 (.ints [])), some (.row 3 (.ints []))] from by kernel_rfl) (consO (congrArg some (congrArg (fun x => AObj.row 3 (.ints x)) (show [] = (normP ⟨C, L, B⟩).C from (by exact (congrArg LinV.C hN).symm)))) (consO (congrArg some (congrArg (fun x => AObj.row 3 (.ints x)) (show [] = (normP ⟨C, L, B⟩).L from (by exact (congrArg LinV.L hN).symm)))) rfl)))
      ·
       skip
       have h6 := of_decide_eq_false hb6
       have hN : normP ⟨C, L, B⟩ = ⟨(nC ⟨C, L, B⟩ (varsZ L) k).map (fun c => min c (nB ⟨C, L, B⟩ (varsZ L) k)), nL ⟨C, L, B⟩ (varsZ L) k, nB ⟨C, L, B⟩ (varsZ L) k⟩ := by rw [q1, q3, q4]; exact (normC hc).2.2 (by show ¬ B - minsP ⟨C, L, B⟩ (varsZ L) ≤ 0; omega) (by show ¬ sumF1 (termsP ⟨C, L, B⟩ (varsZ L)) < B - minsP ⟨C, L, B⟩ (varsZ L); omega)
       refine tri_skip ?_
       refine fin_then ?_
       refine tri_seq ?_
       refine tri_seq ?_
       refine tri_regD hcx [] [9] [2, 3] [10, 11, 602, 603] [] [(9, .int 0)] [] (by kernel_rfl) ?_ ?_
       ·
        exact az
       refine fin_then ?_
       refine tri_block ?_
       refine tri_loop (X := Nat) (fun x0 => x0 ≤ (nC ⟨C, L, B⟩ (varsZ L) k).length) (fun x0 => [(2, .loc 602 0), (3, .loc 603 0), (9, .int (x0 : Int))]) (fun x0 => [(10, .row 3 (.ints (minTo (nC ⟨C, L, B⟩ (varsZ L) k) (nB ⟨C, L, B⟩ (varsZ L) k) x0))), (11, .row 3 (.ints (nL ⟨C, L, B⟩ (varsZ L) k))), (602, .box [.im (.val (.slice none 0 0)), .im (.val (.slice none 0 0)), .int 0]), (603, .box [.row 10, .row 11, .int (nB ⟨C, L, B⟩ (varsZ L) k)])]) (fun x0 => (nC ⟨C, L, B⟩ (varsZ L) k).length - x0) (0) ?_ ?_ ?_ ?_
       ·
        show 0 ≤ (nC ⟨C, L, B⟩ (varsZ L) k).length
        omega
       ·
        exact subE_mk (l := [.loc 602 0, .loc 603 0, .int 0]) (m := [.loc 602 0, .loc 603 0, .int (0 : Int)]) (by kernel_rfl) (by kernel_rfl) (consE rfl (consE rfl (consE (congrArg AV.int (show 0 = (0 : Int) from (by first | rfl | omega | (simp; done)))) rfl)))
       ·
        exact Eq.trans (show _ = [(10, .row 3 (.ints (nC ⟨C, L, B⟩ (varsZ L) k))), (11, .row 3 (.ints (nL ⟨C, L, B⟩ (varsZ L) k))), (602, .box [.im (.val (.slice none 0 0)), .im (.val (.slice none 0 0)), .int 0]), (603, .box [.row 10, .row 11, .int (nB ⟨C, L, B⟩ (varsZ L) k)])] from by kernel_rfl) (consH (congrArg (fun x => ((10 : Nat), x)) (congrArg (fun x => AObj.row 3 (.ints x)) (show nC ⟨C, L, B⟩ (varsZ L) k = minTo (nC ⟨C, L, B⟩ (varsZ L) k) (nB ⟨C, L, B⟩ (varsZ L) k) 0 from (by exact (minTo_zero _ _).symm)))) (consH rfl (consH rfl (consH rfl rfl))))
       ·
        intro i hI
        replace hI : i ≤ (nC ⟨C, L, B⟩ (varsZ L) k).length := hI
        change Tri _ [(2, .loc 602 0), (3, .loc 603 0), (9, .int (i : Int))] [(10, .row 3 (.ints (minTo (nC ⟨C, L, B⟩ (varsZ L) k) (nB ⟨C, L, B⟩ (varsZ L) k) i))), (11, .row 3 (.ints (nL ⟨C, L, B⟩ (varsZ L) k))), (602, .box [.im (.val (.slice none 0 0)), .im (.val (.slice none 0 0)), .int 0]), (603, .box [.row 10, .row 11, .int (nB ⟨C, L, B⟩ (varsZ L) k)])] _ _
        have hml := minTo_len (nC ⟨C, L, B⟩ (varsZ L) k) (nB ⟨C, L, B⟩ (varsZ L) k) i
        refine tri_seq ?_
        refine tri_seq ?_
        refine tri_regD hcx [] [104] [2, 3, 9] [10, 11, 602, 603] [] [(104, .bool (decide ((i : Int) < ((minTo (nC ⟨C, L, B⟩ (varsZ L) k) (nB ⟨C, L, B⟩ (varsZ L) k) i).length : Int))))] [] (by kernel_rfl) ?_ ?_
        ·
         exact az
        refine fin_then ?_
        refine tri_cond (b := (decide ((i : Int) < ((minTo (nC ⟨C, L, B⟩ (varsZ L) k) (nB ⟨C, L, B⟩ (varsZ L) k) i).length : Int)))) (by kernel_rfl) (fun hb7 => ?_) (fun hb7 => ?_)
        ·
         skip
         have h7 := of_decide_eq_true hb7
         refine tri_skip ?_
         refine fin_then ?_
         refine tri_seq ?_
         refine tri_block ?_
         refine tri_drawD [0, 1, 0, 0, 8, 0, 56, 120, 0, 256, 1016, 2047, 4095] hcx hmx [(10, .to 10)] [] [2, 3, 9] [11, 602, 603] [((0 : Int) ≤ (i : Int) ∧ (i : Int) < ((minTo (nC ⟨C, L, B⟩ (varsZ L) k) (nB ⟨C, L, B⟩ (varsZ L) k) i).length : Int)), (i < (minTo (nC ⟨C, L, B⟩ (varsZ L) k) (nB ⟨C, L, B⟩ (varsZ L) k) i).length), ((0 : Int) ≤ (i : Int) ∧ (i : Int) < ((minTo (nC ⟨C, L, B⟩ (varsZ L) k) (nB ⟨C, L, B⟩ (varsZ L) k) i).length : Int)), (i < (minTo (nC ⟨C, L, B⟩ (varsZ L) k) (nB ⟨C, L, B⟩ (varsZ L) k) i).length)] [] [(10, .row 3 (.ints ((minTo (nC ⟨C, L, B⟩ (varsZ L) k) (nB ⟨C, L, B⟩ (varsZ L) k) i).set i (min ((minTo (nC ⟨C, L, B⟩ (varsZ L) k) (nB ⟨C, L, B⟩ (varsZ L) k) i).getD i 0) (nB ⟨C, L, B⟩ (varsZ L) k)))))] (by kernel_rfl) ?_ ?_
         ·
          refine (ap ?_ (ap ?_ (ap ?_ (ap ?_ az))))
          all_goals
           first | omega | (rw [minTo_len]; omega)
         refine fin_block ?_
         refine fin_then ?_
         refine tri_regD hcx [] [9] [2, 3] [10, 11, 602, 603] [Fit ((i : Int) + 1)] [(9, .int ((i : Int) + 1))] [] (by kernel_rfl) ?_ ?_
         ·
          refine (ap ?_ az)
          omega
         refine fin_round (i + 1) ?_ ?_ ?_ ?_
         ·
          show (i + 1) ≤ (nC ⟨C, L, B⟩ (varsZ L) k).length
          omega
         ·
          show (nC ⟨C, L, B⟩ (varsZ L) k).length - (i + 1) < (nC ⟨C, L, B⟩ (varsZ L) k).length - i
          omega
         ·
          exact subE_mk (l := [.loc 602 0, .loc 603 0, .int ((i : Int) + 1)]) (m := [.loc 602 0, .loc 603 0, .int ((i + 1) : Int)]) (by kernel_rfl) (by kernel_rfl) (consE rfl (consE rfl (consE (congrArg AV.int (show ((i : Int) + 1) = ((i + 1) : Int) from (by first | rfl | omega | (simp; done)))) rfl)))
         ·
          exact Eq.trans (show _ = [(10, .row 3 (.ints ((minTo (nC ⟨C, L, B⟩ (varsZ L) k) (nB ⟨C, L, B⟩ (varsZ L) k) i).set i (min ((minTo (nC ⟨C, L, B⟩ (varsZ L) k) (nB ⟨C, L, B⟩ (varsZ L) k) i).getD i 0) (nB ⟨C, L, B⟩ (varsZ L) k))))), (11, .row 3 (.ints (nL ⟨C, L, B⟩ (varsZ L) k))), (602, .box [.im (.val (.slice none 0 0)), .im (.val (.slice none 0 0)), .int 0]), (603, .box [.row 10, .row 11, .int (nB ⟨C, L, B⟩ (varsZ L) k)])] from by kernel_rfl) (consH (congrArg (fun x => ((10 : Nat), x)) (congrArg (fun x => AObj.row 3 (.ints x)) (show ((minTo (nC ⟨C, L, B⟩ (varsZ L) k) (nB ⟨C, L, B⟩ (varsZ L) k) i).set i (min ((minTo (nC ⟨C, L, B⟩ (varsZ L) k) (nB ⟨C, L, B⟩ (varsZ L) k) i).getD i 0) (nB ⟨C, L, B⟩ (varsZ L) k))) = minTo (nC ⟨C, L, B⟩ (varsZ L) k) (nB ⟨C, L, B⟩ (varsZ L) k) (i + 1) from (by exact minTo_succ (by omega))))) (consH rfl (consH rfl (consH rfl rfl))))
        ·
         skip
         have h7 := of_decide_eq_false hb7
         refine tri_exit ?_
         refine fin_then_exit ?_
         refine fin_then_exit ?_
         refine fin_block_same ?_
         refine fin_then ?_
         refine tri_seq ?_
         refine tri_regD hcx [(602, .to 602)] [] [2] [10, 11] [] [] [(602, .box [.row 10, .row 11, .int (nB ⟨C, L, B⟩ (varsZ L) k)])] (by kernel_rfl) ?_ ?_
         ·
          exact az
         refine fin_then ?_
         refine tri_ret ?_
         refine fin_ren (ρ := [(10, .to 0), (11, .to 1), (602, .to 990)]) (keys := [2]) (E' := [(2, .loc 990 0)]) (H' := [(0, .row 3 (.ints (minTo (nC ⟨C, L, B⟩ (varsZ L) k) (nB ⟨C, L, B⟩ (varsZ L) k) i))), (1, .row 3 (.ints (nL ⟨C, L, B⟩ (varsZ L) k))), (990, .box [.row 0, .row 1, .int (nB ⟨C, L, B⟩ (varsZ L) k)])]) (by kernel_rfl) ?_
         exact fin_ret [] rfl rfl trivial hcx (avs := [.agg [.row 0, .row 1, .int (nB ⟨C, L, B⟩ (varsZ L) k)]]) (by kernel_rfl) (congrArg AV.agg (consE rfl (consE rfl (consE (congrArg AV.int (show nB ⟨C, L, B⟩ (varsZ L) k = (normP ⟨C, L, B⟩).B from (by exact (congrArg LinV.B hN).symm))) rfl)))) [true, true] (Eq.trans (show _ = [some (.row 3 (.ints (minTo (nC ⟨C, L, B⟩ (varsZ L) k) (nB ⟨C, L, B⟩ (varsZ L) k) i))), some (.row 3 (.ints (nL ⟨C, L, B⟩ (varsZ L) k)))] from by kernel_rfl) (consO (congrArg some (congrArg (fun x => AObj.row 3 (.ints x)) (show minTo (nC ⟨C, L, B⟩ (varsZ L) k) (nB ⟨C, L, B⟩ (varsZ L) k) i = (normP ⟨C, L, B⟩).C from (by rw [minTo_all (by omega)]; exact (congrArg LinV.C hN).symm)))) (consO (congrArg some (congrArg (fun x => AObj.row 3 (.ints x)) (show nL ⟨C, L, B⟩ (varsZ L) k = (normP ⟨C, L, B⟩).L from (by exact (congrArg LinV.L hN).symm)))) rfl)))
 ·
  cases hσ
def cx_rHolds12 : Cx := ⟨ty12, [(65, rOf12_σ), (67, (coeF [.id, .ld (.bools [])] rLit12_σ)), (18, (coeF [.agg [.ld (.ints []), .ld (.ints []), .id], .id] rCheck12_σ)), (14, (coeF [.agg [.ld (.ints []), .ld (.ints []), .id], .agg [.ld (.ints []), .ld (.ints []), .id]] rSame12_σ)), (46, (coeF [.agg [.ld (.ints []), .ld (.ints []), .id], .id] rboth12_σ)), (45, (coeF [.agg [.ld (.ints []), .ld (.ints []), .id]] rvars12_σ)), (16, (coeF [.agg [.ld (.ints []), .ld (.ints []), .id]] rNorm12_σ))]⟩
theorem cx_rHolds12_ok : CxOk Try.prog cx_rHolds12 := cx_ok ty12_ok ⟨rOf12_sound, (rLit12_sound.coe [.id, .ld (.bools [])] rfl), (rCheck12_sound.coe [.agg [.ld (.ints []), .ld (.ints []), .id], .id] rfl), (rSame12_sound.coe [.agg [.ld (.ints []), .ld (.ints []), .id], .agg [.ld (.ints []), .ld (.ints []), .id]] rfl), (rboth12_sound.coe [.agg [.ld (.ints []), .ld (.ints []), .id], .id] rfl), (rvars12_sound.coe [.agg [.ld (.ints []), .ld (.ints []), .id]] rfl), (rNorm12_sound.coe [.agg [.ld (.ints []), .ld (.ints []), .id]] rfl), trivial⟩
def rHolds12_σ : CtF
  | [.agg [.im (.ls (.ints C)), .im (.ls (.ints L)), .im (.val (.int .i64 B))], .im (.ls (.bools a))], [] => some (lcheck ⟨C, L, B⟩ 65536 = 0, .bool (lholds (lval a) ⟨C, L, B⟩), [])
  | _, _ => none
theorem rHolds12_sound : Sound Try.prog 57 rHolds12_σ := by
 refine sound_mk (cx := cx_rHolds12) (fn := Try.f57) Try.func57 (by kernel_rfl) rfl ?_
 intro w0 G0 args os p r outs hσ hp hm0 hd0
 have hcx : CxOk Try.prog cx_rHolds12 := cx_rHolds12_ok
 unfold rHolds12_σ at hσ
 split at hσ
 ·
  rename_i C L B a
  simp only [Option.some.injEq, Prod.mk.injEq] at hσ
  obtain ⟨rfl, rfl, rfl⟩ := hσ
  obtain ⟨wW, wO, wm, wβ, wd⟩ := w0
  replace hm0 : wm = 0 := hm0
  subst hm0
  replace hd0 : wd = [] := hd0
  subst hd0
  refine ⟨by kernel_rfl, ?_⟩
  change Tri ⟨_, _, _, _, _, _⟩ [(0, .agg [.ints C, .ints L, .int B]), (1, .bools a)] [] _ _
  have hc : lcheck ⟨C, L, B⟩ 65536 = 0 := by first | exact hp | exact hp.1 | omega
  obtain ⟨_, _, hl, hB, hC, hL, h4⟩ := id (lcheck_ok hc)
  replace hl : C.length = L.length := hl
  replace h4 : L.length ≤ 4096 := h4
  replace hL : ∀ x ∈ L, x ≠ 0 ∧ -65536 ≤ x ∧ x ≤ 65536 := hL
  have bd := fun k => lsK_bd12 (p := lval a) hc k
  refine tri_seq ?_
  refine tri_regD hcx [(1000, .frz)] [2] [1] [] [] [(2, .pto [.ls (.ints C), .ls (.ints L), .int B])] [] (by kernel_rfl) ?_ ?_
  ·
   exact az
  refine fin_then ?_
  refine tri_seq ?_
  refine tri_regD hcx [] [5] [2, 1] [] [] [(5, .int 0)] [] (by kernel_rfl) ?_ ?_
  ·
   exact az
  refine fin_then ?_
  refine tri_seq ?_
  refine tri_seq ?_
  refine tri_regD hcx [] [6] [5, 2, 1] [] [] [(6, .int 0)] [] (by kernel_rfl) ?_ ?_
  ·
   exact az
  refine fin_then ?_
  refine tri_block ?_
  refine tri_loop (X := Nat) (fun x0 => x0 ≤ L.length) (fun x0 => [(1, .bools a), (2, .pto [.ls (.ints C), .ls (.ints L), .int B]), (5, .int (lsK (lval a) C L x0)), (6, .int (x0 : Int))]) (fun x0 => []) (fun x0 => L.length - x0) (0) ?_ ?_ ?_ ?_
  ·
   show 0 ≤ L.length
   omega
  ·
   exact subE_mk (l := [.bools a, .pto [.ls (.ints C), .ls (.ints L), .int B], .int 0, .int 0]) (m := [.bools a, .pto [.ls (.ints C), .ls (.ints L), .int B], .int (lsK (lval a) C L 0), .int (0 : Int)]) (by kernel_rfl) (by kernel_rfl) (consE rfl (consE rfl (consE (congrArg AV.int (show 0 = lsK (lval a) C L 0 from (by first | rfl | omega | (simp; done)))) (consE (congrArg AV.int (show 0 = (0 : Int) from (by first | rfl | omega | (simp; done)))) rfl))))
  ·
   kernel_rfl
  ·
   intro k hI
   replace hI : k ≤ L.length := hI
   change Tri _ [(1, .bools a), (2, .pto [.ls (.ints C), .ls (.ints L), .int B]), (5, .int (lsK (lval a) C L k)), (6, .int (k : Int))] [] _ _
   have b1 := bd k
   have b2 := bd (k + 1)
   refine tri_seq ?_
   refine tri_seq ?_
   refine tri_regD hcx [] [18] [1, 2, 5, 6] [] [((decide ((k : Int) < (L.length : Int))) = true → ((decide ((k : Int) < (L.length : Int))) = true)), ((decide ((k : Int) < (L.length : Int))) = true → ((decide ((k : Int) < (L.length : Int))) = true)), ((decide ((k : Int) < (L.length : Int))) = true → ((decide ((k : Int) < (L.length : Int))) = true)), ((decide ((k : Int) < (L.length : Int))) = true → ((decide ((k : Int) < (L.length : Int))) = true)), ((decide ((k : Int) < (L.length : Int))) = true → (decide ((k : Int) < (L.length : Int))) = true)] [(18, .bool ((decide ((k : Int) < (L.length : Int))) && (decide ((k : Int) < (C.length : Int)))))] [] (by kernel_rfl) ?_ ?_
   ·
    refine (ap ?_ (ap ?_ (ap ?_ (ap ?_ (ap (by exact id) az)))))
    all_goals
     first | omega | exact id | exact vcNot | exact vcG | exact vcH | (intro _; omega) | exact (fun _ h => h) | (intro h; simp at h; omega) | (simp only [List.length_cons, List.length_nil, List.length_append, List.length_map, List.length_set, List.length_replicate]; omega) | (intro h; simp [h]; done)
   refine fin_then ?_
   refine tri_cond (b := ((decide ((k : Int) < (L.length : Int))) && (decide ((k : Int) < (C.length : Int))))) (by kernel_rfl) (fun hb0 => ?_) (fun hb0 => ?_)
   ·
    skip
    have h0 := hb0
    try simp only [Bool.or_eq_true, Bool.or_eq_false_iff, Bool.and_eq_true, Bool.and_eq_false_iff, Bool.not_eq_true', Bool.not_eq_false', decide_eq_true_eq, decide_eq_false_iff_not, bne_iff_ne, bne_eq_false_iff_eq, beq_iff_eq, beq_eq_false_iff_ne] at h0
    refine tri_skip ?_
    refine fin_then ?_
    refine tri_seq ?_
    refine tri_block ?_
    refine tri_seq ?_
    refine tri_regD hcx [] [27] [1, 2, 5, 6] [] [((0 : Int) ≤ (k : Int) ∧ (k : Int) < (L.length : Int)), (-9223372036854775807 ≤ (L.getD k 0) ∧ (L.getD k 0) ≤ 9223372036854775807 ∧ (L.getD k 0) ≠ 0)] [(27, .bool (lval a (L.getD k 0)))] [] (by kernel_rfl) ?_ ?_
    ·
     refine (ap (by omega) (ap ?_ az))
     have := hL _ (getD_mem (l := L) (k := k) (by omega)); exact ⟨by omega, by omega, by omega⟩
    refine fin_then ?_
    refine tri_cond (b := lval a (L.getD k 0)) (by kernel_rfl) (fun hb1 => ?_) (fun hb1 => ?_)
    ·
     skip
     have h1 := hb1
     refine tri_regD hcx [] [5] [1, 2, 6] [] [((0 : Int) ≤ (k : Int) ∧ (k : Int) < (C.length : Int)), Fit (lsK (lval a) C L k + (C.getD k 0))] [(5, .int (lsK (lval a) C L k + (C.getD k 0)))] [] (by kernel_rfl) ?_ ?_
     ·
      refine (ap (by omega) (ap ?_ az))
      rw [← lsK_yes hl (by omega) (by assumption)]; have := b2 (by omega); omega
     refine fin_block ?_
     refine fin_then ?_
     refine tri_regD hcx [] [6] [5, 1, 2] [] [Fit ((k : Int) + 1)] [(6, .int ((k : Int) + 1))] [] (by kernel_rfl) ?_ ?_
     ·
      refine (ap ?_ az)
      omega
     refine fin_round (k + 1) ?_ ?_ ?_ ?_
     ·
      show (k + 1) ≤ L.length
      omega
     ·
      show L.length - (k + 1) < L.length - k
      omega
     ·
      exact subE_mk (l := [.bools a, .pto [.ls (.ints C), .ls (.ints L), .int B], .int (lsK (lval a) C L k + (C.getD k 0)), .int ((k : Int) + 1)]) (m := [.bools a, .pto [.ls (.ints C), .ls (.ints L), .int B], .int (lsK (lval a) C L (k + 1)), .int ((k + 1) : Int)]) (by kernel_rfl) (by kernel_rfl) (consE rfl (consE rfl (consE (congrArg AV.int (show (lsK (lval a) C L k + (C.getD k 0)) = lsK (lval a) C L (k + 1) from (by first | exact (lsK_yes hl (by omega) (by assumption)).symm | exact (lsK_no hl (by omega) (by assumption)).symm))) (consE (congrArg AV.int (show ((k : Int) + 1) = ((k + 1) : Int) from (by first | rfl | omega | (simp; done)))) rfl))))
     ·
      kernel_rfl
    ·
     skip
     have h1 := hb1
     refine tri_skip ?_
     refine fin_block ?_
     refine fin_then ?_
     refine tri_regD hcx [] [6] [1, 2, 5] [] [Fit ((k : Int) + 1)] [(6, .int ((k : Int) + 1))] [] (by kernel_rfl) ?_ ?_
     ·
      refine (ap ?_ az)
      omega
     refine fin_round (k + 1) ?_ ?_ ?_ ?_
     ·
      show (k + 1) ≤ L.length
      omega
     ·
      show L.length - (k + 1) < L.length - k
      omega
     ·
      exact subE_mk (l := [.bools a, .pto [.ls (.ints C), .ls (.ints L), .int B], .int (lsK (lval a) C L k), .int ((k : Int) + 1)]) (m := [.bools a, .pto [.ls (.ints C), .ls (.ints L), .int B], .int (lsK (lval a) C L (k + 1)), .int ((k + 1) : Int)]) (by kernel_rfl) (by kernel_rfl) (consE rfl (consE rfl (consE (congrArg AV.int (show lsK (lval a) C L k = lsK (lval a) C L (k + 1) from (by first | exact (lsK_yes hl (by omega) (by assumption)).symm | exact (lsK_no hl (by omega) (by assumption)).symm))) (consE (congrArg AV.int (show ((k : Int) + 1) = ((k + 1) : Int) from (by first | rfl | omega | (simp; done)))) rfl))))
     ·
      kernel_rfl
   ·
    skip
    have h0 := hb0
    try simp only [Bool.or_eq_true, Bool.or_eq_false_iff, Bool.and_eq_true, Bool.and_eq_false_iff, Bool.not_eq_true', Bool.not_eq_false', decide_eq_true_eq, decide_eq_false_iff_not, bne_iff_ne, bne_eq_false_iff_eq, beq_iff_eq, beq_eq_false_iff_ne] at h0
    refine tri_exit ?_
    refine fin_then_exit ?_
    refine fin_then_exit ?_
    refine fin_block_same ?_
    refine fin_then ?_
    refine tri_seq ?_
    refine tri_regD hcx [] [4] [] [] [] [(4, .bool (decide (lsK (lval a) C L k ≥ B)))] [] (by kernel_rfl) ?_ ?_
    ·
     exact az
    refine fin_then ?_
    refine tri_ret ?_
    exact fin_ret [] rfl rfl trivial hcx (avs := [.bool (decide (lsK (lval a) C L k ≥ B))]) (by kernel_rfl) (congrArg AV.bool (show (decide (lsK (lval a) C L k ≥ B)) = lholds (lval a) ⟨C, L, B⟩ from (by unfold lholds; rw [lsK_all hl (k := k) (by omega)]))) [] rfl
 ·
  cases hσ
def cx_rValue12 : Cx := ⟨ty12, [(65, rOf12_σ), (67, (coeF [.id, .ld (.bools [])] rLit12_σ)), (18, (coeF [.agg [.ld (.ints []), .ld (.ints []), .id], .id] rCheck12_σ)), (14, (coeF [.agg [.ld (.ints []), .ld (.ints []), .id], .agg [.ld (.ints []), .ld (.ints []), .id]] rSame12_σ)), (46, (coeF [.agg [.ld (.ints []), .ld (.ints []), .id], .id] rboth12_σ)), (45, (coeF [.agg [.ld (.ints []), .ld (.ints []), .id]] rvars12_σ)), (16, (coeF [.agg [.ld (.ints []), .ld (.ints []), .id]] rNorm12_σ)), (57, (coeF [.agg [.ld (.ints []), .ld (.ints []), .id], .ld (.bools [])] rHolds12_σ))]⟩
theorem cx_rValue12_ok : CxOk Try.prog cx_rValue12 := cx_ok ty12_ok ⟨rOf12_sound, (rLit12_sound.coe [.id, .ld (.bools [])] rfl), (rCheck12_sound.coe [.agg [.ld (.ints []), .ld (.ints []), .id], .id] rfl), (rSame12_sound.coe [.agg [.ld (.ints []), .ld (.ints []), .id], .agg [.ld (.ints []), .ld (.ints []), .id]] rfl), (rboth12_sound.coe [.agg [.ld (.ints []), .ld (.ints []), .id], .id] rfl), (rvars12_sound.coe [.agg [.ld (.ints []), .ld (.ints []), .id]] rfl), (rNorm12_sound.coe [.agg [.ld (.ints []), .ld (.ints []), .id]] rfl), (rHolds12_sound.coe [.agg [.ld (.ints []), .ld (.ints []), .id], .ld (.bools [])] rfl), trivial⟩
def rValue12_σ : CtF
  | [.agg [.im (.ls (.ints C)), .im (.ls (.ints L)), .im (.val (.int .i64 B))], .im (.ls (.bools a))], [] => some (L.length ≤ maxLen, .bool (lvalue ⟨C, L, B⟩ a), [])
  | _, _ => none
theorem rValue12_sound : Sound Try.prog 24 rValue12_σ := by
 refine sound_mk (cx := cx_rValue12) (fn := Try.f24) Try.func24 (by kernel_rfl) rfl ?_
 intro w0 G0 args os p r outs hσ hp hm0 hd0
 have hcx : CxOk Try.prog cx_rValue12 := cx_rValue12_ok
 unfold rValue12_σ at hσ
 split at hσ
 ·
  rename_i C L B a
  simp only [Option.some.injEq, Prod.mk.injEq] at hσ
  obtain ⟨rfl, rfl, rfl⟩ := hσ
  obtain ⟨wW, wO, wm, wβ, wd⟩ := w0
  replace hm0 : wm = 0 := hm0
  subst hm0
  replace hd0 : wd = [] := hd0
  subst hd0
  refine ⟨by kernel_rfl, ?_⟩
  change Tri ⟨_, _, _, _, _, _⟩ [(0, .agg [.ints C, .ints L, .int B]), (1, .bools a)] [] _ _
  refine tri_seq ?_
  refine tri_regD hcx [(1000, .frz)] [2] [1] [] [] [(2, .pto [.ls (.ints C), .ls (.ints L), .int B])] [] (by kernel_rfl) ?_ ?_
  ·
   exact az
  refine fin_then ?_
  refine tri_seq ?_
  refine tri_regD hcx [] [4] [] [] [(L.length ≤ maxLen ∧ Fit (65536 : Int)), (((lcheck ⟨C, L, B⟩ (65536 : Int)) == 0) = true → (((lcheck ⟨C, L, B⟩ (65536 : Int)) == 0) = true)), (((lcheck ⟨C, L, B⟩ (65536 : Int)) == 0) = true → (((lcheck ⟨C, L, B⟩ (65536 : Int)) == 0) = true)), (((lcheck ⟨C, L, B⟩ (65536 : Int)) == 0) = true → (lcheck ⟨C, L, B⟩ 65536 = 0)), (((lcheck ⟨C, L, B⟩ (65536 : Int)) == 0) = true → ((lcheck ⟨C, L, B⟩ (65536 : Int)) == 0) = true)] [(4, .bool (((lcheck ⟨C, L, B⟩ (65536 : Int)) == 0) && (lholds (lval a) ⟨C, L, B⟩)))] [] (by kernel_rfl) ?_ ?_
  ·
   refine (ap ?_ (ap ?_ (ap ?_ (ap ?_ (ap ?_ az)))))
   all_goals
    first | exact ⟨hp, by omega⟩ | (intro h; exact h) | exact fun h => eq_of_beq h
  refine fin_then ?_
  refine tri_ret ?_
  exact fin_ret [] rfl rfl trivial hcx (avs := [.bool (((lcheck ⟨C, L, B⟩ (65536 : Int)) == 0) && (lholds (lval a) ⟨C, L, B⟩))]) (by kernel_rfl) (congrArg AV.bool (show (((lcheck ⟨C, L, B⟩ (65536 : Int)) == 0) && (lholds (lval a) ⟨C, L, B⟩)) = lvalue ⟨C, L, B⟩ a from (by exact lval12 a))) [] rfl
 ·
  cases hσ
def cx_rHas12 : Cx := ⟨ty12, [(65, rOf12_σ), (67, (coeF [.id, .ld (.bools [])] rLit12_σ)), (18, (coeF [.agg [.ld (.ints []), .ld (.ints []), .id], .id] rCheck12_σ)), (14, (coeF [.agg [.ld (.ints []), .ld (.ints []), .id], .agg [.ld (.ints []), .ld (.ints []), .id]] rSame12_σ)), (46, (coeF [.agg [.ld (.ints []), .ld (.ints []), .id], .id] rboth12_σ)), (45, (coeF [.agg [.ld (.ints []), .ld (.ints []), .id]] rvars12_σ)), (16, (coeF [.agg [.ld (.ints []), .ld (.ints []), .id]] rNorm12_σ)), (57, (coeF [.agg [.ld (.ints []), .ld (.ints []), .id], .ld (.bools [])] rHolds12_σ)), (24, (coeF [.agg [.ld (.ints []), .ld (.ints []), .id], .ld (.bools [])] rValue12_σ))]⟩
theorem cx_rHas12_ok : CxOk Try.prog cx_rHas12 := cx_ok ty12_ok ⟨rOf12_sound, (rLit12_sound.coe [.id, .ld (.bools [])] rfl), (rCheck12_sound.coe [.agg [.ld (.ints []), .ld (.ints []), .id], .id] rfl), (rSame12_sound.coe [.agg [.ld (.ints []), .ld (.ints []), .id], .agg [.ld (.ints []), .ld (.ints []), .id]] rfl), (rboth12_sound.coe [.agg [.ld (.ints []), .ld (.ints []), .id], .id] rfl), (rvars12_sound.coe [.agg [.ld (.ints []), .ld (.ints []), .id]] rfl), (rNorm12_sound.coe [.agg [.ld (.ints []), .ld (.ints []), .id]] rfl), (rHolds12_sound.coe [.agg [.ld (.ints []), .ld (.ints []), .id], .ld (.bools [])] rfl), (rValue12_sound.coe [.agg [.ld (.ints []), .ld (.ints []), .id], .ld (.bools [])] rfl), trivial⟩
def rHas12_σ : CtF
  | [.im (.ls (.ints l)), .im (.val (.int .i64 x))], [] => some (l.length ≤ maxLen, .bool (l.contains x), [])
  | _, _ => none
theorem rHas12_sound : Sound Try.prog 33 rHas12_σ := by
 refine sound_mk (cx := cx_rHas12) (fn := Try.f33) Try.func33 (by kernel_rfl) rfl ?_
 intro w0 G0 args os p r outs hσ hp hm0 hd0
 have hcx : CxOk Try.prog cx_rHas12 := cx_rHas12_ok
 unfold rHas12_σ at hσ
 split at hσ
 ·
  rename_i l x
  simp only [Option.some.injEq, Prod.mk.injEq] at hσ
  obtain ⟨rfl, rfl, rfl⟩ := hσ
  obtain ⟨wW, wO, wm, wβ, wd⟩ := w0
  replace hm0 : wm = 0 := hm0
  subst hm0
  replace hd0 : wd = [] := hd0
  subst hd0
  refine ⟨by kernel_rfl, ?_⟩
  change Tri ⟨_, _, _, _, _, _⟩ [(0, .ints l), (1, .int x)] [] _ _
  unfold maxLen at hp
  refine tri_seq ?_
  refine tri_regD hcx [] [] [0, 1] [] [] [] [] (by kernel_rfl) ?_ ?_
  ·
   exact az
  refine fin_then ?_
  refine tri_seq ?_
  refine tri_seq ?_
  refine tri_regD hcx [] [5] [0, 1] [] [] [(5, .int 0)] [] (by kernel_rfl) ?_ ?_
  ·
   exact az
  refine fin_then ?_
  refine tri_block ?_
  refine tri_loop (X := Nat) (fun x0 => x0 ≤ l.length ∧ ∀ j, j < x0 → l.getD j 0 ≠ x) (fun x0 => [(0, .ints l), (1, .int x), (5, .int (x0 : Int))]) (fun x0 => []) (fun x0 => l.length - x0) (0) ?_ ?_ ?_ ?_
  ·
   show 0 ≤ l.length ∧ ∀ j, j < 0 → l.getD j 0 ≠ x
   exact ⟨Nat.zero_le _, fun j hj => by omega⟩
  ·
   exact subE_mk (l := [.ints l, .int x, .int 0]) (m := [.ints l, .int x, .int (0 : Int)]) (by kernel_rfl) (by kernel_rfl) (consE rfl (consE rfl (consE (congrArg AV.int (show 0 = (0 : Int) from (by first | rfl | omega | (simp; done)))) rfl)))
  ·
   kernel_rfl
  ·
   intro k hI
   replace hI : k ≤ l.length ∧ ∀ j, j < k → l.getD j 0 ≠ x := hI
   change Tri _ [(0, .ints l), (1, .int x), (5, .int (k : Int))] [] _ _
   obtain ⟨hk, hok⟩ := hI
   refine tri_seq ?_
   refine tri_seq ?_
   refine tri_regD hcx [] [9] [0, 1, 5] [] [] [(9, .bool (decide ((k : Int) < (l.length : Int))))] [] (by kernel_rfl) ?_ ?_
   ·
    exact az
   refine fin_then ?_
   refine tri_cond (b := (decide ((k : Int) < (l.length : Int)))) (by kernel_rfl) (fun hb0 => ?_) (fun hb0 => ?_)
   ·
    skip
    have h0 := of_decide_eq_true hb0
    refine tri_skip ?_
    refine fin_then ?_
    refine tri_seq ?_
    refine tri_block ?_
    refine tri_seq ?_
    refine tri_regD hcx [] [17] [0, 1, 5] [] [((0 : Int) ≤ (k : Int) ∧ (k : Int) < (l.length : Int))] [(17, .bool ((l.getD k 0) == x))] [] (by kernel_rfl) ?_ ?_
    ·
     refine (ap ?_ az)
     omega
    refine fin_then ?_
    refine tri_cond (b := ((l.getD k 0) == x)) (by kernel_rfl) (fun hb1 => ?_) (fun hb1 => ?_)
    ·
     skip
     have h1 := eq_of_beq hb1
     refine tri_seq ?_
     refine tri_regD hcx [] [4] [] [] [] [(4, .bool true)] [] (by kernel_rfl) ?_ ?_
     ·
      exact az
     refine fin_then ?_
     refine tri_ret ?_
     refine fin_block_ret ?_
     refine fin_then_ret ?_
     refine fin_then_ret ?_
     refine fin_block_ret ?_
     refine fin_then_ret ?_
     exact fin_ret [] rfl rfl trivial hcx (avs := [.bool true]) (by kernel_rfl) (congrArg AV.bool (show true = l.contains x from (by exact (has_yes (k := k) (by omega) (by assumption)).symm))) [] rfl
    ·
     skip
     have h1 := neB hb1
     refine tri_skip ?_
     refine fin_block ?_
     refine fin_then ?_
     refine tri_regD hcx [] [5] [0, 1] [] [Fit ((k : Int) + 1)] [(5, .int ((k : Int) + 1))] [] (by kernel_rfl) ?_ ?_
     ·
      refine (ap ?_ az)
      omega
     refine fin_round (k + 1) ?_ ?_ ?_ ?_
     ·
      show (k + 1) ≤ l.length ∧ ∀ j, j < (k + 1) → l.getD j 0 ≠ x
      exact ⟨by omega, neSucc hok (by assumption)⟩
     ·
      show l.length - (k + 1) < l.length - k
      omega
     ·
      exact subE_mk (l := [.ints l, .int x, .int ((k : Int) + 1)]) (m := [.ints l, .int x, .int ((k + 1) : Int)]) (by kernel_rfl) (by kernel_rfl) (consE rfl (consE rfl (consE (congrArg AV.int (show ((k : Int) + 1) = ((k + 1) : Int) from (by first | rfl | omega | (simp; done)))) rfl)))
     ·
      kernel_rfl
   ·
    skip
    have h0 := of_decide_eq_false hb0
    refine tri_exit ?_
    refine fin_then_exit ?_
    refine fin_then_exit ?_
    refine fin_block_same ?_
    refine fin_then ?_
    refine tri_seq ?_
    refine tri_regD hcx [] [4] [] [] [] [(4, .bool false)] [] (by kernel_rfl) ?_ ?_
    ·
     exact az
    refine fin_then ?_
    refine tri_ret ?_
    exact fin_ret [] rfl rfl trivial hcx (avs := [.bool false]) (by kernel_rfl) (congrArg AV.bool (show false = l.contains x from (by exact (has_no (k := k) (by omega) hok).symm))) [] rfl
 ·
  cases hσ
def cx_rUnlike12 : Cx := ⟨ty12, [(65, rOf12_σ), (67, (coeF [.id, .ld (.bools [])] rLit12_σ)), (18, (coeF [.agg [.ld (.ints []), .ld (.ints []), .id], .id] rCheck12_σ)), (14, (coeF [.agg [.ld (.ints []), .ld (.ints []), .id], .agg [.ld (.ints []), .ld (.ints []), .id]] rSame12_σ)), (46, (coeF [.agg [.ld (.ints []), .ld (.ints []), .id], .id] rboth12_σ)), (45, (coeF [.agg [.ld (.ints []), .ld (.ints []), .id]] rvars12_σ)), (16, (coeF [.agg [.ld (.ints []), .ld (.ints []), .id]] rNorm12_σ)), (57, (coeF [.agg [.ld (.ints []), .ld (.ints []), .id], .ld (.bools [])] rHolds12_σ)), (24, (coeF [.agg [.ld (.ints []), .ld (.ints []), .id], .ld (.bools [])] rValue12_σ)), (33, (coeF [.ld (.ints []), .id] rHas12_σ))]⟩
theorem cx_rUnlike12_ok : CxOk Try.prog cx_rUnlike12 := cx_ok ty12_ok ⟨rOf12_sound, (rLit12_sound.coe [.id, .ld (.bools [])] rfl), (rCheck12_sound.coe [.agg [.ld (.ints []), .ld (.ints []), .id], .id] rfl), (rSame12_sound.coe [.agg [.ld (.ints []), .ld (.ints []), .id], .agg [.ld (.ints []), .ld (.ints []), .id]] rfl), (rboth12_sound.coe [.agg [.ld (.ints []), .ld (.ints []), .id], .id] rfl), (rvars12_sound.coe [.agg [.ld (.ints []), .ld (.ints []), .id]] rfl), (rNorm12_sound.coe [.agg [.ld (.ints []), .ld (.ints []), .id]] rfl), (rHolds12_sound.coe [.agg [.ld (.ints []), .ld (.ints []), .id], .ld (.bools [])] rfl), (rValue12_sound.coe [.agg [.ld (.ints []), .ld (.ints []), .id], .ld (.bools [])] rfl), (rHas12_sound.coe [.ld (.ints []), .id] rfl), trivial⟩
def rUnlike12_σ : CtF
  | [.im (.ls (.ints l)), .im (.val (.int .i64 n))], [] => some (l.length ≤ maxLen ∧ 0 ≤ n ∧ n ≤ 65536, .bool (unlikeP n l), [])
  | _, _ => none
theorem rUnlike12_sound : Sound Try.prog 31 rUnlike12_σ := by
 refine sound_mk (cx := cx_rUnlike12) (fn := Try.f31) Try.func31 (by kernel_rfl) rfl ?_
 intro w0 G0 args os p r outs hσ hp hm0 hd0
 have hcx : CxOk Try.prog cx_rUnlike12 := cx_rUnlike12_ok
 have hmx : Try.prog.follows .mixedOrders = true := by kernel_rfl
 unfold rUnlike12_σ at hσ
 split at hσ
 ·
  rename_i l n
  simp only [Option.some.injEq, Prod.mk.injEq] at hσ
  obtain ⟨rfl, rfl, rfl⟩ := hσ
  obtain ⟨wW, wO, wm, wβ, wd⟩ := w0
  replace hm0 : wm = 0 := hm0
  subst hm0
  replace hd0 : wd = [] := hd0
  subst hd0
  refine ⟨by kernel_rfl, ?_⟩
  change Tri ⟨_, _, _, _, _, _⟩ [(0, .ints l), (1, .int n)] [] _ _
  obtain ⟨hm, hn0, hn1⟩ := hp
  unfold maxLen at hm
  refine tri_seq ?_
  refine tri_regD hcx [] [] [0, 1] [] [] [] [] (by kernel_rfl) ?_ ?_
  ·
   exact az
  refine fin_then ?_
  refine tri_seq ?_
  refine tri_seq ?_
  refine tri_regD hcx [] [5] [0, 1] [] [] [(5, .int 0)] [] (by kernel_rfl) ?_ ?_
  ·
   exact az
  refine fin_then ?_
  refine tri_block ?_
  refine tri_loop (X := Nat) (fun x0 => x0 ≤ l.length ∧ ∀ j, j < x0 → unlK n l j = true) (fun x0 => [(0, .ints l), (1, .int n), (5, .int (x0 : Int))]) (fun x0 => []) (fun x0 => l.length - x0) (0) ?_ ?_ ?_ ?_
  ·
   show 0 ≤ l.length ∧ ∀ j, j < 0 → unlK n l j = true
   exact ⟨Nat.zero_le _, fun j hj => by omega⟩
  ·
   exact subE_mk (l := [.ints l, .int n, .int 0]) (m := [.ints l, .int n, .int (0 : Int)]) (by kernel_rfl) (by kernel_rfl) (consE rfl (consE rfl (consE (congrArg AV.int (show 0 = (0 : Int) from (by first | rfl | omega | (simp; done)))) rfl)))
  ·
   kernel_rfl
  ·
   intro k hI
   replace hI : k ≤ l.length ∧ ∀ j, j < k → unlK n l j = true := hI
   change Tri _ [(0, .ints l), (1, .int n), (5, .int (k : Int))] [] _ _
   obtain ⟨hk, hok⟩ := hI
   refine tri_seq ?_
   refine tri_seq ?_
   refine tri_regD hcx [] [9] [0, 1, 5] [] [] [(9, .bool (decide ((k : Int) < (l.length : Int))))] [] (by kernel_rfl) ?_ ?_
   ·
    exact az
   refine fin_then ?_
   refine tri_cond (b := (decide ((k : Int) < (l.length : Int)))) (by kernel_rfl) (fun hb0 => ?_) (fun hb0 => ?_)
   ·
    skip
    have h0 := of_decide_eq_true hb0
    refine tri_skip ?_
    refine fin_then ?_
    refine tri_seq ?_
    refine tri_block ?_
    refine tri_seq ?_
    refine tri_drawD [0, 0, 3, 7, 15, 31, 63, 63, 255, 511, 63, 1087, 4095, 8191, 16383, 32767, 32767, 131071, 262143, 32767, 1048575, 2097151, 4194303, 8388607, 8388607, 33554431, 8388607, 8388607, 209715199, 478150655, 1073741823, 2147483647, 4294967295, 8589934591, 8589934591, 34359738367, 8589934591, 8589934591, 214748364799, 489626271743, 1039382085631, 2199023255551, 4398046511103] hcx hmx [] [54] [0, 1, 5] [] [((0 : Int) ≤ (k : Int) ∧ (k : Int) < (l.length : Int)), ((!((l.getD k 0) == 0)) = true → ((!((l.getD k 0) == 0)) = true)), ((!((l.getD k 0) == 0)) = true → ((!((l.getD k 0) == 0)) = true)), ((!((l.getD k 0) == 0)) = true → ((0 : Int) ≤ (k : Int) ∧ (k : Int) < (l.length : Int))), ((!((l.getD k 0) == 0)) = true → ((!((l.getD k 0) == 0)) = true)), ((!((l.getD k 0) == 0)) = true → ((!((l.getD k 0) == 0)) = true)), ((!((l.getD k 0) == 0)) = true → Fit (0 - n)), ((!((l.getD k 0) == 0)) = true → ((!((l.getD k 0) == 0)) = true)), ((!((l.getD k 0) == 0)) = true → ((!((l.getD k 0) == 0)) = true)), (((l.getD k 0) == 0) = false → (!((l.getD k 0) == 0)) = true), ((!(((l.getD k 0) == 0) || (decide ((l.getD k 0) < (0 - n))))) = true → ((!(((l.getD k 0) == 0) || (decide ((l.getD k 0) < (0 - n))))) = true)), ((!(((l.getD k 0) == 0) || (decide ((l.getD k 0) < (0 - n))))) = true → ((!(((l.getD k 0) == 0) || (decide ((l.getD k 0) < (0 - n))))) = true)), ((!(((l.getD k 0) == 0) || (decide ((l.getD k 0) < (0 - n))))) = true → ((0 : Int) ≤ (k : Int) ∧ (k : Int) < (l.length : Int))), ((!(((l.getD k 0) == 0) || (decide ((l.getD k 0) < (0 - n))))) = true → ((!(((l.getD k 0) == 0) || (decide ((l.getD k 0) < (0 - n))))) = true)), ((!(((l.getD k 0) == 0) || (decide ((l.getD k 0) < (0 - n))))) = true → ((!(((l.getD k 0) == 0) || (decide ((l.getD k 0) < (0 - n))))) = true)), ((!(((l.getD k 0) == 0) || (decide ((l.getD k 0) < (0 - n))))) = true → ((!(((l.getD k 0) == 0) || (decide ((l.getD k 0) < (0 - n))))) = true)), ((((l.getD k 0) == 0) || (decide ((l.getD k 0) < (0 - n)))) = false → (!(((l.getD k 0) == 0) || (decide ((l.getD k 0) < (0 - n))))) = true), ((!((((l.getD k 0) == 0) || (decide ((l.getD k 0) < (0 - n)))) || (decide ((l.getD k 0) > n)))) = true → ((!((((l.getD k 0) == 0) || (decide ((l.getD k 0) < (0 - n)))) || (decide ((l.getD k 0) > n)))) = true)), ((!((((l.getD k 0) == 0) || (decide ((l.getD k 0) < (0 - n)))) || (decide ((l.getD k 0) > n)))) = true → ((!((((l.getD k 0) == 0) || (decide ((l.getD k 0) < (0 - n)))) || (decide ((l.getD k 0) > n)))) = true)), ((!((((l.getD k 0) == 0) || (decide ((l.getD k 0) < (0 - n)))) || (decide ((l.getD k 0) > n)))) = true → ((0 : Int) ≤ (k : Int) ∧ (k : Int) ≤ (l.length : Int))), ((!((((l.getD k 0) == 0) || (decide ((l.getD k 0) < (0 - n)))) || (decide ((l.getD k 0) > n)))) = true → ((!((((l.getD k 0) == 0) || (decide ((l.getD k 0) < (0 - n)))) || (decide ((l.getD k 0) > n)))) = true)), ((!((((l.getD k 0) == 0) || (decide ((l.getD k 0) < (0 - n)))) || (decide ((l.getD k 0) > n)))) = true → ((!((((l.getD k 0) == 0) || (decide ((l.getD k 0) < (0 - n)))) || (decide ((l.getD k 0) > n)))) = true)), ((!((((l.getD k 0) == 0) || (decide ((l.getD k 0) < (0 - n)))) || (decide ((l.getD k 0) > n)))) = true → ((0 : Int) ≤ (k : Int) ∧ (k : Int) < (l.length : Int))), ((!((((l.getD k 0) == 0) || (decide ((l.getD k 0) < (0 - n)))) || (decide ((l.getD k 0) > n)))) = true → ((!((((l.getD k 0) == 0) || (decide ((l.getD k 0) < (0 - n)))) || (decide ((l.getD k 0) > n)))) = true)), ((!((((l.getD k 0) == 0) || (decide ((l.getD k 0) < (0 - n)))) || (decide ((l.getD k 0) > n)))) = true → ((!((((l.getD k 0) == 0) || (decide ((l.getD k 0) < (0 - n)))) || (decide ((l.getD k 0) > n)))) = true)), ((!((((l.getD k 0) == 0) || (decide ((l.getD k 0) < (0 - n)))) || (decide ((l.getD k 0) > n)))) = true → ((!((((l.getD k 0) == 0) || (decide ((l.getD k 0) < (0 - n)))) || (decide ((l.getD k 0) > n)))) = true)), ((!((((l.getD k 0) == 0) || (decide ((l.getD k 0) < (0 - n)))) || (decide ((l.getD k 0) > n)))) = true → (((l.take k).drop 0).length ≤ maxLen)), (((((l.getD k 0) == 0) || (decide ((l.getD k 0) < (0 - n)))) || (decide ((l.getD k 0) > n))) = false → (!((((l.getD k 0) == 0) || (decide ((l.getD k 0) < (0 - n)))) || (decide ((l.getD k 0) > n)))) = true), ((!(((((l.getD k 0) == 0) || (decide ((l.getD k 0) < (0 - n)))) || (decide ((l.getD k 0) > n))) || (((l.take k).drop 0).contains (l.getD k 0)))) = true → ((!(((((l.getD k 0) == 0) || (decide ((l.getD k 0) < (0 - n)))) || (decide ((l.getD k 0) > n))) || (((l.take k).drop 0).contains (l.getD k 0)))) = true)), ((!(((((l.getD k 0) == 0) || (decide ((l.getD k 0) < (0 - n)))) || (decide ((l.getD k 0) > n))) || (((l.take k).drop 0).contains (l.getD k 0)))) = true → ((!(((((l.getD k 0) == 0) || (decide ((l.getD k 0) < (0 - n)))) || (decide ((l.getD k 0) > n))) || (((l.take k).drop 0).contains (l.getD k 0)))) = true)), ((!(((((l.getD k 0) == 0) || (decide ((l.getD k 0) < (0 - n)))) || (decide ((l.getD k 0) > n))) || (((l.take k).drop 0).contains (l.getD k 0)))) = true → ((0 : Int) ≤ (k : Int) ∧ (k : Int) ≤ (l.length : Int))), ((!(((((l.getD k 0) == 0) || (decide ((l.getD k 0) < (0 - n)))) || (decide ((l.getD k 0) > n))) || (((l.take k).drop 0).contains (l.getD k 0)))) = true → ((!(((((l.getD k 0) == 0) || (decide ((l.getD k 0) < (0 - n)))) || (decide ((l.getD k 0) > n))) || (((l.take k).drop 0).contains (l.getD k 0)))) = true)), ((!(((((l.getD k 0) == 0) || (decide ((l.getD k 0) < (0 - n)))) || (decide ((l.getD k 0) > n))) || (((l.take k).drop 0).contains (l.getD k 0)))) = true → ((!(((((l.getD k 0) == 0) || (decide ((l.getD k 0) < (0 - n)))) || (decide ((l.getD k 0) > n))) || (((l.take k).drop 0).contains (l.getD k 0)))) = true)), ((!(((((l.getD k 0) == 0) || (decide ((l.getD k 0) < (0 - n)))) || (decide ((l.getD k 0) > n))) || (((l.take k).drop 0).contains (l.getD k 0)))) = true → ((0 : Int) ≤ (k : Int) ∧ (k : Int) < (l.length : Int))), ((!(((((l.getD k 0) == 0) || (decide ((l.getD k 0) < (0 - n)))) || (decide ((l.getD k 0) > n))) || (((l.take k).drop 0).contains (l.getD k 0)))) = true → ((!(((((l.getD k 0) == 0) || (decide ((l.getD k 0) < (0 - n)))) || (decide ((l.getD k 0) > n))) || (((l.take k).drop 0).contains (l.getD k 0)))) = true)), ((!(((((l.getD k 0) == 0) || (decide ((l.getD k 0) < (0 - n)))) || (decide ((l.getD k 0) > n))) || (((l.take k).drop 0).contains (l.getD k 0)))) = true → ((!(((((l.getD k 0) == 0) || (decide ((l.getD k 0) < (0 - n)))) || (decide ((l.getD k 0) > n))) || (((l.take k).drop 0).contains (l.getD k 0)))) = true)), ((!(((((l.getD k 0) == 0) || (decide ((l.getD k 0) < (0 - n)))) || (decide ((l.getD k 0) > n))) || (((l.take k).drop 0).contains (l.getD k 0)))) = true → Fit (0 - (l.getD k 0))), ((!(((((l.getD k 0) == 0) || (decide ((l.getD k 0) < (0 - n)))) || (decide ((l.getD k 0) > n))) || (((l.take k).drop 0).contains (l.getD k 0)))) = true → ((!(((((l.getD k 0) == 0) || (decide ((l.getD k 0) < (0 - n)))) || (decide ((l.getD k 0) > n))) || (((l.take k).drop 0).contains (l.getD k 0)))) = true)), ((!(((((l.getD k 0) == 0) || (decide ((l.getD k 0) < (0 - n)))) || (decide ((l.getD k 0) > n))) || (((l.take k).drop 0).contains (l.getD k 0)))) = true → ((!(((((l.getD k 0) == 0) || (decide ((l.getD k 0) < (0 - n)))) || (decide ((l.getD k 0) > n))) || (((l.take k).drop 0).contains (l.getD k 0)))) = true)), ((!(((((l.getD k 0) == 0) || (decide ((l.getD k 0) < (0 - n)))) || (decide ((l.getD k 0) > n))) || (((l.take k).drop 0).contains (l.getD k 0)))) = true → (((l.take k).drop 0).length ≤ maxLen)), ((((((l.getD k 0) == 0) || (decide ((l.getD k 0) < (0 - n)))) || (decide ((l.getD k 0) > n))) || (((l.take k).drop 0).contains (l.getD k 0))) = false → (!(((((l.getD k 0) == 0) || (decide ((l.getD k 0) < (0 - n)))) || (decide ((l.getD k 0) > n))) || (((l.take k).drop 0).contains (l.getD k 0)))) = true)] [(54, .bool ((((((l.getD k 0) == 0) || (decide ((l.getD k 0) < (0 - n)))) || (decide ((l.getD k 0) > n))) || (((l.take k).drop 0).contains (l.getD k 0))) || (((l.take k).drop 0).contains (0 - (l.getD k 0)))))] [] (by kernel_rfl) ?_ ?_
    ·
     refine (ap ?_ (ap ?_ (ap ?_ (ap ?_ (ap ?_ (ap ?_ (ap ?_ (ap ?_ (ap ?_ (ap (by exact vcNot) (ap ?_ (ap ?_ (ap ?_ (ap ?_ (ap ?_ (ap ?_ (ap (by exact vcNot) (ap ?_ (ap ?_ (ap ?_ (ap ?_ (ap ?_ (ap ?_ (ap ?_ (ap ?_ (ap ?_ (ap ?_ (ap (by exact vcNot) (ap ?_ (ap ?_ (ap ?_ (ap ?_ (ap ?_ (ap ?_ (ap ?_ (ap ?_ (ap ?_ (ap ?_ (ap ?_ (ap ?_ (ap (by exact vcNot) az)))))))))))))))))))))))))))))))))))))))))
     all_goals
      first | omega | (intro _; omega) | (intro h; exact h) | exact vcNot | (intro h; simp only [Bool.or_eq_true, Bool.or_eq_false_iff, Bool.and_eq_true, Bool.and_eq_false_iff, Bool.not_eq_true', Bool.not_eq_false', decide_eq_true_eq, decide_eq_false_iff_not, bne_iff_ne, bne_eq_false_iff_eq, beq_iff_eq, beq_eq_false_iff_ne] at h; omega) | (intro _; simp only [List.length_drop, List.length_take]; unfold maxLen; omega)
    refine fin_then ?_
    refine tri_cond (b := ((((((l.getD k 0) == 0) || (decide ((l.getD k 0) < (0 - n)))) || (decide ((l.getD k 0) > n))) || (((l.take k).drop 0).contains (l.getD k 0))) || (((l.take k).drop 0).contains (0 - (l.getD k 0))))) (by kernel_rfl) (fun hb1 => ?_) (fun hb1 => ?_)
    ·
     skip
     have h1 := hb1
     refine tri_seq ?_
     refine tri_regD hcx [] [4] [] [] [] [(4, .bool false)] [] (by kernel_rfl) ?_ ?_
     ·
      exact az
     refine fin_then ?_
     refine tri_ret ?_
     refine fin_block_ret ?_
     refine fin_then_ret ?_
     refine fin_then_ret ?_
     refine fin_block_ret ?_
     refine fin_then_ret ?_
     exact fin_ret [] rfl rfl trivial hcx (avs := [.bool false]) (by kernel_rfl) (congrArg AV.bool (show false = unlikeP n l from (by exact (unl_no (k := k) (by omega) (unl_at true (by assumption))).symm))) [] rfl
    ·
     skip
     have h1 := hb1
     refine tri_skip ?_
     refine fin_block ?_
     refine fin_then ?_
     refine tri_regD hcx [] [5] [0, 1] [] [Fit ((k : Int) + 1)] [(5, .int ((k : Int) + 1))] [] (by kernel_rfl) ?_ ?_
     ·
      refine (ap ?_ az)
      first | omega | (intro _; omega) | (intro h; exact h) | exact vcNot | (intro h; simp only [Bool.or_eq_true, Bool.or_eq_false_iff, Bool.and_eq_true, Bool.and_eq_false_iff, Bool.not_eq_true', Bool.not_eq_false', decide_eq_true_eq, decide_eq_false_iff_not, bne_iff_ne, bne_eq_false_iff_eq, beq_iff_eq, beq_eq_false_iff_ne] at h; omega) | (intro _; simp only [List.length_drop, List.length_take]; unfold maxLen; omega)
     refine fin_round (k + 1) ?_ ?_ ?_ ?_
     ·
      show (k + 1) ≤ l.length ∧ ∀ j, j < (k + 1) → unlK n l j = true
      exact ⟨by omega, unlSucc hok (unl_at false (by assumption))⟩
     ·
      show l.length - (k + 1) < l.length - k
      omega
     ·
      exact subE_mk (l := [.ints l, .int n, .int ((k : Int) + 1)]) (m := [.ints l, .int n, .int ((k + 1) : Int)]) (by kernel_rfl) (by kernel_rfl) (consE rfl (consE rfl (consE (congrArg AV.int (show ((k : Int) + 1) = ((k + 1) : Int) from (by first | rfl | omega | (simp; done)))) rfl)))
     ·
      kernel_rfl
   ·
    skip
    have h0 := of_decide_eq_false hb0
    refine tri_exit ?_
    refine fin_then_exit ?_
    refine fin_then_exit ?_
    refine fin_block_same ?_
    refine fin_then ?_
    refine tri_seq ?_
    refine tri_regD hcx [] [4] [] [] [] [(4, .bool true)] [] (by kernel_rfl) ?_ ?_
    ·
     exact az
    refine fin_then ?_
    refine tri_ret ?_
    exact fin_ret [] rfl rfl trivial hcx (avs := [.bool true]) (by kernel_rfl) (congrArg AV.bool (show true = unlikeP n l from (by exact (unl_yes (k := k) (by omega) hok).symm))) [] rfl
 ·
  cases hσ
def cx_rForce12 : Cx := ⟨ty12, [(65, rOf12_σ), (67, (coeF [.id, .ld (.bools [])] rLit12_σ)), (18, (coeF [.agg [.ld (.ints []), .ld (.ints []), .id], .id] rCheck12_σ)), (14, (coeF [.agg [.ld (.ints []), .ld (.ints []), .id], .agg [.ld (.ints []), .ld (.ints []), .id]] rSame12_σ)), (46, (coeF [.agg [.ld (.ints []), .ld (.ints []), .id], .id] rboth12_σ)), (45, (coeF [.agg [.ld (.ints []), .ld (.ints []), .id]] rvars12_σ)), (16, (coeF [.agg [.ld (.ints []), .ld (.ints []), .id]] rNorm12_σ)), (57, (coeF [.agg [.ld (.ints []), .ld (.ints []), .id], .ld (.bools [])] rHolds12_σ)), (24, (coeF [.agg [.ld (.ints []), .ld (.ints []), .id], .ld (.bools [])] rValue12_σ)), (33, (coeF [.ld (.ints []), .id] rHas12_σ)), (31, (coeF [.ld (.ints []), .id] rUnlike12_σ))]⟩
theorem cx_rForce12_ok : CxOk Try.prog cx_rForce12 := cx_ok ty12_ok ⟨rOf12_sound, (rLit12_sound.coe [.id, .ld (.bools [])] rfl), (rCheck12_sound.coe [.agg [.ld (.ints []), .ld (.ints []), .id], .id] rfl), (rSame12_sound.coe [.agg [.ld (.ints []), .ld (.ints []), .id], .agg [.ld (.ints []), .ld (.ints []), .id]] rfl), (rboth12_sound.coe [.agg [.ld (.ints []), .ld (.ints []), .id], .id] rfl), (rvars12_sound.coe [.agg [.ld (.ints []), .ld (.ints []), .id]] rfl), (rNorm12_sound.coe [.agg [.ld (.ints []), .ld (.ints []), .id]] rfl), (rHolds12_sound.coe [.agg [.ld (.ints []), .ld (.ints []), .id], .ld (.bools [])] rfl), (rValue12_sound.coe [.agg [.ld (.ints []), .ld (.ints []), .id], .ld (.bools [])] rfl), (rHas12_sound.coe [.ld (.ints []), .id] rfl), (rUnlike12_sound.coe [.ld (.ints []), .id] rfl), trivial⟩
def rForce12_σ : CtF
  | [.agg [.im (.ls (.ints C)), .im (.ls (.ints L)), .im (.val (.int .i64 B))], .im (.ls (.ints lits))], [] => some (C.length ≤ maxLen ∧ L.length ≤ maxLen ∧ lits.length ≤ maxLen ∧ ∀ x ∈ lits, Fit x, .tup [.row 0, .bool (forceB ⟨C, L, B⟩ lits)], [some (.row 3 (.ints (forceF ⟨C, L, B⟩ lits)))])
  | _, _ => none
theorem rForce12_sound : Sound Try.prog 21 rForce12_σ := by
 refine sound_mk (cx := cx_rForce12) (fn := Try.f21) Try.func21 (by kernel_rfl) rfl ?_
 intro w0 G0 args os p r outs hσ hp hm0 hd0
 have hcx : CxOk Try.prog cx_rForce12 := cx_rForce12_ok
 have hmx : Try.prog.follows .mixedOrders = true := by kernel_rfl
 unfold rForce12_σ at hσ
 split at hσ
 ·
  rename_i C L B lits
  simp only [Option.some.injEq, Prod.mk.injEq] at hσ
  obtain ⟨rfl, rfl, rfl⟩ := hσ
  obtain ⟨wW, wO, wm, wβ, wd⟩ := w0
  replace hm0 : wm = 0 := hm0
  subst hm0
  replace hd0 : wd = [] := hd0
  subst hd0
  refine ⟨by kernel_rfl, ?_⟩
  change Tri ⟨_, _, _, _, _, _⟩ [(0, .agg [.ints C, .ints L, .int B]), (1, .ints lits)] [] _ _
  obtain ⟨hm1, hm2, hm3, hlf⟩ := hp
  refine tri_seq ?_
  refine tri_regD hcx [(1000, .frz)] [2] [1] [] [] [(2, .pto [.ls (.ints C), .ls (.ints L), .int B])] [] (by kernel_rfl) ?_ ?_
  ·
   exact az
  refine fin_then ?_
  refine tri_seq ?_
  refine tri_seq ?_
  refine tri_regD hcx [] [18] [2, 1] [] [(L.length ≤ maxLen ∧ Fit (65536 : Int)), ((!((lcheck ⟨C, L, B⟩ (65536 : Int)) != 0)) = true → ((!((lcheck ⟨C, L, B⟩ (65536 : Int)) != 0)) = true)), ((!((lcheck ⟨C, L, B⟩ (65536 : Int)) != 0)) = true → (lits.length ≤ maxLen ∧ 0 ≤ (65536 : Int) ∧ (65536 : Int) ≤ 65536)), ((!((lcheck ⟨C, L, B⟩ (65536 : Int)) != 0)) = true → ((!((lcheck ⟨C, L, B⟩ (65536 : Int)) != 0)) = true)), (((lcheck ⟨C, L, B⟩ (65536 : Int)) != 0) = false → (!((lcheck ⟨C, L, B⟩ (65536 : Int)) != 0)) = true)] [(18, .bool (((lcheck ⟨C, L, B⟩ (65536 : Int)) != 0) || (!(unlikeP (65536 : Int) lits))))] [] (by kernel_rfl) ?_ ?_
  ·
   refine (ap ?_ (ap ?_ (ap ?_ (ap ?_ (ap ?_ az)))))
   all_goals
    first | exact ⟨hm2, by omega⟩ | (intro h; exact h) | exact vcNot | exact fun _ => ⟨hm3, by omega, by omega⟩
  refine fin_then ?_
  refine tri_cond (b := (((lcheck ⟨C, L, B⟩ (65536 : Int)) != 0) || (!(unlikeP (65536 : Int) lits)))) (by kernel_rfl) (fun hb0 => ?_) (fun hb0 => ?_)
  ·
   skip
   have h0 := hb0
   have hN := force_bad h0
   refine tri_seq ?_
   refine tri_regD hcx [] [4, 5] [] [] [] [(4, .im (.val (.slice none 0 0))), (5, .bool false)] [] (by kernel_rfl) ?_ ?_
   ·
    exact az
   refine fin_then ?_
   refine tri_ret ?_
   refine fin_then_ret ?_
   refine fin_row 4 700 3 (.ints []) (by kernel_rfl) (by kernel_rfl) (by kernel_rfl) (by kernel_rfl) (E' := [(4, .row 700), (5, .bool false)]) (by kernel_rfl) ?_
   refine fin_ren (ρ := [(700, .to 0)]) (keys := [4, 5]) (E' := [(4, .row 0), (5, .bool false)]) (H' := [(0, .row 3 (.ints []))]) (by kernel_rfl) ?_
   exact fin_ret [] rfl rfl trivial hcx (avs := [.row 0, .bool false]) (by kernel_rfl) (congrArg AV.tup (consE rfl (consE (congrArg AV.bool (show false = forceB ⟨C, L, B⟩ lits from (by exact (congrArg Option.isSome hN).symm))) rfl))) [true] (Eq.trans (show _ = [some (.row 3 (.ints []))] from by kernel_rfl) (consO (congrArg some (congrArg (fun x => AObj.row 3 (.ints x)) (show [] = forceF ⟨C, L, B⟩ lits from (by exact (congrArg (fun o => o.getD []) hN).symm)))) rfl))
  ·
   skip
   have h0 := hb0
   obtain ⟨hc, hu⟩ := force_good h0
   have hF := force_ok hc hu
   have nb := norm_bound hc
   obtain ⟨nb1, nb2, nb3, nb4, nb5⟩ := nb
   have nbL : ∀ y ∈ (normP ⟨C, L, B⟩).L, y ≠ 0 ∧ -65536 ≤ y ∧ y ≤ 65536 := (norm_facts hc).2.1
   have bd := fun k => lsK_norm hc (fun y => !lits.contains (-y)) k
   have bdL : ∀ k, k < (normP ⟨C, L, B⟩).L.length → -65536 ≤ (normP ⟨C, L, B⟩).L.getD k 0 ∧ (normP ⟨C, L, B⟩).L.getD k 0 ≤ 65536 := fun k hk => by have := nbL _ (getD_mem hk); omega
   refine tri_skip ?_
   refine fin_then ?_
   refine tri_seq ?_
   refine tri_regD hcx [(1002, .to 606), (1001, .frz), (2001, .frz)] [6] [1] [] [(C.length ≤ maxLen ∧ L.length ≤ maxLen)] [(6, .loc 606 0)] [(606, .box [.ints ((normP ⟨C, L, B⟩).C), .ints ((normP ⟨C, L, B⟩).L), .int ((normP ⟨C, L, B⟩).B)])] (by kernel_rfl) ?_ ?_
   ·
    refine (ap ?_ az)
    exact ⟨hm1, hm2⟩
   refine fin_then ?_
   refine tri_seq ?_
   refine tri_regD hcx [] [7] [6, 1] [606] [] [(7, .int 0)] [] (by kernel_rfl) ?_ ?_
   ·
    exact az
   refine fin_then ?_
   refine tri_seq ?_
   refine tri_seq ?_
   refine tri_regD hcx [] [8] [7, 6, 1] [606] [] [(8, .int 0)] [] (by kernel_rfl) ?_ ?_
   ·
    exact az
   refine fin_then ?_
   refine tri_block ?_
   refine tri_loop (X := Nat) (fun x0 => x0 ≤ (normP ⟨C, L, B⟩).L.length) (fun x0 => [(1, .ints lits), (6, .loc 606 0), (7, .int (lsK (fun y => !lits.contains (-y)) (normP ⟨C, L, B⟩).C (normP ⟨C, L, B⟩).L x0)), (8, .int (x0 : Int))]) (fun x0 => [(606, .box [.ints ((normP ⟨C, L, B⟩).C), .ints ((normP ⟨C, L, B⟩).L), .int ((normP ⟨C, L, B⟩).B)])]) (fun x0 => (normP ⟨C, L, B⟩).L.length - x0) (0) ?_ ?_ ?_ ?_
   ·
    show 0 ≤ (normP ⟨C, L, B⟩).L.length
    omega
   ·
    exact subE_mk (l := [.ints lits, .loc 606 0, .int 0, .int 0]) (m := [.ints lits, .loc 606 0, .int (lsK (fun y => !lits.contains (-y)) (normP ⟨C, L, B⟩).C (normP ⟨C, L, B⟩).L 0), .int (0 : Int)]) (by kernel_rfl) (by kernel_rfl) (consE rfl (consE rfl (consE (congrArg AV.int (show 0 = lsK (fun y => !lits.contains (-y)) (normP ⟨C, L, B⟩).C (normP ⟨C, L, B⟩).L 0 from (by first | rfl | omega | (simp; done)))) (consE (congrArg AV.int (show 0 = (0 : Int) from (by first | rfl | omega | (simp; done)))) rfl))))
   ·
    kernel_rfl
   ·
    intro k hI
    replace hI : k ≤ (normP ⟨C, L, B⟩).L.length := hI
    change Tri _ [(1, .ints lits), (6, .loc 606 0), (7, .int (lsK (fun y => !lits.contains (-y)) (normP ⟨C, L, B⟩).C (normP ⟨C, L, B⟩).L k)), (8, .int (k : Int))] [(606, .box [.ints ((normP ⟨C, L, B⟩).C), .ints ((normP ⟨C, L, B⟩).L), .int ((normP ⟨C, L, B⟩).B)])] _ _
    have b1 := bd k
    have b2 := bd (k + 1)
    have b3 := bdL k
    refine tri_seq ?_
    refine tri_seq ?_
    refine tri_regD hcx [] [25] [1, 6, 7, 8] [606] [] [(25, .bool (decide ((k : Int) < (((normP ⟨C, L, B⟩).L).length : Int))))] [] (by kernel_rfl) ?_ ?_
    ·
     exact az
    refine fin_then ?_
    refine tri_cond (b := (decide ((k : Int) < (((normP ⟨C, L, B⟩).L).length : Int)))) (by kernel_rfl) (fun hb1 => ?_) (fun hb1 => ?_)
    ·
     skip
     have h1 := of_decide_eq_true hb1
     refine tri_skip ?_
     refine fin_then ?_
     refine tri_seq ?_
     refine tri_block ?_
     refine tri_seq ?_
     refine tri_regD hcx [] [36] [1, 6, 7, 8] [606] [((0 : Int) ≤ (k : Int) ∧ (k : Int) < (((normP ⟨C, L, B⟩).L).length : Int)), Fit (0 - (((normP ⟨C, L, B⟩).L).getD k 0)), (lits.length ≤ maxLen)] [(36, .bool (!(lits.contains (0 - (((normP ⟨C, L, B⟩).L).getD k 0)))))] [] (by kernel_rfl) ?_ ?_
     ·
      refine (ap ?_ (ap ?_ (ap (by exact hm3) az)))
      all_goals
       omega
     refine fin_then ?_
     refine tri_cond (b := (!(lits.contains (0 - (((normP ⟨C, L, B⟩).L).getD k 0))))) (by kernel_rfl) (fun hb2 => ?_) (fun hb2 => ?_)
     ·
      skip
      have h2 := hb2
      have h9 := h2
      rw [Int.zero_sub] at h9
      refine tri_regD hcx [] [7] [1, 6, 8] [606] [((0 : Int) ≤ (k : Int) ∧ (k : Int) < (((normP ⟨C, L, B⟩).C).length : Int)), Fit (lsK (fun y => !lits.contains (-y)) (normP ⟨C, L, B⟩).C (normP ⟨C, L, B⟩).L k + (((normP ⟨C, L, B⟩).C).getD k 0))] [(7, .int (lsK (fun y => !lits.contains (-y)) (normP ⟨C, L, B⟩).C (normP ⟨C, L, B⟩).L k + (((normP ⟨C, L, B⟩).C).getD k 0)))] [] (by kernel_rfl) ?_ ?_
      ·
       refine (ap (by omega) (ap ?_ az))
       rw [← lsK_yes nb4 (by omega) h9]; omega
      refine fin_block ?_
      refine fin_then ?_
      refine tri_regD hcx [] [8] [7, 1, 6] [606] [Fit ((k : Int) + 1)] [(8, .int ((k : Int) + 1))] [] (by kernel_rfl) ?_ ?_
      ·
       refine (ap ?_ az)
       omega
      refine fin_round (k + 1) ?_ ?_ ?_ ?_
      ·
       show (k + 1) ≤ (normP ⟨C, L, B⟩).L.length
       omega
      ·
       show (normP ⟨C, L, B⟩).L.length - (k + 1) < (normP ⟨C, L, B⟩).L.length - k
       omega
      ·
       exact subE_mk (l := [.ints lits, .loc 606 0, .int (lsK (fun y => !lits.contains (-y)) (normP ⟨C, L, B⟩).C (normP ⟨C, L, B⟩).L k + (((normP ⟨C, L, B⟩).C).getD k 0)), .int ((k : Int) + 1)]) (m := [.ints lits, .loc 606 0, .int (lsK (fun y => !lits.contains (-y)) (normP ⟨C, L, B⟩).C (normP ⟨C, L, B⟩).L (k + 1)), .int ((k + 1) : Int)]) (by kernel_rfl) (by kernel_rfl) (consE rfl (consE rfl (consE (congrArg AV.int (show (lsK (fun y => !lits.contains (-y)) (normP ⟨C, L, B⟩).C (normP ⟨C, L, B⟩).L k + (((normP ⟨C, L, B⟩).C).getD k 0)) = lsK (fun y => !lits.contains (-y)) (normP ⟨C, L, B⟩).C (normP ⟨C, L, B⟩).L (k + 1) from (by first | exact (lsK_yes nb4 (by omega) h9).symm | exact (lsK_no nb4 (by omega) h9).symm))) (consE (congrArg AV.int (show ((k : Int) + 1) = ((k + 1) : Int) from (by first | rfl | omega | (simp; done)))) rfl))))
      ·
       kernel_rfl
     ·
      skip
      have h2 := hb2
      have h9 := h2
      rw [Int.zero_sub] at h9
      refine tri_skip ?_
      refine fin_block ?_
      refine fin_then ?_
      refine tri_regD hcx [] [8] [1, 6, 7] [606] [Fit ((k : Int) + 1)] [(8, .int ((k : Int) + 1))] [] (by kernel_rfl) ?_ ?_
      ·
       refine (ap ?_ az)
       omega
      refine fin_round (k + 1) ?_ ?_ ?_ ?_
      ·
       show (k + 1) ≤ (normP ⟨C, L, B⟩).L.length
       omega
      ·
       show (normP ⟨C, L, B⟩).L.length - (k + 1) < (normP ⟨C, L, B⟩).L.length - k
       omega
      ·
       exact subE_mk (l := [.ints lits, .loc 606 0, .int (lsK (fun y => !lits.contains (-y)) (normP ⟨C, L, B⟩).C (normP ⟨C, L, B⟩).L k), .int ((k : Int) + 1)]) (m := [.ints lits, .loc 606 0, .int (lsK (fun y => !lits.contains (-y)) (normP ⟨C, L, B⟩).C (normP ⟨C, L, B⟩).L (k + 1)), .int ((k + 1) : Int)]) (by kernel_rfl) (by kernel_rfl) (consE rfl (consE rfl (consE (congrArg AV.int (show lsK (fun y => !lits.contains (-y)) (normP ⟨C, L, B⟩).C (normP ⟨C, L, B⟩).L k = lsK (fun y => !lits.contains (-y)) (normP ⟨C, L, B⟩).C (normP ⟨C, L, B⟩).L (k + 1) from (by first | exact (lsK_yes nb4 (by omega) h9).symm | exact (lsK_no nb4 (by omega) h9).symm))) (consE (congrArg AV.int (show ((k : Int) + 1) = ((k + 1) : Int) from (by first | rfl | omega | (simp; done)))) rfl))))
      ·
       kernel_rfl
    ·
     skip
     have h1 := of_decide_eq_false hb1
     have hcan : lsK (fun y => !lits.contains (-y)) (normP ⟨C, L, B⟩).C (normP ⟨C, L, B⟩).L k = canP (normP ⟨C, L, B⟩) lits := can_lsK _ _ nb4 (by omega)
     have bcan := bd k
     refine tri_exit ?_
     refine fin_then_exit ?_
     refine fin_then_exit ?_
     refine fin_block_same ?_
     refine fin_then ?_
     refine tri_seq ?_
     refine tri_seq ?_
     refine tri_regD hcx [] [47] [1, 6, 7] [606] [] [(47, .bool (decide (lsK (fun y => !lits.contains (-y)) (normP ⟨C, L, B⟩).C (normP ⟨C, L, B⟩).L k < (normP ⟨C, L, B⟩).B)))] [] (by kernel_rfl) ?_ ?_
     ·
      exact az
     refine fin_then ?_
     refine tri_cond (b := (decide (lsK (fun y => !lits.contains (-y)) (normP ⟨C, L, B⟩).C (normP ⟨C, L, B⟩).L k < (normP ⟨C, L, B⟩).B))) (by kernel_rfl) (fun hb3 => ?_) (fun hb3 => ?_)
     ·
      skip
      have h3 := of_decide_eq_true hb3
      have hN2 : forceP ⟨C, L, B⟩ lits = none := by rw [hF, if_pos (by omega)]
      refine tri_seq ?_
      refine tri_regD hcx [] [4, 5] [] [] [] [(4, .im (.val (.slice none 0 0))), (5, .bool false)] [] (by kernel_rfl) ?_ ?_
      ·
       exact az
      refine fin_then ?_
      refine tri_ret ?_
      refine fin_then_ret ?_
      refine fin_row 4 700 3 (.ints []) (by kernel_rfl) (by kernel_rfl) (by kernel_rfl) (by kernel_rfl) (E' := [(4, .row 700), (5, .bool false)]) (by kernel_rfl) ?_
      refine fin_ren (ρ := [(700, .to 0)]) (keys := [4, 5]) (E' := [(4, .row 0), (5, .bool false)]) (H' := [(0, .row 3 (.ints []))]) (by kernel_rfl) ?_
      exact fin_ret [] rfl rfl trivial hcx (avs := [.row 0, .bool false]) (by kernel_rfl) (congrArg AV.tup (consE rfl (consE (congrArg AV.bool (show false = forceB ⟨C, L, B⟩ lits from (by exact (congrArg Option.isSome hN2).symm))) rfl))) [true] (Eq.trans (show _ = [some (.row 3 (.ints []))] from by kernel_rfl) (consO (congrArg some (congrArg (fun x => AObj.row 3 (.ints x)) (show [] = forceF ⟨C, L, B⟩ lits from (by exact (congrArg (fun o => o.getD []) hN2).symm)))) rfl))
     ·
      skip
      have h3 := of_decide_eq_false hb3
      have hN3 := hF.trans (if_neg (by omega))
      refine tri_skip ?_
      refine fin_then ?_
      refine tri_seq ?_
      refine tri_regD hcx [] [9] [1, 6, 7] [606] [] [(9, .im (.val (.slice none 0 0)))] [] (by kernel_rfl) ?_ ?_
      ·
       exact az
      refine fin_then ?_
      refine tri_seq ?_
      refine tri_seq ?_
      refine tri_regD hcx [] [10] [9, 1, 6, 7] [606] [] [(10, .int 0)] [] (by kernel_rfl) ?_ ?_
      ·
       exact az
      refine fin_then ?_
      refine tri_block ?_
      refine tri_row 9 10 3 (.ints []) (by kernel_rfl) (by kernel_rfl) (by kernel_rfl) (by kernel_rfl) (E' := [(10, .int 0), (9, .row 10), (1, .ints lits), (6, .loc 606 0), (7, .int (lsK (fun y => !lits.contains (-y)) (normP ⟨C, L, B⟩).C (normP ⟨C, L, B⟩).L k))]) (by kernel_rfl) ?_
      refine tri_loop (X := Nat) (fun x0 => x0 ≤ (normP ⟨C, L, B⟩).L.length) (fun x0 => [(1, .ints lits), (6, .loc 606 0), (7, .int (lsK (fun y => !lits.contains (-y)) (normP ⟨C, L, B⟩).C (normP ⟨C, L, B⟩).L k)), (9, .row 10), (10, .int (x0 : Int))]) (fun x0 => [(10, .row 3 (.ints (fcK lits (canP (normP ⟨C, L, B⟩) lits - (normP ⟨C, L, B⟩).B) (normP ⟨C, L, B⟩).C (normP ⟨C, L, B⟩).L x0))), (606, .box [.ints ((normP ⟨C, L, B⟩).C), .ints ((normP ⟨C, L, B⟩).L), .int ((normP ⟨C, L, B⟩).B)])]) (fun x0 => (normP ⟨C, L, B⟩).L.length - x0) (0) ?_ ?_ ?_ ?_
      ·
       show 0 ≤ (normP ⟨C, L, B⟩).L.length
       omega
      ·
       exact subE_mk (l := [.ints lits, .loc 606 0, .int (lsK (fun y => !lits.contains (-y)) (normP ⟨C, L, B⟩).C (normP ⟨C, L, B⟩).L k), .row 10, .int 0]) (m := [.ints lits, .loc 606 0, .int (lsK (fun y => !lits.contains (-y)) (normP ⟨C, L, B⟩).C (normP ⟨C, L, B⟩).L k), .row 10, .int (0 : Int)]) (by kernel_rfl) (by kernel_rfl) (consE rfl (consE rfl (consE rfl (consE rfl (consE (congrArg AV.int (show 0 = (0 : Int) from (by first | rfl | omega | (simp; done)))) rfl)))))
      ·
       exact Eq.trans (show _ = [(10, .row 3 (.ints [])), (606, .box [.ints ((normP ⟨C, L, B⟩).C), .ints ((normP ⟨C, L, B⟩).L), .int ((normP ⟨C, L, B⟩).B)])] from by kernel_rfl) (consH (congrArg (fun x => ((10 : Nat), x)) (congrArg (fun x => AObj.row 3 (.ints x)) (show [] = fcK lits (canP (normP ⟨C, L, B⟩) lits - (normP ⟨C, L, B⟩).B) (normP ⟨C, L, B⟩).C (normP ⟨C, L, B⟩).L 0 from (by first | rfl | (simp; done))))) (consH rfl rfl))
      ·
       intro i hI
       replace hI : i ≤ (normP ⟨C, L, B⟩).L.length := hI
       change Tri _ [(1, .ints lits), (6, .loc 606 0), (7, .int (lsK (fun y => !lits.contains (-y)) (normP ⟨C, L, B⟩).C (normP ⟨C, L, B⟩).L k)), (9, .row 10), (10, .int (i : Int))] [(10, .row 3 (.ints (fcK lits (canP (normP ⟨C, L, B⟩) lits - (normP ⟨C, L, B⟩).B) (normP ⟨C, L, B⟩).C (normP ⟨C, L, B⟩).L i))), (606, .box [.ints ((normP ⟨C, L, B⟩).C), .ints ((normP ⟨C, L, B⟩).L), .int ((normP ⟨C, L, B⟩).B)])] _ _
       have b3 := bdL i
       have hfl := fcK_len (lits := lits) (C := (normP ⟨C, L, B⟩).C) (L := (normP ⟨C, L, B⟩).L) (s := (canP (normP ⟨C, L, B⟩) lits - (normP ⟨C, L, B⟩).B)) (k := i)
       refine tri_seq ?_
       refine tri_seq ?_
       refine tri_regD hcx [] [52] [1, 6, 7, 9, 10] [10, 606] [] [(52, .bool (decide ((i : Int) < (((normP ⟨C, L, B⟩).L).length : Int))))] [] (by kernel_rfl) ?_ ?_
       ·
        exact az
       refine fin_then ?_
       refine tri_cond (b := (decide ((i : Int) < (((normP ⟨C, L, B⟩).L).length : Int)))) (by kernel_rfl) (fun hb4 => ?_) (fun hb4 => ?_)
       ·
        skip
        have h4 := of_decide_eq_true hb4
        refine tri_skip ?_
        refine fin_then ?_
        refine tri_seq ?_
        refine tri_block ?_
        refine tri_seq ?_
        refine tri_drawD [0, 0, 2, 0, 14, 30, 63, 127, 255, 511, 511, 1535, 511, 7679, 15871, 32255, 65535, 131071, 262143, 524287, 1048575, 2097151, 1048575, 8388607, 16777215, 1048575, 1048575, 68157439, 235929599, 536870911, 1073741823] hcx hmx [] [85] [1, 6, 7, 9, 10] [10, 606] [((0 : Int) ≤ (i : Int) ∧ (i : Int) < (((normP ⟨C, L, B⟩).L).length : Int)), (lits.length ≤ maxLen), ((!(lits.contains (((normP ⟨C, L, B⟩).L).getD i 0))) = true → ((!(lits.contains (((normP ⟨C, L, B⟩).L).getD i 0))) = true)), ((!(lits.contains (((normP ⟨C, L, B⟩).L).getD i 0))) = true → ((!(lits.contains (((normP ⟨C, L, B⟩).L).getD i 0))) = true)), ((!(lits.contains (((normP ⟨C, L, B⟩).L).getD i 0))) = true → ((!(lits.contains (((normP ⟨C, L, B⟩).L).getD i 0))) = true)), ((!(lits.contains (((normP ⟨C, L, B⟩).L).getD i 0))) = true → ((0 : Int) ≤ (i : Int) ∧ (i : Int) < (((normP ⟨C, L, B⟩).L).length : Int))), ((!(lits.contains (((normP ⟨C, L, B⟩).L).getD i 0))) = true → ((!(lits.contains (((normP ⟨C, L, B⟩).L).getD i 0))) = true)), ((!(lits.contains (((normP ⟨C, L, B⟩).L).getD i 0))) = true → ((!(lits.contains (((normP ⟨C, L, B⟩).L).getD i 0))) = true)), ((!(lits.contains (((normP ⟨C, L, B⟩).L).getD i 0))) = true → Fit (0 - (((normP ⟨C, L, B⟩).L).getD i 0))), ((!(lits.contains (((normP ⟨C, L, B⟩).L).getD i 0))) = true → ((!(lits.contains (((normP ⟨C, L, B⟩).L).getD i 0))) = true)), ((!(lits.contains (((normP ⟨C, L, B⟩).L).getD i 0))) = true → ((!(lits.contains (((normP ⟨C, L, B⟩).L).getD i 0))) = true)), ((!(lits.contains (((normP ⟨C, L, B⟩).L).getD i 0))) = true → (lits.length ≤ maxLen)), ((!(lits.contains (((normP ⟨C, L, B⟩).L).getD i 0))) = true → ((!(lits.contains (((normP ⟨C, L, B⟩).L).getD i 0))) = true)), ((!(lits.contains (((normP ⟨C, L, B⟩).L).getD i 0))) = true → (!(lits.contains (((normP ⟨C, L, B⟩).L).getD i 0))) = true), (((!(lits.contains (((normP ⟨C, L, B⟩).L).getD i 0))) && (!(lits.contains (0 - (((normP ⟨C, L, B⟩).L).getD i 0))))) = true → (((!(lits.contains (((normP ⟨C, L, B⟩).L).getD i 0))) && (!(lits.contains (0 - (((normP ⟨C, L, B⟩).L).getD i 0))))) = true)), (((!(lits.contains (((normP ⟨C, L, B⟩).L).getD i 0))) && (!(lits.contains (0 - (((normP ⟨C, L, B⟩).L).getD i 0))))) = true → (((!(lits.contains (((normP ⟨C, L, B⟩).L).getD i 0))) && (!(lits.contains (0 - (((normP ⟨C, L, B⟩).L).getD i 0))))) = true)), (((!(lits.contains (((normP ⟨C, L, B⟩).L).getD i 0))) && (!(lits.contains (0 - (((normP ⟨C, L, B⟩).L).getD i 0))))) = true → (((!(lits.contains (((normP ⟨C, L, B⟩).L).getD i 0))) && (!(lits.contains (0 - (((normP ⟨C, L, B⟩).L).getD i 0))))) = true)), (((!(lits.contains (((normP ⟨C, L, B⟩).L).getD i 0))) && (!(lits.contains (0 - (((normP ⟨C, L, B⟩).L).getD i 0))))) = true → ((0 : Int) ≤ (i : Int) ∧ (i : Int) < (((normP ⟨C, L, B⟩).C).length : Int))), (((!(lits.contains (((normP ⟨C, L, B⟩).L).getD i 0))) && (!(lits.contains (0 - (((normP ⟨C, L, B⟩).L).getD i 0))))) = true → (((!(lits.contains (((normP ⟨C, L, B⟩).L).getD i 0))) && (!(lits.contains (0 - (((normP ⟨C, L, B⟩).L).getD i 0))))) = true)), (((!(lits.contains (((normP ⟨C, L, B⟩).L).getD i 0))) && (!(lits.contains (0 - (((normP ⟨C, L, B⟩).L).getD i 0))))) = true → (((!(lits.contains (((normP ⟨C, L, B⟩).L).getD i 0))) && (!(lits.contains (0 - (((normP ⟨C, L, B⟩).L).getD i 0))))) = true)), (((!(lits.contains (((normP ⟨C, L, B⟩).L).getD i 0))) && (!(lits.contains (0 - (((normP ⟨C, L, B⟩).L).getD i 0))))) = true → (((!(lits.contains (((normP ⟨C, L, B⟩).L).getD i 0))) && (!(lits.contains (0 - (((normP ⟨C, L, B⟩).L).getD i 0))))) = true)), (((!(lits.contains (((normP ⟨C, L, B⟩).L).getD i 0))) && (!(lits.contains (0 - (((normP ⟨C, L, B⟩).L).getD i 0))))) = true → (((!(lits.contains (((normP ⟨C, L, B⟩).L).getD i 0))) && (!(lits.contains (0 - (((normP ⟨C, L, B⟩).L).getD i 0))))) = true)), (((!(lits.contains (((normP ⟨C, L, B⟩).L).getD i 0))) && (!(lits.contains (0 - (((normP ⟨C, L, B⟩).L).getD i 0))))) = true → Fit (lsK (fun y => !lits.contains (-y)) (normP ⟨C, L, B⟩).C (normP ⟨C, L, B⟩).L k - (normP ⟨C, L, B⟩).B)), (((!(lits.contains (((normP ⟨C, L, B⟩).L).getD i 0))) && (!(lits.contains (0 - (((normP ⟨C, L, B⟩).L).getD i 0))))) = true → (((!(lits.contains (((normP ⟨C, L, B⟩).L).getD i 0))) && (!(lits.contains (0 - (((normP ⟨C, L, B⟩).L).getD i 0))))) = true)), (((!(lits.contains (((normP ⟨C, L, B⟩).L).getD i 0))) && (!(lits.contains (0 - (((normP ⟨C, L, B⟩).L).getD i 0))))) = true → (((!(lits.contains (((normP ⟨C, L, B⟩).L).getD i 0))) && (!(lits.contains (0 - (((normP ⟨C, L, B⟩).L).getD i 0))))) = true)), (((!(lits.contains (((normP ⟨C, L, B⟩).L).getD i 0))) && (!(lits.contains (0 - (((normP ⟨C, L, B⟩).L).getD i 0))))) = true → ((!(lits.contains (((normP ⟨C, L, B⟩).L).getD i 0))) && (!(lits.contains (0 - (((normP ⟨C, L, B⟩).L).getD i 0))))) = true)] [(85, .bool (((!(lits.contains (((normP ⟨C, L, B⟩).L).getD i 0))) && (!(lits.contains (0 - (((normP ⟨C, L, B⟩).L).getD i 0))))) && (decide ((((normP ⟨C, L, B⟩).C).getD i 0) > (lsK (fun y => !lits.contains (-y)) (normP ⟨C, L, B⟩).C (normP ⟨C, L, B⟩).L k - (normP ⟨C, L, B⟩).B)))))] [] (by kernel_rfl) ?_ ?_
        ·
         refine (ap (by omega) (ap ?_ (ap ?_ (ap ?_ (ap ?_ (ap ?_ (ap ?_ (ap ?_ (ap ?_ (ap ?_ (ap ?_ (ap ?_ (ap ?_ (ap (by exact id) (ap ?_ (ap ?_ (ap ?_ (ap ?_ (ap ?_ (ap ?_ (ap ?_ (ap ?_ (ap ?_ (ap ?_ (ap ?_ (ap (by exact id) az))))))))))))))))))))))))))
         all_goals
          first | omega | exact id | exact vcNot | exact vcG | exact vcH | (intro _; omega) | exact (fun _ h => h) | (intro h; simp at h; omega) | (simp only [List.length_cons, List.length_nil, List.length_append, List.length_map, List.length_set, List.length_replicate]; omega) | (intro h; simp [h]; done)
        refine fin_then ?_
        refine tri_cond (b := (((!(lits.contains (((normP ⟨C, L, B⟩).L).getD i 0))) && (!(lits.contains (0 - (((normP ⟨C, L, B⟩).L).getD i 0))))) && (decide ((((normP ⟨C, L, B⟩).C).getD i 0) > (lsK (fun y => !lits.contains (-y)) (normP ⟨C, L, B⟩).C (normP ⟨C, L, B⟩).L k - (normP ⟨C, L, B⟩).B))))) (by kernel_rfl) (fun hb5 => ?_) (fun hb5 => ?_)
        ·
         skip
         have h5 := hb5
         have h85 := h5
         refine tri_regD hcx [(1007, .to 10)] [9] [1, 6, 7, 10] [606] [((0 : Int) ≤ (i : Int) ∧ (i : Int) < (((normP ⟨C, L, B⟩).L).length : Int)), (((fcK lits (canP (normP ⟨C, L, B⟩) lits - (normP ⟨C, L, B⟩).B) (normP ⟨C, L, B⟩).C (normP ⟨C, L, B⟩).L i).length + [(((normP ⟨C, L, B⟩).L).getD i 0)].length) * 8 ≤ 140737488355328)] [(9, .row 10)] [(10, .row 3 (.ints ((fcK lits (canP (normP ⟨C, L, B⟩) lits - (normP ⟨C, L, B⟩).B) (normP ⟨C, L, B⟩).C (normP ⟨C, L, B⟩).L i) ++ [(((normP ⟨C, L, B⟩).L).getD i 0)])))] (by kernel_rfl) ?_ ?_
         ·
          refine (ap (by omega) (ap ?_ az))
          first | omega | (simp only [List.length_cons, List.length_nil, List.length_append, List.length_map, List.length_set, List.length_replicate]; omega)
         refine fin_block ?_
         refine fin_then ?_
         refine tri_regD hcx [] [10] [9, 1, 6, 7] [10, 606] [Fit ((i : Int) + 1)] [(10, .int ((i : Int) + 1))] [] (by kernel_rfl) ?_ ?_
         ·
          refine (ap ?_ az)
          omega
         refine fin_round (i + 1) ?_ ?_ ?_ ?_
         ·
          show (i + 1) ≤ (normP ⟨C, L, B⟩).L.length
          omega
         ·
          show (normP ⟨C, L, B⟩).L.length - (i + 1) < (normP ⟨C, L, B⟩).L.length - i
          omega
         ·
          exact subE_mk (l := [.ints lits, .loc 606 0, .int (lsK (fun y => !lits.contains (-y)) (normP ⟨C, L, B⟩).C (normP ⟨C, L, B⟩).L k), .row 10, .int ((i : Int) + 1)]) (m := [.ints lits, .loc 606 0, .int (lsK (fun y => !lits.contains (-y)) (normP ⟨C, L, B⟩).C (normP ⟨C, L, B⟩).L k), .row 10, .int ((i + 1) : Int)]) (by kernel_rfl) (by kernel_rfl) (consE rfl (consE rfl (consE rfl (consE rfl (consE (congrArg AV.int (show ((i : Int) + 1) = ((i + 1) : Int) from (by first | rfl | omega | (simp; done)))) rfl)))))
         ·
          exact Eq.trans (show _ = [(10, .row 3 (.ints ((fcK lits (canP (normP ⟨C, L, B⟩) lits - (normP ⟨C, L, B⟩).B) (normP ⟨C, L, B⟩).C (normP ⟨C, L, B⟩).L i) ++ [(((normP ⟨C, L, B⟩).L).getD i 0)]))), (606, .box [.ints ((normP ⟨C, L, B⟩).C), .ints ((normP ⟨C, L, B⟩).L), .int ((normP ⟨C, L, B⟩).B)])] from by kernel_rfl) (consH (congrArg (fun x => ((10 : Nat), x)) (congrArg (fun x => AObj.row 3 (.ints x)) (show ((fcK lits (canP (normP ⟨C, L, B⟩) lits - (normP ⟨C, L, B⟩).B) (normP ⟨C, L, B⟩).C (normP ⟨C, L, B⟩).L i) ++ [(((normP ⟨C, L, B⟩).L).getD i 0)]) = fcK lits (canP (normP ⟨C, L, B⟩) lits - (normP ⟨C, L, B⟩).B) (normP ⟨C, L, B⟩).C (normP ⟨C, L, B⟩).L (i + 1) from (by first | exact (fcK_yes nb4 (by omega) (by rw [← hcan]; exact h85)).symm | exact (fcK_no nb4 (by omega) (by rw [← hcan]; exact h85)).symm)))) (consH rfl rfl))
        ·
         skip
         have h5 := hb5
         have h85 := h5
         refine tri_skip ?_
         refine fin_block ?_
         refine fin_then ?_
         refine tri_regD hcx [] [10] [1, 6, 7, 9] [10, 606] [Fit ((i : Int) + 1)] [(10, .int ((i : Int) + 1))] [] (by kernel_rfl) ?_ ?_
         ·
          refine (ap ?_ az)
          omega
         refine fin_round (i + 1) ?_ ?_ ?_ ?_
         ·
          show (i + 1) ≤ (normP ⟨C, L, B⟩).L.length
          omega
         ·
          show (normP ⟨C, L, B⟩).L.length - (i + 1) < (normP ⟨C, L, B⟩).L.length - i
          omega
         ·
          exact subE_mk (l := [.ints lits, .loc 606 0, .int (lsK (fun y => !lits.contains (-y)) (normP ⟨C, L, B⟩).C (normP ⟨C, L, B⟩).L k), .row 10, .int ((i : Int) + 1)]) (m := [.ints lits, .loc 606 0, .int (lsK (fun y => !lits.contains (-y)) (normP ⟨C, L, B⟩).C (normP ⟨C, L, B⟩).L k), .row 10, .int ((i + 1) : Int)]) (by kernel_rfl) (by kernel_rfl) (consE rfl (consE rfl (consE rfl (consE rfl (consE (congrArg AV.int (show ((i : Int) + 1) = ((i + 1) : Int) from (by first | rfl | omega | (simp; done)))) rfl)))))
         ·
          exact Eq.trans (show _ = [(10, .row 3 (.ints (fcK lits (canP (normP ⟨C, L, B⟩) lits - (normP ⟨C, L, B⟩).B) (normP ⟨C, L, B⟩).C (normP ⟨C, L, B⟩).L i))), (606, .box [.ints ((normP ⟨C, L, B⟩).C), .ints ((normP ⟨C, L, B⟩).L), .int ((normP ⟨C, L, B⟩).B)])] from by kernel_rfl) (consH (congrArg (fun x => ((10 : Nat), x)) (congrArg (fun x => AObj.row 3 (.ints x)) (show fcK lits (canP (normP ⟨C, L, B⟩) lits - (normP ⟨C, L, B⟩).B) (normP ⟨C, L, B⟩).C (normP ⟨C, L, B⟩).L i = fcK lits (canP (normP ⟨C, L, B⟩) lits - (normP ⟨C, L, B⟩).B) (normP ⟨C, L, B⟩).C (normP ⟨C, L, B⟩).L (i + 1) from (by first | exact (fcK_yes nb4 (by omega) (by rw [← hcan]; exact h85)).symm | exact (fcK_no nb4 (by omega) (by rw [← hcan]; exact h85)).symm)))) (consH rfl rfl))
       ·
        skip
        have h4 := of_decide_eq_false hb4
        refine tri_exit ?_
        refine fin_then_exit ?_
        refine fin_then_exit ?_
        refine fin_block_same ?_
        refine fin_then ?_
        refine tri_seq ?_
        refine tri_regD hcx [] [4, 5] [] [10] [] [(4, .row 10), (5, .bool true)] [] (by kernel_rfl) ?_ ?_
        ·
         exact az
        refine fin_then ?_
        refine tri_ret ?_
        refine fin_ren (ρ := [(10, .to 0)]) (keys := [4, 5]) (E' := [(4, .row 0), (5, .bool true)]) (H' := [(0, .row 3 (.ints (fcK lits (canP (normP ⟨C, L, B⟩) lits - (normP ⟨C, L, B⟩).B) (normP ⟨C, L, B⟩).C (normP ⟨C, L, B⟩).L i)))]) (by kernel_rfl) ?_
        exact fin_ret [] rfl rfl trivial hcx (avs := [.row 0, .bool true]) (by kernel_rfl) (congrArg AV.tup (consE rfl (consE (congrArg AV.bool (show true = forceB ⟨C, L, B⟩ lits from (by exact (congrArg Option.isSome hN3).symm))) rfl))) [true] (Eq.trans (show _ = [some (.row 3 (.ints (fcK lits (canP (normP ⟨C, L, B⟩) lits - (normP ⟨C, L, B⟩).B) (normP ⟨C, L, B⟩).C (normP ⟨C, L, B⟩).L i)))] from by kernel_rfl) (consO (congrArg some (congrArg (fun x => AObj.row 3 (.ints x)) (show fcK lits (canP (normP ⟨C, L, B⟩) lits - (normP ⟨C, L, B⟩).B) (normP ⟨C, L, B⟩).C (normP ⟨C, L, B⟩).L i = forceF ⟨C, L, B⟩ lits from (by rw [show i = (normP ⟨C, L, B⟩).L.length by omega]; exact (congrArg (fun o => o.getD []) hN3).symm)))) rfl))
 ·
  cases hσ
def cx_rAdd12 : Cx := ⟨ty12, [(65, rOf12_σ), (67, (coeF [.id, .ld (.bools [])] rLit12_σ)), (18, (coeF [.agg [.ld (.ints []), .ld (.ints []), .id], .id] rCheck12_σ)), (14, (coeF [.agg [.ld (.ints []), .ld (.ints []), .id], .agg [.ld (.ints []), .ld (.ints []), .id]] rSame12_σ)), (46, (coeF [.agg [.ld (.ints []), .ld (.ints []), .id], .id] rboth12_σ)), (45, (coeF [.agg [.ld (.ints []), .ld (.ints []), .id]] rvars12_σ)), (16, (coeF [.agg [.ld (.ints []), .ld (.ints []), .id]] rNorm12_σ)), (57, (coeF [.agg [.ld (.ints []), .ld (.ints []), .id], .ld (.bools [])] rHolds12_σ)), (24, (coeF [.agg [.ld (.ints []), .ld (.ints []), .id], .ld (.bools [])] rValue12_σ)), (33, (coeF [.ld (.ints []), .id] rHas12_σ)), (31, (coeF [.ld (.ints []), .id] rUnlike12_σ)), (21, (coeF [.agg [.ld (.ints []), .ld (.ints []), .id], .ld (.ints [])] rForce12_σ))]⟩
theorem cx_rAdd12_ok : CxOk Try.prog cx_rAdd12 := cx_ok ty12_ok ⟨rOf12_sound, (rLit12_sound.coe [.id, .ld (.bools [])] rfl), (rCheck12_sound.coe [.agg [.ld (.ints []), .ld (.ints []), .id], .id] rfl), (rSame12_sound.coe [.agg [.ld (.ints []), .ld (.ints []), .id], .agg [.ld (.ints []), .ld (.ints []), .id]] rfl), (rboth12_sound.coe [.agg [.ld (.ints []), .ld (.ints []), .id], .id] rfl), (rvars12_sound.coe [.agg [.ld (.ints []), .ld (.ints []), .id]] rfl), (rNorm12_sound.coe [.agg [.ld (.ints []), .ld (.ints []), .id]] rfl), (rHolds12_sound.coe [.agg [.ld (.ints []), .ld (.ints []), .id], .ld (.bools [])] rfl), (rValue12_sound.coe [.agg [.ld (.ints []), .ld (.ints []), .id], .ld (.bools [])] rfl), (rHas12_sound.coe [.ld (.ints []), .id] rfl), (rUnlike12_sound.coe [.ld (.ints []), .id] rfl), (rForce12_sound.coe [.agg [.ld (.ints []), .ld (.ints []), .id], .ld (.ints [])] rfl), trivial⟩
def rAdd12_σ : CtF
  | [.agg [.im (.ls (.ints C)), .im (.ls (.ints L)), .im (.val (.int .i64 B))], .agg [.im (.ls (.ints C')), .im (.ls (.ints L')), .im (.val (.int .i64 B'))]], [] => some (C.length ≤ maxLen ∧ L.length ≤ maxLen ∧ C'.length ≤ maxLen ∧ L'.length ≤ maxLen, .tup [.agg [.row 0, .row 1, .int ((addP ⟨C, L, B⟩ ⟨C', L', B'⟩).1.B)], .int ((addP ⟨C, L, B⟩ ⟨C', L', B'⟩).2)], [some (.row 3 (.ints ((addP ⟨C, L, B⟩ ⟨C', L', B'⟩).1.C))), some (.row 3 (.ints ((addP ⟨C, L, B⟩ ⟨C', L', B'⟩).1.L)))])
  | _, _ => none
theorem rAdd12_sound : Sound Try.prog 26 rAdd12_σ := by
 refine sound_mk (cx := cx_rAdd12) (fn := Try.f26) Try.func26 (by kernel_rfl) rfl ?_
 intro w0 G0 args os p r outs hσ hp hm0 hd0
 have hcx : CxOk Try.prog cx_rAdd12 := cx_rAdd12_ok
 unfold rAdd12_σ at hσ
 split at hσ
 ·
  rename_i C L B C' L' B'
  simp only [Option.some.injEq, Prod.mk.injEq] at hσ
  obtain ⟨rfl, rfl, rfl⟩ := hσ
  obtain ⟨wW, wO, wm, wβ, wd⟩ := w0
  replace hm0 : wm = 0 := hm0
  subst hm0
  replace hd0 : wd = [] := hd0
  subst hd0
  refine ⟨by kernel_rfl, ?_⟩
  change Tri ⟨_, _, _, _, _, _⟩ [(0, .agg [.ints C, .ints L, .int B]), (1, .agg [.ints C', .ints L', .int B'])] [] _ _
  obtain ⟨hm1, hm2, hm3, hm4⟩ := hp
  refine tri_seq ?_
  refine tri_regD hcx [(1002, .to 604), (1000, .frz), (1001, .frz)] [2, 3, 4] [] [] [] [(2, .pto [.ls (.ints C), .ls (.ints L), .int B]), (3, .pto [.ls (.ints C'), .ls (.ints L'), .int B']), (4, .loc 604 0)] [(604, .box [.im (.val (.slice none 0 0)), .im (.val (.slice none 0 0)), .int 0])] (by kernel_rfl) ?_ ?_
  ·
   exact az
  refine fin_then ?_
  refine tri_seq ?_
  refine tri_regD hcx [] [6] [2, 3, 4] [604] [(L.length ≤ maxLen ∧ Fit (65536 : Int))] [(6, .int (lcheck ⟨C, L, B⟩ (65536 : Int)))] [] (by kernel_rfl) ?_ ?_
  ·
   refine (ap ?_ az)
   exact ⟨hm2, by omega⟩
  refine fin_then ?_
  refine tri_join (X := Unit) (fun _ => True) (fun _ => [(6, .int (bif ((lcheck ⟨C, L, B⟩ (65536 : Int)) == 0) then (lcheck ⟨C', L', B'⟩ (65536 : Int)) else (lcheck ⟨C, L, B⟩ (65536 : Int)))), (2, .pto [.ls (.ints C), .ls (.ints L), .int B]), (3, .pto [.ls (.ints C'), .ls (.ints L'), .int B']), (4, .loc 604 0)]) (fun _ => [(604, .box [.im (.val (.slice none 0 0)), .im (.val (.slice none 0 0)), .int 0])]) ?_ (fun _ _ => ?_)
  ·
   skip
   refine tri_seq ?_
   refine tri_regD hcx [] [12] [6, 2, 3, 4] [604] [] [(12, .bool ((lcheck ⟨C, L, B⟩ (65536 : Int)) == 0))] [] (by kernel_rfl) ?_ ?_
   ·
    exact az
   refine fin_then ?_
   refine tri_cond (b := ((lcheck ⟨C, L, B⟩ (65536 : Int)) == 0)) (by kernel_rfl) (fun hb0 => ?_) (fun hb0 => ?_)
   ·
    skip
    have h0 := eq_of_beq hb0
    refine tri_regD hcx [] [6] [2, 3, 4] [604] [(L'.length ≤ maxLen ∧ Fit (65536 : Int))] [(6, .int (lcheck ⟨C', L', B'⟩ (65536 : Int)))] [] (by kernel_rfl) ?_ ?_
    ·
     refine (ap ?_ az)
     exact ⟨hm4, by omega⟩
    refine fin_join () trivial ?_ ?_
    ·
     exact subE_mk (l := [.int (lcheck ⟨C', L', B'⟩ (65536 : Int)), .pto [.ls (.ints C), .ls (.ints L), .int B], .pto [.ls (.ints C'), .ls (.ints L'), .int B'], .loc 604 0]) (m := [.int (bif ((lcheck ⟨C, L, B⟩ (65536 : Int)) == 0) then (lcheck ⟨C', L', B'⟩ (65536 : Int)) else (lcheck ⟨C, L, B⟩ (65536 : Int))), .pto [.ls (.ints C), .ls (.ints L), .int B], .pto [.ls (.ints C'), .ls (.ints L'), .int B'], .loc 604 0]) (by kernel_rfl) (by kernel_rfl) (consE (congrArg AV.int (show lcheck ⟨C', L', B'⟩ (65536 : Int) = (bif ((lcheck ⟨C, L, B⟩ (65536 : Int)) == 0) then (lcheck ⟨C', L', B'⟩ (65536 : Int)) else (lcheck ⟨C, L, B⟩ (65536 : Int))) from (by simp only [hb0, cond_true, cond_false]))) rfl)
    ·
     kernel_rfl
   ·
    skip
    have h0 := neB hb0
    refine tri_skip ?_
    refine fin_join () trivial ?_ ?_
    ·
     exact subE_mk (l := [.int (lcheck ⟨C, L, B⟩ (65536 : Int)), .pto [.ls (.ints C), .ls (.ints L), .int B], .pto [.ls (.ints C'), .ls (.ints L'), .int B'], .loc 604 0]) (m := [.int (bif ((lcheck ⟨C, L, B⟩ (65536 : Int)) == 0) then (lcheck ⟨C', L', B'⟩ (65536 : Int)) else (lcheck ⟨C, L, B⟩ (65536 : Int))), .pto [.ls (.ints C), .ls (.ints L), .int B], .pto [.ls (.ints C'), .ls (.ints L'), .int B'], .loc 604 0]) (by kernel_rfl) (by kernel_rfl) (consE (congrArg AV.int (show lcheck ⟨C, L, B⟩ (65536 : Int) = (bif ((lcheck ⟨C, L, B⟩ (65536 : Int)) == 0) then (lcheck ⟨C', L', B'⟩ (65536 : Int)) else (lcheck ⟨C, L, B⟩ (65536 : Int))) from (by simp only [hb0, cond_true, cond_false]))) rfl)
    ·
     kernel_rfl
  refine tri_seq ?_
  refine tri_seq ?_
  refine tri_regD hcx [] [16] [6, 2, 3, 4] [604] [] [(16, .bool ((bif ((lcheck ⟨C, L, B⟩ (65536 : Int)) == 0) then (lcheck ⟨C', L', B'⟩ (65536 : Int)) else (lcheck ⟨C, L, B⟩ (65536 : Int))) != 0))] [] (by kernel_rfl) ?_ ?_
  ·
   exact az
  refine fin_then ?_
  refine tri_cond (b := ((bif ((lcheck ⟨C, L, B⟩ (65536 : Int)) == 0) then (lcheck ⟨C', L', B'⟩ (65536 : Int)) else (lcheck ⟨C, L, B⟩ (65536 : Int))) != 0)) (by kernel_rfl) (fun hb1 => ?_) (fun hb1 => ?_)
  ·
   skip
   have h1 := bne_iff_ne.1 hb1
   have hN : addP ⟨C, L, B⟩ ⟨C', L', B'⟩ = (lin0, (bif lcheck ⟨C, L, B⟩ 65536 == 0 then lcheck ⟨C', L', B'⟩ 65536 else lcheck ⟨C, L, B⟩ 65536)) := add_noE h1
   refine tri_seq ?_
   refine tri_regD hcx [(604, .to 604)] [5] [4] [] [] [(5, .int (bif ((lcheck ⟨C, L, B⟩ (65536 : Int)) == 0) then (lcheck ⟨C', L', B'⟩ (65536 : Int)) else (lcheck ⟨C, L, B⟩ (65536 : Int))))] [(604, .box [.im (.val (.slice none 0 0)), .im (.val (.slice none 0 0)), .int 0])] (by kernel_rfl) ?_ ?_
   ·
    exact az
   refine fin_then ?_
   refine tri_ret ?_
   refine fin_then_ret ?_
   refine fin_rowB 604 0 700 3 (.ints []) (by kernel_rfl) (by kernel_rfl) (by kernel_rfl) (by kernel_rfl) (H' := [(604, .box [.row 700, .im (.val (.slice none 0 0)), .int 0])]) (by kernel_rfl) ?_
   refine fin_rowB 604 1 701 3 (.ints []) (by kernel_rfl) (by kernel_rfl) (by kernel_rfl) (by kernel_rfl) (H' := [(700, .row 3 (.ints [])), (604, .box [.row 700, .row 701, .int 0])]) (by kernel_rfl) ?_
   refine fin_ren (ρ := [(700, .to 0), (701, .to 1), (604, .to 990)]) (keys := [4, 5]) (E' := [(4, .loc 990 0), (5, .int (bif ((lcheck ⟨C, L, B⟩ (65536 : Int)) == 0) then (lcheck ⟨C', L', B'⟩ (65536 : Int)) else (lcheck ⟨C, L, B⟩ (65536 : Int))))]) (H' := [(0, .row 3 (.ints [])), (1, .row 3 (.ints [])), (990, .box [.row 0, .row 1, .int 0])]) (by kernel_rfl) ?_
   exact fin_ret [] rfl rfl trivial hcx (avs := [.agg [.row 0, .row 1, .int 0], .int (bif ((lcheck ⟨C, L, B⟩ (65536 : Int)) == 0) then (lcheck ⟨C', L', B'⟩ (65536 : Int)) else (lcheck ⟨C, L, B⟩ (65536 : Int)))]) (by kernel_rfl) (congrArg AV.tup (consE (congrArg AV.agg (consE rfl (consE rfl (consE (congrArg AV.int (show 0 = (addP ⟨C, L, B⟩ ⟨C', L', B'⟩).1.B from (by first | exact (congrArg (fun x => x.1.B) hN).symm | exact (congrArg Prod.snd hN).symm))) rfl)))) (consE (congrArg AV.int (show (bif ((lcheck ⟨C, L, B⟩ (65536 : Int)) == 0) then (lcheck ⟨C', L', B'⟩ (65536 : Int)) else (lcheck ⟨C, L, B⟩ (65536 : Int))) = (addP ⟨C, L, B⟩ ⟨C', L', B'⟩).2 from (by first | exact (congrArg (fun x => x.1.B) hN).symm | exact (congrArg Prod.snd hN).symm))) rfl))) [true, true] (Eq.trans (show _ = [some (.row 3 (.ints [])), some (.row 3 (.ints []))] from by kernel_rfl) (consO (congrArg some (congrArg (fun x => AObj.row 3 (.ints x)) (show [] = (addP ⟨C, L, B⟩ ⟨C', L', B'⟩).1.C from (by exact (congrArg (fun x => x.1.C) hN).symm)))) (consO (congrArg some (congrArg (fun x => AObj.row 3 (.ints x)) (show [] = (addP ⟨C, L, B⟩ ⟨C', L', B'⟩).1.L from (by exact (congrArg (fun x => x.1.L) hN).symm)))) rfl)))
  ·
   skip
   have h1 := bneF hb1
   obtain ⟨hca, hcb⟩ := add_okE h1
   obtain ⟨_, _, hl, hB, hC, hL, h4⟩ := id (lcheck_ok hca)
   replace hl : C.length = L.length := hl
   replace h4 : L.length ≤ 4096 := h4
   replace hB : -1099511627776 ≤ B ∧ B ≤ 1099511627776 := hB
   obtain ⟨_, _, hl2, hB2, hC2, hL2, h42⟩ := id (lcheck_ok hcb)
   replace hl2 : C'.length = L'.length := hl2
   replace h42 : L'.length ≤ 4096 := h42
   replace hB2 : -1099511627776 ≤ B' ∧ B' ≤ 1099511627776 := hB2
   refine tri_skip ?_
   refine fin_then ?_
   refine tri_seq ?_
   refine tri_regD hcx [] [7] [2, 3, 4] [604] [Fit (B + B')] [(7, .int (B + B'))] [] (by kernel_rfl) ?_ ?_
   ·
    refine (ap ?_ az)
    omega
   refine fin_then ?_
   refine tri_seq ?_
   refine tri_seq ?_
   refine tri_regD hcx [] [39] [7, 2, 3, 4] [604] [Fit ((L.length : Int) + (L'.length : Int)), ((!(decide (((L.length : Int) + (L'.length : Int)) > 4096))) = true → ((!(decide (((L.length : Int) + (L'.length : Int)) > 4096))) = true)), ((decide (((L.length : Int) + (L'.length : Int)) > 4096)) = false → (!(decide (((L.length : Int) + (L'.length : Int)) > 4096))) = true), ((!((decide (((L.length : Int) + (L'.length : Int)) > 4096)) || (decide ((B + B') < (-1099511627776))))) = true → ((!((decide (((L.length : Int) + (L'.length : Int)) > 4096)) || (decide ((B + B') < (-1099511627776))))) = true)), (((decide (((L.length : Int) + (L'.length : Int)) > 4096)) || (decide ((B + B') < (-1099511627776)))) = false → (!((decide (((L.length : Int) + (L'.length : Int)) > 4096)) || (decide ((B + B') < (-1099511627776))))) = true)] [(39, .bool (((decide (((L.length : Int) + (L'.length : Int)) > 4096)) || (decide ((B + B') < (-1099511627776)))) || (decide ((B + B') > 1099511627776))))] [] (by kernel_rfl) ?_ ?_
   ·
    refine (ap (by omega) (ap ?_ (ap (by exact vcNot) (ap ?_ (ap (by exact vcNot) az)))))
    all_goals
     first | omega | exact id | exact vcNot | exact vcG | exact vcH | (intro _; omega) | exact (fun _ h => h) | (intro h; simp at h; omega) | (simp only [List.length_cons, List.length_nil, List.length_append, List.length_map, List.length_set, List.length_replicate]; omega) | (intro h; simp [h]; done)
   refine fin_then ?_
   refine tri_cond (b := (((decide (((L.length : Int) + (L'.length : Int)) > 4096)) || (decide ((B + B') < (-1099511627776)))) || (decide ((B + B') > 1099511627776)))) (by kernel_rfl) (fun hb2 => ?_) (fun hb2 => ?_)
   ·
    skip
    have h2 := hb2
    try simp only [Bool.or_eq_true, Bool.or_eq_false_iff, Bool.and_eq_true, Bool.and_eq_false_iff, Bool.not_eq_true', Bool.not_eq_false', decide_eq_true_eq, decide_eq_false_iff_not, bne_iff_ne, bne_eq_false_iff_eq, beq_iff_eq, beq_eq_false_iff_ne] at h2
    have hN : addP ⟨C, L, B⟩ ⟨C', L', B'⟩ = (lin0, 2) := add_no3 hca hcb (by simp only [offN, Bool.or_eq_true, decide_eq_true_eq]; show 4096 < L.length + L'.length ∨ B + B' < -1099511627776 ∨ 1099511627776 < B + B'; omega)
    refine tri_seq ?_
    refine tri_regD hcx [(604, .to 604)] [5] [4] [] [] [(5, .int 2)] [(604, .box [.im (.val (.slice none 0 0)), .im (.val (.slice none 0 0)), .int 0])] (by kernel_rfl) ?_ ?_
    ·
     exact az
    refine fin_then ?_
    refine tri_ret ?_
    refine fin_then_ret ?_
    refine fin_rowB 604 0 700 3 (.ints []) (by kernel_rfl) (by kernel_rfl) (by kernel_rfl) (by kernel_rfl) (H' := [(604, .box [.row 700, .im (.val (.slice none 0 0)), .int 0])]) (by kernel_rfl) ?_
    refine fin_rowB 604 1 701 3 (.ints []) (by kernel_rfl) (by kernel_rfl) (by kernel_rfl) (by kernel_rfl) (H' := [(700, .row 3 (.ints [])), (604, .box [.row 700, .row 701, .int 0])]) (by kernel_rfl) ?_
    refine fin_ren (ρ := [(700, .to 0), (701, .to 1), (604, .to 990)]) (keys := [4, 5]) (E' := [(4, .loc 990 0), (5, .int 2)]) (H' := [(0, .row 3 (.ints [])), (1, .row 3 (.ints [])), (990, .box [.row 0, .row 1, .int 0])]) (by kernel_rfl) ?_
    exact fin_ret [] rfl rfl trivial hcx (avs := [.agg [.row 0, .row 1, .int 0], .int 2]) (by kernel_rfl) (congrArg AV.tup (consE (congrArg AV.agg (consE rfl (consE rfl (consE (congrArg AV.int (show 0 = (addP ⟨C, L, B⟩ ⟨C', L', B'⟩).1.B from (by first | exact (congrArg (fun x => x.1.B) hN).symm | exact (congrArg Prod.snd hN).symm))) rfl)))) (consE (congrArg AV.int (show 2 = (addP ⟨C, L, B⟩ ⟨C', L', B'⟩).2 from (by first | exact (congrArg (fun x => x.1.B) hN).symm | exact (congrArg Prod.snd hN).symm))) rfl))) [true, true] (Eq.trans (show _ = [some (.row 3 (.ints [])), some (.row 3 (.ints []))] from by kernel_rfl) (consO (congrArg some (congrArg (fun x => AObj.row 3 (.ints x)) (show [] = (addP ⟨C, L, B⟩ ⟨C', L', B'⟩).1.C from (by exact (congrArg (fun x => x.1.C) hN).symm)))) (consO (congrArg some (congrArg (fun x => AObj.row 3 (.ints x)) (show [] = (addP ⟨C, L, B⟩ ⟨C', L', B'⟩).1.L from (by exact (congrArg (fun x => x.1.L) hN).symm)))) rfl)))
   ·
    skip
    have h2 := hb2
    try simp only [Bool.or_eq_true, Bool.or_eq_false_iff, Bool.and_eq_true, Bool.and_eq_false_iff, Bool.not_eq_true', Bool.not_eq_false', decide_eq_true_eq, decide_eq_false_iff_not, bne_iff_ne, bne_eq_false_iff_eq, beq_iff_eq, beq_eq_false_iff_ne] at h2
    have hN : addP ⟨C, L, B⟩ ⟨C', L', B'⟩ = (⟨C ++ C', L ++ L', B + B'⟩, 0) := add_yes hca hcb (by simp only [offN, Bool.or_eq_true, decide_eq_true_eq]; show ¬ (4096 < L.length + L'.length ∨ B + B' < -1099511627776 ∨ 1099511627776 < B + B'); omega)
    refine tri_skip ?_
    refine fin_then ?_
    refine tri_seq ?_
    refine tri_regD hcx [(1002, .to 608)] [8] [2, 3, 4] [604] [] [(8, .loc 608 0)] [(608, .box [.im (.val (.slice none 0 0)), .im (.val (.slice none 0 0)), .int (B + B')])] (by kernel_rfl) ?_ ?_
    ·
     exact az
    refine fin_then ?_
    refine tri_seq ?_
    refine tri_regD hcx [(1004, .to 247), (608, .to 608)] [] [8, 2, 3, 4] [604] [(C.length * 8 ≤ 140737488355328)] [] [(247, .row 3 (.ints C)), (608, .box [.row 247, .im (.val (.slice none 0 0)), .int (B + B')])] (by kernel_rfl) ?_ ?_
    ·
     refine (ap ?_ az)
     omega
    refine fin_then ?_
    refine tri_seq ?_
    refine tri_regD hcx [(1004, .to 247), (608, .to 608)] [] [8, 2, 3, 4] [604] [((C.length + C'.length) * 8 ≤ 140737488355328)] [] [(247, .row 3 (.ints (C ++ C'))), (608, .box [.row 247, .im (.val (.slice none 0 0)), .int (B + B')])] (by kernel_rfl) ?_ ?_
    ·
     refine (ap ?_ az)
     omega
    refine fin_then ?_
    refine tri_seq ?_
    refine tri_regD hcx [(1004, .to 259), (608, .to 608)] [] [8, 3, 4] [247, 604] [(L.length * 8 ≤ 140737488355328)] [] [(259, .row 3 (.ints L)), (608, .box [.row 247, .row 259, .int (B + B')])] (by kernel_rfl) ?_ ?_
    ·
     refine (ap ?_ az)
     omega
    refine fin_then ?_
    refine tri_seq ?_
    refine tri_regD hcx [(1004, .to 259), (608, .to 608)] [] [8, 4] [247, 604] [((L.length + L'.length) * 8 ≤ 140737488355328)] [] [(259, .row 3 (.ints (L ++ L'))), (608, .box [.row 247, .row 259, .int (B + B')])] (by kernel_rfl) ?_ ?_
    ·
     refine (ap ?_ az)
     omega
    refine fin_then ?_
    refine tri_seq ?_
    refine tri_regD hcx [(604, .to 604)] [5] [4] [259, 247] [] [(5, .int 0)] [(604, .box [.row 247, .row 259, .int (B + B')])] (by kernel_rfl) ?_ ?_
    ·
     exact az
    refine fin_then ?_
    refine tri_ret ?_
    refine fin_ren (ρ := [(247, .to 0), (259, .to 1), (604, .to 990)]) (keys := [4, 5]) (E' := [(4, .loc 990 0), (5, .int 0)]) (H' := [(0, .row 3 (.ints (C ++ C'))), (1, .row 3 (.ints (L ++ L'))), (990, .box [.row 0, .row 1, .int (B + B')])]) (by kernel_rfl) ?_
    exact fin_ret [] rfl rfl trivial hcx (avs := [.agg [.row 0, .row 1, .int (B + B')], .int 0]) (by kernel_rfl) (congrArg AV.tup (consE (congrArg AV.agg (consE rfl (consE rfl (consE (congrArg AV.int (show (B + B') = (addP ⟨C, L, B⟩ ⟨C', L', B'⟩).1.B from (by first | exact (congrArg (fun x => x.1.B) hN).symm | exact (congrArg Prod.snd hN).symm))) rfl)))) (consE (congrArg AV.int (show 0 = (addP ⟨C, L, B⟩ ⟨C', L', B'⟩).2 from (by first | exact (congrArg (fun x => x.1.B) hN).symm | exact (congrArg Prod.snd hN).symm))) rfl))) [true, true] (Eq.trans (show _ = [some (.row 3 (.ints (C ++ C'))), some (.row 3 (.ints (L ++ L')))] from by kernel_rfl) (consO (congrArg some (congrArg (fun x => AObj.row 3 (.ints x)) (show (C ++ C') = (addP ⟨C, L, B⟩ ⟨C', L', B'⟩).1.C from (by exact (congrArg (fun x => x.1.C) hN).symm)))) (consO (congrArg some (congrArg (fun x => AObj.row 3 (.ints x)) (show (L ++ L') = (addP ⟨C, L, B⟩ ⟨C', L', B'⟩).1.L from (by exact (congrArg (fun x => x.1.L) hN).symm)))) rfl)))
 ·
  cases hσ
def cx_rCut12 : Cx := ⟨ty12, [(65, rOf12_σ), (67, (coeF [.id, .ld (.bools [])] rLit12_σ)), (18, (coeF [.agg [.ld (.ints []), .ld (.ints []), .id], .id] rCheck12_σ)), (14, (coeF [.agg [.ld (.ints []), .ld (.ints []), .id], .agg [.ld (.ints []), .ld (.ints []), .id]] rSame12_σ)), (46, (coeF [.agg [.ld (.ints []), .ld (.ints []), .id], .id] rboth12_σ)), (45, (coeF [.agg [.ld (.ints []), .ld (.ints []), .id]] rvars12_σ)), (16, (coeF [.agg [.ld (.ints []), .ld (.ints []), .id]] rNorm12_σ)), (57, (coeF [.agg [.ld (.ints []), .ld (.ints []), .id], .ld (.bools [])] rHolds12_σ)), (24, (coeF [.agg [.ld (.ints []), .ld (.ints []), .id], .ld (.bools [])] rValue12_σ)), (33, (coeF [.ld (.ints []), .id] rHas12_σ)), (31, (coeF [.ld (.ints []), .id] rUnlike12_σ)), (21, (coeF [.agg [.ld (.ints []), .ld (.ints []), .id], .ld (.ints [])] rForce12_σ)), (26, (coeF [.agg [.ld (.ints []), .ld (.ints []), .id], .agg [.ld (.ints []), .ld (.ints []), .id]] rAdd12_σ))]⟩
theorem cx_rCut12_ok : CxOk Try.prog cx_rCut12 := cx_ok ty12_ok ⟨rOf12_sound, (rLit12_sound.coe [.id, .ld (.bools [])] rfl), (rCheck12_sound.coe [.agg [.ld (.ints []), .ld (.ints []), .id], .id] rfl), (rSame12_sound.coe [.agg [.ld (.ints []), .ld (.ints []), .id], .agg [.ld (.ints []), .ld (.ints []), .id]] rfl), (rboth12_sound.coe [.agg [.ld (.ints []), .ld (.ints []), .id], .id] rfl), (rvars12_sound.coe [.agg [.ld (.ints []), .ld (.ints []), .id]] rfl), (rNorm12_sound.coe [.agg [.ld (.ints []), .ld (.ints []), .id]] rfl), (rHolds12_sound.coe [.agg [.ld (.ints []), .ld (.ints []), .id], .ld (.bools [])] rfl), (rValue12_sound.coe [.agg [.ld (.ints []), .ld (.ints []), .id], .ld (.bools [])] rfl), (rHas12_sound.coe [.ld (.ints []), .id] rfl), (rUnlike12_sound.coe [.ld (.ints []), .id] rfl), (rForce12_sound.coe [.agg [.ld (.ints []), .ld (.ints []), .id], .ld (.ints [])] rfl), (rAdd12_sound.coe [.agg [.ld (.ints []), .ld (.ints []), .id], .agg [.ld (.ints []), .ld (.ints []), .id]] rfl), trivial⟩
def rCut12_σ : CtF
  | [.agg [.im (.ls (.ints C)), .im (.ls (.ints L)), .im (.val (.int .i64 B))], .im (.val (.int .i64 d))], [] => some (C.length ≤ maxLen ∧ L.length ≤ maxLen, .tup [.agg [.row 0, .row 1, .int ((cutP ⟨C, L, B⟩ d).1.B)], .int ((cutP ⟨C, L, B⟩ d).2)], [some (.row 3 (.ints ((cutP ⟨C, L, B⟩ d).1.C))), some (.row 3 (.ints ((cutP ⟨C, L, B⟩ d).1.L)))])
  | _, _ => none
theorem rCut12_sound : Sound Try.prog 28 rCut12_σ := by
 refine sound_mk (cx := cx_rCut12) (fn := Try.f28) Try.func28 (by kernel_rfl) rfl ?_
 intro w0 G0 args os p r outs hσ hp hm0 hd0
 have hcx : CxOk Try.prog cx_rCut12 := cx_rCut12_ok
 have hmx : Try.prog.follows .mixedOrders = true := by kernel_rfl
 unfold rCut12_σ at hσ
 split at hσ
 ·
  rename_i C L B d
  simp only [Option.some.injEq, Prod.mk.injEq] at hσ
  obtain ⟨rfl, rfl, rfl⟩ := hσ
  obtain ⟨wW, wO, wm, wβ, wd⟩ := w0
  replace hm0 : wm = 0 := hm0
  subst hm0
  replace hd0 : wd = [] := hd0
  subst hd0
  refine ⟨by kernel_rfl, ?_⟩
  change Tri ⟨_, _, _, _, _, _⟩ [(0, .agg [.ints C, .ints L, .int B]), (1, .int d)] [] _ _
  obtain ⟨hm1, hm2⟩ := hp
  refine tri_seq ?_
  refine tri_regD hcx [(1001, .to 604), (1000, .frz)] [2, 4] [1] [] [] [(2, .pto [.ls (.ints C), .ls (.ints L), .int B]), (4, .loc 604 0)] [(604, .box [.im (.val (.slice none 0 0)), .im (.val (.slice none 0 0)), .int 0])] (by kernel_rfl) ?_ ?_
  ·
   exact az
  refine fin_then ?_
  refine tri_seq ?_
  refine tri_regD hcx [] [6] [2, 4, 1] [604] [(L.length ≤ maxLen ∧ Fit (65536 : Int))] [(6, .int (lcheck ⟨C, L, B⟩ (65536 : Int)))] [] (by kernel_rfl) ?_ ?_
  ·
   refine (ap ?_ az)
   exact ⟨hm2, by omega⟩
  refine fin_then ?_
  refine tri_seq ?_
  refine tri_seq ?_
  refine tri_regD hcx [] [12] [6, 2, 4, 1] [604] [] [(12, .bool ((lcheck ⟨C, L, B⟩ (65536 : Int)) != 0))] [] (by kernel_rfl) ?_ ?_
  ·
   exact az
  refine fin_then ?_
  refine tri_cond (b := ((lcheck ⟨C, L, B⟩ (65536 : Int)) != 0)) (by kernel_rfl) (fun hb0 => ?_) (fun hb0 => ?_)
  ·
   skip
   have h0 := bne_iff_ne.1 hb0
   have hN : cutP ⟨C, L, B⟩ d = (lin0, lcheck ⟨C, L, B⟩ 65536) := cut_no h0
   refine tri_seq ?_
   refine tri_regD hcx [(604, .to 604)] [5] [4] [] [] [(5, .int (lcheck ⟨C, L, B⟩ (65536 : Int)))] [(604, .box [.im (.val (.slice none 0 0)), .im (.val (.slice none 0 0)), .int 0])] (by kernel_rfl) ?_ ?_
   ·
    exact az
   refine fin_then ?_
   refine tri_ret ?_
   refine fin_then_ret ?_
   refine fin_rowB 604 0 700 3 (.ints []) (by kernel_rfl) (by kernel_rfl) (by kernel_rfl) (by kernel_rfl) (H' := [(604, .box [.row 700, .im (.val (.slice none 0 0)), .int 0])]) (by kernel_rfl) ?_
   refine fin_rowB 604 1 701 3 (.ints []) (by kernel_rfl) (by kernel_rfl) (by kernel_rfl) (by kernel_rfl) (H' := [(700, .row 3 (.ints [])), (604, .box [.row 700, .row 701, .int 0])]) (by kernel_rfl) ?_
   refine fin_ren (ρ := [(700, .to 0), (701, .to 1), (604, .to 990)]) (keys := [4, 5]) (E' := [(4, .loc 990 0), (5, .int (lcheck ⟨C, L, B⟩ (65536 : Int)))]) (H' := [(0, .row 3 (.ints [])), (1, .row 3 (.ints [])), (990, .box [.row 0, .row 1, .int 0])]) (by kernel_rfl) ?_
   exact fin_ret [] rfl rfl trivial hcx (avs := [.agg [.row 0, .row 1, .int 0], .int (lcheck ⟨C, L, B⟩ (65536 : Int))]) (by kernel_rfl) (congrArg AV.tup (consE (congrArg AV.agg (consE rfl (consE rfl (consE (congrArg AV.int (show 0 = (cutP ⟨C, L, B⟩ d).1.B from (by first | exact (congrArg (fun x => x.1.B) hN).symm | exact (congrArg Prod.snd hN).symm | (rw [Int.tdiv_eq_ediv_of_nonneg (by omega)]; exact (congrArg (fun x => x.1.B) hN).symm)))) rfl)))) (consE (congrArg AV.int (show lcheck ⟨C, L, B⟩ (65536 : Int) = (cutP ⟨C, L, B⟩ d).2 from (by first | exact (congrArg (fun x => x.1.B) hN).symm | exact (congrArg Prod.snd hN).symm | (rw [Int.tdiv_eq_ediv_of_nonneg (by omega)]; exact (congrArg (fun x => x.1.B) hN).symm)))) rfl))) [true, true] (Eq.trans (show _ = [some (.row 3 (.ints [])), some (.row 3 (.ints []))] from by kernel_rfl) (consO (congrArg some (congrArg (fun x => AObj.row 3 (.ints x)) (show [] = (cutP ⟨C, L, B⟩ d).1.C from (by first | exact (congrArg (fun x => x.1.C) hN).symm | (rw [cutTo_all (by omega)]; exact (congrArg (fun x => x.1.C) hN).symm))))) (consO (congrArg some (congrArg (fun x => AObj.row 3 (.ints x)) (show [] = (cutP ⟨C, L, B⟩ d).1.L from (by exact (congrArg (fun x => x.1.L) hN).symm)))) rfl)))
  ·
   skip
   have h0 := bneF hb0
   have hc : lcheck ⟨C, L, B⟩ 65536 = 0 := h0
   obtain ⟨nb1, nb2, nb3, nb4, nb5⟩ := norm_bound hc
   refine tri_skip ?_
   refine fin_then ?_
   refine tri_seq ?_
   refine tri_seq ?_
   refine tri_regD hcx [] [20] [2, 4, 1] [604] [((!(decide (d < 1))) = true → ((!(decide (d < 1))) = true)), ((decide (d < 1)) = false → (!(decide (d < 1))) = true)] [(20, .bool ((decide (d < 1)) || (decide (d > 1099511627776))))] [] (by kernel_rfl) ?_ ?_
   ·
    refine (ap ?_ (ap (by exact vcNot) az))
    first | omega | exact id | exact vcNot | exact vcG | exact vcH | (intro _; omega) | exact (fun _ h => h) | (intro h; simp at h; omega) | (simp only [List.length_cons, List.length_nil, List.length_append, List.length_map, List.length_set, List.length_replicate]; omega) | (intro h; simp [h]; done)
   refine fin_then ?_
   refine tri_cond (b := ((decide (d < 1)) || (decide (d > 1099511627776)))) (by kernel_rfl) (fun hb1 => ?_) (fun hb1 => ?_)
   ·
    skip
    have h1 := hb1
    try simp only [Bool.or_eq_true, Bool.or_eq_false_iff, Bool.and_eq_true, Bool.and_eq_false_iff, Bool.not_eq_true', Bool.not_eq_false', decide_eq_true_eq, decide_eq_false_iff_not, bne_iff_ne, bne_eq_false_iff_eq, beq_iff_eq, beq_eq_false_iff_ne] at h1
    have hN : cutP ⟨C, L, B⟩ d = (lin0, 1) := cut_arg hc (by omega)
    refine tri_seq ?_
    refine tri_regD hcx [(604, .to 604)] [5] [4] [] [] [(5, .int 1)] [(604, .box [.im (.val (.slice none 0 0)), .im (.val (.slice none 0 0)), .int 0])] (by kernel_rfl) ?_ ?_
    ·
     exact az
    refine fin_then ?_
    refine tri_ret ?_
    refine fin_then_ret ?_
    refine fin_rowB 604 0 700 3 (.ints []) (by kernel_rfl) (by kernel_rfl) (by kernel_rfl) (by kernel_rfl) (H' := [(604, .box [.row 700, .im (.val (.slice none 0 0)), .int 0])]) (by kernel_rfl) ?_
    refine fin_rowB 604 1 701 3 (.ints []) (by kernel_rfl) (by kernel_rfl) (by kernel_rfl) (by kernel_rfl) (H' := [(700, .row 3 (.ints [])), (604, .box [.row 700, .row 701, .int 0])]) (by kernel_rfl) ?_
    refine fin_ren (ρ := [(700, .to 0), (701, .to 1), (604, .to 990)]) (keys := [4, 5]) (E' := [(4, .loc 990 0), (5, .int 1)]) (H' := [(0, .row 3 (.ints [])), (1, .row 3 (.ints [])), (990, .box [.row 0, .row 1, .int 0])]) (by kernel_rfl) ?_
    exact fin_ret [] rfl rfl trivial hcx (avs := [.agg [.row 0, .row 1, .int 0], .int 1]) (by kernel_rfl) (congrArg AV.tup (consE (congrArg AV.agg (consE rfl (consE rfl (consE (congrArg AV.int (show 0 = (cutP ⟨C, L, B⟩ d).1.B from (by first | exact (congrArg (fun x => x.1.B) hN).symm | exact (congrArg Prod.snd hN).symm | (rw [Int.tdiv_eq_ediv_of_nonneg (by omega)]; exact (congrArg (fun x => x.1.B) hN).symm)))) rfl)))) (consE (congrArg AV.int (show 1 = (cutP ⟨C, L, B⟩ d).2 from (by first | exact (congrArg (fun x => x.1.B) hN).symm | exact (congrArg Prod.snd hN).symm | (rw [Int.tdiv_eq_ediv_of_nonneg (by omega)]; exact (congrArg (fun x => x.1.B) hN).symm)))) rfl))) [true, true] (Eq.trans (show _ = [some (.row 3 (.ints [])), some (.row 3 (.ints []))] from by kernel_rfl) (consO (congrArg some (congrArg (fun x => AObj.row 3 (.ints x)) (show [] = (cutP ⟨C, L, B⟩ d).1.C from (by first | exact (congrArg (fun x => x.1.C) hN).symm | (rw [cutTo_all (by omega)]; exact (congrArg (fun x => x.1.C) hN).symm))))) (consO (congrArg some (congrArg (fun x => AObj.row 3 (.ints x)) (show [] = (cutP ⟨C, L, B⟩ d).1.L from (by exact (congrArg (fun x => x.1.L) hN).symm)))) rfl)))
   ·
    skip
    have h1 := hb1
    try simp only [Bool.or_eq_true, Bool.or_eq_false_iff, Bool.and_eq_true, Bool.and_eq_false_iff, Bool.not_eq_true', Bool.not_eq_false', decide_eq_true_eq, decide_eq_false_iff_not, bne_iff_ne, bne_eq_false_iff_eq, beq_iff_eq, beq_eq_false_iff_ne] at h1
    have hN := cut_val hc (d := d) (by omega)
    refine tri_skip ?_
    refine fin_then ?_
    refine tri_seq ?_
    refine tri_regD hcx [(1001, .to 223), (1002, .to 607), (2001, .to 900)] [7] [4, 1] [604] [(C.length ≤ maxLen ∧ L.length ≤ maxLen)] [(7, .loc 607 0)] [(223, .row 3 (.ints ((normP ⟨C, L, B⟩).C))), (607, .box [.row 223, .row 900, .int ((normP ⟨C, L, B⟩).B)]), (900, .row 3 (.ints ((normP ⟨C, L, B⟩).L)))] (by kernel_rfl) ?_ ?_
    ·
     refine (ap ?_ az)
     exact ⟨hm1, hm2⟩
    refine fin_then ?_
    refine tri_seq ?_
    refine tri_seq ?_
    refine tri_regD hcx [] [8] [7, 4, 1] [223, 607, 900, 604] [] [(8, .int 0)] [] (by kernel_rfl) ?_ ?_
    ·
     exact az
    refine fin_then ?_
    refine tri_block ?_
    refine tri_ren (ρ := [(223, .to 10), (900, .to 11), (604, .to 604), (607, .to 607)]) (keys := [1, 4, 7, 8]) (E' := [(1, .int d), (4, .loc 604 0), (7, .loc 607 0), (8, .int 0)]) (H' := [(10, .row 3 (.ints ((normP ⟨C, L, B⟩).C))), (11, .row 3 (.ints ((normP ⟨C, L, B⟩).L))), (604, .box [.im (.val (.slice none 0 0)), .im (.val (.slice none 0 0)), .int 0]), (607, .box [.row 10, .row 11, .int ((normP ⟨C, L, B⟩).B)])]) (by kernel_rfl) ?_
    refine tri_loop (X := Nat) (fun x0 => x0 ≤ (normP ⟨C, L, B⟩).C.length) (fun x0 => [(1, .int d), (4, .loc 604 0), (7, .loc 607 0), (8, .int (x0 : Int))]) (fun x0 => [(10, .row 3 (.ints (cutTo (normP ⟨C, L, B⟩).C d x0))), (11, .row 3 (.ints ((normP ⟨C, L, B⟩).L))), (604, .box [.im (.val (.slice none 0 0)), .im (.val (.slice none 0 0)), .int 0]), (607, .box [.row 10, .row 11, .int ((normP ⟨C, L, B⟩).B)])]) (fun x0 => (normP ⟨C, L, B⟩).C.length - x0) (0) ?_ ?_ ?_ ?_
    ·
     show 0 ≤ (normP ⟨C, L, B⟩).C.length
     omega
    ·
     exact subE_mk (l := [.int d, .loc 604 0, .loc 607 0, .int 0]) (m := [.int d, .loc 604 0, .loc 607 0, .int (0 : Int)]) (by kernel_rfl) (by kernel_rfl) (consE rfl (consE rfl (consE rfl (consE (congrArg AV.int (show 0 = (0 : Int) from (by first | rfl | omega | (simp; done)))) rfl))))
    ·
     exact Eq.trans (show _ = [(10, .row 3 (.ints ((normP ⟨C, L, B⟩).C))), (11, .row 3 (.ints ((normP ⟨C, L, B⟩).L))), (604, .box [.im (.val (.slice none 0 0)), .im (.val (.slice none 0 0)), .int 0]), (607, .box [.row 10, .row 11, .int ((normP ⟨C, L, B⟩).B)])] from by kernel_rfl) (consH (congrArg (fun x => ((10 : Nat), x)) (congrArg (fun x => AObj.row 3 (.ints x)) (show (normP ⟨C, L, B⟩).C = cutTo (normP ⟨C, L, B⟩).C d 0 from (by exact (cutTo_zero _ _).symm)))) (consH rfl (consH rfl (consH rfl rfl))))
    ·
     intro i hI
     replace hI : i ≤ (normP ⟨C, L, B⟩).C.length := hI
     change Tri _ [(1, .int d), (4, .loc 604 0), (7, .loc 607 0), (8, .int (i : Int))] [(10, .row 3 (.ints (cutTo (normP ⟨C, L, B⟩).C d i))), (11, .row 3 (.ints ((normP ⟨C, L, B⟩).L))), (604, .box [.im (.val (.slice none 0 0)), .im (.val (.slice none 0 0)), .int 0]), (607, .box [.row 10, .row 11, .int ((normP ⟨C, L, B⟩).B)])] _ _
     have hcl := cutTo_len (normP ⟨C, L, B⟩).C d i
     have hci : i < (normP ⟨C, L, B⟩).C.length → 0 < (normP ⟨C, L, B⟩).C.getD i 0 ∧ (normP ⟨C, L, B⟩).C.getD i 0 ≤ 4504699138998272 := fun h => nb3 _ (getD_mem h)
     refine tri_seq ?_
     refine tri_seq ?_
     refine tri_regD hcx [] [28] [1, 4, 7, 8] [10, 11, 604, 607] [] [(28, .bool (decide ((i : Int) < ((cutTo (normP ⟨C, L, B⟩).C d i).length : Int))))] [] (by kernel_rfl) ?_ ?_
     ·
      exact az
     refine fin_then ?_
     refine tri_cond (b := (decide ((i : Int) < ((cutTo (normP ⟨C, L, B⟩).C d i).length : Int)))) (by kernel_rfl) (fun hb2 => ?_) (fun hb2 => ?_)
     ·
      skip
      have h2 := of_decide_eq_true hb2
      refine tri_skip ?_
      refine fin_then ?_
      refine tri_seq ?_
      refine tri_block ?_
      refine tri_drawD [0, 1, 0, 0, 8, 0, 56, 120, 0, 504, 1016, 0, 4088, 8191, 16383] hcx hmx [(10, .to 10)] [] [1, 4, 7, 8] [11, 604, 607] [((0 : Int) ≤ (i : Int) ∧ (i : Int) < ((cutTo (normP ⟨C, L, B⟩).C d i).length : Int)), (i < (cutTo (normP ⟨C, L, B⟩).C d i).length), Fit (((cutTo (normP ⟨C, L, B⟩).C d i).getD i 0) + d), Fit ((((cutTo (normP ⟨C, L, B⟩).C d i).getD i 0) + d) - 1), (d ≠ 0 ∧ Fit (((((cutTo (normP ⟨C, L, B⟩).C d i).getD i 0) + d) - 1).tdiv d)), ((0 : Int) ≤ (i : Int) ∧ (i : Int) < ((cutTo (normP ⟨C, L, B⟩).C d i).length : Int)), (i < (cutTo (normP ⟨C, L, B⟩).C d i).length)] [] [(10, .row 3 (.ints ((cutTo (normP ⟨C, L, B⟩).C d i).set i (((((cutTo (normP ⟨C, L, B⟩).C d i).getD i 0) + d) - 1).tdiv d))))] (by kernel_rfl) ?_ ?_
      ·
       refine (ap ?_ (ap ?_ (ap ?_ (ap ?_ (ap ?_ (ap ?_ (ap ?_ az)))))))
       all_goals
        first | omega | (rw [cutTo_len]; omega) | (rw [cutTo_at (by omega)]; omega) | (rw [cutTo_at (by omega)]; refine ⟨by omega, ?_⟩; have hq := Int.ediv_le_self (a := (normP ⟨C, L, B⟩).C.getD i 0 + d - 1) d (by omega); have hq0 := Int.ediv_nonneg (a := (normP ⟨C, L, B⟩).C.getD i 0 + d - 1) (b := d) (by omega) (by omega); rw [Int.tdiv_eq_ediv_of_nonneg (by omega)]; omega)
      refine fin_block ?_
      refine fin_then ?_
      refine tri_regD hcx [] [8] [1, 4, 7] [10, 11, 604, 607] [Fit ((i : Int) + 1)] [(8, .int ((i : Int) + 1))] [] (by kernel_rfl) ?_ ?_
      ·
       refine (ap ?_ az)
       omega
      refine fin_round (i + 1) ?_ ?_ ?_ ?_
      ·
       show (i + 1) ≤ (normP ⟨C, L, B⟩).C.length
       omega
      ·
       show (normP ⟨C, L, B⟩).C.length - (i + 1) < (normP ⟨C, L, B⟩).C.length - i
       omega
      ·
       exact subE_mk (l := [.int d, .loc 604 0, .loc 607 0, .int ((i : Int) + 1)]) (m := [.int d, .loc 604 0, .loc 607 0, .int ((i + 1) : Int)]) (by kernel_rfl) (by kernel_rfl) (consE rfl (consE rfl (consE rfl (consE (congrArg AV.int (show ((i : Int) + 1) = ((i + 1) : Int) from (by first | rfl | omega | (simp; done)))) rfl))))
      ·
       exact Eq.trans (show _ = [(10, .row 3 (.ints ((cutTo (normP ⟨C, L, B⟩).C d i).set i (((((cutTo (normP ⟨C, L, B⟩).C d i).getD i 0) + d) - 1).tdiv d)))), (11, .row 3 (.ints ((normP ⟨C, L, B⟩).L))), (604, .box [.im (.val (.slice none 0 0)), .im (.val (.slice none 0 0)), .int 0]), (607, .box [.row 10, .row 11, .int ((normP ⟨C, L, B⟩).B)])] from by kernel_rfl) (consH (congrArg (fun x => ((10 : Nat), x)) (congrArg (fun x => AObj.row 3 (.ints x)) (show ((cutTo (normP ⟨C, L, B⟩).C d i).set i (((((cutTo (normP ⟨C, L, B⟩).C d i).getD i 0) + d) - 1).tdiv d)) = cutTo (normP ⟨C, L, B⟩).C d (i + 1) from (by exact cutTo_succ (by omega) (by omega))))) (consH rfl (consH rfl (consH rfl rfl))))
     ·
      skip
      have h2 := of_decide_eq_false hb2
      refine tri_exit ?_
      refine fin_then_exit ?_
      refine fin_then_exit ?_
      refine fin_block_same ?_
      refine fin_then ?_
      refine tri_seq ?_
      refine tri_regD hcx [(607, .to 607)] [] [4, 7] [10, 11, 604] [Fit ((normP ⟨C, L, B⟩).B + d), Fit (((normP ⟨C, L, B⟩).B + d) - 1), (d ≠ 0 ∧ Fit ((((normP ⟨C, L, B⟩).B + d) - 1).tdiv d))] [] [(607, .box [.row 10, .row 11, .int ((((normP ⟨C, L, B⟩).B + d) - 1).tdiv d)])] (by kernel_rfl) ?_ ?_
      ·
       refine (ap ?_ (ap ?_ (ap ?_ az)))
       all_goals
        first | omega | (refine ⟨by omega, ?_⟩; have hq := Int.ediv_le_self (a := (normP ⟨C, L, B⟩).B + d - 1) d (by omega); have hq0 := Int.ediv_nonneg (a := (normP ⟨C, L, B⟩).B + d - 1) (b := d) (by omega) (by omega); rw [Int.tdiv_eq_ediv_of_nonneg (by omega)]; omega)
      refine fin_then ?_
      refine tri_seq ?_
      refine tri_regD hcx [(604, .to 604)] [5] [4] [10, 11] [] [(5, .int 0)] [(604, .box [.row 10, .row 11, .int ((((normP ⟨C, L, B⟩).B + d) - 1).tdiv d)])] (by kernel_rfl) ?_ ?_
      ·
       exact az
      refine fin_then ?_
      refine tri_ret ?_
      refine fin_ren (ρ := [(10, .to 0), (11, .to 1), (604, .to 990)]) (keys := [4, 5]) (E' := [(4, .loc 990 0), (5, .int 0)]) (H' := [(0, .row 3 (.ints (cutTo (normP ⟨C, L, B⟩).C d i))), (1, .row 3 (.ints ((normP ⟨C, L, B⟩).L))), (990, .box [.row 0, .row 1, .int ((((normP ⟨C, L, B⟩).B + d) - 1).tdiv d)])]) (by kernel_rfl) ?_
      exact fin_ret [] rfl rfl trivial hcx (avs := [.agg [.row 0, .row 1, .int ((((normP ⟨C, L, B⟩).B + d) - 1).tdiv d)], .int 0]) (by kernel_rfl) (congrArg AV.tup (consE (congrArg AV.agg (consE rfl (consE rfl (consE (congrArg AV.int (show ((((normP ⟨C, L, B⟩).B + d) - 1).tdiv d) = (cutP ⟨C, L, B⟩ d).1.B from (by first | exact (congrArg (fun x => x.1.B) hN).symm | exact (congrArg Prod.snd hN).symm | (rw [Int.tdiv_eq_ediv_of_nonneg (by omega)]; exact (congrArg (fun x => x.1.B) hN).symm)))) rfl)))) (consE (congrArg AV.int (show 0 = (cutP ⟨C, L, B⟩ d).2 from (by first | exact (congrArg (fun x => x.1.B) hN).symm | exact (congrArg Prod.snd hN).symm | (rw [Int.tdiv_eq_ediv_of_nonneg (by omega)]; exact (congrArg (fun x => x.1.B) hN).symm)))) rfl))) [true, true] (Eq.trans (show _ = [some (.row 3 (.ints (cutTo (normP ⟨C, L, B⟩).C d i))), some (.row 3 (.ints ((normP ⟨C, L, B⟩).L)))] from by kernel_rfl) (consO (congrArg some (congrArg (fun x => AObj.row 3 (.ints x)) (show cutTo (normP ⟨C, L, B⟩).C d i = (cutP ⟨C, L, B⟩ d).1.C from (by first | exact (congrArg (fun x => x.1.C) hN).symm | (rw [cutTo_all (by omega)]; exact (congrArg (fun x => x.1.C) hN).symm))))) (consO (congrArg some (congrArg (fun x => AObj.row 3 (.ints x)) (show (normP ⟨C, L, B⟩).L = (cutP ⟨C, L, B⟩ d).1.L from (by exact (congrArg (fun x => x.1.L) hN).symm)))) rfl)))
 ·
  cases hσ
def cx_rInts12 : Cx := ⟨ty12, [(65, rOf12_σ), (67, (coeF [.id, .ld (.bools [])] rLit12_σ)), (18, (coeF [.agg [.ld (.ints []), .ld (.ints []), .id], .id] rCheck12_σ)), (14, (coeF [.agg [.ld (.ints []), .ld (.ints []), .id], .agg [.ld (.ints []), .ld (.ints []), .id]] rSame12_σ)), (46, (coeF [.agg [.ld (.ints []), .ld (.ints []), .id], .id] rboth12_σ)), (45, (coeF [.agg [.ld (.ints []), .ld (.ints []), .id]] rvars12_σ)), (16, (coeF [.agg [.ld (.ints []), .ld (.ints []), .id]] rNorm12_σ)), (57, (coeF [.agg [.ld (.ints []), .ld (.ints []), .id], .ld (.bools [])] rHolds12_σ)), (24, (coeF [.agg [.ld (.ints []), .ld (.ints []), .id], .ld (.bools [])] rValue12_σ)), (33, (coeF [.ld (.ints []), .id] rHas12_σ)), (31, (coeF [.ld (.ints []), .id] rUnlike12_σ)), (21, (coeF [.agg [.ld (.ints []), .ld (.ints []), .id], .ld (.ints [])] rForce12_σ)), (26, (coeF [.agg [.ld (.ints []), .ld (.ints []), .id], .agg [.ld (.ints []), .ld (.ints []), .id]] rAdd12_σ)), (28, (coeF [.agg [.ld (.ints []), .ld (.ints []), .id], .id] rCut12_σ))]⟩
theorem cx_rInts12_ok : CxOk Try.prog cx_rInts12 := cx_ok ty12_ok ⟨rOf12_sound, (rLit12_sound.coe [.id, .ld (.bools [])] rfl), (rCheck12_sound.coe [.agg [.ld (.ints []), .ld (.ints []), .id], .id] rfl), (rSame12_sound.coe [.agg [.ld (.ints []), .ld (.ints []), .id], .agg [.ld (.ints []), .ld (.ints []), .id]] rfl), (rboth12_sound.coe [.agg [.ld (.ints []), .ld (.ints []), .id], .id] rfl), (rvars12_sound.coe [.agg [.ld (.ints []), .ld (.ints []), .id]] rfl), (rNorm12_sound.coe [.agg [.ld (.ints []), .ld (.ints []), .id]] rfl), (rHolds12_sound.coe [.agg [.ld (.ints []), .ld (.ints []), .id], .ld (.bools [])] rfl), (rValue12_sound.coe [.agg [.ld (.ints []), .ld (.ints []), .id], .ld (.bools [])] rfl), (rHas12_sound.coe [.ld (.ints []), .id] rfl), (rUnlike12_sound.coe [.ld (.ints []), .id] rfl), (rForce12_sound.coe [.agg [.ld (.ints []), .ld (.ints []), .id], .ld (.ints [])] rfl), (rAdd12_sound.coe [.agg [.ld (.ints []), .ld (.ints []), .id], .agg [.ld (.ints []), .ld (.ints []), .id]] rfl), (rCut12_sound.coe [.agg [.ld (.ints []), .ld (.ints []), .id], .id] rfl), trivial⟩
def rInts12_σ : CtF
  | [.im (.ls (.ints a)), .im (.ls (.ints b))], [] => some (a.length ≤ maxLen, .bool (decide (a = b)), [])
  | _, _ => none
theorem rInts12_sound : Sound Try.prog 22 rInts12_σ := by
 refine sound_mk (cx := cx_rInts12) (fn := Try.f22) Try.func22 (by kernel_rfl) rfl ?_
 intro w0 G0 args os p r outs hσ hp hm0 hd0
 have hcx : CxOk Try.prog cx_rInts12 := cx_rInts12_ok
 have hmx : Try.prog.follows .mixedOrders = true := by kernel_rfl
 unfold rInts12_σ at hσ
 split at hσ
 ·
  rename_i a b
  simp only [Option.some.injEq, Prod.mk.injEq] at hσ
  obtain ⟨rfl, rfl, rfl⟩ := hσ
  obtain ⟨wW, wO, wm, wβ, wd⟩ := w0
  replace hm0 : wm = 0 := hm0
  subst hm0
  replace hd0 : wd = [] := hd0
  subst hd0
  refine ⟨by kernel_rfl, ?_⟩
  change Tri ⟨_, _, _, _, _, _⟩ [(0, .ints a), (1, .ints b)] [] _ _
  unfold maxLen at hp
  refine tri_seq ?_
  refine tri_regD hcx [] [] [0, 1] [] [] [] [] (by kernel_rfl) ?_ ?_
  ·
   exact az
  refine fin_then ?_
  refine tri_seq ?_
  refine tri_seq ?_
  refine tri_regD hcx [] [10] [0, 1] [] [] [(10, .bool ((a.length : Int) != (b.length : Int)))] [] (by kernel_rfl) ?_ ?_
  ·
   exact az
  refine fin_then ?_
  refine tri_cond (b := ((a.length : Int) != (b.length : Int))) (by kernel_rfl) (fun hb0 => ?_) (fun hb0 => ?_)
  ·
   skip
   have h0 := bne_iff_ne.1 hb0
   refine tri_seq ?_
   refine tri_regD hcx [] [4] [] [] [] [(4, .bool false)] [] (by kernel_rfl) ?_ ?_
   ·
    exact az
   refine fin_then ?_
   refine tri_ret ?_
   refine fin_then_ret ?_
   exact fin_ret [] rfl rfl trivial hcx (avs := [.bool false]) (by kernel_rfl) (congrArg AV.bool (show false = decide (a = b) from (by exact (decide_eq_false (fun e => by subst e; omega)).symm))) [] rfl
  ·
   skip
   have h0 := bneF hb0
   refine tri_skip ?_
   refine fin_then ?_
   refine tri_seq ?_
   refine tri_seq ?_
   refine tri_regD hcx [] [5] [0, 1] [] [] [(5, .int 0)] [] (by kernel_rfl) ?_ ?_
   ·
    exact az
   refine fin_then ?_
   refine tri_block ?_
   refine tri_loop (X := Nat) (fun x0 => x0 ≤ a.length ∧ ∀ j, j < x0 → a.getD j 0 = b.getD j 0) (fun x0 => [(0, .ints a), (1, .ints b), (5, .int (x0 : Int))]) (fun x0 => []) (fun x0 => a.length - x0) (0) ?_ ?_ ?_ ?_
   ·
    show 0 ≤ a.length ∧ ∀ j, j < 0 → a.getD j 0 = b.getD j 0
    exact ⟨Nat.zero_le _, fun j hj => by omega⟩
   ·
    exact subE_mk (l := [.ints a, .ints b, .int 0]) (m := [.ints a, .ints b, .int (0 : Int)]) (by kernel_rfl) (by kernel_rfl) (consE rfl (consE rfl (consE (congrArg AV.int (show 0 = (0 : Int) from (by first | rfl | omega | (simp; done)))) rfl)))
   ·
    kernel_rfl
   ·
    intro k hI
    replace hI : k ≤ a.length ∧ ∀ j, j < k → a.getD j 0 = b.getD j 0 := hI
    change Tri _ [(0, .ints a), (1, .ints b), (5, .int (k : Int))] [] _ _
    obtain ⟨hk, hok⟩ := hI
    refine tri_seq ?_
    refine tri_seq ?_
    refine tri_regD hcx [] [14] [0, 1, 5] [] [] [(14, .bool (decide ((k : Int) < (a.length : Int))))] [] (by kernel_rfl) ?_ ?_
    ·
     exact az
    refine fin_then ?_
    refine tri_cond (b := (decide ((k : Int) < (a.length : Int)))) (by kernel_rfl) (fun hb1 => ?_) (fun hb1 => ?_)
    ·
     skip
     have h1 := of_decide_eq_true hb1
     refine tri_skip ?_
     refine fin_then ?_
     refine tri_seq ?_
     refine tri_block ?_
     refine tri_seq ?_
     refine tri_drawD [0, 0, 3, 7, 0, 0, 48, 112, 255] hcx hmx [] [25] [0, 1, 5] [] [((0 : Int) ≤ (k : Int) ∧ (k : Int) < (a.length : Int)), ((0 : Int) ≤ (k : Int) ∧ (k : Int) < (b.length : Int))] [(25, .bool ((a.getD k 0) != (b.getD k 0)))] [] (by kernel_rfl) ?_ ?_
     ·
      refine (ap ?_ (ap ?_ az))
      all_goals
       omega
     refine fin_then ?_
     refine tri_cond (b := ((a.getD k 0) != (b.getD k 0))) (by kernel_rfl) (fun hb2 => ?_) (fun hb2 => ?_)
     ·
      skip
      have h2 := bne_iff_ne.1 hb2
      refine tri_seq ?_
      refine tri_regD hcx [] [4] [] [] [] [(4, .bool false)] [] (by kernel_rfl) ?_ ?_
      ·
       exact az
      refine fin_then ?_
      refine tri_ret ?_
      refine fin_block_ret ?_
      refine fin_then_ret ?_
      refine fin_then_ret ?_
      refine fin_block_ret ?_
      refine fin_then_ret ?_
      exact fin_ret [] rfl rfl trivial hcx (avs := [.bool false]) (by kernel_rfl) (congrArg AV.bool (show false = decide (a = b) from (by exact (decide_eq_false (fun e => by subst e; omega)).symm))) [] rfl
     ·
      skip
      have h2 := bneF hb2
      refine tri_skip ?_
      refine fin_block ?_
      refine fin_then ?_
      refine tri_regD hcx [] [5] [0, 1] [] [Fit ((k : Int) + 1)] [(5, .int ((k : Int) + 1))] [] (by kernel_rfl) ?_ ?_
      ·
       refine (ap ?_ az)
       omega
      refine fin_round (k + 1) ?_ ?_ ?_ ?_
      ·
       show (k + 1) ≤ a.length ∧ ∀ j, j < (k + 1) → a.getD j 0 = b.getD j 0
       exact ⟨by omega, allSucc hok (by omega)⟩
      ·
       show a.length - (k + 1) < a.length - k
       omega
      ·
       exact subE_mk (l := [.ints a, .ints b, .int ((k : Int) + 1)]) (m := [.ints a, .ints b, .int ((k + 1) : Int)]) (by kernel_rfl) (by kernel_rfl) (consE rfl (consE rfl (consE (congrArg AV.int (show ((k : Int) + 1) = ((k + 1) : Int) from (by first | rfl | omega | (simp; done)))) rfl)))
      ·
       kernel_rfl
    ·
     skip
     have h1 := of_decide_eq_false hb1
     refine tri_exit ?_
     refine fin_then_exit ?_
     refine fin_then_exit ?_
     refine fin_block_same ?_
     refine fin_then ?_
     refine tri_seq ?_
     refine tri_regD hcx [] [4] [] [] [] [(4, .bool true)] [] (by kernel_rfl) ?_ ?_
     ·
      exact az
     refine fin_then ?_
     refine tri_ret ?_
     exact fin_ret [] rfl rfl trivial hcx (avs := [.bool true]) (by kernel_rfl) (congrArg AV.bool (show true = decide (a = b) from (by exact (decide_eq_true (ext_getD (by omega) (fun j hj => hok j (by omega)))).symm))) [] rfl
 ·
  cases hσ
end Go.Proofs.Ytibfgeoiemmjoaa.En
