/- The reference of layer 24: sizes, assignments, equality; in the reader's words. -/
import Derived.Test.YtbpbndlgfiammaaGreatDoorEngG
import Derived.Test.YtbpbndlgfiammaaGreatDoorProg
import Derived.Test.YtbpbndlgfiammaaGreatDoorLaw24P
namespace Go.Proofs.YtbpbndlgfiammaaGreatDoor.En
open Go Go.RowKit
set_option linter.unusedVariables false
set_option linter.unusedSimpArgs false
set_option linter.unnecessarySimpa false
def tyR24A : List (Nat × TD) := [(3, ⟨1, false, [.int .i64 0], [], none, 8, false, 1, 1⟩),
  (22, ⟨1, false, [.slice none 0 0], [], some 23, 24, false, 0, 0⟩),
  (23, ⟨1, false, [.slice none 0 0], [], some 3, 24, false, 0, 3⟩),
  (29, ⟨1, false, [.slice none 0 0], [], some 43, 24, false, 0, 0⟩),
  (43, ⟨2, true, [.int .i64 0, .slice none 0 0], [(0, 3), (1, 23)], none, 32, false, 0, 7⟩)]
theorem tyR24A_ok : AllTy Tryz.prog tyR24A := ⟨⟨by kernel_rfl, by kernel_rfl, by kernel_rfl⟩, ⟨by kernel_rfl, by kernel_rfl, by kernel_rfl⟩, ⟨by kernel_rfl, by kernel_rfl, by kernel_rfl⟩, ⟨by kernel_rfl, by kernel_rfl, by kernel_rfl⟩, ⟨by kernel_rfl, by kernel_rfl, by kernel_rfl⟩, trivial⟩
def cx_rFewC : Cx := ⟨tyR24A, [], true⟩
theorem cx_rFewC_ok : CxOk Tryz.prog cx_rFewC := cx_ok tyR24A_ok trivial
def rFewC_σ : CtF
  | [.im (.ls (.intss c)), .im (.val (.int .i64 m))], [] => some (c.length ≤ maxLen ∧ (∀ x ∈ c, x.length ≤ 17592186043904) ∧ 0 ≤ m ∧ m ≤ 1000, .bool (Cn.fewC c m), [])
  | _, _ => none
theorem rFewC_sound : Sound Tryz.prog 13 rFewC_σ := by
 refine sound_mk (cx := cx_rFewC) (fn := Tryz.f13) Tryz.func13 (by kernel_rfl) rfl ?_
 intro w0 G0 args os p r outs hσ hp hm0 hd0
 have hcx : CxOk Tryz.prog cx_rFewC := cx_rFewC_ok
 unfold rFewC_σ at hσ
 split at hσ
 ·
  rename_i c m
  simp only [Option.some.injEq, Prod.mk.injEq] at hσ
  obtain ⟨rfl, rfl, rfl⟩ := hσ
  obtain ⟨wW, wO, wm, wβ, wd⟩ := w0
  replace hm0 : wm = 0 := hm0
  subst hm0
  replace hd0 : wd = [] := hd0
  subst hd0
  refine ⟨by kernel_rfl, ?_⟩
  change Tri ⟨_, _, _, _, _, _⟩ [(0, .intss c), (1, .int m)] [] _ _
  obtain ⟨hm1, hm2, hm3, hm4⟩ := hp
  unfold maxLen at hm1
  refine tri_seq ?_
  refine tri_regD hcx [] [] [0, 1] [] [] [] [] (by kernel_rfl) ?_ ?_
  ·
   exact az
  refine fin_then ?_
  refine tri_seq ?_
  refine tri_regD hcx [] [5] [0, 1] [] [] [(5, .int 0)] [] (by kernel_rfl) ?_ ?_
  ·
   exact az
  refine fin_then ?_
  refine tri_seq ?_
  refine tri_seq ?_
  refine tri_regD hcx [] [6] [5, 0, 1] [] [] [(6, .int 0)] [] (by kernel_rfl) ?_ ?_
  ·
   exact az
  refine fin_then ?_
  refine tri_block ?_
  refine tri_loop (X := Nat) (fun x0 => x0 ≤ c.length ∧ (Cn.szC (c.take x0) : Int) ≤ 6 * m) (fun x0 => [(0, .intss c), (1, .int m), (5, .int (Cn.szC (c.take x0) : Int)), (6, .int (x0 : Int))]) (fun x0 => []) (fun x0 => c.length - x0) (0) ?_ ?_ ?_ ?_
  ·
   show 0 ≤ c.length ∧ (Cn.szC (c.take 0) : Int) ≤ 6 * m
   exact ⟨Nat.zero_le _, by show (0 : Int) ≤ 6 * m; omega⟩
  ·
   exact subE_mk (l := [.intss c, .int m, .int 0, .int 0]) (m := [.intss c, .int m, .int (Cn.szC (c.take 0) : Int), .int (0 : Int)]) (by kernel_rfl) (by kernel_rfl) (consE rfl (consE rfl (consE (congrArg AV.int (show 0 = (Cn.szC (c.take 0) : Int) from (by rfl))) (consE (congrArg AV.int (show 0 = (0 : Int) from (by first | rfl | omega | (simp; done)))) rfl))))
  ·
   kernel_rfl
  ·
   intro i hI
   replace hI : i ≤ c.length ∧ (Cn.szC (c.take i) : Int) ≤ 6 * m := hI
   change Tri _ [(0, .intss c), (1, .int m), (5, .int (Cn.szC (c.take i) : Int)), (6, .int (i : Int))] [] _ _
   obtain ⟨hk, hs⟩ := hI
   have hn := fun (h : i < c.length) => Cn.fewC_next h
   have hxl := fun (h : i < c.length) => hm2 _ (Cn.getD_memL (d := []) h)
   refine tri_seq ?_
   refine tri_seq ?_
   refine tri_regD hcx [] [15] [0, 1, 5, 6] [] [((decide ((i : Int) < (c.length : Int))) = true → ((decide ((i : Int) < (c.length : Int))) = true)), ((decide ((i : Int) < (c.length : Int))) = true → ((decide ((i : Int) < (c.length : Int))) = true)), ((decide ((i : Int) < (c.length : Int))) = true → (decide ((i : Int) < (c.length : Int))) = true)] [(15, .bool ((decide ((i : Int) < (c.length : Int))) && (decide ((i : Int) ≤ m))))] [] (by kernel_rfl) ?_ ?_
   ·
    refine (ap ?_ (ap ?_ (ap (by exact id) az)))
    all_goals
     exact id
   refine fin_then ?_
   refine tri_cond (b := ((decide ((i : Int) < (c.length : Int))) && (decide ((i : Int) ≤ m)))) (by kernel_rfl) (fun hb0 => ?_) (fun hb0 => ?_)
   ·
    skip
    have h0 := hb0
    have h15 := (Cn.and_t h0).1
    have h15b : i < c.length := by simpa using h15
    have hn9 := hn h15b
    have hx9 := hxl h15b
    refine tri_skip ?_
    refine fin_then ?_
    refine tri_seq ?_
    refine tri_block ?_
    refine tri_seq ?_
    refine tri_regD hcx [] [5] [0, 1, 6] [] [((0 : Int) ≤ (i : Int) ∧ (i : Int) < (c.length : Int)), Fit (1 + ((c.getD i []).length : Int)), Fit ((Cn.szC (c.take i) : Int) + (1 + ((c.getD i []).length : Int)))] [(5, .int ((Cn.szC (c.take i) : Int) + (1 + ((c.getD i []).length : Int))))] [] (by kernel_rfl) ?_ ?_
    ·
     refine (ap ?_ (ap ?_ (ap ?_ az)))
     all_goals
      omega
    refine fin_then ?_
    refine tri_seq ?_
    refine tri_regD hcx [] [29] [5, 0, 1, 6] [] [Fit (6 * m)] [(29, .bool (decide (((Cn.szC (c.take i) : Int) + (1 + ((c.getD i []).length : Int))) > (6 * m))))] [] (by kernel_rfl) ?_ ?_
    ·
     refine (ap ?_ az)
     omega
    refine fin_then ?_
    refine tri_cond (b := (decide (((Cn.szC (c.take i) : Int) + (1 + ((c.getD i []).length : Int))) > (6 * m)))) (by kernel_rfl) (fun hb1 => ?_) (fun hb1 => ?_)
    ·
     skip
     have h1 := of_decide_eq_true hb1
     have h29 := h1
     refine tri_seq ?_
     refine tri_regD hcx [] [4] [] [] [] [(4, .bool false)] [] (by kernel_rfl) ?_ ?_
     ·
      exact az
     refine fin_then ?_
     refine tri_ret ?_
     refine fin_block_ret ?_
     refine fin_then_ret ?_
     refine fin_then_ret ?_
     refine fin_block_ret ?_
     refine fin_then_ret ?_
     exact fin_ret [] rfl rfl trivial hcx (avs := [.bool false]) (by kernel_rfl) (congrArg AV.bool (show false = (Cn.fewC c m) from (by first | exact Cn.fewG_big (by rw [show Cn.szG _ _ = Cn.szC (c.take (i + 1)) from rfl]; omega) | exact Cn.fewG_end hs hk h15 | done))) [] rfl
    ·
     skip
     have h1 := of_decide_eq_false hb1
     have h29 := h1
     refine tri_skip ?_
     refine fin_block ?_
     refine fin_then ?_
     refine tri_regD hcx [] [6] [5, 0, 1] [] [Fit ((i : Int) + 1)] [(6, .int ((i : Int) + 1))] [] (by kernel_rfl) ?_ ?_
     ·
      refine (ap ?_ az)
      omega
     refine fin_round (i + 1) ?_ ?_ ?_ ?_
     ·
      show (i + 1) ≤ c.length ∧ (Cn.szC (c.take (i + 1)) : Int) ≤ 6 * m
      exact ⟨by omega, by omega⟩
     ·
      show c.length - (i + 1) < c.length - i
      omega
     ·
      exact subE_mk (l := [.intss c, .int m, .int ((Cn.szC (c.take i) : Int) + (1 + ((c.getD i []).length : Int))), .int ((i : Int) + 1)]) (m := [.intss c, .int m, .int (Cn.szC (c.take (i + 1)) : Int), .int ((i + 1) : Int)]) (by kernel_rfl) (by kernel_rfl) (consE rfl (consE rfl (consE (congrArg AV.int (show ((Cn.szC (c.take i) : Int) + (1 + ((c.getD i []).length : Int))) = (Cn.szC (c.take (i + 1)) : Int) from (by (have h8 := hn (by omega); omega)))) (consE (congrArg AV.int (show ((i : Int) + 1) = ((i + 1) : Int) from (by first | rfl | omega | (simp; done)))) rfl))))
     ·
      kernel_rfl
   ·
    skip
    have h0 := hb0
    have h15 := h0
    refine tri_exit ?_
    refine fin_then_exit ?_
    refine fin_then_exit ?_
    refine fin_block_same ?_
    refine fin_then ?_
    refine tri_seq ?_
    refine tri_regD hcx [] [4] [] [] [] [(4, .bool (decide ((c.length : Int) ≤ m)))] [] (by kernel_rfl) ?_ ?_
    ·
     exact az
    refine fin_then ?_
    refine tri_ret ?_
    exact fin_ret [] rfl rfl trivial hcx (avs := [.bool (decide ((c.length : Int) ≤ m))]) (by kernel_rfl) (congrArg AV.bool (show (decide ((c.length : Int) ≤ m)) = (Cn.fewC c m) from (by first | exact Cn.fewG_big (by rw [show Cn.szG _ _ = Cn.szC (c.take (i + 1)) from rfl]; omega) | exact Cn.fewG_end hs hk h15 | done))) [] rfl
 ·
  cases hσ
def cx_rFewL : Cx := ⟨tyR24A, [], true⟩
theorem cx_rFewL_ok : CxOk Tryz.prog cx_rFewL := cx_ok tyR24A_ok trivial
def rFewL_σ : CtF
  | [.im (.ls (.lines p)), .im (.val (.int .i64 m))], [] => some (p.length ≤ maxLen ∧ (∀ x ∈ p, x.2.length ≤ 17592186043904) ∧ 0 ≤ m ∧ m ≤ 1000, .bool (Cn.fewL p m), [])
  | _, _ => none
theorem rFewL_sound : Sound Tryz.prog 16 rFewL_σ := by
 refine sound_mk (cx := cx_rFewL) (fn := Tryz.f16) Tryz.func16 (by kernel_rfl) rfl ?_
 intro w0 G0 args os p r outs hσ hp hm0 hd0
 have hcx : CxOk Tryz.prog cx_rFewL := cx_rFewL_ok
 unfold rFewL_σ at hσ
 split at hσ
 ·
  rename_i p m
  simp only [Option.some.injEq, Prod.mk.injEq] at hσ
  obtain ⟨rfl, rfl, rfl⟩ := hσ
  obtain ⟨wW, wO, wm, wβ, wd⟩ := w0
  replace hm0 : wm = 0 := hm0
  subst hm0
  replace hd0 : wd = [] := hd0
  subst hd0
  refine ⟨by kernel_rfl, ?_⟩
  change Tri ⟨_, _, _, _, _, _⟩ [(0, .lines p), (1, .int m)] [] _ _
  obtain ⟨hm1, hm2, hm3, hm4⟩ := hp
  unfold maxLen at hm1
  refine tri_seq ?_
  refine tri_regD hcx [] [] [0, 1] [] [] [] [] (by kernel_rfl) ?_ ?_
  ·
   exact az
  refine fin_then ?_
  refine tri_seq ?_
  refine tri_regD hcx [] [5] [0, 1] [] [] [(5, .int 0)] [] (by kernel_rfl) ?_ ?_
  ·
   exact az
  refine fin_then ?_
  refine tri_seq ?_
  refine tri_seq ?_
  refine tri_regD hcx [] [6] [5, 0, 1] [] [] [(6, .int 0)] [] (by kernel_rfl) ?_ ?_
  ·
   exact az
  refine fin_then ?_
  refine tri_block ?_
  refine tri_loop (X := Nat) (fun x0 => x0 ≤ p.length ∧ (Cn.szL (p.take x0) : Int) ≤ 6 * m) (fun x0 => [(0, .lines p), (1, .int m), (5, .int (Cn.szL (p.take x0) : Int)), (6, .int (x0 : Int))]) (fun x0 => []) (fun x0 => p.length - x0) (0) ?_ ?_ ?_ ?_
  ·
   show 0 ≤ p.length ∧ (Cn.szL (p.take 0) : Int) ≤ 6 * m
   exact ⟨Nat.zero_le _, by show (0 : Int) ≤ 6 * m; omega⟩
  ·
   exact subE_mk (l := [.lines p, .int m, .int 0, .int 0]) (m := [.lines p, .int m, .int (Cn.szL (p.take 0) : Int), .int (0 : Int)]) (by kernel_rfl) (by kernel_rfl) (consE rfl (consE rfl (consE (congrArg AV.int (show 0 = (Cn.szL (p.take 0) : Int) from (by rfl))) (consE (congrArg AV.int (show 0 = (0 : Int) from (by first | rfl | omega | (simp; done)))) rfl))))
  ·
   kernel_rfl
  ·
   intro i hI
   replace hI : i ≤ p.length ∧ (Cn.szL (p.take i) : Int) ≤ 6 * m := hI
   change Tri _ [(0, .lines p), (1, .int m), (5, .int (Cn.szL (p.take i) : Int)), (6, .int (i : Int))] [] _ _
   obtain ⟨hk, hs⟩ := hI
   have hn := fun (h : i < p.length) => Cn.fewL_next h
   have hxl := fun (h : i < p.length) => hm2 _ (Cn.getD_memL (d := (0, [])) h)
   refine tri_seq ?_
   refine tri_seq ?_
   refine tri_regD hcx [] [15] [0, 1, 5, 6] [] [((decide ((i : Int) < (p.length : Int))) = true → ((decide ((i : Int) < (p.length : Int))) = true)), ((decide ((i : Int) < (p.length : Int))) = true → ((decide ((i : Int) < (p.length : Int))) = true)), ((decide ((i : Int) < (p.length : Int))) = true → (decide ((i : Int) < (p.length : Int))) = true)] [(15, .bool ((decide ((i : Int) < (p.length : Int))) && (decide ((i : Int) ≤ m))))] [] (by kernel_rfl) ?_ ?_
   ·
    refine (ap ?_ (ap ?_ (ap (by exact id) az)))
    all_goals
     exact id
   refine fin_then ?_
   refine tri_cond (b := ((decide ((i : Int) < (p.length : Int))) && (decide ((i : Int) ≤ m)))) (by kernel_rfl) (fun hb0 => ?_) (fun hb0 => ?_)
   ·
    skip
    have h0 := hb0
    have h15 := (Cn.and_t h0).1
    have h15b : i < p.length := by simpa using h15
    have hn9 := hn h15b
    have hx9 := hxl h15b
    refine tri_skip ?_
    refine fin_then ?_
    refine tri_seq ?_
    refine tri_block ?_
    refine tri_seq ?_
    refine tri_regD hcx [] [5] [0, 1, 6] [] [((0 : Int) ≤ (i : Int) ∧ (i : Int) < (p.length : Int)), Fit (1 + (((p.getD i (0, [])).2).length : Int)), Fit ((Cn.szL (p.take i) : Int) + (1 + (((p.getD i (0, [])).2).length : Int)))] [(5, .int ((Cn.szL (p.take i) : Int) + (1 + (((p.getD i (0, [])).2).length : Int))))] [] (by kernel_rfl) ?_ ?_
    ·
     refine (ap ?_ (ap ?_ (ap ?_ az)))
     all_goals
      omega
    refine fin_then ?_
    refine tri_seq ?_
    refine tri_regD hcx [] [30] [5, 0, 1, 6] [] [Fit (6 * m)] [(30, .bool (decide (((Cn.szL (p.take i) : Int) + (1 + (((p.getD i (0, [])).2).length : Int))) > (6 * m))))] [] (by kernel_rfl) ?_ ?_
    ·
     refine (ap ?_ az)
     omega
    refine fin_then ?_
    refine tri_cond (b := (decide (((Cn.szL (p.take i) : Int) + (1 + (((p.getD i (0, [])).2).length : Int))) > (6 * m)))) (by kernel_rfl) (fun hb1 => ?_) (fun hb1 => ?_)
    ·
     skip
     have h1 := of_decide_eq_true hb1
     have h29 := h1
     refine tri_seq ?_
     refine tri_regD hcx [] [4] [] [] [] [(4, .bool false)] [] (by kernel_rfl) ?_ ?_
     ·
      exact az
     refine fin_then ?_
     refine tri_ret ?_
     refine fin_block_ret ?_
     refine fin_then_ret ?_
     refine fin_then_ret ?_
     refine fin_block_ret ?_
     refine fin_then_ret ?_
     exact fin_ret [] rfl rfl trivial hcx (avs := [.bool false]) (by kernel_rfl) (congrArg AV.bool (show false = (Cn.fewL p m) from (by first | exact Cn.fewG_big (by rw [show Cn.szG _ _ = Cn.szL (p.take (i + 1)) from rfl]; omega) | exact Cn.fewG_end hs hk h15 | done))) [] rfl
    ·
     skip
     have h1 := of_decide_eq_false hb1
     have h29 := h1
     refine tri_skip ?_
     refine fin_block ?_
     refine fin_then ?_
     refine tri_regD hcx [] [6] [5, 0, 1] [] [Fit ((i : Int) + 1)] [(6, .int ((i : Int) + 1))] [] (by kernel_rfl) ?_ ?_
     ·
      refine (ap ?_ az)
      omega
     refine fin_round (i + 1) ?_ ?_ ?_ ?_
     ·
      show (i + 1) ≤ p.length ∧ (Cn.szL (p.take (i + 1)) : Int) ≤ 6 * m
      exact ⟨by omega, by omega⟩
     ·
      show p.length - (i + 1) < p.length - i
      omega
     ·
      exact subE_mk (l := [.lines p, .int m, .int ((Cn.szL (p.take i) : Int) + (1 + (((p.getD i (0, [])).2).length : Int))), .int ((i : Int) + 1)]) (m := [.lines p, .int m, .int (Cn.szL (p.take (i + 1)) : Int), .int ((i + 1) : Int)]) (by kernel_rfl) (by kernel_rfl) (consE rfl (consE rfl (consE (congrArg AV.int (show ((Cn.szL (p.take i) : Int) + (1 + (((p.getD i (0, [])).2).length : Int))) = (Cn.szL (p.take (i + 1)) : Int) from (by (have h8 := hn (by omega); omega)))) (consE (congrArg AV.int (show ((i : Int) + 1) = ((i + 1) : Int) from (by first | rfl | omega | (simp; done)))) rfl))))
     ·
      kernel_rfl
   ·
    skip
    have h0 := hb0
    have h15 := h0
    refine tri_exit ?_
    refine fin_then_exit ?_
    refine fin_then_exit ?_
    refine fin_block_same ?_
    refine fin_then ?_
    refine tri_seq ?_
    refine tri_regD hcx [] [4] [] [] [] [(4, .bool (decide ((p.length : Int) ≤ m)))] [] (by kernel_rfl) ?_ ?_
    ·
     exact az
    refine fin_then ?_
    refine tri_ret ?_
    exact fin_ret [] rfl rfl trivial hcx (avs := [.bool (decide ((p.length : Int) ≤ m))]) (by kernel_rfl) (congrArg AV.bool (show (decide ((p.length : Int) ≤ m)) = (Cn.fewL p m) from (by first | exact Cn.fewG_big (by rw [show Cn.szG _ _ = Cn.szL (p.take (i + 1)) from rfl]; omega) | exact Cn.fewG_end hs hk h15 | done))) [] rfl
 ·
  cases hσ
end Go.Proofs.YtbpbndlgfiammaaGreatDoor.En
