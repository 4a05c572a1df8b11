/- Package proof, in the reader's words: what a clause forces, what follows. -/
import Derived.Test.YtbpbndlgfiammaaGreatDoorEngG
import Derived.Test.YtbpbndlgfiammaaGreatDoorLookP
import Derived.Test.YtbpbndlgfiammaaGreatDoorChkP
import Derived.Test.YtbpbndlgfiammaaGreatDoorShListL
import Derived.Test.YtbpbndlgfiammaaGreatDoorSh24
import Derived.Test.YtbpbndlgfiammaaGreatDoorItVals
import Derived.Test.YtbpbndlgfiammaaGreatDoorCnfS
namespace Go.Proofs.YtbpbndlgfiammaaGreatDoor.En
open Go Go.RowKit
set_option linter.unusedVariables false
set_option linter.unusedSimpArgs false
set_option linter.unnecessarySimpa false
def tyPrf : List (Nat × TD) := [(3, ⟨1, false, [.int .i64 0], [], none, 8, false, 1, 1⟩),
  (4, ⟨1, false, [.bool false], [], none, 1, true, 0, 2⟩),
  (22, ⟨1, false, [.slice none 0 0], [], some 23, 24, false, 0, 0⟩),
  (23, ⟨1, false, [.slice none 0 0], [], some 3, 24, false, 0, 3⟩),
  (28, ⟨2, true, [.int .i64 0, .slice none 0 0], [(0, 3), (1, 22)], none, 32, false, 0, 6⟩),
  (29, ⟨1, false, [.slice none 0 0], [], some 43, 24, false, 0, 0⟩),
  (31, ⟨1, false, [.int .i64 0], [], none, 8, false, 1, 1⟩),
  (43, ⟨2, true, [.int .i64 0, .slice none 0 0], [(0, 3), (1, 23)], none, 32, false, 0, 7⟩),
  (64, ⟨1, false, [.map none], [], none, 8, false, 10, 4⟩),
  (65, ⟨1, false, [.map none], [], none, 8, false, 10, 4⟩),
  (66, ⟨1, false, [.nilFunc], [], none, 8, false, 0, 0⟩),
  (73, ⟨1, false, [.nilFunc], [], none, 8, false, 0, 0⟩),
  (75, ⟨1, false, [.nilFunc], [], none, 8, false, 0, 0⟩),
  (78, ⟨1, false, [.map none], [], none, 8, false, 10, 75⟩),
  (79, ⟨1, false, [.nilFunc], [], none, 8, false, 0, 0⟩),
  (126, ⟨1, false, [.nilFunc], [], none, 8, false, 0, 0⟩)]
theorem tyPrf_ok : AllTy Tryz.prog tyPrf := ⟨⟨by kernel_rfl, by kernel_rfl, by kernel_rfl⟩, ⟨by kernel_rfl, by kernel_rfl, by kernel_rfl⟩, ⟨by kernel_rfl, by kernel_rfl, by kernel_rfl⟩, ⟨by kernel_rfl, by kernel_rfl, by kernel_rfl⟩, ⟨by kernel_rfl, by kernel_rfl, by kernel_rfl⟩, ⟨by kernel_rfl, by kernel_rfl, by kernel_rfl⟩, ⟨by kernel_rfl, by kernel_rfl, by kernel_rfl⟩, ⟨by kernel_rfl, by kernel_rfl, by kernel_rfl⟩, ⟨by kernel_rfl, by kernel_rfl, by kernel_rfl⟩, ⟨by kernel_rfl, by kernel_rfl, by kernel_rfl⟩, ⟨by kernel_rfl, by kernel_rfl, by kernel_rfl⟩, ⟨by kernel_rfl, by kernel_rfl, by kernel_rfl⟩, ⟨by kernel_rfl, by kernel_rfl, by kernel_rfl⟩, ⟨by kernel_rfl, by kernel_rfl, by kernel_rfl⟩, ⟨by kernel_rfl, by kernel_rfl, by kernel_rfl⟩, ⟨by kernel_rfl, by kernel_rfl, by kernel_rfl⟩, trivial⟩
def cx_pLit : Cx := ⟨tyPrf, [], true⟩
theorem cx_pLit_ok : CxOk Tryz.prog cx_pLit := cx_ok tyPrf_ok trivial
def pLit_σ : CtF
  | [.im (.val (.int .i64 x))], [] => some (True, .bool (Cn.mayP x 65536), [])
  | _, _ => none
theorem pLit_sound : Sound Tryz.prog 36 pLit_σ := by
 refine sound_mk (cx := cx_pLit) (fn := Tryz.f36) Tryz.func36 (by kernel_rfl) rfl ?_
 intro w0 G0 args os p r outs hσ hp hm0 hd0
 have hcx : CxOk Tryz.prog cx_pLit := cx_pLit_ok
 unfold pLit_σ at hσ
 split at hσ
 ·
  rename_i x
  simp only [Option.some.injEq, Prod.mk.injEq] at hσ
  obtain ⟨rfl, rfl, rfl⟩ := hσ
  obtain ⟨wW, wO, wm, wβ, wd⟩ := w0
  replace hm0 : wm = 0 := hm0
  subst hm0
  replace hd0 : wd = [] := hd0
  subst hd0
  refine ⟨by kernel_rfl, ?_⟩
  change Tri ⟨_, _, _, _, _, _⟩ [(0, .int x)] [] _ _
  refine tri_seq ?_
  refine tri_regD hcx [] [] [0] [] [] [] [] (by kernel_rfl) ?_ ?_
  ·
   exact az
  refine fin_then ?_
  refine tri_seq ?_
  refine tri_regD hcx [] [2] [] [] [((x != 0) = true → ((x != 0) = true)), ((x != 0) = true → (x != 0) = true), (((x != 0) && (decide ((-65536) ≤ x))) = true → (((x != 0) && (decide ((-65536) ≤ x))) = true)), (((x != 0) && (decide ((-65536) ≤ x))) = true → ((x != 0) && (decide ((-65536) ≤ x))) = true)] [(2, .bool (((x != 0) && (decide ((-65536) ≤ x))) && (decide (x ≤ 65536))))] [] (by kernel_rfl) ?_ ?_
  ·
   refine (ap ?_ (ap (by exact id) (ap ?_ (ap (by exact id) az))))
   all_goals
    exact id
  refine fin_then ?_
  refine tri_ret ?_
  exact fin_ret [] rfl rfl trivial hcx (avs := [.bool (((x != 0) && (decide ((-65536) ≤ x))) && (decide (x ≤ 65536)))]) (by kernel_rfl) (congrArg AV.bool (show (((x != 0) && (decide ((-65536) ≤ x))) && (decide (x ≤ 65536))) = (Cn.mayP x 65536) from (by rfl))) [] rfl
 ·
  cases hσ
def cx_pLook : Cx := ⟨tyPrf, [(36, pLit_σ)], true⟩
theorem cx_pLook_ok : CxOk Tryz.prog cx_pLook := cx_ok tyPrf_ok ⟨pLit_sound, trivial⟩
def pLook_σ : CtF
  | [.row 0, .im (.ls (.ints l))], [.mset ks] => some (l.length ≤ maxLen, .tup [.int ((Cn.lookV (Cn.hasK ks) l).1), .bool ((Cn.lookV (Cn.hasK ks) l).2)], [some (.mset ks)])
  | _, _ => none
theorem pLook_sound : Sound Tryz.prog 38 pLook_σ := by
 refine sound_mk (cx := cx_pLook) (fn := Tryz.f38) Tryz.func38 (by kernel_rfl) rfl ?_
 intro w0 G0 args os p r outs hσ hp hm0 hd0
 have hcx : CxOk Tryz.prog cx_pLook := cx_pLook_ok
 unfold pLook_σ at hσ
 split at hσ
 ·
  rename_i l ks
  simp only [Option.some.injEq, Prod.mk.injEq] at hσ
  obtain ⟨rfl, rfl, rfl⟩ := hσ
  obtain ⟨wW, wO, wm, wβ, wd⟩ := w0
  replace hm0 : wm = 1 := hm0
  subst hm0
  replace hd0 : wd = [] := hd0
  subst hd0
  refine ⟨by kernel_rfl, ?_⟩
  change Tri ⟨_, _, _, _, _, _⟩ [(0, .row 0), (1, .ints l)] [(0, .mset ks)] _ _
  have hm1 := hp
  unfold maxLen at hm1
  refine tri_seq ?_
  refine tri_regD hcx [] [4] [0, 1] [0] [] [(4, .int 0)] [] (by kernel_rfl) ?_ ?_
  ·
   exact az
  refine fin_then ?_
  refine tri_seq ?_
  refine tri_regD hcx [(1000, .to 209)] [6] [4, 0, 1] [0] [] [(6, .row 209)] [(209, .mset [])] (by kernel_rfl) ?_ ?_
  ·
   exact az
  refine fin_then ?_
  refine tri_seq ?_
  refine tri_seq ?_
  refine tri_regD hcx [] [10, 11, 12] [6, 4, 0] [209, 0] [] [(10, .ints l), (11, .int (l.length : Int)), (12, .int 0)] [] (by kernel_rfl) ?_ ?_
  ·
   exact az
  refine fin_then ?_
  refine tri_block ?_
  refine tri_ren (ρ := [(0, .to 0), (209, .to 209)]) (keys := [0, 4, 6, 10, 11, 12]) (E' := [(0, .row 0), (4, .int 0), (6, .row 209), (10, .ints l), (11, .int (l.length : Int)), (12, .int 0)]) (H' := [(0, .mset ks), (209, .mset [])]) (by kernel_rfl) ?_
  refine tri_loop (X := Nat) (fun x0 => x0 ≤ l.length ∧ Cn.noT (Cn.hasK ks) (l.take x0)) (fun x0 => [(0, .row 0), (4, .int ((Cn.lkS (Cn.hasK ks) (l.take x0)).2)), (6, .row 209), (10, .ints l), (11, .int (l.length : Int)), (12, .int (x0 : Int))]) (fun x0 => [(0, .mset ks), (209, .mset ((Cn.lkS (Cn.hasK ks) (l.take x0)).1))]) (fun x0 => l.length - x0) (0) ?_ ?_ ?_ ?_
  ·
   show 0 ≤ l.length ∧ Cn.noT (Cn.hasK ks) (l.take 0)
   exact ⟨Nat.zero_le _, Cn.noT_0 _ _⟩
  ·
   exact subE_mk (l := [.row 0, .int 0, .row 209, .ints l, .int (l.length : Int), .int 0]) (m := [.row 0, .int ((Cn.lkS (Cn.hasK ks) (l.take 0)).2), .row 209, .ints l, .int (l.length : Int), .int (0 : Int)]) (by kernel_rfl) (by kernel_rfl) (consE rfl (consE (congrArg AV.int (show 0 = (Cn.lkS (Cn.hasK ks) (l.take 0)).2 from (by rfl))) (consE rfl (consE rfl (consE rfl (consE (congrArg AV.int (show 0 = (0 : Int) from (by first | rfl | omega | (simp; done)))) rfl))))))
  ·
   exact Eq.trans (show _ = [(0, .mset ks), (209, .mset [])] from by kernel_rfl) (consH rfl (consH (congrArg (fun x => ((209 : Nat), x)) (congrArg AObj.mset (show [] = (Cn.lkS (Cn.hasK ks) (l.take 0)).1 from (by rfl)))) rfl))
  ·
   intro i hI
   replace hI : i ≤ l.length ∧ Cn.noT (Cn.hasK ks) (l.take i) := hI
   change Tri _ [(0, .row 0), (4, .int ((Cn.lkS (Cn.hasK ks) (l.take i)).2)), (6, .row 209), (10, .ints l), (11, .int (l.length : Int)), (12, .int (i : Int))] [(0, .mset ks), (209, .mset ((Cn.lkS (Cn.hasK ks) (l.take i)).1))] _ _
   obtain ⟨hk, hno⟩ := hI
   have hol := Cn.lkS_len (Cn.hasK ks) l i
   refine tri_seq ?_
   refine tri_regD hcx [] [13] [0, 4, 6, 10, 11, 12] [0, 209] [] [(13, .bool (decide ((i : Int) < (l.length : Int))))] [] (by kernel_rfl) ?_ ?_
   ·
    exact az
   refine fin_then ?_
   refine tri_seq ?_
   refine tri_cond (b := (decide ((i : Int) < (l.length : Int)))) (by kernel_rfl) (fun hb0 => ?_) (fun hb0 => ?_)
   ·
    skip
    have h0 := of_decide_eq_true hb0
    refine tri_skip ?_
    refine fin_then ?_
    refine tri_seq ?_
    refine tri_block ?_
    refine tri_seq ?_
    refine tri_regD hcx [] [8] [0, 4, 6, 10, 11, 12] [0, 209] [((0 : Int) ≤ (i : Int) ∧ (i : Int) < (l.length : Int))] [(8, .int (l.getD i 0))] [] (by kernel_rfl) ?_ ?_
    ·
     refine (ap ?_ az)
     omega
    refine fin_then ?_
    refine tri_block ?_
    refine tri_seq ?_
    refine tri_regD hcx [] [19] [8, 0, 4, 6, 10, 11, 12] [0, 209] [(True), ((!(!(Cn.mayP (l.getD i 0) 65536))) = true → ((!(!(Cn.mayP (l.getD i 0) 65536))) = true)), ((!(!(Cn.mayP (l.getD i 0) 65536))) = true → Fit (-(l.getD i 0))), ((!(!(Cn.mayP (l.getD i 0) 65536))) = true → ((!(!(Cn.mayP (l.getD i 0) 65536))) = true)), ((!(!(Cn.mayP (l.getD i 0) 65536))) = true → ((!(!(Cn.mayP (l.getD i 0) 65536))) = true)), ((!(Cn.mayP (l.getD i 0) 65536)) = false → (!(!(Cn.mayP (l.getD i 0) 65536))) = true)] [(19, .bool ((!(Cn.mayP (l.getD i 0) 65536)) || (ks.contains (-(l.getD i 0)))))] [] (by kernel_rfl) ?_ ?_
    ·
     refine (ap ?_ (ap ?_ (ap ?_ (ap ?_ (ap ?_ (ap (by exact vcNot) az))))))
     all_goals
      first | exact id | exact True.intro | exact Cn.mayN
    refine fin_then ?_
    refine tri_cond (b := ((!(Cn.mayP (l.getD i 0) 65536)) || (ks.contains (-(l.getD i 0))))) (by kernel_rfl) (fun hb1 => ?_) (fun hb1 => ?_)
    ·
     skip
     have h1 := hb1
     have hq : ((!(Cn.mayP (l.getD i 0) 65536)) || (Cn.hasK ks) (-(l.getD i 0))) = true := h1
     refine tri_skip ?_
     refine fin_block ?_
     refine fin_block ?_
     refine fin_then ?_
     refine tri_regD hcx [] [12] [0, 4, 6, 10, 11] [0, 209] [Fit ((i : Int) + 1)] [(12, .int ((i : Int) + 1))] [] (by kernel_rfl) ?_ ?_
     ·
      refine (ap ?_ az)
      omega
     refine fin_round (i + 1) ?_ ?_ ?_ ?_
     ·
      show (i + 1) ≤ l.length ∧ Cn.noT (Cn.hasK ks) (l.take (i + 1))
      exact ⟨by omega, Cn.noT_skip (by omega) hq hno⟩
     ·
      show l.length - (i + 1) < l.length - i
      omega
     ·
      exact subE_mk (l := [.row 0, .int ((Cn.lkS (Cn.hasK ks) (l.take i)).2), .row 209, .ints l, .int (l.length : Int), .int ((i : Int) + 1)]) (m := [.row 0, .int ((Cn.lkS (Cn.hasK ks) (l.take (i + 1))).2), .row 209, .ints l, .int (l.length : Int), .int ((i + 1) : Int)]) (by kernel_rfl) (by kernel_rfl) (consE rfl (consE (congrArg AV.int (show (Cn.lkS (Cn.hasK ks) (l.take i)).2 = (Cn.lkS (Cn.hasK ks) (l.take (i + 1))).2 from (by first | (rw [Cn.lk_skip (by omega) hq]; done) | (rw [Cn.lk_add (by omega) hq]; done)))) (consE rfl (consE rfl (consE rfl (consE (congrArg AV.int (show ((i : Int) + 1) = ((i + 1) : Int) from (by first | rfl | omega | (simp; done)))) rfl))))))
     ·
      exact Eq.trans (show _ = [(0, .mset ks), (209, .mset ((Cn.lkS (Cn.hasK ks) (l.take i)).1))] from by kernel_rfl) (consH rfl (consH (congrArg (fun x => ((209 : Nat), x)) (congrArg AObj.mset (show (Cn.lkS (Cn.hasK ks) (l.take i)).1 = (Cn.lkS (Cn.hasK ks) (l.take (i + 1))).1 from (by first | (rw [Cn.lk_skip (by omega) hq]; done) | (rw [Cn.lk_add (by omega) hq]; done))))) rfl))
    ·
     skip
     have h1 := hb1
     have hq : ((!(Cn.mayP (l.getD i 0) 65536)) || (Cn.hasK ks) (-(l.getD i 0))) = false := h1
     refine tri_seq ?_
     refine tri_regD hcx [] [29] [8, 0, 6, 10, 11, 12] [0, 209] [] [(29, .bool (ks.contains (l.getD i 0)))] [] (by kernel_rfl) ?_ ?_
     ·
      exact az
     refine fin_then ?_
     refine tri_cond (b := (ks.contains (l.getD i 0))) (by kernel_rfl) (fun hb2 => ?_) (fun hb2 => ?_)
     ·
      skip
      have h2 := hb2
      have hu : (Cn.hasK ks) (l.getD i 0) = true := h2
      have hlk := Cn.look_true (by omega) hq hu
      refine tri_seq ?_
      refine tri_regD hcx [] [4, 5] [] [0] [] [(4, .int 0), (5, .bool false)] [] (by kernel_rfl) ?_ ?_
      ·
       exact az
      refine fin_then ?_
      refine tri_ret ?_
      refine fin_block_ret ?_
      refine fin_block_ret ?_
      refine fin_then_ret ?_
      refine fin_then_ret ?_
      refine fin_block_ret ?_
      refine fin_then_ret ?_
      exact fin_ret [] rfl rfl trivial hcx (avs := [.int 0, .bool false]) (by kernel_rfl) (congrArg AV.tup (consE (congrArg AV.int (show 0 = (Cn.lookV (Cn.hasK ks) l).1 from (by (rw [hlk]; done)))) (consE (congrArg AV.bool (show false = (Cn.lookV (Cn.hasK ks) l).2 from (by (rw [hlk]; done)))) rfl))) [true] (Eq.trans (show _ = [some (.mset ks)] from by kernel_rfl) (consO rfl rfl))
     ·
      skip
      have h2 := hb2
      have hu : (Cn.hasK ks) (l.getD i 0) = false := h2
      refine tri_regD hcx [(209, .to 209)] [4] [0, 6, 10, 11, 12] [0] [(true = true)] [(4, .int (l.getD i 0))] [(209, .mset (addK ((Cn.lkS (Cn.hasK ks) (l.take i)).1) (l.getD i 0)))] (by kernel_rfl) ?_ ?_
      ·
       refine (ap ?_ az)
       exact rfl
      refine fin_block ?_
      refine fin_block ?_
      refine fin_then ?_
      refine tri_regD hcx [] [12] [4, 0, 6, 10, 11] [209, 0] [Fit ((i : Int) + 1)] [(12, .int ((i : Int) + 1))] [] (by kernel_rfl) ?_ ?_
      ·
       refine (ap ?_ az)
       omega
      refine fin_ren (ρ := [(0, .to 0), (209, .to 209)]) (keys := [0, 4, 6, 10, 11, 12]) (E' := [(0, .row 0), (4, .int (l.getD i 0)), (6, .row 209), (10, .ints l), (11, .int (l.length : Int)), (12, .int ((i : Int) + 1))]) (H' := [(0, .mset ks), (209, .mset (addK ((Cn.lkS (Cn.hasK ks) (l.take i)).1) (l.getD i 0)))]) (by kernel_rfl) ?_
      refine fin_round (i + 1) ?_ ?_ ?_ ?_
      ·
       show (i + 1) ≤ l.length ∧ Cn.noT (Cn.hasK ks) (l.take (i + 1))
       exact ⟨by omega, Cn.noT_add (by omega) hu hno⟩
      ·
       show l.length - (i + 1) < l.length - i
       omega
      ·
       exact subE_mk (l := [.row 0, .int (l.getD i 0), .row 209, .ints l, .int (l.length : Int), .int ((i : Int) + 1)]) (m := [.row 0, .int ((Cn.lkS (Cn.hasK ks) (l.take (i + 1))).2), .row 209, .ints l, .int (l.length : Int), .int ((i + 1) : Int)]) (by kernel_rfl) (by kernel_rfl) (consE rfl (consE (congrArg AV.int (show (l.getD i 0) = (Cn.lkS (Cn.hasK ks) (l.take (i + 1))).2 from (by first | (rw [Cn.lk_skip (by omega) hq]; done) | (rw [Cn.lk_add (by omega) hq]; done)))) (consE rfl (consE rfl (consE rfl (consE (congrArg AV.int (show ((i : Int) + 1) = ((i + 1) : Int) from (by first | rfl | omega | (simp; done)))) rfl))))))
      ·
       exact Eq.trans (show _ = [(0, .mset ks), (209, .mset (addK ((Cn.lkS (Cn.hasK ks) (l.take i)).1) (l.getD i 0)))] from by kernel_rfl) (consH rfl (consH (congrArg (fun x => ((209 : Nat), x)) (congrArg AObj.mset (show (addK ((Cn.lkS (Cn.hasK ks) (l.take i)).1) (l.getD i 0)) = (Cn.lkS (Cn.hasK ks) (l.take (i + 1))).1 from (by first | (rw [Cn.lk_skip (by omega) hq]; done) | (rw [Cn.lk_add (by omega) hq]; done))))) rfl))
   ·
    skip
    have h0 := of_decide_eq_false hb0
    refine tri_exit ?_
    refine fin_then_exit ?_
    refine fin_then_exit ?_
    refine fin_block_same ?_
    refine fin_then ?_
    refine tri_seq ?_
    refine tri_seq ?_
    refine tri_regD hcx [] [35] [4] [0] [(((Cn.lkS (Cn.hasK ks) (l.take i)).1).length ≤ maxLen)] [(35, .int (((Cn.lkS (Cn.hasK ks) (l.take i)).1).length : Int))] [] (by kernel_rfl) ?_ ?_
    ·
     refine (ap ?_ az)
     omega
    refine fin_then ?_
    refine tri_block ?_
    refine tri_seq ?_
    refine tri_regD hcx [] [36] [35, 4] [0] [] [(36, .bool ((((Cn.lkS (Cn.hasK ks) (l.take i)).1).length : Int) == 0))] [] (by kernel_rfl) ?_ ?_
    ·
     exact az
    refine fin_then ?_
    refine tri_cond (b := ((((Cn.lkS (Cn.hasK ks) (l.take i)).1).length : Int) == 0)) (by kernel_rfl) (fun hb3 => ?_) (fun hb3 => ?_)
    ·
     skip
     have h3 := eq_of_beq hb3
     have hlk := Cn.look_0 (by omega) hno h3
     refine tri_seq ?_
     refine tri_regD hcx [] [4, 5] [] [0] [] [(4, .int 0), (5, .bool true)] [] (by kernel_rfl) ?_ ?_
     ·
      exact az
     refine fin_then ?_
     refine tri_ret ?_
     refine fin_block_ret ?_
     refine fin_then_ret ?_
     exact fin_ret [] rfl rfl trivial hcx (avs := [.int 0, .bool true]) (by kernel_rfl) (congrArg AV.tup (consE (congrArg AV.int (show 0 = (Cn.lookV (Cn.hasK ks) l).1 from (by (rw [hlk]; done)))) (consE (congrArg AV.bool (show true = (Cn.lookV (Cn.hasK ks) l).2 from (by (rw [hlk]; done)))) rfl))) [true] (Eq.trans (show _ = [some (.mset ks)] from by kernel_rfl) (consO rfl rfl))
    ·
     skip
     have h3 := neB hb3
     have h36 := h3
     refine tri_seq ?_
     refine tri_regD hcx [] [38] [4] [0] [] [(38, .bool ((((Cn.lkS (Cn.hasK ks) (l.take i)).1).length : Int) == 1))] [] (by kernel_rfl) ?_ ?_
     ·
      exact az
     refine fin_then ?_
     refine tri_cond (b := ((((Cn.lkS (Cn.hasK ks) (l.take i)).1).length : Int) == 1)) (by kernel_rfl) (fun hb4 => ?_) (fun hb4 => ?_)
     ·
      skip
      have h4 := eq_of_beq hb4
      have hlk := Cn.look_1 (by omega) hno h4
      refine tri_seq ?_
      refine tri_regD hcx [] [4, 5] [] [0] [] [(4, .int ((Cn.lkS (Cn.hasK ks) (l.take i)).2)), (5, .bool false)] [] (by kernel_rfl) ?_ ?_
      ·
       exact az
      refine fin_then ?_
      refine tri_ret ?_
      refine fin_block_ret ?_
      refine fin_then_ret ?_
      exact fin_ret [] rfl rfl trivial hcx (avs := [.int ((Cn.lkS (Cn.hasK ks) (l.take i)).2), .bool false]) (by kernel_rfl) (congrArg AV.tup (consE (congrArg AV.int (show (Cn.lkS (Cn.hasK ks) (l.take i)).2 = (Cn.lookV (Cn.hasK ks) l).1 from (by (rw [hlk]; done)))) (consE (congrArg AV.bool (show false = (Cn.lookV (Cn.hasK ks) l).2 from (by (rw [hlk]; done)))) rfl))) [true] (Eq.trans (show _ = [some (.mset ks)] from by kernel_rfl) (consO rfl rfl))
     ·
      skip
      have h4 := neB hb4
      have hlk := Cn.look_2 (by omega) hno h36 h4
      refine tri_skip ?_
      refine fin_block ?_
      refine fin_then ?_
      refine tri_seq ?_
      refine tri_regD hcx [] [4, 5] [] [0] [] [(4, .int 0), (5, .bool false)] [] (by kernel_rfl) ?_ ?_
      ·
       exact az
      refine fin_then ?_
      refine tri_ret ?_
      exact fin_ret [] rfl rfl trivial hcx (avs := [.int 0, .bool false]) (by kernel_rfl) (congrArg AV.tup (consE (congrArg AV.int (show 0 = (Cn.lookV (Cn.hasK ks) l).1 from (by (rw [hlk]; done)))) (consE (congrArg AV.bool (show false = (Cn.lookV (Cn.hasK ks) l).2 from (by (rw [hlk]; done)))) rfl))) [true] (Eq.trans (show _ = [some (.mset ks)] from by kernel_rfl) (consO rfl rfl))
 ·
  cases hσ
def cx_pFlw : Cx := ⟨tyPrf, [(36, pLit_σ), (38, (coeF [.id, .ld (.ints [])] pLook_σ)), (37, sCloneL), (39, sDelL)], true⟩
theorem cx_pFlw_ok : CxOk Tryz.prog cx_pFlw := cx_ok tyPrf_ok ⟨pLit_sound, (pLook_sound.coe [.id, .ld (.ints [])] rfl), sCloneL_sound, sDelL_sound, trivial⟩
def pFlw_σ : CtF
  | [.im (.ls (.intss c)), .im (.ls (.ints l))], [] => some (c.length ≤ 1000000000 ∧ (∀ x ∈ c, x.length ≤ maxLen) ∧ l.length ≤ maxLen, .bool (Cn.flwV c l), [])
  | _, _ => none
theorem pFlw_sound : Sound Tryz.prog 14 pFlw_σ := by
 refine sound_mk (cx := cx_pFlw) (fn := Tryz.f14) Tryz.func14 (by kernel_rfl) rfl ?_
 intro w0 G0 args os p r outs hσ hp hm0 hd0
 have hcx : CxOk Tryz.prog cx_pFlw := cx_pFlw_ok
 unfold pFlw_σ at hσ
 split at hσ
 ·
  rename_i c l
  simp only [Option.some.injEq, Prod.mk.injEq] at hσ
  obtain ⟨rfl, rfl, rfl⟩ := hσ
  obtain ⟨wW, wO, wm, wβ, wd⟩ := w0
  replace hm0 : wm = 0 := hm0
  subst hm0
  replace hd0 : wd = [] := hd0
  subst hd0
  refine ⟨by kernel_rfl, ?_⟩
  change Tri ⟨_, _, _, _, _, _⟩ [(0, .intss c), (1, .ints l)] [] _ _
  obtain ⟨hm1, hm2, hm3⟩ := hp
  have hm4 := hm3
  unfold maxLen at hm4
  refine tri_seq ?_
  refine tri_regD hcx [] [] [0, 1] [] [] [] [] (by kernel_rfl) ?_ ?_
  ·
   exact az
  refine fin_then ?_
  refine tri_jump (X := List (List Int) × List Int) 0 (fun x0 => Cn.contra l = false ∧ Cn.StepI c l x0.1 x0.2) (fun x0 => [(5, .row 213), (8, .row 231)]) (fun x0 => [(213, .mset x0.2), (231, .row 23 (.intss x0.1))]) (fun x0 => x0.1.length) rfl (fun hrest => ?_) ?_
  ·
   skip
   refine tri_seq ?_
   refine tri_regD hcx [(1000, .to 213)] [5] [0, 1] [] [] [(5, .row 213)] [(213, .mset [])] (by kernel_rfl) ?_ ?_
   ·
    exact az
   refine fin_then ?_
   refine tri_seq ?_
   refine tri_seq ?_
   refine tri_regD hcx [] [14, 15, 16] [5, 0] [213] [] [(14, .ints l), (15, .int (l.length : Int)), (16, .int 0)] [] (by kernel_rfl) ?_ ?_
   ·
    exact az
   refine fin_then ?_
   refine tri_block ?_
   refine tri_loop (X := Nat) (fun x0 => x0 ≤ l.length ∧ Cn.contra (l.take x0) = false) (fun x0 => [(0, .intss c), (5, .row 213), (14, .ints l), (15, .int (l.length : Int)), (16, .int (x0 : Int))]) (fun x0 => [(213, .mset (Cn.iniK (l.take x0)))]) (fun x0 => l.length - x0) (0) ?_ ?_ ?_ ?_
   ·
    show 0 ≤ l.length ∧ Cn.contra (l.take 0) = false
    exact ⟨Nat.zero_le _, rfl⟩
   ·
    exact subE_mk (l := [.intss c, .row 213, .ints l, .int (l.length : Int), .int 0]) (m := [.intss c, .row 213, .ints l, .int (l.length : Int), .int (0 : Int)]) (by kernel_rfl) (by kernel_rfl) (consE rfl (consE rfl (consE rfl (consE rfl (consE (congrArg AV.int (show 0 = (0 : Int) from (by first | rfl | omega | (simp; done)))) rfl)))))
   ·
    exact Eq.trans (show _ = [(213, .mset [])] from by kernel_rfl) (consH (congrArg (fun x => ((213 : Nat), x)) (congrArg AObj.mset (show [] = (Cn.iniK (l.take 0)) from (by rfl)))) rfl)
   ·
    intro i hI
    replace hI : i ≤ l.length ∧ Cn.contra (l.take i) = false := hI
    change Tri _ [(0, .intss c), (5, .row 213), (14, .ints l), (15, .int (l.length : Int)), (16, .int (i : Int))] [(213, .mset (Cn.iniK (l.take i)))] _ _
    obtain ⟨hk, hno⟩ := hI
    refine tri_seq ?_
    refine tri_regD hcx [] [17] [0, 5, 14, 15, 16] [213] [] [(17, .bool (decide ((i : Int) < (l.length : Int))))] [] (by kernel_rfl) ?_ ?_
    ·
     exact az
    refine fin_then ?_
    refine tri_seq ?_
    refine tri_cond (b := (decide ((i : Int) < (l.length : Int)))) (by kernel_rfl) (fun hb0 => ?_) (fun hb0 => ?_)
    ·
     skip
     have h0 := of_decide_eq_true hb0
     refine tri_skip ?_
     refine fin_then ?_
     refine tri_seq ?_
     refine tri_block ?_
     refine tri_seq ?_
     refine tri_regD hcx [] [7] [0, 5, 14, 15, 16] [213] [((0 : Int) ≤ (i : Int) ∧ (i : Int) < (l.length : Int))] [(7, .int (l.getD i 0))] [] (by kernel_rfl) ?_ ?_
     ·
      refine (ap ?_ az)
      omega
     refine fin_then ?_
     refine tri_seq ?_
     refine tri_seq ?_
     refine tri_regD hcx [] [22] [7, 0, 5, 14, 15, 16] [213] [(True)] [(22, .bool (!(Cn.mayP (l.getD i 0) 65536)))] [] (by kernel_rfl) ?_ ?_
     ·
      refine (ap ?_ az)
      exact True.intro
     refine fin_then ?_
     refine tri_cond (b := (!(Cn.mayP (l.getD i 0) 65536))) (by kernel_rfl) (fun hb1 => ?_) (fun hb1 => ?_)
     ·
      skip
      have h1 := hb1
      have hq : Cn.mayP (l.getD i 0) 65536 = false := Cn.ntT h1
      refine tri_exit ?_
      refine fin_then_exit ?_
      refine fin_block_same ?_
      refine fin_then ?_
      refine tri_regD hcx [] [16] [0, 5, 14, 15] [213] [Fit ((i : Int) + 1)] [(16, .int ((i : Int) + 1))] [] (by kernel_rfl) ?_ ?_
      ·
       refine (ap ?_ az)
       omega
      refine fin_round (i + 1) ?_ ?_ ?_ ?_
      ·
       show (i + 1) ≤ l.length ∧ Cn.contra (l.take (i + 1)) = false
       exact ⟨by omega, Cn.contra_skip (by omega) hq hno⟩
      ·
       show l.length - (i + 1) < l.length - i
       omega
      ·
       exact subE_mk (l := [.intss c, .row 213, .ints l, .int (l.length : Int), .int ((i : Int) + 1)]) (m := [.intss c, .row 213, .ints l, .int (l.length : Int), .int ((i + 1) : Int)]) (by kernel_rfl) (by kernel_rfl) (consE rfl (consE rfl (consE rfl (consE rfl (consE (congrArg AV.int (show ((i : Int) + 1) = ((i + 1) : Int) from (by first | rfl | omega | (simp; done)))) rfl)))))
      ·
       exact Eq.trans (show _ = [(213, .mset (Cn.iniK (l.take i)))] from by kernel_rfl) (consH (congrArg (fun x => ((213 : Nat), x)) (congrArg AObj.mset (show (Cn.iniK (l.take i)) = (Cn.iniK (l.take (i + 1))) from (by first | exact (Cn.ini_skip (by omega) hq).symm | exact (Cn.ini_add (by omega) hq).symm)))) rfl)
     ·
      skip
      have h1 := hb1
      have hq : Cn.mayP (l.getD i 0) 65536 = true := Cn.ntF h1
      have hb := Cn.mayP_iff.1 hq
      refine tri_skip ?_
      refine fin_then ?_
      refine tri_seq ?_
      refine tri_regD hcx [(213, .to 213)] [] [7, 0, 5, 14, 15, 16] [] [Fit (-(l.getD i 0)), (true = true)] [] [(213, .mset (addK (Cn.iniK (l.take i)) (-(l.getD i 0))))] (by kernel_rfl) ?_ ?_
      ·
       refine (ap ?_ (ap ?_ az))
       all_goals
        first | omega | exact rfl
      refine fin_then ?_
      refine tri_seq ?_
      refine tri_regD hcx [] [28] [0, 5, 14, 15, 16] [213] [] [(28, .bool ((addK (Cn.iniK (l.take i)) (-(l.getD i 0))).contains (l.getD i 0)))] [] (by kernel_rfl) ?_ ?_
      ·
       exact az
      refine fin_then ?_
      refine tri_cond (b := ((addK (Cn.iniK (l.take i)) (-(l.getD i 0))).contains (l.getD i 0))) (by kernel_rfl) (fun hb2 => ?_) (fun hb2 => ?_)
      ·
       skip
       have h2 := hb2
       have hf := Cn.flw_c (c := c) (Cn.contra_hit (by omega) hq h2)
       refine tri_seq ?_
       refine tri_regD hcx [] [4] [] [] [] [(4, .bool true)] [] (by kernel_rfl) ?_ ?_
       ·
        exact az
       refine fin_then ?_
       refine tri_ret ?_
       refine fin_block_ret ?_
       refine fin_then_ret ?_
       refine fin_then_ret ?_
       refine fin_block_ret ?_
       refine fin_then_ret ?_
       refine fin_jumpQ_ret ?_
       exact fin_ret [] rfl rfl trivial hcx (avs := [.bool true]) (by kernel_rfl) (congrArg AV.bool (show true = (Cn.flwV c l) from (by first | exact hf.symm | exact (Cn.step_false hI hct (fun j hj => hok j (by omega))).symm))) [] rfl
      ·
       skip
       have h2 := hb2
       have hu := h2
       refine tri_skip ?_
       refine fin_block ?_
       refine fin_then ?_
       refine tri_regD hcx [] [16] [0, 5, 14, 15] [213] [Fit ((i : Int) + 1)] [(16, .int ((i : Int) + 1))] [] (by kernel_rfl) ?_ ?_
       ·
        refine (ap ?_ az)
        omega
       refine fin_round (i + 1) ?_ ?_ ?_ ?_
       ·
        show (i + 1) ≤ l.length ∧ Cn.contra (l.take (i + 1)) = false
        exact ⟨by omega, Cn.contra_add (by omega) hq hu hno⟩
       ·
        show l.length - (i + 1) < l.length - i
        omega
       ·
        exact subE_mk (l := [.intss c, .row 213, .ints l, .int (l.length : Int), .int ((i : Int) + 1)]) (m := [.intss c, .row 213, .ints l, .int (l.length : Int), .int ((i + 1) : Int)]) (by kernel_rfl) (by kernel_rfl) (consE rfl (consE rfl (consE rfl (consE rfl (consE (congrArg AV.int (show ((i : Int) + 1) = ((i + 1) : Int) from (by first | rfl | omega | (simp; done)))) rfl)))))
       ·
        exact Eq.trans (show _ = [(213, .mset (addK (Cn.iniK (l.take i)) (-(l.getD i 0))))] from by kernel_rfl) (consH (congrArg (fun x => ((213 : Nat), x)) (congrArg AObj.mset (show (addK (Cn.iniK (l.take i)) (-(l.getD i 0))) = (Cn.iniK (l.take (i + 1))) from (by first | exact (Cn.ini_skip (by omega) hq).symm | exact (Cn.ini_add (by omega) hq).symm)))) rfl)
    ·
     skip
     have h0 := of_decide_eq_false hb0
     refine tri_exit ?_
     refine fin_then_exit ?_
     refine fin_then_exit ?_
     refine fin_block_same ?_
     refine fin_then ?_
     refine tri_seq ?_
     refine tri_regD hcx [(1001, .to 231)] [8] [5] [213] [(c.length ≤ 1000000000000)] [(8, .row 231)] [(231, .row 23 (.intss c))] (by kernel_rfl) ?_ ?_
     ·
      refine (ap ?_ az)
      omega
     refine fin_then ?_
     refine tri_ren (ρ := [(213, .to 213), (231, .to 231)]) (keys := [5, 8]) (E' := [(5, .row 213), (8, .row 231)]) (H' := [(213, .mset (Cn.iniK (l.take i))), (231, .row 23 (.intss c))]) (by kernel_rfl) ?_
     refine tri_enter (c, (Cn.iniK (l.take i))) hrest ?_ ?_ ?_
     ·
      show Cn.contra l = false ∧ Cn.StepI c l c (Cn.iniK (l.take i))
      (rw [show i = l.length by omega, List.take_length] at hno ⊢; exact ⟨hno, Cn.step_init hno⟩)
     ·
      exact subE_mk (l := [.row 213, .row 231]) (m := [.row 213, .row 231]) (by kernel_rfl) (by kernel_rfl) rfl
     ·
      kernel_rfl
  ·
   intro ⟨lf, ks⟩ hI
   replace hI : Cn.contra l = false ∧ Cn.StepI c l lf ks := hI
   change Tri _ [(5, .row 213), (8, .row 231)] [(213, .mset ks), (231, .row 23 (.intss lf))] _ _
   obtain ⟨hct, hI⟩ := hI
   have hml := hI.1
   have hmm := fun x hx => hm2 x (hI.2.1 x hx)
   refine tri_seq ?_
   refine tri_seq ?_
   refine tri_regD hcx [] [32, 33, 34] [5, 8] [213, 231] [] [(32, .row 231), (33, .int (lf.length : Int)), (34, .int 0)] [] (by kernel_rfl) ?_ ?_
   ·
    exact az
   refine fin_then ?_
   refine tri_block ?_
   refine tri_loop (X := Nat) (fun x0 => x0 ≤ lf.length ∧ ∀ j, j < x0 → Cn.lookV (Cn.hasK ks) (lf.getD j []) = (0, false)) (fun x0 => [(5, .row 213), (8, .row 231), (32, .row 231), (33, .int (lf.length : Int)), (34, .int (x0 : Int))]) (fun x0 => [(213, .mset ks), (231, .row 23 (.intss lf))]) (fun x0 => lf.length - x0) (0) ?_ ?_ ?_ ?_
   ·
    show 0 ≤ lf.length ∧ ∀ j, j < 0 → Cn.lookV (Cn.hasK ks) (lf.getD j []) = (0, false)
    exact ⟨Nat.zero_le _, fun j hj => by omega⟩
   ·
    exact subE_mk (l := [.row 213, .row 231, .row 231, .int (lf.length : Int), .int 0]) (m := [.row 213, .row 231, .row 231, .int (lf.length : Int), .int (0 : Int)]) (by kernel_rfl) (by kernel_rfl) (consE rfl (consE rfl (consE rfl (consE rfl (consE (congrArg AV.int (show 0 = (0 : Int) from (by first | rfl | omega | (simp; done)))) rfl)))))
   ·
    kernel_rfl
   ·
    intro i hI
    replace hI : i ≤ lf.length ∧ ∀ j, j < i → Cn.lookV (Cn.hasK ks) (lf.getD j []) = (0, false) := hI
    change Tri _ [(5, .row 213), (8, .row 231), (32, .row 231), (33, .int (lf.length : Int)), (34, .int (i : Int))] [(213, .mset ks), (231, .row 23 (.intss lf))] _ _
    obtain ⟨hk, hok⟩ := hI
    refine tri_seq ?_
    refine tri_regD hcx [] [35] [5, 8, 32, 33, 34] [213, 231] [] [(35, .bool (decide ((i : Int) < (lf.length : Int))))] [] (by kernel_rfl) ?_ ?_
    ·
     exact az
    refine fin_then ?_
    refine tri_seq ?_
    refine tri_cond (b := (decide ((i : Int) < (lf.length : Int)))) (by kernel_rfl) (fun hb3 => ?_) (fun hb3 => ?_)
    ·
     skip
     have h3 := of_decide_eq_true hb3
     refine tri_skip ?_
     refine fin_then ?_
     refine tri_seq ?_
     refine tri_block ?_
     refine tri_seq ?_
     refine tri_regD hcx [] [9, 10] [5, 8, 32, 33, 34] [213, 231] [((0 : Int) ≤ (i : Int) ∧ (i : Int) < (lf.length : Int)), (i < lf.length)] [(9, .int (i : Int)), (10, .ints (lf.getD i []))] [] (by kernel_rfl) ?_ ?_
     ·
      refine (ap ?_ (ap ?_ az))
      all_goals
       omega
     refine fin_then ?_
     refine tri_seq ?_
     refine tri_regD hcx [(213, .to 213)] [11, 12] [9, 5, 8, 32, 33, 34] [231] [((lf.getD i []).length ≤ maxLen)] [(11, .int ((Cn.lookV (Cn.hasK ks) (lf.getD i [])).1)), (12, .bool ((Cn.lookV (Cn.hasK ks) (lf.getD i [])).2))] [(213, .mset ks)] (by kernel_rfl) ?_ ?_
     ·
      refine (ap ?_ az)
      exact hmm _ (Cn.getD_memL (by omega))
     refine fin_then ?_
     refine tri_block ?_
     refine tri_seq ?_
     refine tri_regD hcx [] [45] [11, 9, 5, 8, 32, 33, 34] [213, 231] [] [(45, .bool ((Cn.lookV (Cn.hasK ks) (lf.getD i [])).2))] [] (by kernel_rfl) ?_ ?_
     ·
      exact az
     refine fin_then ?_
     refine tri_cond (b := (Cn.lookV (Cn.hasK ks) (lf.getD i [])).2) (by kernel_rfl) (fun hb4 => ?_) (fun hb4 => ?_)
     ·
      skip
      have h4 := hb4
      have hf := Cn.step_true hI (by omega) h4
      refine tri_seq ?_
      refine tri_regD hcx [] [4] [] [] [] [(4, .bool true)] [] (by kernel_rfl) ?_ ?_
      ·
       exact az
      refine fin_then ?_
      refine tri_ret ?_
      refine fin_block_ret ?_
      refine fin_block_ret ?_
      refine fin_then_ret ?_
      refine fin_then_ret ?_
      refine fin_block_ret ?_
      refine fin_then_ret ?_
      refine fin_jumpB_ret ?_
      exact fin_ret [] rfl rfl trivial hcx (avs := [.bool true]) (by kernel_rfl) (congrArg AV.bool (show true = (Cn.flwV c l) from (by first | exact hf.symm | exact (Cn.step_false hI hct (fun j hj => hok j (by omega))).symm))) [] rfl
     ·
      skip
      have h4 := hb4
      have hq := h4
      refine tri_seq ?_
      refine tri_regD hcx [] [47] [11, 9, 5, 8, 32, 33, 34] [213, 231] [] [(47, .bool (((Cn.lookV (Cn.hasK ks) (lf.getD i [])).1) != 0))] [] (by kernel_rfl) ?_ ?_
      ·
       exact az
      refine fin_then ?_
      refine tri_cond (b := (((Cn.lookV (Cn.hasK ks) (lf.getD i [])).1) != 0)) (by kernel_rfl) (fun hb5 => ?_) (fun hb5 => ?_)
      ·
       skip
       have h5 := bne_iff_ne.1 hb5
       have hz := h5
       refine tri_seq ?_
       refine tri_regD hcx [(213, .to 213)] [] [9, 5, 8] [231] [(true = true)] [] [(213, .mset (addK ks ((Cn.lookV (Cn.hasK ks) (lf.getD i [])).1)))] (by kernel_rfl) ?_ ?_
       ·
        refine (ap ?_ az)
        exact rfl
       refine fin_then ?_
       refine tri_seq ?_
       refine tri_regD hcx [(1004, .to 231)] [8] [5] [213] [Fit ((i : Int) + 1), (0 ≤ (i : Int) ∧ (i : Int) < ((i : Int) + 1) ∧ ((i : Int) + 1) ≤ lf.length ∧ lf.length ≤ 1000000000000)] [(8, .row 231)] [(231, .row 23 (.intss (lf.take (i : Int).toNat ++ lf.drop ((i : Int) + 1).toNat)))] (by kernel_rfl) ?_ ?_
       ·
        refine (ap ?_ (ap ?_ az))
        all_goals
         omega
       refine fin_then ?_
       refine tri_goto ?_
       refine fin_block_goto ?_
       refine fin_block_goto ?_
       refine fin_then_goto ?_
       refine fin_then_goto ?_
       refine fin_block_goto ?_
       refine fin_then_goto ?_
       refine fin_ren (ρ := [(213, .to 213), (231, .to 231)]) (keys := [5, 8]) (E' := [(5, .row 213), (8, .row 231)]) (H' := [(213, .mset (addK ks ((Cn.lookV (Cn.hasK ks) (lf.getD i [])).1))), (231, .row 23 (.intss (lf.take (i : Int).toNat ++ lf.drop ((i : Int) + 1).toNat)))]) (by kernel_rfl) ?_
       refine fin_jump ((lf.take i ++ lf.drop (i + 1)), (addK ks (Cn.lookV (Cn.hasK ks) (lf.getD i [])).1)) ?_ ?_ ?_ ?_
       ·
        show Cn.contra l = false ∧ Cn.StepI c l (lf.take i ++ lf.drop (i + 1)) (addK ks (Cn.lookV (Cn.hasK ks) (lf.getD i [])).1)
        exact ⟨hct, Cn.step_next hI (by omega) hz⟩
       ·
        show (lf.take i ++ lf.drop (i + 1)).length < lf.length
        (simp only [List.length_append, List.length_take, List.length_drop]; omega)
       ·
        exact subE_mk (l := [.row 213, .row 231]) (m := [.row 213, .row 231]) (by kernel_rfl) (by kernel_rfl) rfl
       ·
        exact Eq.trans (show _ = [(213, .mset (addK ks ((Cn.lookV (Cn.hasK ks) (lf.getD i [])).1))), (231, .row 23 (.intss (lf.take (i : Int).toNat ++ lf.drop ((i : Int) + 1).toNat)))] from by kernel_rfl) (consH (congrArg (fun x => ((213 : Nat), x)) (congrArg AObj.mset (show (addK ks ((Cn.lookV (Cn.hasK ks) (lf.getD i [])).1)) = (addK ks (Cn.lookV (Cn.hasK ks) (lf.getD i [])).1) from (by first | rfl | (simp; done))))) (consH (congrArg (fun x => ((231 : Nat), x)) (congrArg (fun x => AObj.row 23 (.intss x)) (show (lf.take (i : Int).toNat ++ lf.drop ((i : Int) + 1).toNat) = (lf.take i ++ lf.drop (i + 1)) from (by first | rfl | (congr 2))))) rfl))
      ·
       skip
       have h5 := bneF hb5
       have hz := h5
       refine tri_skip ?_
       refine fin_block ?_
       refine fin_block ?_
       refine fin_then ?_
       refine tri_regD hcx [] [34] [5, 8, 32, 33] [213, 231] [Fit ((i : Int) + 1)] [(34, .int ((i : Int) + 1))] [] (by kernel_rfl) ?_ ?_
       ·
        refine (ap ?_ az)
        omega
       refine fin_round (i + 1) ?_ ?_ ?_ ?_
       ·
        show (i + 1) ≤ lf.length ∧ ∀ j, j < (i + 1) → Cn.lookV (Cn.hasK ks) (lf.getD j []) = (0, false)
        exact ⟨by omega, Cn.look_next hok hq hz⟩
       ·
        show lf.length - (i + 1) < lf.length - i
        omega
       ·
        exact subE_mk (l := [.row 213, .row 231, .row 231, .int (lf.length : Int), .int ((i : Int) + 1)]) (m := [.row 213, .row 231, .row 231, .int (lf.length : Int), .int ((i + 1) : Int)]) (by kernel_rfl) (by kernel_rfl) (consE rfl (consE rfl (consE rfl (consE rfl (consE (congrArg AV.int (show ((i : Int) + 1) = ((i + 1) : Int) from (by first | rfl | omega | (simp; done)))) rfl)))))
       ·
        kernel_rfl
    ·
     skip
     have h3 := of_decide_eq_false hb3
     refine tri_exit ?_
     refine fin_then_exit ?_
     refine fin_then_exit ?_
     refine fin_block_same ?_
     refine fin_then ?_
     refine tri_seq ?_
     refine tri_regD hcx [] [4] [] [] [] [(4, .bool false)] [] (by kernel_rfl) ?_ ?_
     ·
      exact az
     refine fin_then ?_
     refine tri_ret ?_
     refine fin_jumpB_ret ?_
     exact fin_ret [] rfl rfl trivial hcx (avs := [.bool false]) (by kernel_rfl) (congrArg AV.bool (show false = (Cn.flwV c l) from (by first | exact hf.symm | exact (Cn.step_false hI hct (fun j hj => hok j (by omega))).symm))) [] rfl
 ·
  cases hσ
def cx_pRt1 : Cx := ⟨tyPrf, [(36, pLit_σ)], true⟩
theorem cx_pRt1_ok : CxOk Tryz.prog cx_pRt1 := cx_ok tyPrf_ok ⟨pLit_sound, trivial⟩
def pRt1_σ : CtF
  | [.im (.val (.int .i64 x))], [] => some (True, .bool (!(Cn.mayP x 65536)), [])
  | _, _ => none
theorem pRt1_sound : Sound Tryz.prog 107 pRt1_σ := by
 refine sound_mk (cx := cx_pRt1) (fn := Tryz.f107) Tryz.func107 (by kernel_rfl) rfl ?_
 intro w0 G0 args os p r outs hσ hp hm0 hd0
 have hcx : CxOk Tryz.prog cx_pRt1 := cx_pRt1_ok
 unfold pRt1_σ at hσ
 split at hσ
 ·
  rename_i x
  simp only [Option.some.injEq, Prod.mk.injEq] at hσ
  obtain ⟨rfl, rfl, rfl⟩ := hσ
  obtain ⟨wW, wO, wm, wβ, wd⟩ := w0
  replace hm0 : wm = 0 := hm0
  subst hm0
  replace hd0 : wd = [] := hd0
  subst hd0
  refine ⟨by kernel_rfl, ?_⟩
  change Tri ⟨_, _, _, _, _, _⟩ [(0, .int x)] [] _ _
  refine tri_seq ?_
  refine tri_regD hcx [] [] [0] [] [] [] [] (by kernel_rfl) ?_ ?_
  ·
   exact az
  refine fin_then ?_
  refine tri_seq ?_
  refine tri_regD hcx [] [2] [] [] [(True)] [(2, .bool (!(Cn.mayP x 65536)))] [] (by kernel_rfl) ?_ ?_
  ·
   refine (ap ?_ az)
   exact True.intro
  refine fin_then ?_
  refine tri_ret ?_
  exact fin_ret [] rfl rfl trivial hcx (avs := [.bool (!(Cn.mayP x 65536))]) (by kernel_rfl) rfl [] rfl
 ·
  cases hσ
def cx_ixRt : Cx := ⟨tyPrf, [(107, pRt1_σ)], true⟩
theorem cx_ixRt_ok : CxOk Tryz.prog cx_ixRt := cx_ok tyPrf_ok ⟨pRt1_sound, trivial⟩
def ixRt_σ : CtF
  | [.im (.ls (.ints s)), .clo 107 []], [] => some (s.length ≤ maxLen ∧ True, .int (Cn.idxF (fun x => !(Cn.mayP x 65536)) s), [])
  | _, _ => none
theorem ixRt_sound : Sound Tryz.prog 92 ixRt_σ := by
 refine sound_mk (cx := cx_ixRt) (fn := Tryz.f92) Tryz.func92 (by kernel_rfl) rfl ?_
 intro w0 G0 args os p r outs hσ hp hm0 hd0
 have hcx : CxOk Tryz.prog cx_ixRt := cx_ixRt_ok
 unfold ixRt_σ at hσ
 split at hσ
 ·
  rename_i s
  simp only [Option.some.injEq, Prod.mk.injEq] at hσ
  obtain ⟨rfl, rfl, rfl⟩ := hσ
  obtain ⟨wW, wO, wm, wβ, wd⟩ := w0
  replace hm0 : wm = 0 := hm0
  subst hm0
  replace hd0 : wd = [] := hd0
  subst hd0
  refine ⟨by kernel_rfl, ?_⟩
  change Tri ⟨_, _, _, _, _, _⟩ [(0, .ints s), (1, .clo 107 [])] [] _ _
  obtain ⟨hm1, hpr⟩ := hp
  unfold maxLen at hm1
  refine tri_seq ?_
  refine tri_regD hcx [] [] [0, 1] [] [] [] [] (by kernel_rfl) ?_ ?_
  ·
   exact az
  refine fin_then ?_
  refine tri_seq ?_
  refine tri_seq ?_
  refine tri_regD hcx [] [7, 8] [0, 1] [] [] [(7, .int (s.length : Int)), (8, .int 0)] [] (by kernel_rfl) ?_ ?_
  ·
   exact az
  refine fin_then ?_
  refine tri_block ?_
  refine tri_loop (X := Nat) (fun x0 => x0 ≤ s.length ∧ ∀ j, j < x0 → ((fun x => !(Cn.mayP x 65536)) (s.getD j 0)) = false) (fun x0 => [(0, .ints s), (1, .clo 107 []), (7, .int (s.length : Int)), (8, .int (x0 : Int))]) (fun x0 => []) (fun x0 => s.length - x0) (0) ?_ ?_ ?_ ?_
  ·
   show 0 ≤ s.length ∧ ∀ j, j < 0 → ((fun x => !(Cn.mayP x 65536)) (s.getD j 0)) = false
   exact ⟨Nat.zero_le _, fun j hj => by omega⟩
  ·
   exact subE_mk (l := [.ints s, .clo 107 [], .int (s.length : Int), .int 0]) (m := [.ints s, .clo 107 [], .int (s.length : Int), .int (0 : Int)]) (by kernel_rfl) (by kernel_rfl) (consE rfl (consE rfl (consE rfl (consE (congrArg AV.int (show 0 = (0 : Int) from (by first | rfl | omega | (simp; done)))) rfl))))
  ·
   kernel_rfl
  ·
   intro k hI
   replace hI : k ≤ s.length ∧ ∀ j, j < k → ((fun x => !(Cn.mayP x 65536)) (s.getD j 0)) = false := hI
   change Tri _ [(0, .ints s), (1, .clo 107 []), (7, .int (s.length : Int)), (8, .int (k : Int))] [] _ _
   obtain ⟨hk, hok⟩ := hI
   refine tri_seq ?_
   refine tri_regD hcx [] [9] [0, 1, 7, 8] [] [] [(9, .bool (decide ((k : Int) < (s.length : Int))))] [] (by kernel_rfl) ?_ ?_
   ·
    exact az
   refine fin_then ?_
   refine tri_seq ?_
   refine tri_cond (b := (decide ((k : Int) < (s.length : Int)))) (by kernel_rfl) (fun hb0 => ?_) (fun hb0 => ?_)
   ·
    skip
    have h0 := of_decide_eq_true hb0
    refine tri_skip ?_
    refine fin_then ?_
    refine tri_seq ?_
    refine tri_block ?_
    refine tri_seq ?_
    refine tri_regD hcx [] [5] [0, 1, 7, 8] [] [] [(5, .int (k : Int))] [] (by kernel_rfl) ?_ ?_
    ·
     exact az
    refine fin_then ?_
    refine tri_seq ?_
    refine tri_regD hcx [] [16] [5, 0, 1, 7, 8] [] [((0 : Int) ≤ (k : Int) ∧ (k : Int) < (s.length : Int)), (True)] [(16, .bool (!(Cn.mayP (s.getD k 0) 65536)))] [] (by kernel_rfl) ?_ ?_
    ·
     refine (ap ?_ (ap ?_ az))
     all_goals
      omega
    refine fin_then ?_
    refine tri_cond (b := (!(Cn.mayP (s.getD k 0) 65536))) (by kernel_rfl) (fun hb1 => ?_) (fun hb1 => ?_)
    ·
     skip
     have h1 := hb1
     have hq : ((fun x => !(Cn.mayP x 65536)) (s.getD k 0)) = true := h1
     refine tri_seq ?_
     refine tri_regD hcx [] [4] [] [] [] [(4, .int (k : Int))] [] (by kernel_rfl) ?_ ?_
     ·
      exact az
     refine fin_then ?_
     refine tri_ret ?_
     refine fin_block_ret ?_
     refine fin_then_ret ?_
     refine fin_then_ret ?_
     refine fin_block_ret ?_
     refine fin_then_ret ?_
     exact fin_ret [] rfl rfl trivial hcx (avs := [.int (k : Int)]) (by kernel_rfl) (congrArg AV.int (show (k : Int) = (Cn.idxF (fun x => !(Cn.mayP x 65536)) s) from (by exact (Cn.idxF_yes (p := (fun x => !(Cn.mayP x 65536))) (by omega) hok hq).symm))) [] rfl
    ·
     skip
     have h1 := hb1
     have hq : ((fun x => !(Cn.mayP x 65536)) (s.getD k 0)) = false := h1
     refine tri_skip ?_
     refine fin_block ?_
     refine fin_then ?_
     refine tri_regD hcx [] [8] [0, 1, 7] [] [Fit ((k : Int) + 1)] [(8, .int ((k : Int) + 1))] [] (by kernel_rfl) ?_ ?_
     ·
      refine (ap ?_ az)
      omega
     refine fin_round (k + 1) ?_ ?_ ?_ ?_
     ·
      show (k + 1) ≤ s.length ∧ ∀ j, j < (k + 1) → ((fun x => !(Cn.mayP x 65536)) (s.getD j 0)) = false
      exact ⟨by omega, Cn.falseSucc hok hq⟩
     ·
      show s.length - (k + 1) < s.length - k
      omega
     ·
      exact subE_mk (l := [.ints s, .clo 107 [], .int (s.length : Int), .int ((k : Int) + 1)]) (m := [.ints s, .clo 107 [], .int (s.length : Int), .int ((k + 1) : Int)]) (by kernel_rfl) (by kernel_rfl) (consE rfl (consE rfl (consE rfl (consE (congrArg AV.int (show ((k : Int) + 1) = ((k + 1) : Int) from (by first | rfl | omega | (simp; done)))) rfl))))
     ·
      kernel_rfl
   ·
    skip
    have h0 := of_decide_eq_false hb0
    refine tri_exit ?_
    refine fin_then_exit ?_
    refine fin_then_exit ?_
    refine fin_block_same ?_
    refine fin_then ?_
    refine tri_seq ?_
    refine tri_regD hcx [] [4] [] [] [] [(4, .int (-1))] [] (by kernel_rfl) ?_ ?_
    ·
     exact az
    refine fin_then ?_
    refine tri_ret ?_
    exact fin_ret [] rfl rfl trivial hcx (avs := [.int (-1)]) (by kernel_rfl) (congrArg AV.int (show (-1) = (Cn.idxF (fun x => !(Cn.mayP x 65536)) s) from (by exact (Cn.idxF_no (p := (fun x => !(Cn.mayP x 65536))) (Cn.all_mem (d := 0) (fun j hj => hok j (by omega)))).symm))) [] rfl
 ·
  cases hσ
def cx_ctRt : Cx := ⟨tyPrf, [(92, (coeF [.ld (.ints []), .id] ixRt_σ))], true⟩
theorem cx_ctRt_ok : CxOk Tryz.prog cx_ctRt := cx_ok tyPrf_ok ⟨(ixRt_sound.coe [.ld (.ints []), .id] rfl), trivial⟩
def ctRt_σ : CtF
  | [.im (.ls (.ints s)), .clo 107 []], [] => some (s.length ≤ maxLen ∧ True, .bool (s.any (fun x => !(Cn.mayP x 65536))), [])
  | _, _ => none
theorem ctRt_sound : Sound Tryz.prog 61 ctRt_σ := by
 refine sound_mk (cx := cx_ctRt) (fn := Tryz.f61) Tryz.func61 (by kernel_rfl) rfl ?_
 intro w0 G0 args os p r outs hσ hp hm0 hd0
 have hcx : CxOk Tryz.prog cx_ctRt := cx_ctRt_ok
 unfold ctRt_σ at hσ
 split at hσ
 ·
  rename_i s
  simp only [Option.some.injEq, Prod.mk.injEq] at hσ
  obtain ⟨rfl, rfl, rfl⟩ := hσ
  obtain ⟨wW, wO, wm, wβ, wd⟩ := w0
  replace hm0 : wm = 0 := hm0
  subst hm0
  replace hd0 : wd = [] := hd0
  subst hd0
  refine ⟨by kernel_rfl, ?_⟩
  change Tri ⟨_, _, _, _, _, _⟩ [(0, .ints s), (1, .clo 107 [])] [] _ _
  refine tri_seq ?_
  refine tri_regD hcx [] [] [0, 1] [] [] [] [] (by kernel_rfl) ?_ ?_
  ·
   exact az
  refine fin_then ?_
  refine tri_seq ?_
  refine tri_regD hcx [] [4] [] [] [(s.length ≤ maxLen ∧ True)] [(4, .bool (decide ((Cn.idxF (fun x => !(Cn.mayP x 65536)) s) ≥ 0)))] [] (by kernel_rfl) ?_ ?_
  ·
   refine (ap ?_ az)
   exact hp
  refine fin_then ?_
  refine tri_ret ?_
  exact fin_ret [] rfl rfl trivial hcx (avs := [.bool (decide ((Cn.idxF (fun x => !(Cn.mayP x 65536)) s) ≥ 0))]) (by kernel_rfl) (congrArg AV.bool (show (decide ((Cn.idxF (fun x => !(Cn.mayP x 65536)) s) ≥ 0)) = (s.any (fun x => !(Cn.mayP x 65536))) from (by exact Cn.idxF_any (p := (fun x => !(Cn.mayP x 65536))) s))) [] rfl
 ·
  cases hσ
def cx_pRight : Cx := ⟨tyPrf, [(61, (coeF [.ld (.ints []), .id] ctRt_σ))], true⟩
theorem cx_pRight_ok : CxOk Tryz.prog cx_pRight := cx_ok tyPrf_ok ⟨(ctRt_sound.coe [.ld (.ints []), .id] rfl), trivial⟩
def pRight_σ : CtF
  | [.agg [.im (.val (.int .i64 k)), .im (.ls (.ints l))]], [] => some (l.length ≤ maxLen, .bool (Cn.lineOk (k, l)), [])
  | _, _ => none
theorem pRight_sound : Sound Tryz.prog 77 pRight_σ := by
 refine sound_mk (cx := cx_pRight) (fn := Tryz.f77) Tryz.func77 (by kernel_rfl) rfl ?_
 intro w0 G0 args os p r outs hσ hp hm0 hd0
 have hcx : CxOk Tryz.prog cx_pRight := cx_pRight_ok
 unfold pRight_σ at hσ
 split at hσ
 ·
  rename_i k l
  simp only [Option.some.injEq, Prod.mk.injEq] at hσ
  obtain ⟨rfl, rfl, rfl⟩ := hσ
  obtain ⟨wW, wO, wm, wβ, wd⟩ := w0
  replace hm0 : wm = 0 := hm0
  subst hm0
  replace hd0 : wd = [] := hd0
  subst hd0
  refine ⟨by kernel_rfl, ?_⟩
  change Tri ⟨_, _, _, _, _, _⟩ [(0, .agg [.int k, .ints l])] [] _ _
  refine tri_seq ?_
  refine tri_regD hcx [(1000, .frz)] [1] [] [] [] [(1, .pto [.int k, .ls (.ints l)])] [] (by kernel_rfl) ?_ ?_
  ·
   exact az
  refine fin_then ?_
  refine tri_seq ?_
  refine tri_regD hcx [] [3] [1] [] [] [(3, .clo 107 [])] [] (by kernel_rfl) ?_ ?_
  ·
   exact az
  refine fin_then ?_
  refine tri_seq ?_
  refine tri_regD hcx [] [2] [] [] [((decide (k ≥ 1)) = true → ((decide (k ≥ 1)) = true)), ((decide (k ≥ 1)) = true → ((decide (k ≥ 1)) = true)), ((decide (k ≥ 1)) = true → (decide (k ≥ 1)) = true), (((decide (k ≥ 1)) && (decide (k ≤ 3))) = true → (((decide (k ≥ 1)) && (decide (k ≤ 3))) = true)), (((decide (k ≥ 1)) && (decide (k ≤ 3))) = true → (((decide (k ≥ 1)) && (decide (k ≤ 3))) = true)), (((decide (k ≥ 1)) && (decide (k ≤ 3))) = true → (((decide (k ≥ 1)) && (decide (k ≤ 3))) = true)), (((decide (k ≥ 1)) && (decide (k ≤ 3))) = true → (l.length ≤ maxLen ∧ True)), (((decide (k ≥ 1)) && (decide (k ≤ 3))) = true → (((decide (k ≥ 1)) && (decide (k ≤ 3))) = true)), (((decide (k ≥ 1)) && (decide (k ≤ 3))) = true → ((decide (k ≥ 1)) && (decide (k ≤ 3))) = true)] [(2, .bool (((decide (k ≥ 1)) && (decide (k ≤ 3))) && (!(l.any (fun x => !(Cn.mayP x 65536))))))] [] (by kernel_rfl) ?_ ?_
  ·
   refine (ap ?_ (ap ?_ (ap (by exact id) (ap ?_ (ap ?_ (ap ?_ (ap ?_ (ap ?_ (ap (by exact id) az)))))))))
   all_goals
    first | exact (fun _ => ⟨hp, True.intro⟩) | exact id
  refine fin_then ?_
  refine tri_ret ?_
  exact fin_ret [] rfl rfl trivial hcx (avs := [.bool (((decide (k ≥ 1)) && (decide (k ≤ 3))) && (!(l.any (fun x => !(Cn.mayP x 65536)))))]) (by kernel_rfl) (congrArg AV.bool (show (((decide (k ≥ 1)) && (decide (k ≤ 3))) && (!(l.any (fun x => !(Cn.mayP x 65536))))) = (Cn.lineOk (k, l)) from (by exact Cn.right_is k l))) [] rfl
 ·
  cases hσ
def cx_pFm1 : Cx := ⟨tyPrf, [(77, (coeF [.agg [.id, .ld (.ints [])]] pRight_σ))], true⟩
theorem cx_pFm1_ok : CxOk Tryz.prog cx_pFm1 := cx_ok tyPrf_ok ⟨(pRight_sound.coe [.agg [.id, .ld (.ints [])]] rfl), trivial⟩
def pFm1_σ : CtF
  | [.agg [.im (.val (.int .i64 k)), .im (.ls (.ints l))]], [] => some (l.length ≤ maxLen, .bool (!(Cn.lineOk (k, l))), [])
  | _, _ => none
theorem pFm1_sound : Sound Tryz.prog 76 pFm1_σ := by
 refine sound_mk (cx := cx_pFm1) (fn := Tryz.f76) Tryz.func76 (by kernel_rfl) rfl ?_
 intro w0 G0 args os p r outs hσ hp hm0 hd0
 have hcx : CxOk Tryz.prog cx_pFm1 := cx_pFm1_ok
 unfold pFm1_σ at hσ
 split at hσ
 ·
  rename_i k l
  simp only [Option.some.injEq, Prod.mk.injEq] at hσ
  obtain ⟨rfl, rfl, rfl⟩ := hσ
  obtain ⟨wW, wO, wm, wβ, wd⟩ := w0
  replace hm0 : wm = 0 := hm0
  subst hm0
  replace hd0 : wd = [] := hd0
  subst hd0
  refine ⟨by kernel_rfl, ?_⟩
  change Tri ⟨_, _, _, _, _, _⟩ [(0, .agg [.int k, .ints l])] [] _ _
  refine tri_seq ?_
  refine tri_regD hcx [(1000, .frz)] [1] [] [] [] [(1, .pto [.int k, .ls (.ints l)])] [] (by kernel_rfl) ?_ ?_
  ·
   exact az
  refine fin_then ?_
  refine tri_seq ?_
  refine tri_regD hcx [] [2] [] [] [(l.length ≤ maxLen)] [(2, .bool (!(Cn.lineOk (k, l))))] [] (by kernel_rfl) ?_ ?_
  ·
   refine (ap ?_ az)
   exact hp
  refine fin_then ?_
  refine tri_ret ?_
  exact fin_ret [] rfl rfl trivial hcx (avs := [.bool (!(Cn.lineOk (k, l)))]) (by kernel_rfl) rfl [] rfl
 ·
  cases hσ
def cx_ixFm : Cx := ⟨tyPrf, [(76, (coeF [.agg [.id, .ld (.ints [])]] pFm1_σ))], true⟩
theorem cx_ixFm_ok : CxOk Tryz.prog cx_ixFm := cx_ok tyPrf_ok ⟨(pFm1_sound.coe [.agg [.id, .ld (.ints [])]] rfl), trivial⟩
def ixFm_σ : CtF
  | [.im (.ls (.lines s)), .clo 76 []], [] => some (s.length ≤ maxLen ∧ ∀ x ∈ s, x.2.length ≤ maxLen, .int (Cn.idxF (fun x => !(Cn.lineOk x)) s), [])
  | _, _ => none
theorem ixFm_sound : Sound Tryz.prog 106 ixFm_σ := by
 refine sound_mk (cx := cx_ixFm) (fn := Tryz.f106) Tryz.func106 (by kernel_rfl) rfl ?_
 intro w0 G0 args os p r outs hσ hp hm0 hd0
 have hcx : CxOk Tryz.prog cx_ixFm := cx_ixFm_ok
 unfold ixFm_σ at hσ
 split at hσ
 ·
  rename_i s
  simp only [Option.some.injEq, Prod.mk.injEq] at hσ
  obtain ⟨rfl, rfl, rfl⟩ := hσ
  obtain ⟨wW, wO, wm, wβ, wd⟩ := w0
  replace hm0 : wm = 0 := hm0
  subst hm0
  replace hd0 : wd = [] := hd0
  subst hd0
  refine ⟨by kernel_rfl, ?_⟩
  change Tri ⟨_, _, _, _, _, _⟩ [(0, .lines s), (1, .clo 76 [])] [] _ _
  obtain ⟨hm1, hpr⟩ := hp
  unfold maxLen at hm1
  refine tri_seq ?_
  refine tri_regD hcx [] [] [0, 1] [] [] [] [] (by kernel_rfl) ?_ ?_
  ·
   exact az
  refine fin_then ?_
  refine tri_seq ?_
  refine tri_seq ?_
  refine tri_regD hcx [] [7, 8] [0, 1] [] [] [(7, .int (s.length : Int)), (8, .int 0)] [] (by kernel_rfl) ?_ ?_
  ·
   exact az
  refine fin_then ?_
  refine tri_block ?_
  refine tri_loop (X := Nat) (fun x0 => x0 ≤ s.length ∧ ∀ j, j < x0 → ((fun x => !(Cn.lineOk x)) (s.getD j (0, []))) = false) (fun x0 => [(0, .lines s), (1, .clo 76 []), (7, .int (s.length : Int)), (8, .int (x0 : Int))]) (fun x0 => []) (fun x0 => s.length - x0) (0) ?_ ?_ ?_ ?_
  ·
   show 0 ≤ s.length ∧ ∀ j, j < 0 → ((fun x => !(Cn.lineOk x)) (s.getD j (0, []))) = false
   exact ⟨Nat.zero_le _, fun j hj => by omega⟩
  ·
   exact subE_mk (l := [.lines s, .clo 76 [], .int (s.length : Int), .int 0]) (m := [.lines s, .clo 76 [], .int (s.length : Int), .int (0 : Int)]) (by kernel_rfl) (by kernel_rfl) (consE rfl (consE rfl (consE rfl (consE (congrArg AV.int (show 0 = (0 : Int) from (by first | rfl | omega | (simp; done)))) rfl))))
  ·
   kernel_rfl
  ·
   intro k hI
   replace hI : k ≤ s.length ∧ ∀ j, j < k → ((fun x => !(Cn.lineOk x)) (s.getD j (0, []))) = false := hI
   change Tri _ [(0, .lines s), (1, .clo 76 []), (7, .int (s.length : Int)), (8, .int (k : Int))] [] _ _
   obtain ⟨hk, hok⟩ := hI
   refine tri_seq ?_
   refine tri_regD hcx [] [9] [0, 1, 7, 8] [] [] [(9, .bool (decide ((k : Int) < (s.length : Int))))] [] (by kernel_rfl) ?_ ?_
   ·
    exact az
   refine fin_then ?_
   refine tri_seq ?_
   refine tri_cond (b := (decide ((k : Int) < (s.length : Int)))) (by kernel_rfl) (fun hb0 => ?_) (fun hb0 => ?_)
   ·
    skip
    have h0 := of_decide_eq_true hb0
    refine tri_skip ?_
    refine fin_then ?_
    refine tri_seq ?_
    refine tri_block ?_
    refine tri_seq ?_
    refine tri_regD hcx [] [5] [0, 1, 7, 8] [] [] [(5, .int (k : Int))] [] (by kernel_rfl) ?_ ?_
    ·
     exact az
    refine fin_then ?_
    refine tri_seq ?_
    refine tri_regD hcx [] [16] [5, 0, 1, 7, 8] [] [((0 : Int) ≤ (k : Int) ∧ (k : Int) < (s.length : Int)), (((s.getD k (0, [])).2).length ≤ maxLen)] [(16, .bool (!(Cn.lineOk (((s.getD k (0, [])).1), ((s.getD k (0, [])).2)))))] [] (by kernel_rfl) ?_ ?_
    ·
     refine (ap ?_ (ap ?_ az))
     all_goals
      first | omega | exact hpr _ (Cn.getD_memL (by omega))
    refine fin_then ?_
    refine tri_cond (b := (!(Cn.lineOk (((s.getD k (0, [])).1), ((s.getD k (0, [])).2))))) (by kernel_rfl) (fun hb1 => ?_) (fun hb1 => ?_)
    ·
     skip
     have h1 := hb1
     have hq : ((fun x => !(Cn.lineOk x)) (s.getD k (0, []))) = true := h1
     refine tri_seq ?_
     refine tri_regD hcx [] [4] [] [] [] [(4, .int (k : Int))] [] (by kernel_rfl) ?_ ?_
     ·
      exact az
     refine fin_then ?_
     refine tri_ret ?_
     refine fin_block_ret ?_
     refine fin_then_ret ?_
     refine fin_then_ret ?_
     refine fin_block_ret ?_
     refine fin_then_ret ?_
     exact fin_ret [] rfl rfl trivial hcx (avs := [.int (k : Int)]) (by kernel_rfl) (congrArg AV.int (show (k : Int) = (Cn.idxF (fun x => !(Cn.lineOk x)) s) from (by exact (Cn.idxF_yes (p := (fun x => !(Cn.lineOk x))) (by omega) hok hq).symm))) [] rfl
    ·
     skip
     have h1 := hb1
     have hq : ((fun x => !(Cn.lineOk x)) (s.getD k (0, []))) = false := h1
     refine tri_skip ?_
     refine fin_block ?_
     refine fin_then ?_
     refine tri_regD hcx [] [8] [0, 1, 7] [] [Fit ((k : Int) + 1)] [(8, .int ((k : Int) + 1))] [] (by kernel_rfl) ?_ ?_
     ·
      refine (ap ?_ az)
      omega
     refine fin_round (k + 1) ?_ ?_ ?_ ?_
     ·
      show (k + 1) ≤ s.length ∧ ∀ j, j < (k + 1) → ((fun x => !(Cn.lineOk x)) (s.getD j (0, []))) = false
      exact ⟨by omega, Cn.falseSucc hok hq⟩
     ·
      show s.length - (k + 1) < s.length - k
      omega
     ·
      exact subE_mk (l := [.lines s, .clo 76 [], .int (s.length : Int), .int ((k : Int) + 1)]) (m := [.lines s, .clo 76 [], .int (s.length : Int), .int ((k + 1) : Int)]) (by kernel_rfl) (by kernel_rfl) (consE rfl (consE rfl (consE rfl (consE (congrArg AV.int (show ((k : Int) + 1) = ((k + 1) : Int) from (by first | rfl | omega | (simp; done)))) rfl))))
     ·
      kernel_rfl
   ·
    skip
    have h0 := of_decide_eq_false hb0
    refine tri_exit ?_
    refine fin_then_exit ?_
    refine fin_then_exit ?_
    refine fin_block_same ?_
    refine fin_then ?_
    refine tri_seq ?_
    refine tri_regD hcx [] [4] [] [] [] [(4, .int (-1))] [] (by kernel_rfl) ?_ ?_
    ·
     exact az
    refine fin_then ?_
    refine tri_ret ?_
    exact fin_ret [] rfl rfl trivial hcx (avs := [.int (-1)]) (by kernel_rfl) (congrArg AV.int (show (-1) = (Cn.idxF (fun x => !(Cn.lineOk x)) s) from (by exact (Cn.idxF_no (p := (fun x => !(Cn.lineOk x))) (Cn.all_mem (d := (0, [])) (fun j hj => hok j (by omega)))).symm))) [] rfl
 ·
  cases hσ
def cx_ctFm : Cx := ⟨tyPrf, [(106, (coeF [.ld (.lines []), .id] ixFm_σ))], true⟩
theorem cx_ctFm_ok : CxOk Tryz.prog cx_ctFm := cx_ok tyPrf_ok ⟨(ixFm_sound.coe [.ld (.lines []), .id] rfl), trivial⟩
def ctFm_σ : CtF
  | [.im (.ls (.lines s)), .clo 76 []], [] => some (s.length ≤ maxLen ∧ ∀ x ∈ s, x.2.length ≤ maxLen, .bool (s.any (fun x => !(Cn.lineOk x))), [])
  | _, _ => none
theorem ctFm_sound : Sound Tryz.prog 75 ctFm_σ := by
 refine sound_mk (cx := cx_ctFm) (fn := Tryz.f75) Tryz.func75 (by kernel_rfl) rfl ?_
 intro w0 G0 args os p r outs hσ hp hm0 hd0
 have hcx : CxOk Tryz.prog cx_ctFm := cx_ctFm_ok
 unfold ctFm_σ at hσ
 split at hσ
 ·
  rename_i s
  simp only [Option.some.injEq, Prod.mk.injEq] at hσ
  obtain ⟨rfl, rfl, rfl⟩ := hσ
  obtain ⟨wW, wO, wm, wβ, wd⟩ := w0
  replace hm0 : wm = 0 := hm0
  subst hm0
  replace hd0 : wd = [] := hd0
  subst hd0
  refine ⟨by kernel_rfl, ?_⟩
  change Tri ⟨_, _, _, _, _, _⟩ [(0, .lines s), (1, .clo 76 [])] [] _ _
  refine tri_seq ?_
  refine tri_regD hcx [] [] [0, 1] [] [] [] [] (by kernel_rfl) ?_ ?_
  ·
   exact az
  refine fin_then ?_
  refine tri_seq ?_
  refine tri_regD hcx [] [4] [] [] [(s.length ≤ maxLen ∧ ∀ x ∈ s, x.2.length ≤ maxLen)] [(4, .bool (decide ((Cn.idxF (fun x => !(Cn.lineOk x)) s) ≥ 0)))] [] (by kernel_rfl) ?_ ?_
  ·
   refine (ap ?_ az)
   exact hp
  refine fin_then ?_
  refine tri_ret ?_
  exact fin_ret [] rfl rfl trivial hcx (avs := [.bool (decide ((Cn.idxF (fun x => !(Cn.lineOk x)) s) ≥ 0))]) (by kernel_rfl) (congrArg AV.bool (show (decide ((Cn.idxF (fun x => !(Cn.lineOk x)) s) ≥ 0)) = (s.any (fun x => !(Cn.lineOk x))) from (by exact Cn.idxF_any (p := (fun x => !(Cn.lineOk x))) s))) [] rfl
 ·
  cases hσ
def cx_pFormed : Cx := ⟨tyPrf, [(75, (coeF [.ld (.lines []), .id] ctFm_σ))], true⟩
theorem cx_pFormed_ok : CxOk Tryz.prog cx_pFormed := cx_ok tyPrf_ok ⟨(ctFm_sound.coe [.ld (.lines []), .id] rfl), trivial⟩
def pFormed_σ : CtF
  | [.im (.ls (.lines p))], [] => some (p.length ≤ maxLen ∧ ∀ x ∈ p, x.2.length ≤ maxLen, .int (Cn.frmV p), [])
  | _, _ => none
theorem pFormed_sound : Sound Tryz.prog 43 pFormed_σ := by
 refine sound_mk (cx := cx_pFormed) (fn := Tryz.f43) Tryz.func43 (by kernel_rfl) rfl ?_
 intro w0 G0 args os p r outs hσ hp hm0 hd0
 have hcx : CxOk Tryz.prog cx_pFormed := cx_pFormed_ok
 unfold pFormed_σ at hσ
 split at hσ
 ·
  rename_i p
  simp only [Option.some.injEq, Prod.mk.injEq] at hσ
  obtain ⟨rfl, rfl, rfl⟩ := hσ
  obtain ⟨wW, wO, wm, wβ, wd⟩ := w0
  replace hm0 : wm = 0 := hm0
  subst hm0
  replace hd0 : wd = [] := hd0
  subst hd0
  refine ⟨by kernel_rfl, ?_⟩
  change Tri ⟨_, _, _, _, _, _⟩ [(0, .lines p)] [] _ _
  refine tri_seq ?_
  refine tri_regD hcx [] [] [0] [] [] [] [] (by kernel_rfl) ?_ ?_
  ·
   exact az
  refine fin_then ?_
  refine tri_seq ?_
  refine tri_seq ?_
  refine tri_regD hcx [] [5] [0] [] [] [(5, .bool (decide ((p.length : Int) > 65536)))] [] (by kernel_rfl) ?_ ?_
  ·
   exact az
  refine fin_then ?_
  refine tri_cond (b := (decide ((p.length : Int) > 65536))) (by kernel_rfl) (fun hb0 => ?_) (fun hb0 => ?_)
  ·
   skip
   have h0 := of_decide_eq_true hb0
   refine tri_seq ?_
   refine tri_regD hcx [] [2] [] [] [] [(2, .int 2)] [] (by kernel_rfl) ?_ ?_
   ·
    exact az
   refine fin_then ?_
   refine tri_ret ?_
   refine fin_then_ret ?_
   exact fin_ret [] rfl rfl trivial hcx (avs := [.int 2]) (by kernel_rfl) (congrArg AV.int (show 2 = (Cn.frmV p) from (by exact (Cn.frm_2 h0).symm))) [] rfl
  ·
   skip
   have h0 := of_decide_eq_false hb0
   refine tri_skip ?_
   refine fin_then ?_
   refine tri_seq ?_
   refine tri_seq ?_
   refine tri_regD hcx [] [7] [] [] [(p.length ≤ maxLen ∧ ∀ x ∈ p, x.2.length ≤ maxLen)] [(7, .bool (p.any (fun x => !(Cn.lineOk x))))] [] (by kernel_rfl) ?_ ?_
   ·
    refine (ap ?_ az)
    exact hp
   refine fin_then ?_
   refine tri_cond (b := (p.any (fun x => !(Cn.lineOk x)))) (by kernel_rfl) (fun hb1 => ?_) (fun hb1 => ?_)
   ·
    skip
    have h1 := hb1
    have hq := h1
    refine tri_seq ?_
    refine tri_regD hcx [] [2] [] [] [] [(2, .int 1)] [] (by kernel_rfl) ?_ ?_
    ·
     exact az
    refine fin_then ?_
    refine tri_ret ?_
    refine fin_then_ret ?_
    exact fin_ret [] rfl rfl trivial hcx (avs := [.int 1]) (by kernel_rfl) (congrArg AV.int (show 1 = (Cn.frmV p) from (by exact (Cn.frm_1 h0 hq).symm))) [] rfl
   ·
    skip
    have h1 := hb1
    have hq := h1
    refine tri_skip ?_
    refine fin_then ?_
    refine tri_seq ?_
    refine tri_regD hcx [] [2] [] [] [] [(2, .int 0)] [] (by kernel_rfl) ?_ ?_
    ·
     exact az
    refine fin_then ?_
    refine tri_ret ?_
    exact fin_ret [] rfl rfl trivial hcx (avs := [.int 0]) (by kernel_rfl) (congrArg AV.int (show 0 = (Cn.frmV p) from (by exact (Cn.frm_0 h0 hq).symm))) [] rfl
 ·
  cases hσ
def cx_sValues : Cx := ⟨tyPrf, [], true⟩
theorem cx_sValues_ok : CxOk Tryz.prog cx_sValues := cx_ok tyPrf_ok trivial
def sValues_σ : CtF
  | [.im (.ls (.ints l))], [] => some (True, .clo 130 [.pto [.ls (.ints l)]], [])
  | _, _ => none
theorem sValues_sound : Sound Tryz.prog 109 sValues_σ := by
 refine sound_mk (cx := cx_sValues) (fn := Tryz.f109) Tryz.func109 (by kernel_rfl) rfl ?_
 intro w0 G0 args os p r outs hσ hp hm0 hd0
 have hcx : CxOk Tryz.prog cx_sValues := cx_sValues_ok
 unfold sValues_σ at hσ
 split at hσ
 ·
  rename_i l
  simp only [Option.some.injEq, Prod.mk.injEq] at hσ
  obtain ⟨rfl, rfl, rfl⟩ := hσ
  obtain ⟨wW, wO, wm, wβ, wd⟩ := w0
  replace hm0 : wm = 0 := hm0
  subst hm0
  replace hd0 : wd = [] := hd0
  subst hd0
  refine ⟨by kernel_rfl, ?_⟩
  change Tri ⟨_, _, _, _, _, _⟩ [(0, .ints l)] [] _ _
  refine tri_seq ?_
  refine tri_regD hcx [(1000, .frz)] [1] [] [] [] [(1, .pto [.ls (.ints l)])] [] (by kernel_rfl) ?_ ?_
  ·
   exact az
  refine fin_then ?_
  refine tri_seq ?_
  refine tri_regD hcx [] [2] [] [] [] [(2, .clo 130 [.pto [.ls (.ints l)]])] [] (by kernel_rfl) ?_ ?_
  ·
   exact az
  refine fin_then ?_
  refine tri_ret ?_
  exact fin_ret [] rfl rfl trivial hcx (avs := [.clo 130 [.pto [.ls (.ints l)]]]) (by kernel_rfl) rfl [] rfl
 ·
  cases hσ
def cx_sAppSeq : Cx := ⟨tyPrf, [], true⟩
theorem cx_sAppSeq_ok : CxOk Tryz.prog cx_sAppSeq := cx_ok tyPrf_ok trivial
def sAppSeq_σ : CtF
  | [.im (.val (.slice none 0 0)), .clo 130 [.pto [.ls (.ints l)]]], [] => some (l.length ≤ 1000000000000, .row 0, [some (.row 3 (.ints l))])
  | _, _ => none
theorem sAppSeq_sound : Sound Tryz.prog 158 sAppSeq_σ := by
 refine sound_mk (cx := cx_sAppSeq) (fn := Tryz.f158) Tryz.func158 (by kernel_rfl) rfl ?_
 intro w0 G0 args os p r outs hσ hp hm0 hd0
 have hcx : CxOk Tryz.prog cx_sAppSeq := cx_sAppSeq_ok
 unfold sAppSeq_σ at hσ
 split at hσ
 ·
  rename_i l
  simp only [Option.some.injEq, Prod.mk.injEq] at hσ
  obtain ⟨rfl, rfl, rfl⟩ := hσ
  obtain ⟨wW, wO, wm, wβ, wd⟩ := w0
  replace hm0 : wm = 0 := hm0
  subst hm0
  replace hd0 : wd = [] := hd0
  subst hd0
  refine ⟨by kernel_rfl, ?_⟩
  change Tri ⟨_, _, _, _, _, _⟩ [(0, .im (.val (.slice none 0 0))), (1, .clo 130 [.pto [.ls (.ints l)]])] [] _ _
  have hm1 := hp
  refine tri_seq ?_
  refine tri_regD hcx [(1000, .to 602)] [2, 4] [1] [] [] [(2, .loc 602 0), (4, .im (.val (.slice none 0 0)))] [(602, .box [.im (.val (.slice none 0 0))])] (by kernel_rfl) ?_ ?_
  ·
   exact az
  refine fin_then ?_
  refine tri_seq ?_
  refine tri_seq ?_
  refine tri_rowB 602 0 10 3 (.ints []) (by kernel_rfl) (by kernel_rfl) (by kernel_rfl) (by kernel_rfl) (H' := [(602, .box [.row 10])]) (by kernel_rfl) ?_
  refine tri_regD hcx [] [6] [2, 4] [10, 602] [] [(6, .clo 130 [.pto [.ls (.ints l)]])] [] (by kernel_rfl) ?_ ?_
  ·
   exact az
  refine fin_then ?_
  refine tri_block ?_
  refine tri_ren (ρ := [(602, .to 0), (10, .to 10)]) (keys := [6, 2, 4]) (E' := [(6, .clo 130 [.pto [.ls (.ints l)]]), (2, .loc 0 0), (4, .im (.val (.slice none 0 0)))]) (H' := [(0, .box [.row 10]), (10, .row 3 (.ints []))]) (by kernel_rfl) ?_
  refine tri_range (X := Unit) rfl values_seq (caps := [.pto [.ls (.ints l)]]) (by kernel_rfl) (N := l.length) (el := fun i => [.int (l.getD i 0)]) rfl (by kernel_rfl) ?_ 1 970 989 (by kernel_rfl) (fun i x0 => True) (fun i x0 => [(0, .box [.row 10]), (10, .row 3 (.ints (l.take i)))]) (fun i x0 => [(6, .clo 130 [.pto [.ls (.ints l)]]), (2, .loc 0 0), (4, .im (.val (.slice none 0 0))), (5, .int (l.getD i 0))]) (fun i x0 => [(0, .box [.row 10]), (10, .row 3 (.ints (l.take i)))]) (()) ?_ ?_ (fun _ _ => rfl) (fun _ _ _ => by kernel_rfl) (fun _ _ => by kernel_rfl) ?_ ?_ ?_
  ·
   (unfold maxLen; omega)
  ·
   show True
   exact True.intro
  ·
   exact Eq.trans (show _ = [(0, .box [.row 10]), (10, .row 3 (.ints []))] from by kernel_rfl) (consH rfl (consH (congrArg (fun x => ((10 : Nat), x)) (congrArg (fun x => AObj.row 3 (.ints x)) (show [] = (l.take 0) from (by rfl)))) rfl))
  ·
   intro Wr Or βr Gr l0 r0 i un hi0 hI0
   replace hI0 : True := hI0
   change Tri _ [(7, .int (l.getD i 0)), (6, .clo 130 [.pto [.ls (.ints l)]]), (2, .loc 0 0), (4, .im (.val (.slice none 0 0)))] [(970, .other l0 (.loop r0)), (0, .box [.row 10]), (10, .row 3 (.ints (l.take i)))] _ _
   refine tri_regD hcx [] [5] [6, 2, 4] [970, 0, 10] [] [(5, .int (l.getD i 0))] [] (by kernel_rfl) ?_ ?_
   ·
    exact az
   refine fin_assign ?_ ?_
   ·
    exact subE_mk (l := [.clo 130 [.pto [.ls (.ints l)]], .loc 0 0, .im (.val (.slice none 0 0)), .int (l.getD i 0)]) (m := [.clo 130 [.pto [.ls (.ints l)]], .loc 0 0, .im (.val (.slice none 0 0)), .int (l.getD i 0)]) (by kernel_rfl) (by kernel_rfl) rfl
   ·
    kernel_rfl
  ·
   intro Wr Or βr Gr l0 r0 i un hi0 hI0
   replace hI0 : True := hI0
   change Tri _ [(6, .clo 130 [.pto [.ls (.ints l)]]), (2, .loc 0 0), (4, .im (.val (.slice none 0 0))), (5, .int (l.getD i 0))] [(970, .other l0 (.loop r0)), (0, .box [.row 10]), (10, .row 3 (.ints (l.take i)))] _ _
   refine tri_block ?_
   refine tri_regD hcx [(0, .to 0), (1003, .to 10)] [] [] [970] [(((l.take i).length + [(l.getD i 0)].length) * 8 ≤ 140737488355328)] [] [(0, .box [.row 10]), (10, .row 3 (.ints ((l.take i) ++ [(l.getD i 0)])))] (by kernel_rfl) ?_ ?_
   ·
    refine (ap ?_ az)
    (simp only [List.length_cons, List.length_nil, List.length_take]; omega)
   refine fin_block ?_
   refine fin_ren (ρ := [(970, .to 970), (0, .to 0), (10, .to 10)]) (keys := []) (E' := []) (H' := [(970, .other l0 (.loop r0)), (0, .box [.row 10]), (10, .row 3 (.ints ((l.take i) ++ [(l.getD i 0)])))]) (by kernel_rfl) ?_
   refine fin_rnext (()) ?_ ?_
   ·
    show True
    exact True.intro
   ·
    exact Eq.trans (show _ = [(970, .other l0 (.loop r0)), (0, .box [.row 10]), (10, .row 3 (.ints ((l.take i) ++ [(l.getD i 0)])))] from by kernel_rfl) (consH rfl (consH rfl (consH (congrArg (fun x => ((10 : Nat), x)) (congrArg (fun x => AObj.row 3 (.ints x)) (show ((l.take i) ++ [(l.getD i 0)]) = (l.take (i + 1)) from (by exact (Cn.take_sD (by omega)).symm)))) rfl)))
  ·
   intro D0 un hI0
   replace hI0 : True := hI0
   change Fin _ [(6, .clo 130 [.pto [.ls (.ints l)]]), (2, .loc 0 0), (4, .im (.val (.slice none 0 0)))] [(989, .other D0 dfr), (0, .box [.row 10]), (10, .row 3 (.ints (l.take l.length)))] _ _
   refine fin_block ?_
   refine fin_then ?_
   refine tri_seq ?_
   refine tri_regD hcx [] [4] [] [989, 10] [] [(4, .row 10)] [] (by kernel_rfl) ?_ ?_
   ·
    exact az
   refine fin_then ?_
   refine tri_ret ?_
   refine fin_ren (ρ := [(10, .to 0), (989, .to 989)]) (keys := [4]) (E' := [(4, .row 0)]) (H' := [(0, .row 3 (.ints (l.take l.length))), (989, .other D0 dfr)]) (by kernel_rfl) ?_
   exact fin_retM _ rfl [(989, D0)] rfl rfl ⟨rfl, trivial⟩ hcx (avs := [.row 0]) (by kernel_rfl) rfl [true] (Eq.trans (show _ = [some (.row 3 (.ints (l.take l.length)))] from by kernel_rfl) (consO (congrArg some (congrArg (fun x => AObj.row 3 (.ints x)) (show (l.take l.length) = l from (by exact List.take_length)))) rfl))
 ·
  cases hσ
def cx_sCollect : Cx := ⟨tyPrf, [(158, sAppSeq_σ)], true⟩
theorem cx_sCollect_ok : CxOk Tryz.prog cx_sCollect := cx_ok tyPrf_ok ⟨sAppSeq_sound, trivial⟩
def sCollect_σ : CtF
  | [.clo 130 [.pto [.ls (.ints l)]]], [] => some (l.length ≤ 1000000000000, .row 0, [some (.row 3 (.ints l))])
  | _, _ => none
theorem sCollect_sound : Sound Tryz.prog 128 sCollect_σ := by
 refine sound_mk (cx := cx_sCollect) (fn := Tryz.f128) Tryz.func128 (by kernel_rfl) rfl ?_
 intro w0 G0 args os p r outs hσ hp hm0 hd0
 have hcx : CxOk Tryz.prog cx_sCollect := cx_sCollect_ok
 unfold sCollect_σ at hσ
 split at hσ
 ·
  rename_i l
  simp only [Option.some.injEq, Prod.mk.injEq] at hσ
  obtain ⟨rfl, rfl, rfl⟩ := hσ
  obtain ⟨wW, wO, wm, wβ, wd⟩ := w0
  replace hm0 : wm = 0 := hm0
  subst hm0
  replace hd0 : wd = [] := hd0
  subst hd0
  refine ⟨by kernel_rfl, ?_⟩
  change Tri ⟨_, _, _, _, _, _⟩ [(0, .clo 130 [.pto [.ls (.ints l)]])] [] _ _
  refine tri_seq ?_
  refine tri_regD hcx [] [] [0] [] [] [] [] (by kernel_rfl) ?_ ?_
  ·
   exact az
  refine fin_then ?_
  refine tri_seq ?_
  refine tri_regD hcx [(1001, .to 204)] [2] [] [] [(l.length ≤ 1000000000000)] [(2, .row 204)] [(204, .row 3 (.ints l))] (by kernel_rfl) ?_ ?_
  ·
   refine (ap ?_ az)
   exact hp
  refine fin_then ?_
  refine tri_ret ?_
  refine fin_ren (ρ := [(204, .to 0)]) (keys := [2]) (E' := [(2, .row 0)]) (H' := [(0, .row 3 (.ints l))]) (by kernel_rfl) ?_
  exact fin_ret [] rfl rfl trivial hcx (avs := [.row 0]) (by kernel_rfl) rfl [true] (Eq.trans (show _ = [some (.row 3 (.ints l))] from by kernel_rfl) (consO rfl rfl))
 ·
  cases hσ
def cx_sSorted : Cx := ⟨tyPrf, [(129, sSortI), (128, sCollect_σ)], true⟩
theorem cx_sSorted_ok : CxOk Tryz.prog cx_sSorted := cx_ok tyPrf_ok ⟨sSortI_sound, sCollect_sound, trivial⟩
def sSorted_σ : CtF
  | [.clo 130 [.pto [.ls (.ints l)]]], [] => some (l.length ≤ 1000000000000, .row 0, [some (.row 3 (.ints (Cn.sortI l)))])
  | _, _ => none
theorem sSorted_sound : Sound Tryz.prog 108 sSorted_σ := by
 refine sound_mk (cx := cx_sSorted) (fn := Tryz.f108) Tryz.func108 (by kernel_rfl) rfl ?_
 intro w0 G0 args os p r outs hσ hp hm0 hd0
 have hcx : CxOk Tryz.prog cx_sSorted := cx_sSorted_ok
 unfold sSorted_σ at hσ
 split at hσ
 ·
  rename_i l
  simp only [Option.some.injEq, Prod.mk.injEq] at hσ
  obtain ⟨rfl, rfl, rfl⟩ := hσ
  obtain ⟨wW, wO, wm, wβ, wd⟩ := w0
  replace hm0 : wm = 0 := hm0
  subst hm0
  replace hd0 : wd = [] := hd0
  subst hd0
  refine ⟨by kernel_rfl, ?_⟩
  change Tri ⟨_, _, _, _, _, _⟩ [(0, .clo 130 [.pto [.ls (.ints l)]])] [] _ _
  refine tri_seq ?_
  refine tri_regD hcx [] [] [0] [] [] [] [] (by kernel_rfl) ?_ ?_
  ·
   exact az
  refine fin_then ?_
  refine tri_seq ?_
  refine tri_regD hcx [(1001, .to 205)] [3] [] [] [(l.length ≤ 1000000000000)] [(3, .row 205)] [(205, .row 3 (.ints l))] (by kernel_rfl) ?_ ?_
  ·
   refine (ap ?_ az)
   exact hp
  refine fin_then ?_
  refine tri_seq ?_
  refine tri_regD hcx [(205, .to 205)] [] [3] [] [(l.length ≤ 1000000000000)] [] [(205, .row 3 (.ints (Cn.sortI l)))] (by kernel_rfl) ?_ ?_
  ·
   refine (ap ?_ az)
   exact hp
  refine fin_then ?_
  refine tri_seq ?_
  refine tri_regD hcx [] [2] [] [205] [] [(2, .row 205)] [] (by kernel_rfl) ?_ ?_
  ·
   exact az
  refine fin_then ?_
  refine tri_ret ?_
  refine fin_ren (ρ := [(205, .to 0)]) (keys := [2]) (E' := [(2, .row 0)]) (H' := [(0, .row 3 (.ints (Cn.sortI l)))]) (by kernel_rfl) ?_
  exact fin_ret [] rfl rfl trivial hcx (avs := [.row 0]) (by kernel_rfl) rfl [true] (Eq.trans (show _ = [some (.row 3 (.ints (Cn.sortI l)))] from by kernel_rfl) (consO rfl rfl))
 ·
  cases hσ
def cx_pSet : Cx := ⟨tyPrf, [(99, sCompact), (109, (coeF [.ld (.ints [])] sValues_σ)), (108, sSorted_σ)], true⟩
theorem cx_pSet_ok : CxOk Tryz.prog cx_pSet := cx_ok tyPrf_ok ⟨sCompact_sound, (sValues_sound.coe [.ld (.ints [])] rfl), sSorted_sound, trivial⟩
def pSet_σ : CtF
  | [.im (.ls (.ints l))], [] => some (l.length ≤ 1000000000000, .row 0, [some (.row 3 (.ints (Cn.setI l)))])
  | _, _ => none
theorem pSet_sound : Sound Tryz.prog 79 pSet_σ := by
 refine sound_mk (cx := cx_pSet) (fn := Tryz.f79) Tryz.func79 (by kernel_rfl) rfl ?_
 intro w0 G0 args os p r outs hσ hp hm0 hd0
 have hcx : CxOk Tryz.prog cx_pSet := cx_pSet_ok
 unfold pSet_σ at hσ
 split at hσ
 ·
  rename_i l
  simp only [Option.some.injEq, Prod.mk.injEq] at hσ
  obtain ⟨rfl, rfl, rfl⟩ := hσ
  obtain ⟨wW, wO, wm, wβ, wd⟩ := w0
  replace hm0 : wm = 0 := hm0
  subst hm0
  replace hd0 : wd = [] := hd0
  subst hd0
  refine ⟨by kernel_rfl, ?_⟩
  change Tri ⟨_, _, _, _, _, _⟩ [(0, .ints l)] [] _ _
  refine tri_seq ?_
  refine tri_regD hcx [] [] [0] [] [] [] [] (by kernel_rfl) ?_ ?_
  ·
   exact az
  refine fin_then ?_
  refine tri_seq ?_
  refine tri_regD hcx [(1003, .to 206)] [2] [] [] [(True), (l.length ≤ 1000000000000), ((Cn.sortI l).length ≤ 1000000000000)] [(2, .row 206)] [(206, .row 3 (.ints (Lib.compact (Cn.sortI l))))] (by kernel_rfl) ?_ ?_
  ·
   refine (ap ?_ (ap ?_ (ap ?_ az)))
   all_goals
    first | exact True.intro | exact hp | (rw [Cn.sortI_len]; exact hp)
  refine fin_then ?_
  refine tri_ret ?_
  refine fin_ren (ρ := [(206, .to 0)]) (keys := [2]) (E' := [(2, .row 0)]) (H' := [(0, .row 3 (.ints (Lib.compact (Cn.sortI l))))]) (by kernel_rfl) ?_
  exact fin_ret [] rfl rfl trivial hcx (avs := [.row 0]) (by kernel_rfl) rfl [true] (Eq.trans (show _ = [some (.row 3 (.ints (Lib.compact (Cn.sortI l))))] from by kernel_rfl) (consO (congrArg some (congrArg (fun x => AObj.row 3 (.ints x)) (show (Lib.compact (Cn.sortI l)) = (Cn.setI l) from (by first | rfl | (simp; done))))) rfl))
 ·
  cases hσ
def cx_sEqual : Cx := ⟨tyPrf, [], true⟩
theorem cx_sEqual_ok : CxOk Tryz.prog cx_sEqual := cx_ok tyPrf_ok trivial
def sEqual_σ : CtF
  | [.im (.ls (.ints a)), .im (.ls (.ints b))], [] => some (a.length ≤ maxLen ∧ b.length ≤ maxLen, .bool (a == b), [])
  | _, _ => none
theorem sEqual_sound : Sound Tryz.prog 81 sEqual_σ := by
 refine sound_mk (cx := cx_sEqual) (fn := Tryz.f81) Tryz.func81 (by kernel_rfl) rfl ?_
 intro w0 G0 args os p r outs hσ hp hm0 hd0
 have hcx : CxOk Tryz.prog cx_sEqual := cx_sEqual_ok
 have hmx : Tryz.prog.follows .mixedOrders = true := by kernel_rfl
 unfold sEqual_σ at hσ
 split at hσ
 ·
  rename_i a b
  simp only [Option.some.injEq, Prod.mk.injEq] at hσ
  obtain ⟨rfl, rfl, rfl⟩ := hσ
  obtain ⟨wW, wO, wm, wβ, wd⟩ := w0
  replace hm0 : wm = 0 := hm0
  subst hm0
  replace hd0 : wd = [] := hd0
  subst hd0
  refine ⟨by kernel_rfl, ?_⟩
  change Tri ⟨_, _, _, _, _, _⟩ [(0, .ints a), (1, .ints b)] [] _ _
  obtain ⟨hm1, hm2⟩ := hp
  unfold maxLen at hm1 hm2
  refine tri_seq ?_
  refine tri_regD hcx [] [] [0, 1] [] [] [] [] (by kernel_rfl) ?_ ?_
  ·
   exact az
  refine fin_then ?_
  refine tri_seq ?_
  refine tri_seq ?_
  refine tri_regD hcx [] [10] [0, 1] [] [] [(10, .bool ((a.length : Int) != (b.length : Int)))] [] (by kernel_rfl) ?_ ?_
  ·
   exact az
  refine fin_then ?_
  refine tri_cond (b := ((a.length : Int) != (b.length : Int))) (by kernel_rfl) (fun hb0 => ?_) (fun hb0 => ?_)
  ·
   skip
   have h0 := bne_iff_ne.1 hb0
   have hne := h0
   refine tri_seq ?_
   refine tri_regD hcx [] [4] [] [] [] [(4, .bool false)] [] (by kernel_rfl) ?_ ?_
   ·
    exact az
   refine fin_then ?_
   refine tri_ret ?_
   refine fin_then_ret ?_
   exact fin_ret [] rfl rfl trivial hcx (avs := [.bool false]) (by kernel_rfl) (congrArg AV.bool (show false = (a == b) from (by first | exact (Cn.eq_len (by omega)).symm | exact (Cn.eq_no (by omega) hq).symm | exact (Cn.eq_yes (by omega) (fun j hj => hok j (by omega))).symm))) [] rfl
  ·
   skip
   have h0 := bneF hb0
   have hle := h0
   refine tri_skip ?_
   refine fin_then ?_
   refine tri_seq ?_
   refine tri_seq ?_
   refine tri_regD hcx [] [12, 13] [0, 1] [] [] [(12, .int (a.length : Int)), (13, .int 0)] [] (by kernel_rfl) ?_ ?_
   ·
    exact az
   refine fin_then ?_
   refine tri_block ?_
   refine tri_loop (X := Nat) (fun x0 => x0 ≤ a.length ∧ ∀ j, j < x0 → a.getD j 0 = b.getD j 0) (fun x0 => [(0, .ints a), (1, .ints b), (12, .int (a.length : Int)), (13, .int (x0 : Int))]) (fun x0 => []) (fun x0 => a.length - x0) (0) ?_ ?_ ?_ ?_
   ·
    show 0 ≤ a.length ∧ ∀ j, j < 0 → a.getD j 0 = b.getD j 0
    exact ⟨Nat.zero_le _, fun j hj => by omega⟩
   ·
    exact subE_mk (l := [.ints a, .ints b, .int (a.length : Int), .int 0]) (m := [.ints a, .ints b, .int (a.length : Int), .int (0 : Int)]) (by kernel_rfl) (by kernel_rfl) (consE rfl (consE rfl (consE rfl (consE (congrArg AV.int (show 0 = (0 : Int) from (by first | rfl | omega | (simp; done)))) rfl))))
   ·
    kernel_rfl
   ·
    intro k hI
    replace hI : k ≤ a.length ∧ ∀ j, j < k → a.getD j 0 = b.getD j 0 := hI
    change Tri _ [(0, .ints a), (1, .ints b), (12, .int (a.length : Int)), (13, .int (k : Int))] [] _ _
    obtain ⟨hk, hok⟩ := hI
    refine tri_seq ?_
    refine tri_regD hcx [] [14] [0, 1, 12, 13] [] [] [(14, .bool (decide ((k : Int) < (a.length : Int))))] [] (by kernel_rfl) ?_ ?_
    ·
     exact az
    refine fin_then ?_
    refine tri_seq ?_
    refine tri_cond (b := (decide ((k : Int) < (a.length : Int)))) (by kernel_rfl) (fun hb1 => ?_) (fun hb1 => ?_)
    ·
     skip
     have h1 := of_decide_eq_true hb1
     refine tri_skip ?_
     refine fin_then ?_
     refine tri_seq ?_
     refine tri_block ?_
     refine tri_seq ?_
     refine tri_regD hcx [] [5] [0, 1, 12, 13] [] [] [(5, .int (k : Int))] [] (by kernel_rfl) ?_ ?_
     ·
      exact az
     refine fin_then ?_
     refine tri_seq ?_
     refine tri_drawD [0, 0, 3, 7, 0, 0, 48, 112, 255] hcx hmx [] [24] [0, 1, 12, 13] [] [((0 : Int) ≤ (k : Int) ∧ (k : Int) < (a.length : Int)), ((0 : Int) ≤ (k : Int) ∧ (k : Int) < (b.length : Int))] [(24, .bool ((a.getD k 0) != (b.getD k 0)))] [] (by kernel_rfl) ?_ ?_
     ·
      refine (ap ?_ (ap ?_ az))
      all_goals
       omega
     refine fin_then ?_
     refine tri_cond (b := ((a.getD k 0) != (b.getD k 0))) (by kernel_rfl) (fun hb2 => ?_) (fun hb2 => ?_)
     ·
      skip
      have h2 := bne_iff_ne.1 hb2
      have hq := h2
      refine tri_seq ?_
      refine tri_regD hcx [] [4] [] [] [] [(4, .bool false)] [] (by kernel_rfl) ?_ ?_
      ·
       exact az
      refine fin_then ?_
      refine tri_ret ?_
      refine fin_block_ret ?_
      refine fin_then_ret ?_
      refine fin_then_ret ?_
      refine fin_block_ret ?_
      refine fin_then_ret ?_
      exact fin_ret [] rfl rfl trivial hcx (avs := [.bool false]) (by kernel_rfl) (congrArg AV.bool (show false = (a == b) from (by first | exact (Cn.eq_len (by omega)).symm | exact (Cn.eq_no (by omega) hq).symm | exact (Cn.eq_yes (by omega) (fun j hj => hok j (by omega))).symm))) [] rfl
     ·
      skip
      have h2 := bneF hb2
      have hq := h2
      refine tri_skip ?_
      refine fin_block ?_
      refine fin_then ?_
      refine tri_regD hcx [] [13] [0, 1, 12] [] [Fit ((k : Int) + 1)] [(13, .int ((k : Int) + 1))] [] (by kernel_rfl) ?_ ?_
      ·
       refine (ap ?_ az)
       omega
      refine fin_round (k + 1) ?_ ?_ ?_ ?_
      ·
       show (k + 1) ≤ a.length ∧ ∀ j, j < (k + 1) → a.getD j 0 = b.getD j 0
       exact ⟨by omega, fun j hj => by rcases (by omega : j < k ∨ j = k) with h | rfl; exact hok j h; exact hq⟩
      ·
       show a.length - (k + 1) < a.length - k
       omega
      ·
       exact subE_mk (l := [.ints a, .ints b, .int (a.length : Int), .int ((k : Int) + 1)]) (m := [.ints a, .ints b, .int (a.length : Int), .int ((k + 1) : Int)]) (by kernel_rfl) (by kernel_rfl) (consE rfl (consE rfl (consE rfl (consE (congrArg AV.int (show ((k : Int) + 1) = ((k + 1) : Int) from (by first | rfl | omega | (simp; done)))) rfl))))
      ·
       kernel_rfl
    ·
     skip
     have h1 := of_decide_eq_false hb1
     refine tri_exit ?_
     refine fin_then_exit ?_
     refine fin_then_exit ?_
     refine fin_block_same ?_
     refine fin_then ?_
     refine tri_seq ?_
     refine tri_regD hcx [] [4] [] [] [] [(4, .bool true)] [] (by kernel_rfl) ?_ ?_
     ·
      exact az
     refine fin_then ?_
     refine tri_ret ?_
     exact fin_ret [] rfl rfl trivial hcx (avs := [.bool true]) (by kernel_rfl) (congrArg AV.bool (show true = (a == b) from (by first | exact (Cn.eq_len (by omega)).symm | exact (Cn.eq_no (by omega) hq).symm | exact (Cn.eq_yes (by omega) (fun j hj => hok j (by omega))).symm))) [] rfl
 ·
  cases hσ
def cx_pAlike : Cx := ⟨tyPrf, [(79, (coeF [.ld (.ints [])] pSet_σ))], true⟩
theorem cx_pAlike_ok : CxOk Tryz.prog cx_pAlike := cx_ok tyPrf_ok ⟨(pSet_sound.coe [.ld (.ints [])] rfl), trivial⟩
def pAlike_σ : CtF
  | [.im (.ls (.ints l))], [] => some (l.length ≤ 1000000000000, .clo 80 [.pto [.ls (.ints (Cn.setI l))]], [])
  | _, _ => none
theorem pAlike_sound : Sound Tryz.prog 48 pAlike_σ := by
 refine sound_mk (cx := cx_pAlike) (fn := Tryz.f48) Tryz.func48 (by kernel_rfl) rfl ?_
 intro w0 G0 args os p r outs hσ hp hm0 hd0
 have hcx : CxOk Tryz.prog cx_pAlike := cx_pAlike_ok
 unfold pAlike_σ at hσ
 split at hσ
 ·
  rename_i l
  simp only [Option.some.injEq, Prod.mk.injEq] at hσ
  obtain ⟨rfl, rfl, rfl⟩ := hσ
  obtain ⟨wW, wO, wm, wβ, wd⟩ := w0
  replace hm0 : wm = 0 := hm0
  subst hm0
  replace hd0 : wd = [] := hd0
  subst hd0
  refine ⟨by kernel_rfl, ?_⟩
  change Tri ⟨_, _, _, _, _, _⟩ [(0, .ints l)] [] _ _
  refine tri_seq ?_
  refine tri_regD hcx [] [] [0] [] [] [] [] (by kernel_rfl) ?_ ?_
  ·
   exact az
  refine fin_then ?_
  refine tri_seq ?_
  refine tri_regD hcx [(1001, .to 205), (1002, .to 603)] [3] [] [] [(l.length ≤ 1000000000000)] [(3, .loc 603 0)] [(205, .row 3 (.ints (Cn.setI l))), (603, .box [.row 205])] (by kernel_rfl) ?_ ?_
  ·
   refine (ap ?_ az)
   exact hp
  refine fin_then ?_
  refine tri_seq ?_
  refine tri_ren (ρ := [(603, .to 603), (205, .frz)]) (keys := [3]) (E' := [(3, .loc 603 0)]) (H' := [(603, .box [.ints (Cn.setI l)])]) (by kernel_rfl) ?_
  refine tri_ren (ρ := [(603, .frz)]) (keys := [3]) (E' := [(3, .pto [.ls (.ints (Cn.setI l))])]) (H' := []) (by kernel_rfl) ?_
  refine tri_regD hcx [] [2] [] [] [] [(2, .clo 80 [.pto [.ls (.ints (Cn.setI l))]])] [] (by kernel_rfl) ?_ ?_
  ·
   exact az
  refine fin_then ?_
  refine tri_ret ?_
  exact fin_ret [] rfl rfl trivial hcx (avs := [.clo 80 [.pto [.ls (.ints (Cn.setI l))]]]) (by kernel_rfl) rfl [] rfl
 ·
  cases hσ
def cx_pAlike1 : Cx := ⟨tyPrf, [(79, (coeF [.ld (.ints [])] pSet_σ)), (81, (coeF [.ld (.ints []), .ld (.ints [])] sEqual_σ))], true⟩
theorem cx_pAlike1_ok : CxOk Tryz.prog cx_pAlike1 := cx_ok tyPrf_ok ⟨(pSet_sound.coe [.ld (.ints [])] rfl), (sEqual_sound.coe [.ld (.ints []), .ld (.ints [])] rfl), trivial⟩
def pAlike1_σ : CtF
  | [.im (.ls (.ints x)), .pto [.ls (.ints w)]], [] => some (x.length ≤ 1000000000000 ∧ w.length ≤ 1000000000000, .bool (Cn.setI x == w), [])
  | _, _ => none
theorem pAlike1_sound : Sound Tryz.prog 80 pAlike1_σ := by
 refine sound_mk (cx := cx_pAlike1) (fn := Tryz.f80) Tryz.func80 (by kernel_rfl) rfl ?_
 intro w0 G0 args os p r outs hσ hp hm0 hd0
 have hcx : CxOk Tryz.prog cx_pAlike1 := cx_pAlike1_ok
 have hmx : Tryz.prog.follows .mixedOrders = true := by kernel_rfl
 unfold pAlike1_σ at hσ
 split at hσ
 ·
  rename_i x w
  simp only [Option.some.injEq, Prod.mk.injEq] at hσ
  obtain ⟨rfl, rfl, rfl⟩ := hσ
  obtain ⟨wW, wO, wm, wβ, wd⟩ := w0
  replace hm0 : wm = 0 := hm0
  subst hm0
  replace hd0 : wd = [] := hd0
  subst hd0
  refine ⟨by kernel_rfl, ?_⟩
  change Tri ⟨_, _, _, _, _, _⟩ [(0, .ints x), (1, .pto [.ls (.ints w)])] [] _ _
  refine tri_seq ?_
  refine tri_regD hcx [] [] [0, 1] [] [] [] [] (by kernel_rfl) ?_ ?_
  ·
   exact az
  refine fin_then ?_
  refine tri_seq ?_
  refine tri_drawD [0, 1, 0, 7, 15] hcx hmx [] [3] [] [] [(x.length ≤ 1000000000000), ((Cn.setI x).length ≤ maxLen ∧ w.length ≤ maxLen)] [(3, .bool ((Cn.setI x) == w))] [] (by kernel_rfl) ?_ ?_
  ·
   refine (ap ?_ (ap ?_ az))
   all_goals
    first | exact hp.1 | (have h8 := Cn.setI_len x; unfold maxLen; omega)
  refine fin_then ?_
  refine tri_ret ?_
  exact fin_ret [] rfl rfl trivial hcx (avs := [.bool ((Cn.setI x) == w)]) (by kernel_rfl) (congrArg AV.bool (show ((Cn.setI x) == w) = (Cn.setI x == w) from (by rfl))) [] rfl
 ·
  cases hσ
def cx_ixAl : Cx := ⟨tyPrf, [(80, (coeF [.ld (.ints []), .id] pAlike1_σ))], true⟩
theorem cx_ixAl_ok : CxOk Tryz.prog cx_ixAl := cx_ok tyPrf_ok ⟨(pAlike1_sound.coe [.ld (.ints []), .id] rfl), trivial⟩
def ixAl_σ : CtF
  | [.im (.ls (.intss s)), .clo 80 [.pto [.ls (.ints w)]]], [] => some (s.length ≤ maxLen ∧ (∀ x ∈ s, x.length ≤ 1000000000000) ∧ w.length ≤ 1000000000000, .int (Cn.idxF (fun x => Cn.setI x == w) s), [])
  | _, _ => none
theorem ixAl_sound : Sound Tryz.prog 51 ixAl_σ := by
 refine sound_mk (cx := cx_ixAl) (fn := Tryz.f51) Tryz.func51 (by kernel_rfl) rfl ?_
 intro w0 G0 args os p r outs hσ hp hm0 hd0
 have hcx : CxOk Tryz.prog cx_ixAl := cx_ixAl_ok
 unfold ixAl_σ at hσ
 split at hσ
 ·
  rename_i s w
  simp only [Option.some.injEq, Prod.mk.injEq] at hσ
  obtain ⟨rfl, rfl, rfl⟩ := hσ
  obtain ⟨wW, wO, wm, wβ, wd⟩ := w0
  replace hm0 : wm = 0 := hm0
  subst hm0
  replace hd0 : wd = [] := hd0
  subst hd0
  refine ⟨by kernel_rfl, ?_⟩
  change Tri ⟨_, _, _, _, _, _⟩ [(0, .intss s), (1, .clo 80 [.pto [.ls (.ints w)]])] [] _ _
  obtain ⟨hm1, hpr⟩ := hp
  unfold maxLen at hm1
  refine tri_seq ?_
  refine tri_regD hcx [] [] [0, 1] [] [] [] [] (by kernel_rfl) ?_ ?_
  ·
   exact az
  refine fin_then ?_
  refine tri_seq ?_
  refine tri_seq ?_
  refine tri_regD hcx [] [7, 8] [0, 1] [] [] [(7, .int (s.length : Int)), (8, .int 0)] [] (by kernel_rfl) ?_ ?_
  ·
   exact az
  refine fin_then ?_
  refine tri_block ?_
  refine tri_loop (X := Nat) (fun x0 => x0 ≤ s.length ∧ ∀ j, j < x0 → ((fun x => Cn.setI x == w) (s.getD j [])) = false) (fun x0 => [(0, .intss s), (1, .clo 80 [.pto [.ls (.ints w)]]), (7, .int (s.length : Int)), (8, .int (x0 : Int))]) (fun x0 => []) (fun x0 => s.length - x0) (0) ?_ ?_ ?_ ?_
  ·
   show 0 ≤ s.length ∧ ∀ j, j < 0 → ((fun x => Cn.setI x == w) (s.getD j [])) = false
   exact ⟨Nat.zero_le _, fun j hj => by omega⟩
  ·
   exact subE_mk (l := [.intss s, .clo 80 [.pto [.ls (.ints w)]], .int (s.length : Int), .int 0]) (m := [.intss s, .clo 80 [.pto [.ls (.ints w)]], .int (s.length : Int), .int (0 : Int)]) (by kernel_rfl) (by kernel_rfl) (consE rfl (consE rfl (consE rfl (consE (congrArg AV.int (show 0 = (0 : Int) from (by first | rfl | omega | (simp; done)))) rfl))))
  ·
   kernel_rfl
  ·
   intro k hI
   replace hI : k ≤ s.length ∧ ∀ j, j < k → ((fun x => Cn.setI x == w) (s.getD j [])) = false := hI
   change Tri _ [(0, .intss s), (1, .clo 80 [.pto [.ls (.ints w)]]), (7, .int (s.length : Int)), (8, .int (k : Int))] [] _ _
   obtain ⟨hk, hok⟩ := hI
   refine tri_seq ?_
   refine tri_regD hcx [] [9] [0, 1, 7, 8] [] [] [(9, .bool (decide ((k : Int) < (s.length : Int))))] [] (by kernel_rfl) ?_ ?_
   ·
    exact az
   refine fin_then ?_
   refine tri_seq ?_
   refine tri_cond (b := (decide ((k : Int) < (s.length : Int)))) (by kernel_rfl) (fun hb0 => ?_) (fun hb0 => ?_)
   ·
    skip
    have h0 := of_decide_eq_true hb0
    refine tri_skip ?_
    refine fin_then ?_
    refine tri_seq ?_
    refine tri_block ?_
    refine tri_seq ?_
    refine tri_regD hcx [] [5] [0, 1, 7, 8] [] [] [(5, .int (k : Int))] [] (by kernel_rfl) ?_ ?_
    ·
     exact az
    refine fin_then ?_
    refine tri_seq ?_
    refine tri_regD hcx [] [16] [5, 0, 1, 7, 8] [] [((0 : Int) ≤ (k : Int) ∧ (k : Int) < (s.length : Int)), ((s.getD k []).length ≤ 1000000000000 ∧ w.length ≤ 1000000000000)] [(16, .bool (Cn.setI (s.getD k []) == w))] [] (by kernel_rfl) ?_ ?_
    ·
     refine (ap ?_ (ap ?_ az))
     all_goals
      first | omega | exact ⟨hpr.1 _ (Cn.getD_memL (by omega)), hpr.2⟩
    refine fin_then ?_
    refine tri_cond (b := (Cn.setI (s.getD k []) == w)) (by kernel_rfl) (fun hb1 => ?_) (fun hb1 => ?_)
    ·
     skip
     have h1 := hb1
     have hq : ((fun x => Cn.setI x == w) (s.getD k [])) = true := h1
     refine tri_seq ?_
     refine tri_regD hcx [] [4] [] [] [] [(4, .int (k : Int))] [] (by kernel_rfl) ?_ ?_
     ·
      exact az
     refine fin_then ?_
     refine tri_ret ?_
     refine fin_block_ret ?_
     refine fin_then_ret ?_
     refine fin_then_ret ?_
     refine fin_block_ret ?_
     refine fin_then_ret ?_
     exact fin_ret [] rfl rfl trivial hcx (avs := [.int (k : Int)]) (by kernel_rfl) (congrArg AV.int (show (k : Int) = (Cn.idxF (fun x => Cn.setI x == w) s) from (by exact (Cn.idxF_yes (p := (fun x => Cn.setI x == w)) (by omega) hok hq).symm))) [] rfl
    ·
     skip
     have h1 := hb1
     have hq : ((fun x => Cn.setI x == w) (s.getD k [])) = false := h1
     refine tri_skip ?_
     refine fin_block ?_
     refine fin_then ?_
     refine tri_regD hcx [] [8] [0, 1, 7] [] [Fit ((k : Int) + 1)] [(8, .int ((k : Int) + 1))] [] (by kernel_rfl) ?_ ?_
     ·
      refine (ap ?_ az)
      omega
     refine fin_round (k + 1) ?_ ?_ ?_ ?_
     ·
      show (k + 1) ≤ s.length ∧ ∀ j, j < (k + 1) → ((fun x => Cn.setI x == w) (s.getD j [])) = false
      exact ⟨by omega, Cn.falseSucc hok hq⟩
     ·
      show s.length - (k + 1) < s.length - k
      omega
     ·
      exact subE_mk (l := [.intss s, .clo 80 [.pto [.ls (.ints w)]], .int (s.length : Int), .int ((k : Int) + 1)]) (m := [.intss s, .clo 80 [.pto [.ls (.ints w)]], .int (s.length : Int), .int ((k + 1) : Int)]) (by kernel_rfl) (by kernel_rfl) (consE rfl (consE rfl (consE rfl (consE (congrArg AV.int (show ((k : Int) + 1) = ((k + 1) : Int) from (by first | rfl | omega | (simp; done)))) rfl))))
     ·
      kernel_rfl
   ·
    skip
    have h0 := of_decide_eq_false hb0
    refine tri_exit ?_
    refine fin_then_exit ?_
    refine fin_then_exit ?_
    refine fin_block_same ?_
    refine fin_then ?_
    refine tri_seq ?_
    refine tri_regD hcx [] [4] [] [] [] [(4, .int (-1))] [] (by kernel_rfl) ?_ ?_
    ·
     exact az
    refine fin_then ?_
    refine tri_ret ?_
    exact fin_ret [] rfl rfl trivial hcx (avs := [.int (-1)]) (by kernel_rfl) (congrArg AV.int (show (-1) = (Cn.idxF (fun x => Cn.setI x == w) s) from (by exact (Cn.idxF_no (p := (fun x => Cn.setI x == w)) (Cn.all_mem (d := []) (fun j hj => hok j (by omega)))).symm))) [] rfl
 ·
  cases hσ
def cx_ctAl : Cx := ⟨tyPrf, [(51, (coeF [.ld (.intss []), .id] ixAl_σ))], true⟩
theorem cx_ctAl_ok : CxOk Tryz.prog cx_ctAl := cx_ok tyPrf_ok ⟨(ixAl_sound.coe [.ld (.intss []), .id] rfl), trivial⟩
def ctAl_σ : CtF
  | [.im (.ls (.intss s)), .clo 80 [.pto [.ls (.ints w)]]], [] => some (s.length ≤ maxLen ∧ (∀ x ∈ s, x.length ≤ 1000000000000) ∧ w.length ≤ 1000000000000, .bool (s.any (fun x => Cn.setI x == w)), [])
  | _, _ => none
theorem ctAl_sound : Sound Tryz.prog 47 ctAl_σ := by
 refine sound_mk (cx := cx_ctAl) (fn := Tryz.f47) Tryz.func47 (by kernel_rfl) rfl ?_
 intro w0 G0 args os p r outs hσ hp hm0 hd0
 have hcx : CxOk Tryz.prog cx_ctAl := cx_ctAl_ok
 unfold ctAl_σ at hσ
 split at hσ
 ·
  rename_i s w
  simp only [Option.some.injEq, Prod.mk.injEq] at hσ
  obtain ⟨rfl, rfl, rfl⟩ := hσ
  obtain ⟨wW, wO, wm, wβ, wd⟩ := w0
  replace hm0 : wm = 0 := hm0
  subst hm0
  replace hd0 : wd = [] := hd0
  subst hd0
  refine ⟨by kernel_rfl, ?_⟩
  change Tri ⟨_, _, _, _, _, _⟩ [(0, .intss s), (1, .clo 80 [.pto [.ls (.ints w)]])] [] _ _
  refine tri_seq ?_
  refine tri_regD hcx [] [] [0, 1] [] [] [] [] (by kernel_rfl) ?_ ?_
  ·
   exact az
  refine fin_then ?_
  refine tri_seq ?_
  refine tri_regD hcx [] [4] [] [] [(s.length ≤ maxLen ∧ (∀ x ∈ s, x.length ≤ 1000000000000) ∧ w.length ≤ 1000000000000)] [(4, .bool (decide ((Cn.idxF (fun x => Cn.setI x == w) s) ≥ 0)))] [] (by kernel_rfl) ?_ ?_
  ·
   refine (ap ?_ az)
   exact hp
  refine fin_then ?_
  refine tri_ret ?_
  exact fin_ret [] rfl rfl trivial hcx (avs := [.bool (decide ((Cn.idxF (fun x => Cn.setI x == w) s) ≥ 0))]) (by kernel_rfl) (congrArg AV.bool (show (decide ((Cn.idxF (fun x => Cn.setI x == w) s) ≥ 0)) = (s.any (fun x => Cn.setI x == w)) from (by exact Cn.idxF_any (p := (fun x => Cn.setI x == w)) s))) [] rfl
 ·
  cases hσ
def cx_pPut1 : Cx := ⟨tyPrf, [], true⟩
theorem cx_pPut1_ok : CxOk Tryz.prog cx_pPut1 := cx_ok tyPrf_ok trivial
def pPut1_σ : CtF
  | [.im (.ls (.ints l)), .loc 0 0], [.box [.row 1], .row 23 (.intss cs)] => some (cs.length ≤ 1000000, .tup [], [some (.box [.row 2]), none, some (.row 23 (.intss (cs ++ [l])))])
  | _, _ => none
theorem pPut1_sound : Sound Tryz.prog 45 pPut1_σ := by
 refine sound_mk (cx := cx_pPut1) (fn := Tryz.f45) Tryz.func45 (by kernel_rfl) rfl ?_
 intro w0 G0 args os p r outs hσ hp hm0 hd0
 have hcx : CxOk Tryz.prog cx_pPut1 := cx_pPut1_ok
 unfold pPut1_σ at hσ
 split at hσ
 ·
  rename_i l cs
  simp only [Option.some.injEq, Prod.mk.injEq] at hσ
  obtain ⟨rfl, rfl, rfl⟩ := hσ
  obtain ⟨wW, wO, wm, wβ, wd⟩ := w0
  replace hm0 : wm = 2 := hm0
  subst hm0
  replace hd0 : wd = [] := hd0
  subst hd0
  refine ⟨by kernel_rfl, ?_⟩
  change Tri ⟨_, _, _, _, _, _⟩ [(0, .ints l), (1, .loc 0 0)] [(0, .box [.row 1]), (1, .row 23 (.intss cs))] _ _
  refine tri_regD hcx [(0, .to 0), (1003, .to 206)] [] [] [] [((cs.length + [l].length) * 24 ≤ 140737488355328)] [] [(0, .box [.row 206]), (206, .row 23 (.intss (cs ++ [l])))] (by kernel_rfl) ?_ ?_
  ·
   refine (ap ?_ az)
   (simp only [List.length_cons, List.length_nil, List.length_append, List.length_map, List.length_set, List.length_replicate]; omega)
  refine fin_ren (ρ := [(0, .to 0), (206, .to 2)]) (keys := []) (E' := []) (H' := [(0, .box [.row 2]), (2, .row 23 (.intss (cs ++ [l])))]) (by kernel_rfl) ?_
  exact fin_end [] rfl rfl trivial hcx (avs := []) (by kernel_rfl) rfl [true, false, true] (Eq.trans (show _ = [some (.box [.row 2]), none, some (.row 23 (.intss (cs ++ [l])))] from by kernel_rfl) (consO rfl (consO rfl (consO rfl rfl))))
 ·
  cases hσ
def cx_pGiven : Cx := ⟨tyPrf, [(48, (coeF [.ld (.ints [])] pAlike_σ)), (47, (coeF [.ld (.intss []), .id] ctAl_σ)), (45, (coeF [.ld (.ints []), .id] pPut1_σ))], true⟩
theorem cx_pGiven_ok : CxOk Tryz.prog cx_pGiven := cx_ok tyPrf_ok ⟨(pAlike_sound.coe [.ld (.ints [])] rfl), (ctAl_sound.coe [.ld (.intss []), .id] rfl), (pPut1_sound.coe [.ld (.ints []), .id] rfl), trivial⟩
def pGiven_σ : CtF
  | [.im (.ls (.ints l)), .loc 0 0, .pto [.val (.int .i64 N), .ls (.intss L)]], [.box [.clo 45 [.loc 1 0]], .box [.row 2], .row 23 (.intss cs)] => some (cs.length ≤ 1000000 ∧ (∀ x ∈ cs, x.length ≤ 1000000000000) ∧ l.length ≤ 1000000000000 ∧ L.length ≤ maxLen ∧ ∀ x ∈ L, x.length ≤ 1000000000000, .bool (L.any fun y => Cn.alikeB y l), [some (.box [.clo 45 [.loc 1 0]]), some (.box [.row 3]), none, some (.row 23 (.intss (cs ++ [l])))])
  | _, _ => none
theorem pGiven_sound : Sound Tryz.prog 46 pGiven_σ := by
 refine sound_mk (cx := cx_pGiven) (fn := Tryz.f46) Tryz.func46 (by kernel_rfl) rfl ?_
 intro w0 G0 args os p r outs hσ hp hm0 hd0
 have hcx : CxOk Tryz.prog cx_pGiven := cx_pGiven_ok
 have hmx : Tryz.prog.follows .mixedOrders = true := by kernel_rfl
 unfold pGiven_σ at hσ
 split at hσ
 ·
  rename_i l N L cs
  simp only [Option.some.injEq, Prod.mk.injEq] at hσ
  obtain ⟨rfl, rfl, rfl⟩ := hσ
  obtain ⟨wW, wO, wm, wβ, wd⟩ := w0
  replace hm0 : wm = 3 := hm0
  subst hm0
  replace hd0 : wd = [] := hd0
  subst hd0
  refine ⟨by kernel_rfl, ?_⟩
  change Tri ⟨_, _, _, _, _, _⟩ [(0, .ints l), (1, .loc 0 0), (2, .pto [.int N, .ls (.intss L)])] [(0, .box [.clo 45 [.loc 1 0]]), (1, .box [.row 2]), (2, .row 23 (.intss cs))] _ _
  obtain ⟨hm1, hm2, hm3, hm4, hm5⟩ := hp
  refine tri_seq ?_
  refine tri_regD hcx [] [] [0, 1, 2] [0, 1, 2] [] [] [] (by kernel_rfl) ?_ ?_
  ·
   exact az
  refine fin_then ?_
  refine tri_seq ?_
  refine tri_regD hcx [(1, .to 1), (1002, .to 207)] [] [0, 2] [0] [(cs.length ≤ 1000000)] [] [(1, .box [.row 207]), (207, .row 23 (.intss (cs ++ [l])))] (by kernel_rfl) ?_ ?_
  ·
   refine (ap ?_ az)
   exact hm1
  refine fin_then ?_
  refine tri_seq ?_
  refine tri_drawD [0, 1, 0, 4, 15, 31] hcx hmx [] [4] [] [1, 207, 0] [(l.length ≤ 1000000000000), (L.length ≤ maxLen ∧ (∀ x ∈ L, x.length ≤ 1000000000000) ∧ (Cn.setI l).length ≤ 1000000000000)] [(4, .bool (L.any (fun x => Cn.setI x == (Cn.setI l))))] [] (by kernel_rfl) ?_ ?_
  ·
   refine (ap ?_ (ap ?_ az))
   all_goals
    first | exact hm3 | exact ⟨hm4, hm5, Nat.le_trans (Cn.setI_len l) hm3⟩
  refine fin_then ?_
  refine tri_ret ?_
  refine fin_ren (ρ := [(0, .to 0), (1, .to 1), (207, .to 3)]) (keys := [4]) (E' := [(4, .bool (L.any (fun x => Cn.setI x == (Cn.setI l))))]) (H' := [(0, .box [.clo 45 [.loc 1 0]]), (1, .box [.row 3]), (3, .row 23 (.intss (cs ++ [l])))]) (by kernel_rfl) ?_
  exact fin_ret [] rfl rfl trivial hcx (avs := [.bool (L.any (fun x => Cn.setI x == (Cn.setI l)))]) (by kernel_rfl) (congrArg AV.bool (show (L.any (fun x => Cn.setI x == (Cn.setI l))) = (L.any fun y => Cn.alikeB y l) from (by exact Cn.any_alike L l))) [true, true, false, true] (Eq.trans (show _ = [some (.box [.clo 45 [.loc 1 0]]), some (.box [.row 3]), none, some (.row 23 (.intss (cs ++ [l])))] from by kernel_rfl) (consO rfl (consO rfl (consO rfl (consO rfl rfl)))))
 ·
  cases hσ
def cx_pLearnt : Cx := ⟨tyPrf, [(14, (coeF [.ld (.intss []), .ld (.ints [])] pFlw_σ)), (45, (coeF [.ld (.ints []), .id] pPut1_σ))], true⟩
theorem cx_pLearnt_ok : CxOk Tryz.prog cx_pLearnt := cx_ok tyPrf_ok ⟨(pFlw_sound.coe [.ld (.intss []), .ld (.ints [])] rfl), (pPut1_sound.coe [.ld (.ints []), .id] rfl), trivial⟩
def pLearnt_σ : CtF
  | [.im (.ls (.ints l)), .loc 0 0, .loc 1 0], [.box [.row 2], .box [.clo 45 [.loc 0 0]], .row 23 (.intss cs)] => some (cs.length ≤ 1000000 ∧ (∀ x ∈ cs, x.length ≤ 1000000000000) ∧ l.length ≤ 1000000000000, .bool (Cn.flwV cs l), [some (.box [.row 3]), some (.box [.clo 45 [.loc 0 0]]), none, some (.row 23 (.intss (cs ++ [l])))])
  | _, _ => none
theorem pLearnt_sound : Sound Tryz.prog 49 pLearnt_σ := by
 refine sound_mk (cx := cx_pLearnt) (fn := Tryz.f49) Tryz.func49 (by kernel_rfl) rfl ?_
 intro w0 G0 args os p r outs hσ hp hm0 hd0
 have hcx : CxOk Tryz.prog cx_pLearnt := cx_pLearnt_ok
 unfold pLearnt_σ at hσ
 split at hσ
 ·
  rename_i l cs
  simp only [Option.some.injEq, Prod.mk.injEq] at hσ
  obtain ⟨rfl, rfl, rfl⟩ := hσ
  obtain ⟨wW, wO, wm, wβ, wd⟩ := w0
  replace hm0 : wm = 3 := hm0
  subst hm0
  replace hd0 : wd = [] := hd0
  subst hd0
  refine ⟨by kernel_rfl, ?_⟩
  change Tri ⟨_, _, _, _, _, _⟩ [(0, .ints l), (1, .loc 0 0), (2, .loc 1 0)] [(0, .box [.row 2]), (1, .box [.clo 45 [.loc 0 0]]), (2, .row 23 (.intss cs))] _ _
  obtain ⟨hm1, hm2, hm3⟩ := hp
  refine tri_seq ?_
  refine tri_regD hcx [] [] [0, 1, 2] [0, 1, 2] [] [] [] (by kernel_rfl) ?_ ?_
  ·
   exact az
  refine fin_then ?_
  refine tri_seq ?_
  refine tri_regD hcx [] [5] [0, 2] [0, 1, 2] [(cs.length ≤ 1000000000 ∧ (∀ x ∈ cs, x.length ≤ maxLen) ∧ l.length ≤ maxLen)] [(5, .bool (Cn.flwV cs l))] [] (by kernel_rfl) ?_ ?_
  ·
   refine (ap ?_ az)
   exact ⟨by omega, fun x hx => by have := hm2 x hx; unfold maxLen; omega, by unfold maxLen; omega⟩
  refine fin_then ?_
  refine tri_seq ?_
  refine tri_regD hcx [(0, .to 0), (1002, .to 211)] [] [5] [1] [(cs.length ≤ 1000000)] [] [(0, .box [.row 211]), (211, .row 23 (.intss (cs ++ [l])))] (by kernel_rfl) ?_ ?_
  ·
   refine (ap ?_ az)
   exact hm1
  refine fin_then ?_
  refine tri_seq ?_
  refine tri_regD hcx [] [4] [] [0, 211, 1] [] [(4, .bool (Cn.flwV cs l))] [] (by kernel_rfl) ?_ ?_
  ·
   exact az
  refine fin_then ?_
  refine tri_ret ?_
  refine fin_ren (ρ := [(0, .to 0), (1, .to 1), (211, .to 3)]) (keys := [4]) (E' := [(4, .bool (Cn.flwV cs l))]) (H' := [(0, .box [.row 3]), (1, .box [.clo 45 [.loc 0 0]]), (3, .row 23 (.intss (cs ++ [l])))]) (by kernel_rfl) ?_
  exact fin_ret [] rfl rfl trivial hcx (avs := [.bool (Cn.flwV cs l)]) (by kernel_rfl) rfl [true, true, false, true] (Eq.trans (show _ = [some (.box [.row 3]), some (.box [.clo 45 [.loc 0 0]]), none, some (.row 23 (.intss (cs ++ [l])))] from by kernel_rfl) (consO rfl (consO rfl (consO rfl (consO rfl rfl)))))
 ·
  cases hσ
def cx_pDrop : Cx := ⟨tyPrf, [(39, sDelL), (48, (coeF [.ld (.ints [])] pAlike_σ)), (51, (coeF [.ld (.intss []), .id] ixAl_σ))], true⟩
theorem cx_pDrop_ok : CxOk Tryz.prog cx_pDrop := cx_ok tyPrf_ok ⟨sDelL_sound, (pAlike_sound.coe [.ld (.ints [])] rfl), (ixAl_sound.coe [.ld (.intss []), .id] rfl), trivial⟩
def pDrop_σ : CtF
  | [.im (.ls (.ints l)), .loc 0 0], [.box [.row 1], .row 23 (.intss cs)] => some (cs.length ≤ 1000000 ∧ (∀ x ∈ cs, x.length ≤ 1000000000000) ∧ l.length ≤ 1000000000000, .bool (decide (0 ≤ Cn.idxF (fun y => Cn.alikeB y l) cs)), [some (.box [.row 2]), none, some (.row 23 (.intss (Cn.dropC cs l)))])
  | _, _ => none
theorem pDrop_sound : Sound Tryz.prog 50 pDrop_σ := by
 refine sound_mk (cx := cx_pDrop) (fn := Tryz.f50) Tryz.func50 (by kernel_rfl) rfl ?_
 intro w0 G0 args os p r outs hσ hp hm0 hd0
 have hcx : CxOk Tryz.prog cx_pDrop := cx_pDrop_ok
 have hmx : Tryz.prog.follows .mixedOrders = true := by kernel_rfl
 unfold pDrop_σ at hσ
 split at hσ
 ·
  rename_i l cs
  simp only [Option.some.injEq, Prod.mk.injEq] at hσ
  obtain ⟨rfl, rfl, rfl⟩ := hσ
  obtain ⟨wW, wO, wm, wβ, wd⟩ := w0
  replace hm0 : wm = 2 := hm0
  subst hm0
  replace hd0 : wd = [] := hd0
  subst hd0
  refine ⟨by kernel_rfl, ?_⟩
  change Tri ⟨_, _, _, _, _, _⟩ [(0, .ints l), (1, .loc 0 0)] [(0, .box [.row 1]), (1, .row 23 (.intss cs))] _ _
  obtain ⟨hm1, hm2, hm3⟩ := hp
  refine tri_seq ?_
  refine tri_regD hcx [] [] [0, 1] [0, 1] [] [] [] (by kernel_rfl) ?_ ?_
  ·
   exact az
  refine fin_then ?_
  refine tri_seq ?_
  refine tri_drawD [0, 0, 2, 7, 15] hcx hmx [] [4] [1] [0, 1] [(l.length ≤ 1000000000000), (cs.length ≤ maxLen ∧ (∀ x ∈ cs, x.length ≤ 1000000000000) ∧ (Cn.setI l).length ≤ 1000000000000)] [(4, .int (Cn.idxF (fun x => Cn.setI x == (Cn.setI l)) cs))] [] (by kernel_rfl) ?_ ?_
  ·
   refine (ap ?_ (ap ?_ az))
   all_goals
    first | exact hm3 | exact ⟨by unfold maxLen; omega, hm2, Nat.le_trans (Cn.setI_len l) hm3⟩
  refine fin_then ?_
  refine tri_seq ?_
  refine tri_seq ?_
  refine tri_regD hcx [] [10] [4, 1] [0, 1] [] [(10, .bool (decide ((Cn.idxF (fun x => Cn.setI x == (Cn.setI l)) cs) ≥ 0)))] [] (by kernel_rfl) ?_ ?_
  ·
   exact az
  refine fin_then ?_
  refine tri_cond (b := (decide ((Cn.idxF (fun x => Cn.setI x == (Cn.setI l)) cs) ≥ 0))) (by kernel_rfl) (fun hb0 => ?_) (fun hb0 => ?_)
  ·
   skip
   have h0 := of_decide_eq_true hb0
   have hq := h0
   have hlt := Cn.idx_lt hq
   refine tri_regD hcx [(0, .to 0), (1004, .to 215)] [] [4] [] [Fit ((Cn.idxF (fun x => Cn.setI x == (Cn.setI l)) cs) + 1), (0 ≤ (Cn.idxF (fun x => Cn.setI x == (Cn.setI l)) cs) ∧ (Cn.idxF (fun x => Cn.setI x == (Cn.setI l)) cs) < ((Cn.idxF (fun x => Cn.setI x == (Cn.setI l)) cs) + 1) ∧ ((Cn.idxF (fun x => Cn.setI x == (Cn.setI l)) cs) + 1) ≤ cs.length ∧ cs.length ≤ 1000000000000)] [] [(0, .box [.row 215]), (215, .row 23 (.intss (cs.take (Cn.idxF (fun x => Cn.setI x == (Cn.setI l)) cs).toNat ++ cs.drop ((Cn.idxF (fun x => Cn.setI x == (Cn.setI l)) cs) + 1).toNat)))] (by kernel_rfl) ?_ ?_
   ·
    refine (ap ?_ (ap ?_ az))
    all_goals
     (constructor <;> omega)
   refine fin_then ?_
   refine tri_seq ?_
   refine tri_regD hcx [] [3] [] [0, 215] [] [(3, .bool (decide ((Cn.idxF (fun x => Cn.setI x == (Cn.setI l)) cs) ≥ 0)))] [] (by kernel_rfl) ?_ ?_
   ·
    exact az
   refine fin_then ?_
   refine tri_ret ?_
   refine fin_ren (ρ := [(0, .to 0), (215, .to 2)]) (keys := [3]) (E' := [(3, .bool (decide ((Cn.idxF (fun x => Cn.setI x == (Cn.setI l)) cs) ≥ 0)))]) (H' := [(0, .box [.row 2]), (2, .row 23 (.intss (cs.take (Cn.idxF (fun x => Cn.setI x == (Cn.setI l)) cs).toNat ++ cs.drop ((Cn.idxF (fun x => Cn.setI x == (Cn.setI l)) cs) + 1).toNat)))]) (by kernel_rfl) ?_
   exact fin_ret [] rfl rfl trivial hcx (avs := [.bool (decide ((Cn.idxF (fun x => Cn.setI x == (Cn.setI l)) cs) ≥ 0))]) (by kernel_rfl) (congrArg AV.bool (show (decide ((Cn.idxF (fun x => Cn.setI x == (Cn.setI l)) cs) ≥ 0)) = (decide (0 ≤ Cn.idxF (fun y => Cn.alikeB y l) cs)) from (by first | (rw [Cn.idx_alike]; done) | (rw [Cn.idx_alike]; rfl)))) [true, false, true] (Eq.trans (show _ = [some (.box [.row 2]), none, some (.row 23 (.intss (cs.take (Cn.idxF (fun x => Cn.setI x == (Cn.setI l)) cs).toNat ++ cs.drop ((Cn.idxF (fun x => Cn.setI x == (Cn.setI l)) cs) + 1).toNat)))] from by kernel_rfl) (consO rfl (consO rfl (consO (congrArg some (congrArg (fun x => AObj.row 23 (.intss x)) (show (cs.take (Cn.idxF (fun x => Cn.setI x == (Cn.setI l)) cs).toNat ++ cs.drop ((Cn.idxF (fun x => Cn.setI x == (Cn.setI l)) cs) + 1).toNat) = (Cn.dropC cs l) from (by first | exact Cn.drop_yes hq | exact Cn.drop_no hq)))) rfl))))
  ·
   skip
   have h0 := of_decide_eq_false hb0
   have hq := h0
   refine tri_skip ?_
   refine fin_then ?_
   refine tri_seq ?_
   refine tri_regD hcx [] [3] [] [0, 1] [] [(3, .bool (decide ((Cn.idxF (fun x => Cn.setI x == (Cn.setI l)) cs) ≥ 0)))] [] (by kernel_rfl) ?_ ?_
   ·
    exact az
   refine fin_then ?_
   refine tri_ret ?_
   refine fin_ren (ρ := [(0, .to 0), (1, .to 2)]) (keys := [3]) (E' := [(3, .bool (decide ((Cn.idxF (fun x => Cn.setI x == (Cn.setI l)) cs) ≥ 0)))]) (H' := [(0, .box [.row 2]), (2, .row 23 (.intss cs))]) (by kernel_rfl) ?_
   exact fin_ret [] rfl rfl trivial hcx (avs := [.bool (decide ((Cn.idxF (fun x => Cn.setI x == (Cn.setI l)) cs) ≥ 0))]) (by kernel_rfl) (congrArg AV.bool (show (decide ((Cn.idxF (fun x => Cn.setI x == (Cn.setI l)) cs) ≥ 0)) = (decide (0 ≤ Cn.idxF (fun y => Cn.alikeB y l) cs)) from (by first | (rw [Cn.idx_alike]; done) | (rw [Cn.idx_alike]; rfl)))) [true, false, true] (Eq.trans (show _ = [some (.box [.row 2]), none, some (.row 23 (.intss cs))] from by kernel_rfl) (consO rfl (consO rfl (consO (congrArg some (congrArg (fun x => AObj.row 23 (.intss x)) (show cs = (Cn.dropC cs l) from (by first | exact Cn.drop_yes hq | exact Cn.drop_no hq)))) rfl))))
 ·
  cases hσ
def cx_pCheck : Cx := ⟨tyPrf, [(14, (coeF [.ld (.intss []), .ld (.ints [])] pFlw_σ)), (43, (coeF [.ld (.lines [])] pFormed_σ)), (46, (coeF [.ld (.ints []), .id, .id] pGiven_σ)), (49, (coeF [.ld (.ints []), .id, .id] pLearnt_σ)), (50, (coeF [.ld (.ints []), .id] pDrop_σ)), (27, (coeF [.agg [.id, .ld (.intss [])]] cCheck_σ)), (44, (coeF [.ld (.ints []), .id] sContains_σ))], true⟩
theorem cx_pCheck_ok : CxOk Tryz.prog cx_pCheck := cx_ok tyPrf_ok ⟨(pFlw_sound.coe [.ld (.intss []), .ld (.ints [])] rfl), (pFormed_sound.coe [.ld (.lines [])] rfl), (pGiven_sound.coe [.ld (.ints []), .id, .id] rfl), (pLearnt_sound.coe [.ld (.ints []), .id, .id] rfl), (pDrop_sound.coe [.ld (.ints []), .id] rfl), (cCheck_sound.coe [.agg [.id, .ld (.intss [])]] rfl), (sContains_sound.coe [.ld (.ints []), .id] rfl), trivial⟩
def pCheck_σ : CtF
  | [.agg [.im (.val (.int .i64 N)), .im (.ls (.intss L))], .im (.ls (.lines p)), .im (.ls (.ints core))], [] => some (L.length ≤ maxLen ∧ (∀ x ∈ L, x.length ≤ 1000000000000) ∧ p.length ≤ maxLen ∧ (∀ x ∈ p, x.2.length ≤ 1000000000000) ∧ core.length ≤ 1000000000000, .int (Cn.chkC N L p core), [])
  | _, _ => none
set_option maxRecDepth 20000 in
theorem pCheck_sound : Sound Tryz.prog 17 pCheck_σ := by
 refine sound_mk (cx := cx_pCheck) (fn := Tryz.f17) Tryz.func17 (by kernel_rfl) rfl ?_
 intro w0 G0 args os p r outs hσ hp hm0 hd0
 have hcx : CxOk Tryz.prog cx_pCheck := cx_pCheck_ok
 unfold pCheck_σ at hσ
 split at hσ
 ·
  rename_i N L p core
  simp only [Option.some.injEq, Prod.mk.injEq] at hσ
  obtain ⟨rfl, rfl, rfl⟩ := hσ
  obtain ⟨wW, wO, wm, wβ, wd⟩ := w0
  replace hm0 : wm = 0 := hm0
  subst hm0
  replace hd0 : wd = [] := hd0
  subst hd0
  refine ⟨by kernel_rfl, ?_⟩
  change Tri ⟨_, _, _, _, _, _⟩ [(0, .agg [.int N, .intss L]), (1, .lines p), (2, .ints core)] [] _ _
  obtain ⟨hm1, hm2, hm3, hm4, hm5⟩ := hp
  have h12 : ∀ n : Nat, n ≤ 1000000000000 → n ≤ maxLen := fun n hn => by unfold maxLen; omega
  refine tri_seq ?_
  refine tri_regD hcx [(1000, .frz)] [3] [1, 2] [] [] [(3, .pto [.int N, .ls (.intss L)])] [] (by kernel_rfl) ?_ ?_
  ·
   exact az
  refine fin_then ?_
  refine tri_seq ?_
  refine tri_seq ?_
  refine tri_regD hcx [] [7] [3, 1, 2] [] [(L.length ≤ maxLen ∧ ∀ l ∈ L, l.length ≤ maxLen)] [(7, .int (Cn.chkV N L))] [] (by kernel_rfl) ?_ ?_
  ·
   refine (ap ?_ az)
   exact ⟨hm1, fun x hx => h12 _ (hm2 x hx)⟩
  refine fin_then ?_
  refine tri_seq ?_
  refine tri_regD hcx [] [20] [7, 3, 1, 2] [] [] [(20, .bool ((Cn.chkV N L) != 0))] [] (by kernel_rfl) ?_ ?_
  ·
   exact az
  refine fin_then ?_
  refine tri_cond (b := ((Cn.chkV N L) != 0)) (by kernel_rfl) (fun hb0 => ?_) (fun hb0 => ?_)
  ·
   skip
   have h0 := bne_iff_ne.1 hb0
   have hr := Cn.chk_e1 (p := p) (core := core) h0
   refine tri_seq ?_
   refine tri_regD hcx [] [6] [] [] [] [(6, .int (Cn.chkV N L))] [] (by kernel_rfl) ?_ ?_
   ·
    exact az
   refine fin_then ?_
   refine tri_ret ?_
   refine fin_then_ret ?_
   exact fin_ret [] rfl rfl trivial hcx (avs := [.int (Cn.chkV N L)]) (by kernel_rfl) (congrArg AV.int (show (Cn.chkV N L) = (Cn.chkC N L p core) from (by first | exact hr.symm | (rw [hr, he]; done) | done))) [] rfl
  ·
   skip
   have h0 := bneF hb0
   have hc0 : Cn.chkV N L = 0 := by simpa using h0
   have hN := (Cn.chkV_0.1 hc0).1
   refine tri_skip ?_
   refine fin_then ?_
   refine tri_seq ?_
   refine tri_seq ?_
   refine tri_regD hcx [] [8] [3, 1, 2] [] [(p.length ≤ maxLen ∧ ∀ x ∈ p, x.2.length ≤ maxLen)] [(8, .int (Cn.frmV p))] [] (by kernel_rfl) ?_ ?_
   ·
    refine (ap ?_ az)
    exact ⟨hm3, fun x hx => h12 _ (hm4 x hx)⟩
   refine fin_then ?_
   refine tri_seq ?_
   refine tri_regD hcx [] [25] [8, 3, 1, 2] [] [] [(25, .bool ((Cn.frmV p) != 0))] [] (by kernel_rfl) ?_ ?_
   ·
    exact az
   refine fin_then ?_
   refine tri_cond (b := ((Cn.frmV p) != 0)) (by kernel_rfl) (fun hb1 => ?_) (fun hb1 => ?_)
   ·
    skip
    have h1 := bne_iff_ne.1 hb1
    have hr := Cn.chk_e2 (core := core) hc0 h1
    refine tri_seq ?_
    refine tri_regD hcx [] [6] [] [] [] [(6, .int (Cn.frmV p))] [] (by kernel_rfl) ?_ ?_
    ·
     exact az
    refine fin_then ?_
    refine tri_ret ?_
    refine fin_then_ret ?_
    exact fin_ret [] rfl rfl trivial hcx (avs := [.int (Cn.frmV p)]) (by kernel_rfl) (congrArg AV.int (show (Cn.frmV p) = (Cn.chkC N L p core) from (by first | exact hr.symm | (rw [hr, he]; done) | done))) [] rfl
   ·
    skip
    have h1 := bneF hb1
    have hf0 : Cn.frmV p = 0 := by simpa using h1
    have hpl := (Cn.frm_ok.1 hf0).1
    refine tri_skip ?_
    refine fin_then ?_
    refine tri_seq ?_
    refine tri_regD hcx [] [9] [3, 1, 2] [] [] [(9, .im (.val (.slice none 0 0)))] [] (by kernel_rfl) ?_ ?_
    ·
     exact az
    refine fin_then ?_
    refine tri_seq ?_
    refine tri_seq ?_
    refine tri_regD hcx [] [27, 28, 29] [9, 3, 1, 2] [] [] [(27, .ints core), (28, .int (core.length : Int)), (29, .int 0)] [] (by kernel_rfl) ?_ ?_
    ·
     exact az
    refine fin_then ?_
    refine tri_block ?_
    refine tri_row 9 700 3 (.ints []) (by kernel_rfl) (by kernel_rfl) (by kernel_rfl) (by kernel_rfl) (E' := [(27, .ints core), (28, .int (core.length : Int)), (29, .int 0), (9, .row 700), (3, .pto [.int N, .ls (.intss L)]), (1, .lines p), (2, .ints core)]) (by kernel_rfl) ?_
    refine tri_loop (X := Nat) (fun x0 => x0 ≤ core.length ∧ ∀ j, j < x0 → Cn.coreAt N core j = true) (fun x0 => [(1, .lines p), (2, .ints core), (3, .pto [.int N, .ls (.intss L)]), (9, .row 700), (27, .ints core), (28, .int (core.length : Int)), (29, .int (x0 : Int))]) (fun x0 => [(700, .row 3 (.ints ((core.take x0).map fun x => -x)))]) (fun x0 => core.length - x0) (0) ?_ ?_ ?_ ?_
    ·
     show 0 ≤ core.length ∧ ∀ j, j < 0 → Cn.coreAt N core j = true
     exact ⟨Nat.zero_le _, fun j hj => by omega⟩
    ·
     exact subE_mk (l := [.lines p, .ints core, .pto [.int N, .ls (.intss L)], .row 700, .ints core, .int (core.length : Int), .int 0]) (m := [.lines p, .ints core, .pto [.int N, .ls (.intss L)], .row 700, .ints core, .int (core.length : Int), .int (0 : Int)]) (by kernel_rfl) (by kernel_rfl) (consE rfl (consE rfl (consE rfl (consE rfl (consE rfl (consE rfl (consE (congrArg AV.int (show 0 = (0 : Int) from (by first | rfl | omega | (simp; done)))) rfl)))))))
    ·
     exact Eq.trans (show _ = [(700, .row 3 (.ints []))] from by kernel_rfl) (consH (congrArg (fun x => ((700 : Nat), x)) (congrArg (fun x => AObj.row 3 (.ints x)) (show [] = ((core.take 0).map fun x => -x) from (by rfl)))) rfl)
    ·
     intro i hI
     replace hI : i ≤ core.length ∧ ∀ j, j < i → Cn.coreAt N core j = true := hI
     change Tri _ [(1, .lines p), (2, .ints core), (3, .pto [.int N, .ls (.intss L)]), (9, .row 700), (27, .ints core), (28, .int (core.length : Int)), (29, .int (i : Int))] [(700, .row 3 (.ints ((core.take i).map fun x => -x)))] _ _
     obtain ⟨hk, hcok⟩ := hI
     refine tri_seq ?_
     refine tri_regD hcx [] [30] [1, 2, 3, 9, 27, 28, 29] [700] [] [(30, .bool (decide ((i : Int) < (core.length : Int))))] [] (by kernel_rfl) ?_ ?_
     ·
      exact az
     refine fin_then ?_
     refine tri_seq ?_
     refine tri_cond (b := (decide ((i : Int) < (core.length : Int)))) (by kernel_rfl) (fun hb2 => ?_) (fun hb2 => ?_)
     ·
      skip
      have h2 := of_decide_eq_true hb2
      refine tri_skip ?_
      refine fin_then ?_
      refine tri_seq ?_
      refine tri_block ?_
      refine tri_seq ?_
      refine tri_regD hcx [] [10, 11] [1, 2, 3, 9, 27, 28, 29] [700] [((0 : Int) ≤ (i : Int) ∧ (i : Int) < (core.length : Int))] [(10, .int (i : Int)), (11, .int (core.getD i 0))] [] (by kernel_rfl) ?_ ?_
      ·
       refine (ap ?_ az)
       omega
      refine fin_then ?_
      refine tri_seq ?_
      refine tri_seq ?_
      refine tri_regD hcx [] [63] [11, 1, 2, 3, 9, 27, 28, 29] [700] [((!((core.getD i 0) == 0)) = true → ((!((core.getD i 0) == 0)) = true)), ((!((core.getD i 0) == 0)) = true → ((!((core.getD i 0) == 0)) = true)), ((!((core.getD i 0) == 0)) = true → ((!((core.getD i 0) == 0)) = true)), (((core.getD i 0) == 0) = false → (!((core.getD i 0) == 0)) = true), ((!(((core.getD i 0) == 0) || (decide ((core.getD i 0) > N)))) = true → ((!(((core.getD i 0) == 0) || (decide ((core.getD i 0) > N)))) = true)), ((!(((core.getD i 0) == 0) || (decide ((core.getD i 0) > N)))) = true → ((!(((core.getD i 0) == 0) || (decide ((core.getD i 0) > N)))) = true)), ((!(((core.getD i 0) == 0) || (decide ((core.getD i 0) > N)))) = true → Fit (-N)), ((!(((core.getD i 0) == 0) || (decide ((core.getD i 0) > N)))) = true → ((!(((core.getD i 0) == 0) || (decide ((core.getD i 0) > N)))) = true)), ((!(((core.getD i 0) == 0) || (decide ((core.getD i 0) > N)))) = true → ((!(((core.getD i 0) == 0) || (decide ((core.getD i 0) > N)))) = true)), ((((core.getD i 0) == 0) || (decide ((core.getD i 0) > N))) = false → (!(((core.getD i 0) == 0) || (decide ((core.getD i 0) > N)))) = true), ((!((((core.getD i 0) == 0) || (decide ((core.getD i 0) > N))) || (decide ((core.getD i 0) < (-N))))) = true → ((!((((core.getD i 0) == 0) || (decide ((core.getD i 0) > N))) || (decide ((core.getD i 0) < (-N))))) = true)), ((!((((core.getD i 0) == 0) || (decide ((core.getD i 0) > N))) || (decide ((core.getD i 0) < (-N))))) = true → ((!((((core.getD i 0) == 0) || (decide ((core.getD i 0) > N))) || (decide ((core.getD i 0) < (-N))))) = true)), ((!((((core.getD i 0) == 0) || (decide ((core.getD i 0) > N))) || (decide ((core.getD i 0) < (-N))))) = true → ((0 : Int) ≤ (i : Int) ∧ (i : Int) ≤ (core.length : Int))), ((!((((core.getD i 0) == 0) || (decide ((core.getD i 0) > N))) || (decide ((core.getD i 0) < (-N))))) = true → ((!((((core.getD i 0) == 0) || (decide ((core.getD i 0) > N))) || (decide ((core.getD i 0) < (-N))))) = true)), ((!((((core.getD i 0) == 0) || (decide ((core.getD i 0) > N))) || (decide ((core.getD i 0) < (-N))))) = true → ((!((((core.getD i 0) == 0) || (decide ((core.getD i 0) > N))) || (decide ((core.getD i 0) < (-N))))) = true)), ((!((((core.getD i 0) == 0) || (decide ((core.getD i 0) > N))) || (decide ((core.getD i 0) < (-N))))) = true → (((core.take i).drop 0).length ≤ maxLen)), (((((core.getD i 0) == 0) || (decide ((core.getD i 0) > N))) || (decide ((core.getD i 0) < (-N)))) = false → (!((((core.getD i 0) == 0) || (decide ((core.getD i 0) > N))) || (decide ((core.getD i 0) < (-N))))) = true), ((!(((((core.getD i 0) == 0) || (decide ((core.getD i 0) > N))) || (decide ((core.getD i 0) < (-N)))) || (((core.take i).drop 0).contains (core.getD i 0)))) = true → ((!(((((core.getD i 0) == 0) || (decide ((core.getD i 0) > N))) || (decide ((core.getD i 0) < (-N)))) || (((core.take i).drop 0).contains (core.getD i 0)))) = true)), ((!(((((core.getD i 0) == 0) || (decide ((core.getD i 0) > N))) || (decide ((core.getD i 0) < (-N)))) || (((core.take i).drop 0).contains (core.getD i 0)))) = true → ((!(((((core.getD i 0) == 0) || (decide ((core.getD i 0) > N))) || (decide ((core.getD i 0) < (-N)))) || (((core.take i).drop 0).contains (core.getD i 0)))) = true)), ((!(((((core.getD i 0) == 0) || (decide ((core.getD i 0) > N))) || (decide ((core.getD i 0) < (-N)))) || (((core.take i).drop 0).contains (core.getD i 0)))) = true → ((0 : Int) ≤ (i : Int) ∧ (i : Int) ≤ (core.length : Int))), ((!(((((core.getD i 0) == 0) || (decide ((core.getD i 0) > N))) || (decide ((core.getD i 0) < (-N)))) || (((core.take i).drop 0).contains (core.getD i 0)))) = true → ((!(((((core.getD i 0) == 0) || (decide ((core.getD i 0) > N))) || (decide ((core.getD i 0) < (-N)))) || (((core.take i).drop 0).contains (core.getD i 0)))) = true)), ((!(((((core.getD i 0) == 0) || (decide ((core.getD i 0) > N))) || (decide ((core.getD i 0) < (-N)))) || (((core.take i).drop 0).contains (core.getD i 0)))) = true → Fit (-(core.getD i 0))), ((!(((((core.getD i 0) == 0) || (decide ((core.getD i 0) > N))) || (decide ((core.getD i 0) < (-N)))) || (((core.take i).drop 0).contains (core.getD i 0)))) = true → ((!(((((core.getD i 0) == 0) || (decide ((core.getD i 0) > N))) || (decide ((core.getD i 0) < (-N)))) || (((core.take i).drop 0).contains (core.getD i 0)))) = true)), ((!(((((core.getD i 0) == 0) || (decide ((core.getD i 0) > N))) || (decide ((core.getD i 0) < (-N)))) || (((core.take i).drop 0).contains (core.getD i 0)))) = true → ((!(((((core.getD i 0) == 0) || (decide ((core.getD i 0) > N))) || (decide ((core.getD i 0) < (-N)))) || (((core.take i).drop 0).contains (core.getD i 0)))) = true)), ((!(((((core.getD i 0) == 0) || (decide ((core.getD i 0) > N))) || (decide ((core.getD i 0) < (-N)))) || (((core.take i).drop 0).contains (core.getD i 0)))) = true → (((core.take i).drop 0).length ≤ maxLen)), ((((((core.getD i 0) == 0) || (decide ((core.getD i 0) > N))) || (decide ((core.getD i 0) < (-N)))) || (((core.take i).drop 0).contains (core.getD i 0))) = false → (!(((((core.getD i 0) == 0) || (decide ((core.getD i 0) > N))) || (decide ((core.getD i 0) < (-N)))) || (((core.take i).drop 0).contains (core.getD i 0)))) = true)] [(63, .bool ((((((core.getD i 0) == 0) || (decide ((core.getD i 0) > N))) || (decide ((core.getD i 0) < (-N)))) || (((core.take i).drop 0).contains (core.getD i 0))) || (((core.take i).drop 0).contains (-(core.getD i 0)))))] [] (by kernel_rfl) ?_ ?_
      ·
       refine (ap ?_ (ap ?_ (ap ?_ (ap (by exact vcNot) (ap ?_ (ap ?_ (ap ?_ (ap ?_ (ap ?_ (ap (by exact vcNot) (ap ?_ (ap ?_ (ap ?_ (ap ?_ (ap ?_ (ap ?_ (ap (by exact vcNot) (ap ?_ (ap ?_ (ap ?_ (ap ?_ (ap ?_ (ap ?_ (ap ?_ (ap ?_ (ap (by exact vcNot) az))))))))))))))))))))))))))
       all_goals
        first | omega | exact id | exact (fun h => Cn.core_fit hN.1 hN.2 h) | (intro _; rw [List.length_drop, List.length_take]; exact h12 _ (by omega))
      refine fin_then ?_
      refine tri_cond (b := ((((((core.getD i 0) == 0) || (decide ((core.getD i 0) > N))) || (decide ((core.getD i 0) < (-N)))) || (((core.take i).drop 0).contains (core.getD i 0))) || (((core.take i).drop 0).contains (-(core.getD i 0))))) (by kernel_rfl) (fun hb3 => ?_) (fun hb3 => ?_)
      ·
       skip
       have h3 := hb3
       have hq := Cn.ntT (Cn.core_at.symm.trans h3)
       have hr := Cn.chk_e3 (p := p) hc0 hf0 (Cn.core_no (by omega) hq)
       refine tri_seq ?_
       refine tri_regD hcx [] [6] [] [] [] [(6, .int 1)] [] (by kernel_rfl) ?_ ?_
       ·
        exact az
       refine fin_then ?_
       refine tri_ret ?_
       refine fin_then_ret ?_
       refine fin_block_ret ?_
       refine fin_then_ret ?_
       refine fin_then_ret ?_
       refine fin_block_ret ?_
       refine fin_then_ret ?_
       exact fin_ret [] rfl rfl trivial hcx (avs := [.int 1]) (by kernel_rfl) (congrArg AV.int (show 1 = (Cn.chkC N L p core) from (by first | exact hr.symm | (rw [hr, he]; done) | done))) [] rfl
      ·
       skip
       have h3 := hb3
       have hq := Cn.ntF (Cn.core_at.symm.trans h3)
       have hxb := Cn.core_bd hN.1 hN.2 hq
       refine tri_skip ?_
       refine fin_then ?_
       refine tri_regD hcx [(1004, .to 700)] [9] [1, 2, 3, 27, 28, 29] [] [Fit (-(core.getD i 0)), ((((core.take i).map fun x => -x).length + [(-(core.getD i 0))].length) * 8 ≤ 140737488355328)] [(9, .row 700)] [(700, .row 3 (.ints (((core.take i).map fun x => -x) ++ [(-(core.getD i 0))])))] (by kernel_rfl) ?_ ?_
       ·
        refine (ap ?_ (ap ?_ az))
        all_goals
         first | omega | (simp only [List.length_cons, List.length_nil, List.length_map, List.length_take]; omega)
       refine fin_block ?_
       refine fin_then ?_
       refine tri_regD hcx [] [29] [9, 1, 2, 3, 27, 28] [700] [Fit ((i : Int) + 1)] [(29, .int ((i : Int) + 1))] [] (by kernel_rfl) ?_ ?_
       ·
        refine (ap ?_ az)
        omega
       refine fin_round (i + 1) ?_ ?_ ?_ ?_
       ·
        show (i + 1) ≤ core.length ∧ ∀ j, j < (i + 1) → Cn.coreAt N core j = true
        exact ⟨by omega, fun j hj => by rcases (by omega : j < i ∨ j = i) with h | rfl; exact hcok j h; exact hq⟩
       ·
        show core.length - (i + 1) < core.length - i
        omega
       ·
        exact subE_mk (l := [.lines p, .ints core, .pto [.int N, .ls (.intss L)], .row 700, .ints core, .int (core.length : Int), .int ((i : Int) + 1)]) (m := [.lines p, .ints core, .pto [.int N, .ls (.intss L)], .row 700, .ints core, .int (core.length : Int), .int ((i + 1) : Int)]) (by kernel_rfl) (by kernel_rfl) (consE rfl (consE rfl (consE rfl (consE rfl (consE rfl (consE rfl (consE (congrArg AV.int (show ((i : Int) + 1) = ((i + 1) : Int) from (by first | rfl | omega | (simp; done)))) rfl)))))))
       ·
        exact Eq.trans (show _ = [(700, .row 3 (.ints (((core.take i).map fun x => -x) ++ [(-(core.getD i 0))])))] from by kernel_rfl) (consH (congrArg (fun x => ((700 : Nat), x)) (congrArg (fun x => AObj.row 3 (.ints x)) (show (((core.take i).map fun x => -x) ++ [(-(core.getD i 0))]) = ((core.take (i + 1)).map fun x => -x) from (by exact Cn.core_next (by omega))))) rfl)
     ·
      skip
      have h2 := of_decide_eq_false hb2
      have hco := Cn.core_yes (n := i) (by omega) hcok
      refine tri_exit ?_
      refine fin_then_exit ?_
      refine fin_then_exit ?_
      refine fin_block_same ?_
      refine fin_then ?_
      refine tri_seq ?_
      refine tri_regD hcx [(1000, .to 612)] [12] [1, 3, 9] [700] [] [(12, .loc 612 0)] [(612, .box [.im (.val (.slice none 0 0))])] (by kernel_rfl) ?_ ?_
      ·
       exact az
      refine fin_then ?_
      refine tri_seq ?_
      refine tri_regD hcx [(1001, .to 613)] [13] [12, 1, 3, 9] [612, 700] [] [(13, .loc 613 0)] [(613, .box [.clo 45 [.loc 612 0]])] (by kernel_rfl) ?_ ?_
      ·
       exact az
      refine fin_then ?_
      refine tri_seq ?_
      refine tri_rowB 612 0 701 23 (.intss []) (by kernel_rfl) (by kernel_rfl) (by kernel_rfl) (by kernel_rfl) (H' := [(613, .box [.clo 45 [.loc 612 0]]), (612, .box [.row 701]), (700, .row 3 (.ints ((core.take i).map fun x => -x)))]) (by kernel_rfl) ?_
      refine tri_regD hcx [(1000, .to 271)] [14] [12, 1, 9] [701, 613, 612, 700] [] [(14, .row 271)] [(271, .mfun [1, 2, 3] [.clo 46 [.loc 613 0, .pto [.int N, .ls (.intss L)]], .clo 49 [.loc 612 0, .loc 613 0], .clo 50 [.loc 612 0]])] (by kernel_rfl) ?_ ?_
      ·
       exact az
      refine fin_then ?_
      refine tri_seq ?_
      refine tri_seq ?_
      refine tri_regD hcx [] [76, 77, 78] [14, 12, 9] [271, 701, 613, 612, 700] [] [(76, .lines p), (77, .int (p.length : Int)), (78, .int 0)] [] (by kernel_rfl) ?_ ?_
      ·
       exact az
      refine fin_then ?_
      refine tri_block ?_
      refine tri_ren (ρ := [(271, .to 271), (612, .to 612), (613, .to 613), (700, .to 700), (701, .to 701)]) (keys := [9, 12, 14, 76, 77, 78]) (E' := [(9, .row 700), (12, .loc 612 0), (14, .row 271), (76, .lines p), (77, .int (p.length : Int)), (78, .int 0)]) (H' := [(271, .mfun [1, 2, 3] [.clo 46 [.loc 613 0, .pto [.int N, .ls (.intss L)]], .clo 49 [.loc 612 0, .loc 613 0], .clo 50 [.loc 612 0]]), (612, .box [.row 701]), (613, .box [.clo 45 [.loc 612 0]]), (700, .row 3 (.ints ((core.take i).map fun x => -x))), (701, .row 23 (.intss []))]) (by kernel_rfl) ?_
      refine tri_loop (X := Nat × List (List Int)) (fun x0 => x0.1 ≤ p.length ∧ Cn.runC L [] (p.take x0.1) = some x0.2 ∧ x0.2.length ≤ x0.1 ∧ ∀ x ∈ x0.2, x.length ≤ 1000000000000) (fun x0 => [(9, .row 700), (12, .loc 612 0), (14, .row 271), (76, .lines p), (77, .int (p.length : Int)), (78, .int (x0.1 : Int))]) (fun x0 => [(271, .mfun [1, 2, 3] [.clo 46 [.loc 613 0, .pto [.int N, .ls (.intss L)]], .clo 49 [.loc 612 0, .loc 613 0], .clo 50 [.loc 612 0]]), (612, .box [.row 701]), (613, .box [.clo 45 [.loc 612 0]]), (700, .row 3 (.ints ((core.take i).map fun x => -x))), (701, .row 23 (.intss x0.2))]) (fun x0 => p.length - x0.1) (0, ([] : List (List Int))) ?_ ?_ ?_ ?_
      ·
       show 0 ≤ p.length ∧ Cn.runC L [] (p.take 0) = some ([] : List (List Int)) ∧ ([] : List (List Int)).length ≤ 0 ∧ ∀ x ∈ ([] : List (List Int)), x.length ≤ 1000000000000
       exact ⟨Nat.zero_le _, rfl, Nat.le_refl _, fun x hx => by cases hx⟩
      ·
       exact subE_mk (l := [.row 700, .loc 612 0, .row 271, .lines p, .int (p.length : Int), .int 0]) (m := [.row 700, .loc 612 0, .row 271, .lines p, .int (p.length : Int), .int (0 : Int)]) (by kernel_rfl) (by kernel_rfl) (consE rfl (consE rfl (consE rfl (consE rfl (consE rfl (consE (congrArg AV.int (show 0 = (0 : Int) from (by first | rfl | omega | (simp; done)))) rfl))))))
      ·
       exact Eq.trans (show _ = [(271, .mfun [1, 2, 3] [.clo 46 [.loc 613 0, .pto [.int N, .ls (.intss L)]], .clo 49 [.loc 612 0, .loc 613 0], .clo 50 [.loc 612 0]]), (612, .box [.row 701]), (613, .box [.clo 45 [.loc 612 0]]), (700, .row 3 (.ints ((core.take i).map fun x => -x))), (701, .row 23 (.intss []))] from by kernel_rfl) (consH rfl (consH rfl (consH rfl (consH rfl (consH (congrArg (fun x => ((701 : Nat), x)) (congrArg (fun x => AObj.row 23 (.intss x)) (show [] = ([] : List (List Int)) from (by rfl)))) rfl)))))
      ·
       intro ⟨k, cs⟩ hI
       replace hI : k ≤ p.length ∧ Cn.runC L [] (p.take k) = some cs ∧ cs.length ≤ k ∧ ∀ x ∈ cs, x.length ≤ 1000000000000 := hI
       change Tri _ [(9, .row 700), (12, .loc 612 0), (14, .row 271), (76, .lines p), (77, .int (p.length : Int)), (78, .int (k : Int))] [(271, .mfun [1, 2, 3] [.clo 46 [.loc 613 0, .pto [.int N, .ls (.intss L)]], .clo 49 [.loc 612 0, .loc 613 0], .clo 50 [.loc 612 0]]), (612, .box [.row 701]), (613, .box [.clo 45 [.loc 612 0]]), (700, .row 3 (.ints ((core.take i).map fun x => -x))), (701, .row 23 (.intss cs))] _ _
       obtain ⟨hi, hrun, hcl, hcs⟩ := hI
       have hki : k < p.length → _ := fun h => Cn.line_kind hf0 (i := k) h
       have hxl : k < p.length → _ := fun h => hm4 _ (Cn.getD_memL (d := (0, [])) (k := k) h)
       refine tri_seq ?_
       refine tri_regD hcx [] [79] [9, 12, 14, 76, 77, 78] [271, 612, 613, 700, 701] [] [(79, .bool (decide ((k : Int) < (p.length : Int))))] [] (by kernel_rfl) ?_ ?_
       ·
        exact az
       refine fin_then ?_
       refine tri_seq ?_
       refine tri_cond (b := (decide ((k : Int) < (p.length : Int)))) (by kernel_rfl) (fun hb4 => ?_) (fun hb4 => ?_)
       ·
        skip
        have h4 := of_decide_eq_true hb4
        refine tri_skip ?_
        refine fin_then ?_
        refine tri_seq ?_
        refine tri_block ?_
        refine tri_seq ?_
        refine tri_regD hcx [(1002, .to 616)] [16] [9, 12, 14, 76, 77, 78] [271, 612, 613, 700, 701] [((0 : Int) ≤ (k : Int) ∧ (k : Int) < (p.length : Int))] [(16, .loc 616 0)] [(616, .box [.int ((p.getD k (0, [])).1), .ints ((p.getD k (0, [])).2)])] (by kernel_rfl) ?_ ?_
        ·
         refine (ap ?_ az)
         omega
        refine fin_then ?_
        refine tri_seq ?_
        rcases ((show _ from Cn.line_three hf0 (by omega)) : (p.getD k (0, [])).1 = 1 ∨ (p.getD k (0, [])).1 = 2 ∨ (p.getD k (0, [])).1 = 3) with hk | hk | hk
        ·
         rw [hk]
         refine tri_regD hcx [(612, .to 612), (613, .to 613), (1006, .to 701)] [89] [9, 12, 14, 76, 77, 78] [271, 700] [(cs.length ≤ 1000000 ∧ (∀ x ∈ cs, x.length ≤ 1000000000000) ∧ ((p.getD k (0, [])).2).length ≤ 1000000000000 ∧ L.length ≤ maxLen ∧ ∀ x ∈ L, x.length ≤ 1000000000000)] [(89, .bool (!(L.any fun y => Cn.alikeB y ((p.getD k (0, [])).2))))] [(612, .box [.row 701]), (613, .box [.clo 45 [.loc 612 0]]), (701, .row 23 (.intss (cs ++ [((p.getD k (0, [])).2)])))] (by kernel_rfl) ?_ ?_
         ·
          refine (ap ?_ az)
          exact ⟨by omega, hcs, hxl (by omega), hm1, hm2⟩
         refine fin_then ?_
         refine tri_cond (b := (!(L.any fun y => Cn.alikeB y ((p.getD k (0, [])).2)))) (by kernel_rfl) (fun hb5 => ?_) (fun hb5 => ?_)
         ·
          skip
          have h5 := hb5
          have hki2 := hki (by omega)
          have hq := Cn.ntT h5
          have hok : Cn.okC L cs (p.getD k (0, [])) = false := by first | (rw [Cn.ok_1 hk]; exact hq) | (rw [Cn.ok_2 hk]; exact hq) | (rw [Cn.ok_3 hk]; exact hq)
          have hr := (Cn.chk_e4 hc0 hf0 hco).trans (congrArg (Cn.endC core) (Cn.run_stop (by omega) hrun hki2.1 hki2.2 hok))
          refine tri_seq ?_
          refine tri_regD hcx [] [6] [] [] [] [(6, .int 250)] [] (by kernel_rfl) ?_ ?_
          ·
           exact az
          refine fin_then ?_
          refine tri_ret ?_
          refine fin_block_ret ?_
          refine fin_then_ret ?_
          refine fin_then_ret ?_
          refine fin_block_ret ?_
          refine fin_then_ret ?_
          exact fin_ret [] rfl rfl trivial hcx (avs := [.int 250]) (by kernel_rfl) (congrArg AV.int (show 250 = (Cn.chkC N L p core) from (by first | exact hr.symm | (rw [hr, he]; done) | done))) [] rfl
         ·
          skip
          have h5 := hb5
          have hq := Cn.ntF h5
          have hok : Cn.okC L cs (p.getD k (0, [])) = true := by first | (rw [Cn.ok_1 hk]; exact hq) | (rw [Cn.ok_2 hk]; exact hq) | (rw [Cn.ok_3 hk]; exact hq)
          refine tri_skip ?_
          refine fin_block ?_
          refine fin_then ?_
          refine tri_regD hcx [] [78] [9, 12, 14, 76, 77] [612, 613, 701, 271, 700] [Fit ((k : Int) + 1)] [(78, .int ((k : Int) + 1))] [] (by kernel_rfl) ?_ ?_
          ·
           refine (ap ?_ az)
           omega
          refine fin_ren (ρ := [(271, .to 271), (612, .to 612), (613, .to 613), (700, .to 700), (701, .to 701)]) (keys := [9, 12, 14, 76, 77, 78]) (E' := [(9, .row 700), (12, .loc 612 0), (14, .row 271), (76, .lines p), (77, .int (p.length : Int)), (78, .int ((k : Int) + 1))]) (H' := [(271, .mfun [1, 2, 3] [.clo 46 [.loc 613 0, .pto [.int N, .ls (.intss L)]], .clo 49 [.loc 612 0, .loc 613 0], .clo 50 [.loc 612 0]]), (612, .box [.row 701]), (613, .box [.clo 45 [.loc 612 0]]), (700, .row 3 (.ints ((core.take i).map fun x => -x))), (701, .row 23 (.intss (cs ++ [((p.getD k (0, [])).2)])))]) (by kernel_rfl) ?_
          refine fin_round (k + 1, (Cn.nextC cs (p.getD k (0, [])))) ?_ ?_ ?_ ?_
          ·
           show (k + 1) ≤ p.length ∧ Cn.runC L [] (p.take (k + 1)) = some (Cn.nextC cs (p.getD k (0, []))) ∧ (Cn.nextC cs (p.getD k (0, []))).length ≤ (k + 1) ∧ ∀ x ∈ (Cn.nextC cs (p.getD k (0, []))), x.length ≤ 1000000000000
           (have h8 := Cn.next_len cs (p.getD k (0, [])); exact ⟨by omega, Cn.run_next (by omega) hrun (hki (by omega)).1 (hki (by omega)).2 hok, by omega, fun x hx => by rcases Cn.next_mem hx with h | h; exact hcs x h; rw [h]; exact hxl (by omega)⟩)
          ·
           show p.length - (k + 1) < p.length - k
           omega
          ·
           exact subE_mk (l := [.row 700, .loc 612 0, .row 271, .lines p, .int (p.length : Int), .int ((k : Int) + 1)]) (m := [.row 700, .loc 612 0, .row 271, .lines p, .int (p.length : Int), .int ((k + 1) : Int)]) (by kernel_rfl) (by kernel_rfl) (consE rfl (consE rfl (consE rfl (consE rfl (consE rfl (consE (congrArg AV.int (show ((k : Int) + 1) = ((k + 1) : Int) from (by first | rfl | omega | (simp; done)))) rfl))))))
          ·
           exact Eq.trans (show _ = [(271, .mfun [1, 2, 3] [.clo 46 [.loc 613 0, .pto [.int N, .ls (.intss L)]], .clo 49 [.loc 612 0, .loc 613 0], .clo 50 [.loc 612 0]]), (612, .box [.row 701]), (613, .box [.clo 45 [.loc 612 0]]), (700, .row 3 (.ints ((core.take i).map fun x => -x))), (701, .row 23 (.intss (cs ++ [((p.getD k (0, [])).2)])))] from by kernel_rfl) (consH rfl (consH rfl (consH rfl (consH rfl (consH (congrArg (fun x => ((701 : Nat), x)) (congrArg (fun x => AObj.row 23 (.intss x)) (show (cs ++ [((p.getD k (0, [])).2)]) = (Cn.nextC cs (p.getD k (0, []))) from (by first | exact Cn.next_1 (by omega) | exact Cn.next_3 hk)))) rfl)))))
        ·
         rw [hk]
         refine tri_regD hcx [(612, .to 612), (613, .to 613), (1006, .to 701)] [89] [9, 12, 14, 76, 77, 78] [271, 700] [(cs.length ≤ 1000000 ∧ (∀ x ∈ cs, x.length ≤ 1000000000000) ∧ ((p.getD k (0, [])).2).length ≤ 1000000000000)] [(89, .bool (!(Cn.flwV cs ((p.getD k (0, [])).2))))] [(612, .box [.row 701]), (613, .box [.clo 45 [.loc 612 0]]), (701, .row 23 (.intss (cs ++ [((p.getD k (0, [])).2)])))] (by kernel_rfl) ?_ ?_
         ·
          refine (ap ?_ az)
          exact ⟨by omega, hcs, hxl (by omega)⟩
         refine fin_then ?_
         refine tri_cond (b := (!(Cn.flwV cs ((p.getD k (0, [])).2)))) (by kernel_rfl) (fun hb6 => ?_) (fun hb6 => ?_)
         ·
          skip
          have h6 := hb6
          have hki2 := hki (by omega)
          have hq := Cn.ntT h6
          have hok : Cn.okC L cs (p.getD k (0, [])) = false := by first | (rw [Cn.ok_1 hk]; exact hq) | (rw [Cn.ok_2 hk]; exact hq) | (rw [Cn.ok_3 hk]; exact hq)
          have hr := (Cn.chk_e4 hc0 hf0 hco).trans (congrArg (Cn.endC core) (Cn.run_stop (by omega) hrun hki2.1 hki2.2 hok))
          refine tri_seq ?_
          refine tri_regD hcx [] [6] [] [] [] [(6, .int 250)] [] (by kernel_rfl) ?_ ?_
          ·
           exact az
          refine fin_then ?_
          refine tri_ret ?_
          refine fin_block_ret ?_
          refine fin_then_ret ?_
          refine fin_then_ret ?_
          refine fin_block_ret ?_
          refine fin_then_ret ?_
          exact fin_ret [] rfl rfl trivial hcx (avs := [.int 250]) (by kernel_rfl) (congrArg AV.int (show 250 = (Cn.chkC N L p core) from (by first | exact hr.symm | (rw [hr, he]; done) | done))) [] rfl
         ·
          skip
          have h6 := hb6
          have hq := Cn.ntF h6
          have hok : Cn.okC L cs (p.getD k (0, [])) = true := by first | (rw [Cn.ok_1 hk]; exact hq) | (rw [Cn.ok_2 hk]; exact hq) | (rw [Cn.ok_3 hk]; exact hq)
          refine tri_skip ?_
          refine fin_block ?_
          refine fin_then ?_
          refine tri_regD hcx [] [78] [9, 12, 14, 76, 77] [612, 613, 701, 271, 700] [Fit ((k : Int) + 1)] [(78, .int ((k : Int) + 1))] [] (by kernel_rfl) ?_ ?_
          ·
           refine (ap ?_ az)
           omega
          refine fin_ren (ρ := [(271, .to 271), (612, .to 612), (613, .to 613), (700, .to 700), (701, .to 701)]) (keys := [9, 12, 14, 76, 77, 78]) (E' := [(9, .row 700), (12, .loc 612 0), (14, .row 271), (76, .lines p), (77, .int (p.length : Int)), (78, .int ((k : Int) + 1))]) (H' := [(271, .mfun [1, 2, 3] [.clo 46 [.loc 613 0, .pto [.int N, .ls (.intss L)]], .clo 49 [.loc 612 0, .loc 613 0], .clo 50 [.loc 612 0]]), (612, .box [.row 701]), (613, .box [.clo 45 [.loc 612 0]]), (700, .row 3 (.ints ((core.take i).map fun x => -x))), (701, .row 23 (.intss (cs ++ [((p.getD k (0, [])).2)])))]) (by kernel_rfl) ?_
          refine fin_round (k + 1, (Cn.nextC cs (p.getD k (0, [])))) ?_ ?_ ?_ ?_
          ·
           show (k + 1) ≤ p.length ∧ Cn.runC L [] (p.take (k + 1)) = some (Cn.nextC cs (p.getD k (0, []))) ∧ (Cn.nextC cs (p.getD k (0, []))).length ≤ (k + 1) ∧ ∀ x ∈ (Cn.nextC cs (p.getD k (0, []))), x.length ≤ 1000000000000
           (have h8 := Cn.next_len cs (p.getD k (0, [])); exact ⟨by omega, Cn.run_next (by omega) hrun (hki (by omega)).1 (hki (by omega)).2 hok, by omega, fun x hx => by rcases Cn.next_mem hx with h | h; exact hcs x h; rw [h]; exact hxl (by omega)⟩)
          ·
           show p.length - (k + 1) < p.length - k
           omega
          ·
           exact subE_mk (l := [.row 700, .loc 612 0, .row 271, .lines p, .int (p.length : Int), .int ((k : Int) + 1)]) (m := [.row 700, .loc 612 0, .row 271, .lines p, .int (p.length : Int), .int ((k + 1) : Int)]) (by kernel_rfl) (by kernel_rfl) (consE rfl (consE rfl (consE rfl (consE rfl (consE rfl (consE (congrArg AV.int (show ((k : Int) + 1) = ((k + 1) : Int) from (by first | rfl | omega | (simp; done)))) rfl))))))
          ·
           exact Eq.trans (show _ = [(271, .mfun [1, 2, 3] [.clo 46 [.loc 613 0, .pto [.int N, .ls (.intss L)]], .clo 49 [.loc 612 0, .loc 613 0], .clo 50 [.loc 612 0]]), (612, .box [.row 701]), (613, .box [.clo 45 [.loc 612 0]]), (700, .row 3 (.ints ((core.take i).map fun x => -x))), (701, .row 23 (.intss (cs ++ [((p.getD k (0, [])).2)])))] from by kernel_rfl) (consH rfl (consH rfl (consH rfl (consH rfl (consH (congrArg (fun x => ((701 : Nat), x)) (congrArg (fun x => AObj.row 23 (.intss x)) (show (cs ++ [((p.getD k (0, [])).2)]) = (Cn.nextC cs (p.getD k (0, []))) from (by first | exact Cn.next_1 (by omega) | exact Cn.next_3 hk)))) rfl)))))
        ·
         rw [hk]
         refine tri_regD hcx [(612, .to 612), (1006, .to 701)] [89] [9, 12, 14, 76, 77, 78] [271, 613, 700] [(cs.length ≤ 1000000 ∧ (∀ x ∈ cs, x.length ≤ 1000000000000) ∧ ((p.getD k (0, [])).2).length ≤ 1000000000000)] [(89, .bool (!(decide (0 ≤ Cn.idxF (fun y => Cn.alikeB y ((p.getD k (0, [])).2)) cs))))] [(612, .box [.row 701]), (701, .row 23 (.intss (Cn.dropC cs ((p.getD k (0, [])).2))))] (by kernel_rfl) ?_ ?_
         ·
          refine (ap ?_ az)
          exact ⟨by omega, hcs, hxl (by omega)⟩
         refine fin_then ?_
         refine tri_cond (b := (!(decide (0 ≤ Cn.idxF (fun y => Cn.alikeB y ((p.getD k (0, [])).2)) cs)))) (by kernel_rfl) (fun hb7 => ?_) (fun hb7 => ?_)
         ·
          skip
          have h7 := hb7
          have hki2 := hki (by omega)
          have hq := Cn.ntT h7
          have hok : Cn.okC L cs (p.getD k (0, [])) = false := by first | (rw [Cn.ok_1 hk]; exact hq) | (rw [Cn.ok_2 hk]; exact hq) | (rw [Cn.ok_3 hk]; exact hq)
          have hr := (Cn.chk_e4 hc0 hf0 hco).trans (congrArg (Cn.endC core) (Cn.run_stop (by omega) hrun hki2.1 hki2.2 hok))
          refine tri_seq ?_
          refine tri_regD hcx [] [6] [] [] [] [(6, .int 250)] [] (by kernel_rfl) ?_ ?_
          ·
           exact az
          refine fin_then ?_
          refine tri_ret ?_
          refine fin_block_ret ?_
          refine fin_then_ret ?_
          refine fin_then_ret ?_
          refine fin_block_ret ?_
          refine fin_then_ret ?_
          exact fin_ret [] rfl rfl trivial hcx (avs := [.int 250]) (by kernel_rfl) (congrArg AV.int (show 250 = (Cn.chkC N L p core) from (by first | exact hr.symm | (rw [hr, he]; done) | done))) [] rfl
         ·
          skip
          have h7 := hb7
          have hq := Cn.ntF h7
          have hok : Cn.okC L cs (p.getD k (0, [])) = true := by first | (rw [Cn.ok_1 hk]; exact hq) | (rw [Cn.ok_2 hk]; exact hq) | (rw [Cn.ok_3 hk]; exact hq)
          refine tri_skip ?_
          refine fin_block ?_
          refine fin_then ?_
          refine tri_regD hcx [] [78] [9, 12, 14, 76, 77] [612, 701, 271, 613, 700] [Fit ((k : Int) + 1)] [(78, .int ((k : Int) + 1))] [] (by kernel_rfl) ?_ ?_
          ·
           refine (ap ?_ az)
           omega
          refine fin_ren (ρ := [(271, .to 271), (612, .to 612), (613, .to 613), (700, .to 700), (701, .to 701)]) (keys := [9, 12, 14, 76, 77, 78]) (E' := [(9, .row 700), (12, .loc 612 0), (14, .row 271), (76, .lines p), (77, .int (p.length : Int)), (78, .int ((k : Int) + 1))]) (H' := [(271, .mfun [1, 2, 3] [.clo 46 [.loc 613 0, .pto [.int N, .ls (.intss L)]], .clo 49 [.loc 612 0, .loc 613 0], .clo 50 [.loc 612 0]]), (612, .box [.row 701]), (613, .box [.clo 45 [.loc 612 0]]), (700, .row 3 (.ints ((core.take i).map fun x => -x))), (701, .row 23 (.intss (Cn.dropC cs ((p.getD k (0, [])).2))))]) (by kernel_rfl) ?_
          refine fin_round (k + 1, (Cn.nextC cs (p.getD k (0, [])))) ?_ ?_ ?_ ?_
          ·
           show (k + 1) ≤ p.length ∧ Cn.runC L [] (p.take (k + 1)) = some (Cn.nextC cs (p.getD k (0, []))) ∧ (Cn.nextC cs (p.getD k (0, []))).length ≤ (k + 1) ∧ ∀ x ∈ (Cn.nextC cs (p.getD k (0, []))), x.length ≤ 1000000000000
           (have h8 := Cn.next_len cs (p.getD k (0, [])); exact ⟨by omega, Cn.run_next (by omega) hrun (hki (by omega)).1 (hki (by omega)).2 hok, by omega, fun x hx => by rcases Cn.next_mem hx with h | h; exact hcs x h; rw [h]; exact hxl (by omega)⟩)
          ·
           show p.length - (k + 1) < p.length - k
           omega
          ·
           exact subE_mk (l := [.row 700, .loc 612 0, .row 271, .lines p, .int (p.length : Int), .int ((k : Int) + 1)]) (m := [.row 700, .loc 612 0, .row 271, .lines p, .int (p.length : Int), .int ((k + 1) : Int)]) (by kernel_rfl) (by kernel_rfl) (consE rfl (consE rfl (consE rfl (consE rfl (consE rfl (consE (congrArg AV.int (show ((k : Int) + 1) = ((k + 1) : Int) from (by first | rfl | omega | (simp; done)))) rfl))))))
          ·
           exact Eq.trans (show _ = [(271, .mfun [1, 2, 3] [.clo 46 [.loc 613 0, .pto [.int N, .ls (.intss L)]], .clo 49 [.loc 612 0, .loc 613 0], .clo 50 [.loc 612 0]]), (612, .box [.row 701]), (613, .box [.clo 45 [.loc 612 0]]), (700, .row 3 (.ints ((core.take i).map fun x => -x))), (701, .row 23 (.intss (Cn.dropC cs ((p.getD k (0, [])).2))))] from by kernel_rfl) (consH rfl (consH rfl (consH rfl (consH rfl (consH (congrArg (fun x => ((701 : Nat), x)) (congrArg (fun x => AObj.row 23 (.intss x)) (show (Cn.dropC cs ((p.getD k (0, [])).2)) = (Cn.nextC cs (p.getD k (0, []))) from (by first | exact Cn.next_1 (by omega) | exact Cn.next_3 hk)))) rfl)))))
       ·
        skip
        have h4 := of_decide_eq_false hb4
        rw [show k = p.length by omega, List.take_length] at hrun
        refine tri_exit ?_
        refine fin_then_exit ?_
        refine fin_then_exit ?_
        refine fin_block_same ?_
        refine fin_then ?_
        refine tri_seq ?_
        refine tri_seq ?_
        refine tri_ren (ρ := [(271, .to 271), (612, .to 612), (613, .to 613), (700, .frz), (701, .frz)]) (keys := [79, 9, 12, 14, 76, 77, 78]) (E' := [(79, .bool (decide ((k : Int) < (p.length : Int)))), (9, .ints ((core.take i).map fun x => -x)), (12, .loc 612 0), (14, .row 271), (76, .lines p), (77, .int (p.length : Int)), (78, .int (k : Int))]) (H' := [(271, .mfun [1, 2, 3] [.clo 46 [.loc 613 0, .pto [.int N, .ls (.intss L)]], .clo 49 [.loc 612 0, .loc 613 0], .clo 50 [.loc 612 0]]), (612, .box [.intss cs]), (613, .box [.clo 45 [.loc 612 0]])]) (by kernel_rfl) ?_
        refine tri_regD hcx [] [94] [] [] [(cs.length ≤ 1000000000 ∧ (∀ x ∈ cs, x.length ≤ maxLen) ∧ ((core.take i).map fun x => -x).length ≤ maxLen)] [(94, .bool (!(Cn.flwV cs ((core.take i).map fun x => -x))))] [] (by kernel_rfl) ?_ ?_
        ·
         refine (ap ?_ az)
         exact ⟨by omega, fun x hx => h12 _ (hcs x hx), by rw [List.length_map, List.length_take]; exact h12 _ (by omega)⟩
        refine fin_then ?_
        refine tri_cond (b := (!(Cn.flwV cs ((core.take i).map fun x => -x)))) (by kernel_rfl) (fun hb8 => ?_) (fun hb8 => ?_)
        ·
         skip
         have h8 := hb8
         have hq := Cn.ntT h8
         rw [show i = core.length by omega, List.take_length] at hq
         have hr := (Cn.chk_e4 hc0 hf0 hco).trans (congrArg (Cn.endC core) hrun)
         have he : Cn.endC core (some cs) = 250 := by unfold Cn.endC; exact if_neg (by rw [hq]; simp)
         refine tri_seq ?_
         refine tri_regD hcx [] [6] [] [] [] [(6, .int 250)] [] (by kernel_rfl) ?_ ?_
         ·
          exact az
         refine fin_then ?_
         refine tri_ret ?_
         refine fin_then_ret ?_
         exact fin_ret [] rfl rfl trivial hcx (avs := [.int 250]) (by kernel_rfl) (congrArg AV.int (show 250 = (Cn.chkC N L p core) from (by first | exact hr.symm | (rw [hr, he]; done) | done))) [] rfl
        ·
         skip
         have h8 := hb8
         have hq := Cn.ntF h8
         rw [show i = core.length by omega, List.take_length] at hq
         have hr := (Cn.chk_e4 hc0 hf0 hco).trans (congrArg (Cn.endC core) hrun)
         have he : Cn.endC core (some cs) = 0 := by unfold Cn.endC; exact if_pos hq
         refine tri_skip ?_
         refine fin_then ?_
         refine tri_seq ?_
         refine tri_regD hcx [] [6] [] [] [] [(6, .int 0)] [] (by kernel_rfl) ?_ ?_
         ·
          exact az
         refine fin_then ?_
         refine tri_ret ?_
         exact fin_ret [] rfl rfl trivial hcx (avs := [.int 0]) (by kernel_rfl) (congrArg AV.int (show 0 = (Cn.chkC N L p core) from (by first | exact hr.symm | (rw [hr, he]; done) | done))) [] rfl
 ·
  cases hσ
end Go.Proofs.YtbpbndlgfiammaaGreatDoor.En
