/- The chapter's examples hold: live; small functions of the laws; in the reader's words. -/
import Derived.Test.YtbpbndlgfiammaaGreatDoorTxtS
import Derived.Test.YtbpbndlgfiammaaGreatDoorLaw24P
namespace Go.Proofs.YtbpbndlgfiammaaGreatDoor.En
open Go Go.RowKit
set_option linter.unusedVariables false
set_option linter.unusedSimpArgs false
set_option linter.unnecessarySimpa false
def tyLv24 : List (Nat × TD) := [(3, ⟨1, false, [.int .i64 0], [], none, 8, false, 1, 1⟩),
  (4, ⟨1, false, [.bool false], [], none, 1, true, 0, 2⟩),
  (5, ⟨1, false, [.int .u8 0], [], none, 1, false, 2, 8⟩),
  (9, ⟨1, false, [.string ⟨#[]⟩], [], none, 16, false, 9, 9⟩),
  (22, ⟨1, false, [.slice none 0 0], [], some 23, 24, false, 0, 50⟩),
  (23, ⟨1, false, [.slice none 0 0], [], some 3, 24, false, 0, 3⟩),
  (28, ⟨2, true, [.int .i64 0, .slice none 0 0], [(0, 3), (1, 22)], none, 32, false, 0, 6⟩),
  (29, ⟨1, false, [.slice none 0 0], [], some 43, 24, false, 0, 0⟩),
  (31, ⟨1, false, [.int .i64 0], [], none, 8, false, 1, 1⟩),
  (34, ⟨1, false, [.slice none 0 0], [], some 5, 24, false, 0, 0⟩),
  (43, ⟨2, true, [.int .i64 0, .slice none 0 0], [(0, 3), (1, 23)], none, 32, false, 0, 7⟩),
  (45, ⟨1, false, [.slice none 0 0], [], some 4, 24, false, 0, 0⟩)]
theorem tyLv24_ok : AllTy Tryz.prog tyLv24 := ⟨⟨by kernel_rfl, by kernel_rfl, by kernel_rfl⟩, ⟨by kernel_rfl, by kernel_rfl, by kernel_rfl⟩, ⟨by kernel_rfl, by kernel_rfl, by kernel_rfl⟩, ⟨by kernel_rfl, by kernel_rfl, by kernel_rfl⟩, ⟨by kernel_rfl, by kernel_rfl, by kernel_rfl⟩, ⟨by kernel_rfl, by kernel_rfl, by kernel_rfl⟩, ⟨by kernel_rfl, by kernel_rfl, by kernel_rfl⟩, ⟨by kernel_rfl, by kernel_rfl, by kernel_rfl⟩, ⟨by kernel_rfl, by kernel_rfl, by kernel_rfl⟩, ⟨by kernel_rfl, by kernel_rfl, by kernel_rfl⟩, ⟨by kernel_rfl, by kernel_rfl, by kernel_rfl⟩, ⟨by kernel_rfl, by kernel_rfl, by kernel_rfl⟩, trivial⟩
def cx_lFour : Cx := ⟨tyLv24, [], true⟩
theorem cx_lFour_ok : CxOk Tryz.prog cx_lFour := cx_ok tyLv24_ok trivial
def lFour_σ : CtF
  | [], [] => some (True, .row 0, [some (.row 23 (.intss Cn.four4))])
  | _, _ => none
theorem lFour_sound : Sound Tryz.prog 34 lFour_σ := by
 refine sound_mk (cx := cx_lFour) (fn := Tryz.f34) Tryz.func34 (by kernel_rfl) rfl ?_
 intro w0 G0 args os p r outs hσ hp hm0 hd0
 have hcx : CxOk Tryz.prog cx_lFour := cx_lFour_ok
 unfold lFour_σ at hσ
 split at hσ
 ·
  skip
  simp only [Option.some.injEq, Prod.mk.injEq] at hσ
  obtain ⟨rfl, rfl, rfl⟩ := hσ
  obtain ⟨wW, wO, wm, wβ, wd⟩ := w0
  replace hm0 : wm = 0 := hm0
  subst hm0
  replace hd0 : wd = [] := hd0
  subst hd0
  refine ⟨by kernel_rfl, ?_⟩
  change Tri ⟨_, _, _, _, _, _⟩ [] [] _ _
  refine tri_seq ?_
  refine tri_regD hcx [] [] [] [] [] [] [] (by kernel_rfl) ?_ ?_
  ·
   exact az
  refine fin_then ?_
  refine tri_seq ?_
  refine tri_regD hcx [(1004, .to 205)] [0] [] [] [] [(0, .row 205)] [(205, .row 23 (.intss [[1, 2], [(-1), 2], [1, (-2)], [(-1), (-2)]]))] (by kernel_rfl) ?_ ?_
  ·
   exact az
  refine fin_then ?_
  refine tri_ret ?_
  refine fin_ren (ρ := [(205, .to 0)]) (keys := [0]) (E' := [(0, .row 0)]) (H' := [(0, .row 23 (.intss [[1, 2], [(-1), 2], [1, (-2)], [(-1), (-2)]]))]) (by kernel_rfl) ?_
  exact fin_ret [] rfl rfl trivial hcx (avs := [.row 0]) (by kernel_rfl) rfl [true] (Eq.trans (show _ = [some (.row 23 (.intss [[1, 2], [(-1), 2], [1, (-2)], [(-1), (-2)]]))] from by kernel_rfl) (consO (congrArg some (congrArg (fun x => AObj.row 23 (.intss x)) (show [[1, 2], [(-1), 2], [1, (-2)], [(-1), (-2)]] = Cn.four4 from (by rfl)))) rfl))
 ·
  cases hσ
def cx_lGiven : Cx := ⟨tyLv24, [], true⟩
theorem cx_lGiven_ok : CxOk Tryz.prog cx_lGiven := cx_ok tyLv24_ok trivial
def lGiven_σ : CtF
  | [.row 0], [.row 23 (.intss c)] => some (c.length ≤ 1000000, .row 1, [some (.row 23 (.intss c)), some (.row 43 (.lines (c.map fun l => ((1 : Int), l))))])
  | _, _ => none
theorem lGiven_sound : Sound Tryz.prog 35 lGiven_σ := by
 refine sound_mk (cx := cx_lGiven) (fn := Tryz.f35) Tryz.func35 (by kernel_rfl) rfl ?_
 intro w0 G0 args os p r outs hσ hp hm0 hd0
 have hcx : CxOk Tryz.prog cx_lGiven := cx_lGiven_ok
 unfold lGiven_σ at hσ
 split at hσ
 ·
  rename_i c
  simp only [Option.some.injEq, Prod.mk.injEq] at hσ
  obtain ⟨rfl, rfl, rfl⟩ := hσ
  obtain ⟨wW, wO, wm, wβ, wd⟩ := w0
  replace hm0 : wm = 1 := hm0
  subst hm0
  replace hd0 : wd = [] := hd0
  subst hd0
  refine ⟨by kernel_rfl, ?_⟩
  change Tri ⟨_, _, _, _, _, _⟩ [(0, .row 0)] [(0, .row 23 (.intss c))] _ _
  have hm1 := hp
  refine tri_seq ?_
  refine tri_regD hcx [] [] [0] [0] [] [] [] (by kernel_rfl) ?_ ?_
  ·
   exact az
  refine fin_then ?_
  refine tri_seq ?_
  refine tri_regD hcx [] [3] [0] [0] [] [(3, .im (.val (.slice none 0 0)))] [] (by kernel_rfl) ?_ ?_
  ·
   exact az
  refine fin_then ?_
  refine tri_seq ?_
  refine tri_seq ?_
  refine tri_regD hcx [] [6, 7, 8] [3] [0] [] [(6, .row 0), (7, .int (c.length : Int)), (8, .int 0)] [] (by kernel_rfl) ?_ ?_
  ·
   exact az
  refine fin_then ?_
  refine tri_block ?_
  refine tri_row 3 700 43 (.lines []) (by kernel_rfl) (by kernel_rfl) (by kernel_rfl) (by kernel_rfl) (E' := [(6, .row 0), (7, .int (c.length : Int)), (8, .int 0), (3, .row 700)]) (by kernel_rfl) ?_
  refine tri_ren (ρ := [(0, .to 0), (700, .to 700)]) (keys := [3, 6, 7, 8]) (E' := [(3, .row 700), (6, .row 0), (7, .int (c.length : Int)), (8, .int 0)]) (H' := [(0, .row 23 (.intss c)), (700, .row 43 (.lines []))]) (by kernel_rfl) ?_
  refine tri_loop (X := Nat) (fun x0 => x0 ≤ c.length) (fun x0 => [(3, .row 700), (6, .row 0), (7, .int (c.length : Int)), (8, .int (x0 : Int))]) (fun x0 => [(0, .row 23 (.intss c)), (700, .row 43 (.lines ((c.take x0).map fun l => ((1 : Int), l))))]) (fun x0 => c.length - x0) (0) ?_ ?_ ?_ ?_
  ·
   show 0 ≤ c.length
   omega
  ·
   exact subE_mk (l := [.row 700, .row 0, .int (c.length : Int), .int 0]) (m := [.row 700, .row 0, .int (c.length : Int), .int (0 : Int)]) (by kernel_rfl) (by kernel_rfl) (consE rfl (consE rfl (consE rfl (consE (congrArg AV.int (show 0 = (0 : Int) from (by first | rfl | omega | (simp; done)))) rfl))))
  ·
   exact Eq.trans (show _ = [(0, .row 23 (.intss c)), (700, .row 43 (.lines []))] from by kernel_rfl) (consH rfl (consH (congrArg (fun x => ((700 : Nat), x)) (congrArg (fun x => AObj.row 43 (.lines x)) (show [] = ((c.take 0).map fun l => ((1 : Int), l)) from (by rfl)))) rfl))
  ·
   intro i hI
   replace hI : i ≤ c.length := hI
   change Tri _ [(3, .row 700), (6, .row 0), (7, .int (c.length : Int)), (8, .int (i : Int))] [(0, .row 23 (.intss c)), (700, .row 43 (.lines ((c.take i).map fun l => ((1 : Int), l))))] _ _
   refine tri_seq ?_
   refine tri_regD hcx [] [9] [3, 6, 7, 8] [0, 700] [] [(9, .bool (decide ((i : Int) < (c.length : Int))))] [] (by kernel_rfl) ?_ ?_
   ·
    exact az
   refine fin_then ?_
   refine tri_seq ?_
   refine tri_cond (b := (decide ((i : Int) < (c.length : Int)))) (by kernel_rfl) (fun hb0 => ?_) (fun hb0 => ?_)
   ·
    skip
    have h0 := of_decide_eq_true hb0
    refine tri_skip ?_
    refine fin_then ?_
    refine tri_seq ?_
    refine tri_block ?_
    refine tri_seq ?_
    refine tri_regD hcx [] [5] [3, 6, 7, 8] [0, 700] [((0 : Int) ≤ (i : Int) ∧ (i : Int) < (c.length : Int)), (i < c.length)] [(5, .ints (c.getD i []))] [] (by kernel_rfl) ?_ ?_
    ·
     refine (ap ?_ (ap ?_ az))
     all_goals
      omega
    refine fin_then ?_
    refine tri_regD hcx [(1004, .to 700)] [3] [6, 7, 8] [0] [((((c.take i).map fun l => ((1 : Int), l)).length + [(1, (c.getD i []))].length) * 32 ≤ 140737488355328)] [(3, .row 700)] [(700, .row 43 (.lines (((c.take i).map fun l => ((1 : Int), l)) ++ [(1, (c.getD i []))])))] (by kernel_rfl) ?_ ?_
    ·
     refine (ap ?_ az)
     (simp only [List.length_cons, List.length_nil, List.length_map, List.length_take]; omega)
    refine fin_block ?_
    refine fin_then ?_
    refine tri_regD hcx [] [8] [3, 6, 7] [700, 0] [Fit ((i : Int) + 1)] [(8, .int ((i : Int) + 1))] [] (by kernel_rfl) ?_ ?_
    ·
     refine (ap ?_ az)
     omega
    refine fin_ren (ρ := [(0, .to 0), (700, .to 700)]) (keys := [3, 6, 7, 8]) (E' := [(3, .row 700), (6, .row 0), (7, .int (c.length : Int)), (8, .int ((i : Int) + 1))]) (H' := [(0, .row 23 (.intss c)), (700, .row 43 (.lines (((c.take i).map fun l => ((1 : Int), l)) ++ [(1, (c.getD i []))])))]) (by kernel_rfl) ?_
    refine fin_round (i + 1) ?_ ?_ ?_ ?_
    ·
     show (i + 1) ≤ c.length
     omega
    ·
     show c.length - (i + 1) < c.length - i
     omega
    ·
     exact subE_mk (l := [.row 700, .row 0, .int (c.length : Int), .int ((i : Int) + 1)]) (m := [.row 700, .row 0, .int (c.length : Int), .int ((i + 1) : Int)]) (by kernel_rfl) (by kernel_rfl) (consE rfl (consE rfl (consE rfl (consE (congrArg AV.int (show ((i : Int) + 1) = ((i + 1) : Int) from (by first | rfl | omega | (simp; done)))) rfl))))
    ·
     exact Eq.trans (show _ = [(0, .row 23 (.intss c)), (700, .row 43 (.lines (((c.take i).map fun l => ((1 : Int), l)) ++ [(1, (c.getD i []))])))] from by kernel_rfl) (consH rfl (consH (congrArg (fun x => ((700 : Nat), x)) (congrArg (fun x => AObj.row 43 (.lines x)) (show (((c.take i).map fun l => ((1 : Int), l)) ++ [(1, (c.getD i []))]) = ((c.take (i + 1)).map fun l => ((1 : Int), l)) from (by exact Cn.given_next (by omega))))) rfl))
   ·
    skip
    have h0 := of_decide_eq_false hb0
    refine tri_exit ?_
    refine fin_then_exit ?_
    refine fin_then_exit ?_
    refine fin_block_same ?_
    refine fin_then ?_
    refine tri_seq ?_
    refine tri_regD hcx [] [2] [] [0, 700] [] [(2, .row 700)] [] (by kernel_rfl) ?_ ?_
    ·
     exact az
    refine fin_then ?_
    refine tri_ret ?_
    refine fin_ren (ρ := [(0, .to 0), (700, .to 1)]) (keys := [2]) (E' := [(2, .row 1)]) (H' := [(0, .row 23 (.intss c)), (1, .row 43 (.lines ((c.take i).map fun l => ((1 : Int), l))))]) (by kernel_rfl) ?_
    exact fin_ret [] rfl rfl trivial hcx (avs := [.row 1]) (by kernel_rfl) rfl [true, true] (Eq.trans (show _ = [some (.row 23 (.intss c)), some (.row 43 (.lines ((c.take i).map fun l => ((1 : Int), l))))] from by kernel_rfl) (consO rfl (consO (congrArg some (congrArg (fun x => AObj.row 43 (.lines x)) (show ((c.take i).map fun l => ((1 : Int), l)) = (c.map fun l => ((1 : Int), l)) from (by (rw [show i = c.length by omega, List.take_length]))))) rfl)))
 ·
  cases hσ
def cx_lAll : Cx := ⟨tyLv24, [(28, (coeF [.ld (.ints []), .ld (.bools [])] cHolds_σ))], true⟩
theorem cx_lAll_ok : CxOk Tryz.prog cx_lAll := cx_ok tyLv24_ok ⟨(cHolds_sound.coe [.ld (.ints []), .ld (.bools [])] rfl), trivial⟩
def lAll_σ : CtF
  | [.im (.ls (.ints l)), .im (.ls (.bools a))], [] => some (l.length ≤ maxLen ∧ a.length ≤ maxLen, .bool (l.all fun x => Cn.holdsV a [x]), [])
  | _, _ => none
theorem lAll_sound : Sound Tryz.prog 26 lAll_σ := by
 refine sound_mk (cx := cx_lAll) (fn := Tryz.f26) Tryz.func26 (by kernel_rfl) rfl ?_
 intro w0 G0 args os p r outs hσ hp hm0 hd0
 have hcx : CxOk Tryz.prog cx_lAll := cx_lAll_ok
 unfold lAll_σ at hσ
 split at hσ
 ·
  rename_i l a
  simp only [Option.some.injEq, Prod.mk.injEq] at hσ
  obtain ⟨rfl, rfl, rfl⟩ := hσ
  obtain ⟨wW, wO, wm, wβ, wd⟩ := w0
  replace hm0 : wm = 0 := hm0
  subst hm0
  replace hd0 : wd = [] := hd0
  subst hd0
  refine ⟨by kernel_rfl, ?_⟩
  change Tri ⟨_, _, _, _, _, _⟩ [(0, .ints l), (1, .bools a)] [] _ _
  obtain ⟨hm1, hm2⟩ := hp
  unfold maxLen at hm1
  refine tri_seq ?_
  refine tri_regD hcx [] [] [0, 1] [] [] [] [] (by kernel_rfl) ?_ ?_
  ·
   exact az
  refine fin_then ?_
  refine tri_seq ?_
  refine tri_seq ?_
  refine tri_regD hcx [] [7, 8, 9] [1] [] [] [(7, .ints l), (8, .int (l.length : Int)), (9, .int 0)] [] (by kernel_rfl) ?_ ?_
  ·
   exact az
  refine fin_then ?_
  refine tri_block ?_
  refine tri_loop (X := Nat) (fun x0 => x0 ≤ l.length ∧ ∀ j, j < x0 → Cn.holdsV a [l.getD j 0] = true) (fun x0 => [(1, .bools a), (7, .ints l), (8, .int (l.length : Int)), (9, .int (x0 : Int))]) (fun x0 => []) (fun x0 => l.length - x0) (0) ?_ ?_ ?_ ?_
  ·
   show 0 ≤ l.length ∧ ∀ j, j < 0 → Cn.holdsV a [l.getD j 0] = true
   exact ⟨Nat.zero_le _, fun j hj => by omega⟩
  ·
   exact subE_mk (l := [.bools a, .ints l, .int (l.length : Int), .int 0]) (m := [.bools a, .ints l, .int (l.length : Int), .int (0 : Int)]) (by kernel_rfl) (by kernel_rfl) (consE rfl (consE rfl (consE rfl (consE (congrArg AV.int (show 0 = (0 : Int) from (by first | rfl | omega | (simp; done)))) rfl))))
  ·
   kernel_rfl
  ·
   intro i hI
   replace hI : i ≤ l.length ∧ ∀ j, j < i → Cn.holdsV a [l.getD j 0] = true := hI
   change Tri _ [(1, .bools a), (7, .ints l), (8, .int (l.length : Int)), (9, .int (i : Int))] [] _ _
   obtain ⟨hk, hok⟩ := hI
   refine tri_seq ?_
   refine tri_regD hcx [] [10] [1, 7, 8, 9] [] [] [(10, .bool (decide ((i : Int) < (l.length : Int))))] [] (by kernel_rfl) ?_ ?_
   ·
    exact az
   refine fin_then ?_
   refine tri_seq ?_
   refine tri_cond (b := (decide ((i : Int) < (l.length : Int)))) (by kernel_rfl) (fun hb0 => ?_) (fun hb0 => ?_)
   ·
    skip
    have h0 := of_decide_eq_true hb0
    refine tri_skip ?_
    refine fin_then ?_
    refine tri_seq ?_
    refine tri_block ?_
    refine tri_seq ?_
    refine tri_regD hcx [] [6] [1, 7, 8, 9] [] [((0 : Int) ≤ (i : Int) ∧ (i : Int) < (l.length : Int))] [(6, .int (l.getD i 0))] [] (by kernel_rfl) ?_ ?_
    ·
     refine (ap ?_ az)
     omega
    refine fin_then ?_
    refine tri_seq ?_
    refine tri_regD hcx [] [17] [1, 7, 8, 9] [] [([(l.getD i 0)].length ≤ maxLen ∧ a.length ≤ maxLen)] [(17, .bool (!(Cn.holdsV a [(l.getD i 0)])))] [] (by kernel_rfl) ?_ ?_
    ·
     refine (ap ?_ az)
     exact ⟨by show (1 : Nat) ≤ maxLen; decide, hm2⟩
    refine fin_then ?_
    refine tri_cond (b := (!(Cn.holdsV a [(l.getD i 0)]))) (by kernel_rfl) (fun hb1 => ?_) (fun hb1 => ?_)
    ·
     skip
     have h1 := hb1
     have hq := Cn.ntT h1
     refine tri_seq ?_
     refine tri_regD hcx [] [4] [] [] [] [(4, .bool false)] [] (by kernel_rfl) ?_ ?_
     ·
      exact az
     refine fin_then ?_
     refine tri_ret ?_
     refine fin_block_ret ?_
     refine fin_then_ret ?_
     refine fin_then_ret ?_
     refine fin_block_ret ?_
     refine fin_then_ret ?_
     exact fin_ret [] rfl rfl trivial hcx (avs := [.bool false]) (by kernel_rfl) (congrArg AV.bool (show false = (l.all fun x => Cn.holdsV a [x]) from (by first | exact (Cn.allD_no (d := 0) (by omega) hq).symm | exact (Cn.allD_yes (d := 0) (by omega) hok).symm | done))) [] rfl
    ·
     skip
     have h1 := hb1
     have hq := Cn.ntF h1
     refine tri_skip ?_
     refine fin_block ?_
     refine fin_then ?_
     refine tri_regD hcx [] [9] [1, 7, 8] [] [Fit ((i : Int) + 1)] [(9, .int ((i : Int) + 1))] [] (by kernel_rfl) ?_ ?_
     ·
      refine (ap ?_ az)
      omega
     refine fin_round (i + 1) ?_ ?_ ?_ ?_
     ·
      show (i + 1) ≤ l.length ∧ ∀ j, j < (i + 1) → Cn.holdsV a [l.getD j 0] = true
      exact ⟨by omega, fun j hj => by rcases (by omega : j < i ∨ j = i) with h | rfl; exact hok j h; exact hq⟩
     ·
      show l.length - (i + 1) < l.length - i
      omega
     ·
      exact subE_mk (l := [.bools a, .ints l, .int (l.length : Int), .int ((i : Int) + 1)]) (m := [.bools a, .ints l, .int (l.length : Int), .int ((i + 1) : Int)]) (by kernel_rfl) (by kernel_rfl) (consE rfl (consE rfl (consE rfl (consE (congrArg AV.int (show ((i : Int) + 1) = ((i + 1) : Int) from (by first | rfl | omega | (simp; done)))) rfl))))
     ·
      kernel_rfl
   ·
    skip
    have h0 := of_decide_eq_false hb0
    refine tri_exit ?_
    refine fin_then_exit ?_
    refine fin_then_exit ?_
    refine fin_block_same ?_
    refine fin_then ?_
    refine tri_seq ?_
    refine tri_regD hcx [] [4] [] [] [] [(4, .bool true)] [] (by kernel_rfl) ?_ ?_
    ·
     exact az
    refine fin_then ?_
    refine tri_ret ?_
    exact fin_ret [] rfl rfl trivial hcx (avs := [.bool true]) (by kernel_rfl) (congrArg AV.bool (show true = (l.all fun x => Cn.holdsV a [x]) from (by first | exact (Cn.allD_no (d := 0) (by omega) hq).symm | exact (Cn.allD_yes (d := 0) (by omega) hok).symm | done))) [] rfl
 ·
  cases hσ
def cx_lOpen : Cx := ⟨tyLv24, [], true⟩
theorem cx_lOpen_ok : CxOk Tryz.prog cx_lOpen := cx_ok tyLv24_ok trivial
def lOpen_σ : CtF
  | [.im (.ls (.ints l)), .im (.val (.int .i64 n))], [] => some (l.length ≤ maxLen ∧ 0 ≤ n ∧ n ≤ 65536, .bool (l.any fun x => decide (x > n) || decide (x < -n)), [])
  | _, _ => none
theorem lOpen_sound : Sound Tryz.prog 29 lOpen_σ := by
 refine sound_mk (cx := cx_lOpen) (fn := Tryz.f29) Tryz.func29 (by kernel_rfl) rfl ?_
 intro w0 G0 args os p r outs hσ hp hm0 hd0
 have hcx : CxOk Tryz.prog cx_lOpen := cx_lOpen_ok
 unfold lOpen_σ at hσ
 split at hσ
 ·
  rename_i l n
  simp only [Option.some.injEq, Prod.mk.injEq] at hσ
  obtain ⟨rfl, rfl, rfl⟩ := hσ
  obtain ⟨wW, wO, wm, wβ, wd⟩ := w0
  replace hm0 : wm = 0 := hm0
  subst hm0
  replace hd0 : wd = [] := hd0
  subst hd0
  refine ⟨by kernel_rfl, ?_⟩
  change Tri ⟨_, _, _, _, _, _⟩ [(0, .ints l), (1, .int n)] [] _ _
  obtain ⟨hm1, hm2, hm3⟩ := hp
  unfold maxLen at hm1
  refine tri_seq ?_
  refine tri_regD hcx [] [] [0, 1] [] [] [] [] (by kernel_rfl) ?_ ?_
  ·
   exact az
  refine fin_then ?_
  refine tri_seq ?_
  refine tri_seq ?_
  refine tri_regD hcx [] [7, 8, 9] [1] [] [] [(7, .ints l), (8, .int (l.length : Int)), (9, .int 0)] [] (by kernel_rfl) ?_ ?_
  ·
   exact az
  refine fin_then ?_
  refine tri_block ?_
  refine tri_loop (X := Nat) (fun x0 => x0 ≤ l.length ∧ ∀ j, j < x0 → (decide (l.getD j 0 > n) || decide (l.getD j 0 < -n)) = false) (fun x0 => [(1, .int n), (7, .ints l), (8, .int (l.length : Int)), (9, .int (x0 : Int))]) (fun x0 => []) (fun x0 => l.length - x0) (0) ?_ ?_ ?_ ?_
  ·
   show 0 ≤ l.length ∧ ∀ j, j < 0 → (decide (l.getD j 0 > n) || decide (l.getD j 0 < -n)) = false
   exact ⟨Nat.zero_le _, fun j hj => by omega⟩
  ·
   exact subE_mk (l := [.int n, .ints l, .int (l.length : Int), .int 0]) (m := [.int n, .ints l, .int (l.length : Int), .int (0 : Int)]) (by kernel_rfl) (by kernel_rfl) (consE rfl (consE rfl (consE rfl (consE (congrArg AV.int (show 0 = (0 : Int) from (by first | rfl | omega | (simp; done)))) rfl))))
  ·
   kernel_rfl
  ·
   intro i hI
   replace hI : i ≤ l.length ∧ ∀ j, j < i → (decide (l.getD j 0 > n) || decide (l.getD j 0 < -n)) = false := hI
   change Tri _ [(1, .int n), (7, .ints l), (8, .int (l.length : Int)), (9, .int (i : Int))] [] _ _
   obtain ⟨hk, hok⟩ := hI
   refine tri_seq ?_
   refine tri_regD hcx [] [10] [1, 7, 8, 9] [] [] [(10, .bool (decide ((i : Int) < (l.length : Int))))] [] (by kernel_rfl) ?_ ?_
   ·
    exact az
   refine fin_then ?_
   refine tri_seq ?_
   refine tri_cond (b := (decide ((i : Int) < (l.length : Int)))) (by kernel_rfl) (fun hb0 => ?_) (fun hb0 => ?_)
   ·
    skip
    have h0 := of_decide_eq_true hb0
    refine tri_skip ?_
    refine fin_then ?_
    refine tri_seq ?_
    refine tri_block ?_
    refine tri_seq ?_
    refine tri_regD hcx [] [6] [1, 7, 8, 9] [] [((0 : Int) ≤ (i : Int) ∧ (i : Int) < (l.length : Int))] [(6, .int (l.getD i 0))] [] (by kernel_rfl) ?_ ?_
    ·
     refine (ap ?_ az)
     omega
    refine fin_then ?_
    refine tri_seq ?_
    refine tri_regD hcx [] [21] [1, 7, 8, 9] [] [((!(decide ((l.getD i 0) > n))) = true → ((!(decide ((l.getD i 0) > n))) = true)), ((!(decide ((l.getD i 0) > n))) = true → Fit (-n)), ((!(decide ((l.getD i 0) > n))) = true → ((!(decide ((l.getD i 0) > n))) = true)), ((!(decide ((l.getD i 0) > n))) = true → ((!(decide ((l.getD i 0) > n))) = true)), ((decide ((l.getD i 0) > n)) = false → (!(decide ((l.getD i 0) > n))) = true)] [(21, .bool ((decide ((l.getD i 0) > n)) || (decide ((l.getD i 0) < (-n)))))] [] (by kernel_rfl) ?_ ?_
    ·
     refine (ap ?_ (ap ?_ (ap ?_ (ap ?_ (ap (by exact vcNot) az)))))
     all_goals
      first | omega | exact id
    refine fin_then ?_
    refine tri_cond (b := ((decide ((l.getD i 0) > n)) || (decide ((l.getD i 0) < (-n))))) (by kernel_rfl) (fun hb1 => ?_) (fun hb1 => ?_)
    ·
     skip
     have h1 := hb1
     have hq : (decide (l.getD i 0 > n) || decide (l.getD i 0 < -n)) = true := h1
     refine tri_seq ?_
     refine tri_regD hcx [] [4] [] [] [] [(4, .bool true)] [] (by kernel_rfl) ?_ ?_
     ·
      exact az
     refine fin_then ?_
     refine tri_ret ?_
     refine fin_block_ret ?_
     refine fin_then_ret ?_
     refine fin_then_ret ?_
     refine fin_block_ret ?_
     refine fin_then_ret ?_
     exact fin_ret [] rfl rfl trivial hcx (avs := [.bool true]) (by kernel_rfl) (congrArg AV.bool (show true = (l.any fun x => decide (x > n) || decide (x < -n)) from (by first | exact (Cn.anyD_yes (d := 0) (by omega) hq).symm | exact (Cn.anyD_no (d := 0) (by omega) hok).symm | done))) [] rfl
    ·
     skip
     have h1 := hb1
     have hq : (decide (l.getD i 0 > n) || decide (l.getD i 0 < -n)) = false := h1
     refine tri_skip ?_
     refine fin_block ?_
     refine fin_then ?_
     refine tri_regD hcx [] [9] [1, 7, 8] [] [Fit ((i : Int) + 1)] [(9, .int ((i : Int) + 1))] [] (by kernel_rfl) ?_ ?_
     ·
      refine (ap ?_ az)
      omega
     refine fin_round (i + 1) ?_ ?_ ?_ ?_
     ·
      show (i + 1) ≤ l.length ∧ ∀ j, j < (i + 1) → (decide (l.getD j 0 > n) || decide (l.getD j 0 < -n)) = false
      exact ⟨by omega, fun j hj => by rcases (by omega : j < i ∨ j = i) with h | rfl; exact hok j h; exact hq⟩
     ·
      show l.length - (i + 1) < l.length - i
      omega
     ·
      exact subE_mk (l := [.int n, .ints l, .int (l.length : Int), .int ((i : Int) + 1)]) (m := [.int n, .ints l, .int (l.length : Int), .int ((i + 1) : Int)]) (by kernel_rfl) (by kernel_rfl) (consE rfl (consE rfl (consE rfl (consE (congrArg AV.int (show ((i : Int) + 1) = ((i + 1) : Int) from (by first | rfl | omega | (simp; done)))) rfl))))
     ·
      kernel_rfl
   ·
    skip
    have h0 := of_decide_eq_false hb0
    refine tri_exit ?_
    refine fin_then_exit ?_
    refine fin_then_exit ?_
    refine fin_block_same ?_
    refine fin_then ?_
    refine tri_seq ?_
    refine tri_regD hcx [] [4] [] [] [] [(4, .bool false)] [] (by kernel_rfl) ?_ ?_
    ·
     exact az
    refine fin_then ?_
    refine tri_ret ?_
    exact fin_ret [] rfl rfl trivial hcx (avs := [.bool false]) (by kernel_rfl) (congrArg AV.bool (show false = (l.any fun x => decide (x > n) || decide (x < -n)) from (by first | exact (Cn.anyD_yes (d := 0) (by omega) hq).symm | exact (Cn.anyD_no (d := 0) (by omega) hok).symm | done))) [] rfl
 ·
  cases hσ
attribute [local irreducible] Cn.flwV Cn.chkC Cn.putV Cn.getV24 Cn.frmV
abbrev lvC1 : Bool := ((Cn.flwV ((Cn.four4.take 2).drop 0) [2]) && (!(Cn.flwV Cn.four4 ([] : List (Int)))))
abbrev lvC2 : Bool := (lvC1 && (Cn.flwV (Cn.four4 ++ [[2]]) ([] : List (Int))))
abbrev lvC3 : Bool := (lvC2 && ((Cn.chkC (2 : Int) Cn.four4 ((Cn.four4.map fun l => ((1 : Int), l)) ++ [(2, [2])]) ([] : List (Int))) == 0))
abbrev lvC4 : Bool := (lvC3 && ((Cn.chkC (2 : Int) Cn.four4 ((((Cn.four4.map fun l => ((1 : Int), l)) ++ [(2, [2])]).take 4).drop 0) ([] : List (Int))) == 250))
abbrev lvC5 : Bool := (lvC4 && ((strOfNums (Cn.putV [(1, [1, (-2)])])).toList == (⟨#[111, 32, 49, 32, 45, 50, 32, 48, 10]⟩ : ByteArray).toList))
abbrev lvC6 : Bool := (lvC5 && ((Cn.frmV [(1, [1, (-2)])]) == 0))
abbrev lvC7 : Bool := (lvC6 && ((((Cn.getV24 (Cn.putV [(1, [1, (-2)])])).1).length : Int) == 1))
abbrev lvC8 : Bool := (lvC7 && (((Cn.getV24 (Cn.putV [(1, [1, (-2)])])).2) == 0))
def cx_live24 : Cx := ⟨tyLv24, [(14, (coeF [.ld (.intss []), .ld (.ints [])] pFlw_σ)), (17, (coeF [.agg [.id, .ld (.intss [])], .ld (.lines []), .ld (.ints [])] pCheck_σ)), (19, (coeF [.ld (.lines [])] pPut_σ)), (21, (coeF [.ld (.bytes [])] pGet_σ)), (34, lFour_σ), (35, lGiven_σ)], true⟩
theorem cx_live24_ok : CxOk Tryz.prog cx_live24 := cx_ok tyLv24_ok ⟨(pFlw_sound.coe [.ld (.intss []), .ld (.ints [])] rfl), (pCheck_sound.coe [.agg [.id, .ld (.intss [])], .ld (.lines []), .ld (.ints [])] rfl), (pPut_sound.coe [.ld (.lines [])] rfl), (pGet_sound.coe [.ld (.bytes [])] rfl), lFour_sound, lGiven_sound, trivial⟩
def live24_σ : CtF
  | [], [] => some (True, .bool true, [])
  | _, _ => none
theorem live24_sound : Sound Tryz.prog 12 live24_σ := by
 refine sound_mk (cx := cx_live24) (fn := Tryz.f12) Tryz.func12 (by kernel_rfl) rfl ?_
 intro w0 G0 args os p r outs hσ hp hm0 hd0
 have hcx : CxOk Tryz.prog cx_live24 := cx_live24_ok
 have hmx : Tryz.prog.follows .mixedOrders = true := by kernel_rfl
 unfold live24_σ at hσ
 split at hσ
 ·
  skip
  simp only [Option.some.injEq, Prod.mk.injEq] at hσ
  obtain ⟨rfl, rfl, rfl⟩ := hσ
  obtain ⟨wW, wO, wm, wβ, wd⟩ := w0
  replace hm0 : wm = 0 := hm0
  subst hm0
  replace hd0 : wd = [] := hd0
  subst hd0
  refine ⟨by kernel_rfl, ?_⟩
  change Tri ⟨_, _, _, _, _, _⟩ [] [] _ _
  have h1 := Cn.lv24_1
  have h2 := Cn.lv24_2
  have h3 := Cn.lv24_3
  have h4 := Cn.lv24_4
  have h5 := Cn.lv24_5
  have h6 := Cn.lv24_6
  have h7 := Cn.lv24_7
  have h8 := Cn.lv24_8
  refine tri_seq ?_
  refine tri_regD hcx [] [] [] [] [] [] [] (by kernel_rfl) ?_ ?_
  ·
   exact az
  refine fin_then ?_
  refine tri_seq ?_
  refine tri_regD hcx [(1000, .to 207), (1002, .to 601)] [1] [] [] [(True)] [(1, .loc 601 0)] [(207, .row 23 (.intss Cn.four4)), (601, .box [.int 2, .row 207])] (by kernel_rfl) ?_ ?_
  ·
   refine (ap ?_ az)
   exact True.intro
  refine fin_then ?_
  refine tri_seq ?_
  refine tri_regD hcx [(1005, .to 214)] [2] [1] [207, 601] [(True), (Cn.four4.length ≤ 1000000), (((Cn.four4.map fun l => ((1 : Int), l)).length + [(2, [2])].length) * 32 ≤ 140737488355328)] [(2, .row 214)] [(214, .row 43 (.lines ((Cn.four4.map fun l => ((1 : Int), l)) ++ [(2, [2])])))] (by kernel_rfl) ?_ ?_
  ·
   refine (ap ?_ (ap ?_ (ap ?_ az)))
   all_goals
    first | exact True.intro | decide
  refine fin_then ?_
  refine tri_seq ?_
  refine tri_ren (ρ := [(601, .to 601), (207, .frz), (214, .frz)]) (keys := [2, 1]) (E' := [(2, .lines ((Cn.four4.map fun l => ((1 : Int), l)) ++ [(2, [2])])), (1, .loc 601 0)]) (H' := [(601, .box [.int 2, .intss Cn.four4])]) (by kernel_rfl) ?_
  refine tri_regD hcx [] [3, 4] [2, 1] [601] [(Cn.szP [(1, [1, (-2)])] ≤ 1000000000)] [(3, .bytes (Cn.putV [(1, [1, (-2)])])), (4, .int (Cn.frmV [(1, [1, (-2)])]))] [] (by kernel_rfl) ?_ ?_
  ·
   refine (ap ?_ az)
   decide
  refine fin_then ?_
  refine tri_seq ?_
  refine tri_regD hcx [] [5, 6] [3, 4, 2, 1] [601] [((Cn.putV [(1, [1, (-2)])]).length ≤ 1000000 ∧ Cn.isBytes (Cn.putV [(1, [1, (-2)])]))] [(5, .lines ((Cn.getV24 (Cn.putV [(1, [1, (-2)])])).1)), (6, .int ((Cn.getV24 (Cn.putV [(1, [1, (-2)])])).2))] [] (by kernel_rfl) ?_ ?_
  ·
   refine (ap ?_ az)
   (rw [h7]; exact ⟨by decide, by unfold Cn.isBytes; decide⟩)
  refine fin_then ?_
  refine tri_seq ?_
  refine tri_drawD [0, 1, 0, 7, 15, 31, 63, 127, 255, 511, 1023, 1023, 3071, 8191, 16383, 32767, 65535, 131071, 131071, 524287, 1048575, 2097151, 4194303, 8388607, 8388607, 25165823, 67108863, 134217727, 268435455, 536870911, 1073741823, 2147483647, 4294967295, 8589934591, 17179869183, 34359738367, 68719476735, 137438953471, 274877906943, 549755813887, 1099511627775, 2199023255551, 4398046511103, 8796093022207, 17592186044415, 35184372088831, 70368744177663, 140737488355327] hcx hmx [] [0] [] [] [(True), ((0 : Int) ≤ 2 ∧ 2 ≤ (Cn.four4.length : Int)), (((Cn.four4.take 2).drop 0).length ≤ 1000000000 ∧ (∀ x ∈ ((Cn.four4.take 2).drop 0), x.length ≤ maxLen) ∧ [2].length ≤ maxLen), ((Cn.flwV ((Cn.four4.take 2).drop 0) [2]) = true), (True), ((Cn.flwV ((Cn.four4.take 2).drop 0) [2]) = true → (Cn.four4.length ≤ 1000000000 ∧ (∀ x ∈ Cn.four4, x.length ≤ maxLen) ∧ ([] : List (Int)).length ≤ maxLen)), ((Cn.flwV ((Cn.four4.take 2).drop 0) [2]) = true → ((Cn.flwV ((Cn.four4.take 2).drop 0) [2]) = true)), ((Cn.flwV ((Cn.four4.take 2).drop 0) [2]) = true → (Cn.flwV ((Cn.four4.take 2).drop 0) [2]) = true), (lvC1 = true), (True), (lvC1 = true), (lvC1 = true), (lvC1 = true), ((Cn.four4.length + [[2]].length) * 24 ≤ 140737488355328), (lvC1 = true → ((Cn.four4 ++ [[2]]).length ≤ 1000000000 ∧ (∀ x ∈ (Cn.four4 ++ [[2]]), x.length ≤ maxLen) ∧ ([] : List (Int)).length ≤ maxLen)), (lvC1 = true → lvC1 = true), (lvC2 = true → (lvC2 = true)), (lvC2 = true → (lvC2 = true)), (lvC2 = true → (Cn.four4.length ≤ maxLen ∧ (∀ x ∈ Cn.four4, x.length ≤ 1000000000000) ∧ ((Cn.four4.map fun l => ((1 : Int), l)) ++ [(2, [2])]).length ≤ maxLen ∧ (∀ x ∈ ((Cn.four4.map fun l => ((1 : Int), l)) ++ [(2, [2])]), x.2.length ≤ 1000000000000) ∧ ([] : List (Int)).length ≤ 1000000000000)), (lvC2 = true → (lvC2 = true)), (lvC2 = true → lvC2 = true), (lvC3 = true → (lvC3 = true)), (lvC3 = true → ((0 : Int) ≤ 4 ∧ 4 ≤ (((Cn.four4.map fun l => ((1 : Int), l)) ++ [(2, [2])]).length : Int))), (lvC3 = true → (lvC3 = true)), (lvC3 = true → (lvC3 = true)), (lvC3 = true → (Cn.four4.length ≤ maxLen ∧ (∀ x ∈ Cn.four4, x.length ≤ 1000000000000) ∧ ((((Cn.four4.map fun l => ((1 : Int), l)) ++ [(2, [2])]).take 4).drop 0).length ≤ maxLen ∧ (∀ x ∈ ((((Cn.four4.map fun l => ((1 : Int), l)) ++ [(2, [2])]).take 4).drop 0), x.2.length ≤ 1000000000000) ∧ ([] : List (Int)).length ≤ 1000000000000)), (lvC3 = true → (lvC3 = true)), (lvC3 = true → lvC3 = true), (lvC4 = true → (lvC4 = true)), (lvC4 = true → (lvC4 = true)), (lvC4 = true → lvC4 = true), (lvC5 = true → (lvC5 = true)), (lvC5 = true → lvC5 = true), (lvC6 = true → (lvC6 = true)), (lvC6 = true → (lvC6 = true)), (lvC6 = true → lvC6 = true), (lvC7 = true → (lvC7 = true)), (lvC7 = true → lvC7 = true)] [(0, .bool lvC8)] [] (by kernel_rfl) ?_ ?_
  ·
   refine (ap ?_ (ap ?_ (ap ?_ (ap ?_ (ap ?_ (ap ?_ (ap ?_ (ap (by exact id) (ap ?_ (ap ?_ (ap ?_ (ap ?_ (ap ?_ (ap ?_ (ap ?_ (ap (by exact id) (ap ?_ (ap ?_ (ap ?_ (ap ?_ (ap (by exact id) (ap ?_ (ap ?_ (ap ?_ (ap ?_ (ap ?_ (ap ?_ (ap (by exact id) (ap ?_ (ap ?_ (ap (by exact id) (ap ?_ (ap (by exact id) (ap ?_ (ap ?_ (ap (by exact id) (ap ?_ (ap (by exact id) az))))))))))))))))))))))))))))))))))))))
   all_goals
    first | exact True.intro | exact (fun h => h) | (simp only [h1]; done) | (simp only [lvC1, lvC2, lvC3, lvC4, lvC5, lvC6, lvC7, lvC8, h1, h2, h3, h4, h5, h6]; decide) | decide
  refine fin_then ?_
  refine tri_ret ?_
  exact fin_ret [] rfl rfl trivial hcx (avs := [.bool lvC8]) (by kernel_rfl) (congrArg AV.bool (show lvC8 = true from (by (simp only [lvC1, lvC2, lvC3, lvC4, lvC5, lvC6, lvC7, lvC8, h1, h2, h3, h4, h5, h6, h7, h8, Cn.str24]; decide)))) [] rfl
 ·
  cases hσ
end Go.Proofs.YtbpbndlgfiammaaGreatDoor.En
