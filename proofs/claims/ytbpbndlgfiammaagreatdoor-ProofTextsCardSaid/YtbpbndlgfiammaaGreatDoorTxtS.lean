/- Package proof's Put, line and Get, in the reader's words. -/
import Derived.Test.YtbpbndlgfiammaaGreatDoorPrfS
import Derived.Test.YtbpbndlgfiammaaGreatDoorTxtX
import Derived.Test.YtbpbndlgfiammaaGreatDoorTxtQ
namespace Go.Proofs.YtbpbndlgfiammaaGreatDoor.En
open Go Go.RowKit
set_option linter.unusedVariables false
set_option linter.unusedSimpArgs false
set_option linter.unnecessarySimpa false
def tyTxt : List (Nat × TD) := [(2, ⟨1, false, [.int .i64 0], [], none, 8, false, 1, 1⟩),
  (3, ⟨1, false, [.int .i64 0], [], none, 8, false, 1, 1⟩),
  (5, ⟨1, false, [.int .u8 0], [], none, 1, false, 2, 8⟩),
  (9, ⟨1, false, [.string ⟨#[]⟩], [], none, 16, false, 9, 9⟩),
  (23, ⟨1, false, [.slice none 0 0], [], some 3, 24, false, 0, 3⟩),
  (29, ⟨1, false, [.slice none 0 0], [], some 43, 24, false, 0, 0⟩),
  (31, ⟨1, false, [.int .i64 0], [], none, 8, false, 1, 1⟩),
  (34, ⟨1, false, [.slice none 0 0], [], some 5, 24, false, 0, 0⟩),
  (43, ⟨2, true, [.int .i64 0, .slice none 0 0], [(0, 3), (1, 23)], none, 32, false, 0, 7⟩),
  (105, ⟨1, false, [.slice none 0 0], [], some 9, 24, false, 0, 0⟩),
  (109, ⟨1, false, [.nilIface], [], none, 16, false, 11, 0⟩)]
theorem tyTxt_ok : AllTy Tryz.prog tyTxt := ⟨⟨by kernel_rfl, by kernel_rfl, by kernel_rfl⟩, ⟨by kernel_rfl, by kernel_rfl, by kernel_rfl⟩, ⟨by kernel_rfl, by kernel_rfl, by kernel_rfl⟩, ⟨by kernel_rfl, by kernel_rfl, by kernel_rfl⟩, ⟨by kernel_rfl, by kernel_rfl, by kernel_rfl⟩, ⟨by kernel_rfl, by kernel_rfl, by kernel_rfl⟩, ⟨by kernel_rfl, by kernel_rfl, by kernel_rfl⟩, ⟨by kernel_rfl, by kernel_rfl, by kernel_rfl⟩, ⟨by kernel_rfl, by kernel_rfl, by kernel_rfl⟩, ⟨by kernel_rfl, by kernel_rfl, by kernel_rfl⟩, ⟨by kernel_rfl, by kernel_rfl, by kernel_rfl⟩, trivial⟩
def cx_sAppInt : Cx := ⟨tyTxt, [(84, sAppI)], true⟩
theorem cx_sAppInt_ok : CxOk Tryz.prog cx_sAppInt := cx_ok tyTxt_ok ⟨sAppI_sound, trivial⟩
def sAppInt_σ : CtF
  | [.row 0, .im (.val (.int .i64 i)), .im (.val (.int .i64 b))], [.row 5 (.bytes xs)] => some (Fit i ∧ b = 10 ∧ xs.length + 21 ≤ 1000000000000, .row 1, [none, some (.row 5 (.bytes (xs ++ Cn.itoaI i)))])
  | _, _ => none
theorem sAppInt_sound : Sound Tryz.prog 55 sAppInt_σ := by
 refine sound_mk (cx := cx_sAppInt) (fn := Tryz.f55) Tryz.func55 (by kernel_rfl) rfl ?_
 intro w0 G0 args os p r outs hσ hp hm0 hd0
 have hcx : CxOk Tryz.prog cx_sAppInt := cx_sAppInt_ok
 unfold sAppInt_σ at hσ
 split at hσ
 ·
  rename_i i b xs
  simp only [Option.some.injEq, Prod.mk.injEq] at hσ
  obtain ⟨rfl, rfl, rfl⟩ := hσ
  obtain ⟨wW, wO, wm, wβ, wd⟩ := w0
  replace hm0 : wm = 1 := hm0
  subst hm0
  replace hd0 : wd = [] := hd0
  subst hd0
  refine ⟨by kernel_rfl, ?_⟩
  change Tri ⟨_, _, _, _, _, _⟩ [(0, .row 0), (1, .int i), (2, .int b)] [(0, .row 5 (.bytes xs))] _ _
  refine tri_seq ?_
  refine tri_regD hcx [] [] [0, 1, 2] [0] [] [] [] (by kernel_rfl) ?_ ?_
  ·
   exact az
  refine fin_then ?_
  refine tri_seq ?_
  refine tri_regD hcx [(1003, .to 210)] [6] [] [] [(Fit i ∧ b = 10 ∧ xs.length + 21 ≤ 1000000000000)] [(6, .row 210)] [(210, .row 5 (.bytes (xs ++ Cn.itoaI i)))] (by kernel_rfl) ?_ ?_
  ·
   refine (ap ?_ az)
   exact hp
  refine fin_then ?_
  refine tri_ret ?_
  refine fin_ren (ρ := [(210, .to 1)]) (keys := [6]) (E' := [(6, .row 1)]) (H' := [(1, .row 5 (.bytes (xs ++ Cn.itoaI i)))]) (by kernel_rfl) ?_
  exact fin_ret [] rfl rfl trivial hcx (avs := [.row 1]) (by kernel_rfl) rfl [false, true] (Eq.trans (show _ = [none, some (.row 5 (.bytes (xs ++ Cn.itoaI i)))] from by kernel_rfl) (consO rfl (consO rfl rfl)))
 ·
  cases hσ
def cx_pPut : Cx := ⟨tyTxt, [(55, sAppInt_σ), (43, pFormed_σ)], true⟩
theorem cx_pPut_ok : CxOk Tryz.prog cx_pPut := cx_ok tyTxt_ok ⟨sAppInt_sound, pFormed_sound, trivial⟩
def pPut_σ : CtF
  | [.im (.ls (.lines p))], [] => some (Cn.szP p ≤ 1000000000, .tup [.bytes (Cn.putV p), .int (Cn.frmV p)], [])
  | _, _ => none
theorem pPut_sound : Sound Tryz.prog 19 pPut_σ := by
 refine sound_mk (cx := cx_pPut) (fn := Tryz.f19) Tryz.func19 (by kernel_rfl) rfl ?_
 intro w0 G0 args os p r outs hσ hp hm0 hd0
 have hcx : CxOk Tryz.prog cx_pPut := cx_pPut_ok
 unfold pPut_σ at hσ
 split at hσ
 ·
  rename_i p
  simp only [Option.some.injEq, Prod.mk.injEq] at hσ
  obtain ⟨rfl, rfl, rfl⟩ := hσ
  obtain ⟨wW, wO, wm, wβ, wd⟩ := w0
  replace hm0 : wm = 0 := hm0
  subst hm0
  replace hd0 : wd = [] := hd0
  subst hd0
  refine ⟨by kernel_rfl, ?_⟩
  change Tri ⟨_, _, _, _, _, _⟩ [(0, .lines p)] [] _ _
  have hm1 := hp
  have hpl := Cn.len_szP p
  have hml := fun x (hx : x ∈ p) => Cn.mem_szP hx
  have hfr := Cn.put_frm hm1
  refine tri_seq ?_
  refine tri_regD hcx [] [] [0] [] [] [] [] (by kernel_rfl) ?_ ?_
  ·
   exact az
  refine fin_then ?_
  refine tri_seq ?_
  refine tri_seq ?_
  refine tri_regD hcx [] [4] [0] [] [(p.length ≤ maxLen ∧ ∀ x ∈ p, x.2.length ≤ maxLen)] [(4, .int (Cn.frmV p))] [] (by kernel_rfl) ?_ ?_
  ·
   refine (ap ?_ az)
   omega
  refine fin_then ?_
  refine tri_seq ?_
  refine tri_regD hcx [] [13] [4, 0] [] [] [(13, .bool ((Cn.frmV p) != 0))] [] (by kernel_rfl) ?_ ?_
  ·
   exact az
  refine fin_then ?_
  refine tri_cond (b := ((Cn.frmV p) != 0)) (by kernel_rfl) (fun hb0 => ?_) (fun hb0 => ?_)
  ·
   skip
   have h0 := bne_iff_ne.1 hb0
   have hne : ¬ Cn.frmV p = 0 := by simpa using h0
   refine tri_seq ?_
   refine tri_regD hcx [] [2, 3] [] [] [] [(2, .im (.val (.slice none 0 0))), (3, .int (Cn.frmV p))] [] (by kernel_rfl) ?_ ?_
   ·
    exact az
   refine fin_then ?_
   refine tri_ret ?_
   refine fin_then_ret ?_
   refine fin_nil 2 (.bytes []) (by kernel_rfl) (E' := [(2, .bytes []), (3, .int (Cn.frmV p))]) (by kernel_rfl) ?_
   exact fin_ret [] rfl rfl trivial hcx (avs := [.bytes [], .int (Cn.frmV p)]) (by kernel_rfl) (congrArg AV.tup (consE (congrArg AV.bytes (show [] = (Cn.putV p) from (by first | exact Cn.putV_yes he (by omega) | exact Cn.putV_no hne | exact he.symm | rfl | done))) rfl)) [] rfl
  ·
   skip
   have h0 := bneF hb0
   have he : Cn.frmV p = 0 := by simpa using h0
   obtain ⟨hq1, hq2, hq3⟩ := Cn.frm_lits he
   have hbd := fun i => Cn.put_le hq3 i
   refine tri_skip ?_
   refine fin_then ?_
   refine tri_seq ?_
   refine tri_regD hcx [] [5] [0] [] [] [(5, .im (.val (.slice none 0 0)))] [] (by kernel_rfl) ?_ ?_
   ·
    exact az
   refine fin_then ?_
   refine tri_seq ?_
   refine tri_seq ?_
   refine tri_regD hcx [] [15, 16, 17] [5] [] [] [(15, .lines p), (16, .int (p.length : Int)), (17, .int 0)] [] (by kernel_rfl) ?_ ?_
   ·
    exact az
   refine fin_then ?_
   refine tri_block ?_
   refine tri_row 5 700 5 (.bytes []) (by kernel_rfl) (by kernel_rfl) (by kernel_rfl) (by kernel_rfl) (E' := [(15, .lines p), (16, .int (p.length : Int)), (17, .int 0), (5, .row 700)]) (by kernel_rfl) ?_
   refine tri_loop (X := Nat) (fun x0 => x0 ≤ p.length) (fun x0 => [(5, .row 700), (15, .lines p), (16, .int (p.length : Int)), (17, .int (x0 : Int))]) (fun x0 => [(700, .row 5 (.bytes (Cn.putP (p.take x0))))]) (fun x0 => p.length - x0) (0) ?_ ?_ ?_ ?_
   ·
    show 0 ≤ p.length
    omega
   ·
    exact subE_mk (l := [.row 700, .lines p, .int (p.length : Int), .int 0]) (m := [.row 700, .lines p, .int (p.length : Int), .int (0 : Int)]) (by kernel_rfl) (by kernel_rfl) (consE rfl (consE rfl (consE rfl (consE (congrArg AV.int (show 0 = (0 : Int) from (by first | rfl | omega | (simp; done)))) rfl))))
   ·
    exact Eq.trans (show _ = [(700, .row 5 (.bytes []))] from by kernel_rfl) (consH (congrArg (fun x => ((700 : Nat), x)) (congrArg (fun x => AObj.row 5 (.bytes x)) (show [] = (Cn.putP (p.take 0)) from (by rfl)))) rfl)
   ·
    intro i hI
    replace hI : i ≤ p.length := hI
    change Tri _ [(5, .row 700), (15, .lines p), (16, .int (p.length : Int)), (17, .int (i : Int))] [(700, .row 5 (.bytes (Cn.putP (p.take i))))] _ _
    have hbi := fun (hi : i < p.length) (k : Nat) => Cn.put_in24 hq3 hi k
    have hbj := hbd i
    have hxm := fun (hi : i < p.length) => Cn.getD_memL (d := (0, [])) hi
    refine tri_seq ?_
    refine tri_regD hcx [] [18] [5, 15, 16, 17] [700] [] [(18, .bool (decide ((i : Int) < (p.length : Int))))] [] (by kernel_rfl) ?_ ?_
    ·
     exact az
    refine fin_then ?_
    refine tri_seq ?_
    refine tri_cond (b := (decide ((i : Int) < (p.length : Int)))) (by kernel_rfl) (fun hb1 => ?_) (fun hb1 => ?_)
    ·
     skip
     have h1 := of_decide_eq_true hb1
     refine tri_skip ?_
     refine fin_then ?_
     refine tri_seq ?_
     refine tri_block ?_
     refine tri_seq ?_
     refine tri_regD hcx [(1002, .to 607)] [7] [5, 15, 16, 17] [700] [((0 : Int) ≤ (i : Int) ∧ (i : Int) < (p.length : Int))] [(7, .loc 607 0)] [(607, .box [.int ((p.getD i (0, [])).1), .ints ((p.getD i (0, [])).2)])] (by kernel_rfl) ?_ ?_
     ·
      refine (ap ?_ az)
      omega
     refine fin_then ?_
     refine tri_seq ?_
     refine tri_regD hcx [(1005, .to 700)] [5] [7, 15, 16, 17] [607] [((0 : Int) ≤ (p.getD i (0, [])).1 ∧ (p.getD i (0, [])).1 < ((⟨#[32, 111, 108, 100]⟩ : ByteArray).size : Int)), (((Cn.putP (p.take i)).length + [((bytesI (⟨#[32, 111, 108, 100]⟩ : ByteArray)).getD (((p.getD i (0, [])).1).toNat) 0)].length) * 1 ≤ 140737488355328)] [(5, .row 700)] [(700, .row 5 (.bytes ((Cn.putP (p.take i)) ++ [((bytesI (⟨#[32, 111, 108, 100]⟩ : ByteArray)).getD (((p.getD i (0, [])).1).toNat) 0)])))] (by kernel_rfl) ?_ ?_
     ·
      refine (ap ?_ (ap ?_ az))
      all_goals
       first | (simp only [List.length_cons, List.length_nil, List.length_append, List.length_map, List.length_set, List.length_replicate]; omega) | exact Cn.let_in (hq2 _ (hxm (by omega)))
     refine fin_then ?_
     refine tri_seq ?_
     refine tri_seq ?_
     refine tri_regD hcx [] [28, 29, 30] [5, 15, 16, 17] [700] [] [(28, .ints ((p.getD i (0, [])).2)), (29, .int (((p.getD i (0, [])).2).length : Int)), (30, .int 0)] [] (by kernel_rfl) ?_ ?_
     ·
      exact az
     refine fin_then ?_
     refine tri_block ?_
     refine tri_ren (ρ := [(700, .to 701)]) (keys := [5, 15, 16, 17, 28, 29, 30]) (E' := [(5, .row 701), (15, .lines p), (16, .int (p.length : Int)), (17, .int (i : Int)), (28, .ints ((p.getD i (0, [])).2)), (29, .int (((p.getD i (0, [])).2).length : Int)), (30, .int 0)]) (H' := [(701, .row 5 (.bytes ((Cn.putP (p.take i)) ++ [((bytesI (⟨#[32, 111, 108, 100]⟩ : ByteArray)).getD (((p.getD i (0, [])).1).toNat) 0)])))]) (by kernel_rfl) ?_
     refine tri_loop (X := Nat) (fun x0 => x0 ≤ (p.getD i (0, [])).2.length) (fun x0 => [(5, .row 701), (15, .lines p), (16, .int (p.length : Int)), (17, .int (i : Int)), (28, .ints ((p.getD i (0, [])).2)), (29, .int (((p.getD i (0, [])).2).length : Int)), (30, .int (x0 : Int))]) (fun x0 => [(701, .row 5 (.bytes ((Cn.putP (p.take i) ++ [Cn.letW (p.getD i (0, [])).1]) ++ Cn.litsW ((p.getD i (0, [])).2.take x0))))]) (fun x0 => (p.getD i (0, [])).2.length - x0) (0) ?_ ?_ ?_ ?_
     ·
      show 0 ≤ (p.getD i (0, [])).2.length
      omega
     ·
      exact subE_mk (l := [.row 701, .lines p, .int (p.length : Int), .int (i : Int), .ints ((p.getD i (0, [])).2), .int (((p.getD i (0, [])).2).length : Int), .int 0]) (m := [.row 701, .lines p, .int (p.length : Int), .int (i : Int), .ints ((p.getD i (0, [])).2), .int (((p.getD i (0, [])).2).length : Int), .int (0 : Int)]) (by kernel_rfl) (by kernel_rfl) (consE rfl (consE rfl (consE rfl (consE rfl (consE rfl (consE rfl (consE (congrArg AV.int (show 0 = (0 : Int) from (by first | rfl | omega | (simp; done)))) rfl)))))))
     ·
      exact Eq.trans (show _ = [(701, .row 5 (.bytes ((Cn.putP (p.take i)) ++ [((bytesI (⟨#[32, 111, 108, 100]⟩ : ByteArray)).getD (((p.getD i (0, [])).1).toNat) 0)])))] from by kernel_rfl) (consH (congrArg (fun x => ((701 : Nat), x)) (congrArg (fun x => AObj.row 5 (.bytes x)) (show ((Cn.putP (p.take i)) ++ [((bytesI (⟨#[32, 111, 108, 100]⟩ : ByteArray)).getD (((p.getD i (0, [])).1).toNat) 0)]) = ((Cn.putP (p.take i) ++ [Cn.letW (p.getD i (0, [])).1]) ++ Cn.litsW ((p.getD i (0, [])).2.take 0)) from (by (exact (List.append_nil _).symm))))) rfl)
     ·
      intro k hI
      replace hI : k ≤ (p.getD i (0, [])).2.length := hI
      change Tri _ [(5, .row 701), (15, .lines p), (16, .int (p.length : Int)), (17, .int (i : Int)), (28, .ints ((p.getD i (0, [])).2)), (29, .int (((p.getD i (0, [])).2).length : Int)), (30, .int (k : Int))] [(701, .row 5 (.bytes ((Cn.putP (p.take i) ++ [Cn.letW (p.getD i (0, [])).1]) ++ Cn.litsW ((p.getD i (0, [])).2.take k))))] _ _
      have hk2 := hbi (by omega) k
      have hxl := hml _ (hxm (by omega))
      have hlit := fun (hk : k < (p.getD i (0, [])).2.length) => hq3 _ (hxm (by omega)) _ (Cn.getD_memI hk)
      refine tri_seq ?_
      refine tri_regD hcx [] [31] [5, 15, 16, 17, 28, 29, 30] [701] [] [(31, .bool (decide ((k : Int) < (((p.getD i (0, [])).2).length : Int))))] [] (by kernel_rfl) ?_ ?_
      ·
       exact az
      refine fin_then ?_
      refine tri_seq ?_
      refine tri_cond (b := (decide ((k : Int) < (((p.getD i (0, [])).2).length : Int)))) (by kernel_rfl) (fun hb2 => ?_) (fun hb2 => ?_)
      ·
       skip
       have h2 := of_decide_eq_true hb2
       refine tri_skip ?_
       refine fin_then ?_
       refine tri_seq ?_
       refine tri_block ?_
       refine tri_seq ?_
       refine tri_regD hcx [] [9] [5, 15, 16, 17, 28, 29, 30] [701] [((0 : Int) ≤ (k : Int) ∧ (k : Int) < (((p.getD i (0, [])).2).length : Int))] [(9, .int (((p.getD i (0, [])).2).getD k 0))] [] (by kernel_rfl) ?_ ?_
       ·
        refine (ap ?_ az)
        omega
       refine fin_then ?_
       refine tri_regD hcx [(1004, .to 701)] [5] [15, 16, 17, 28, 29, 30] [] [((((Cn.putP (p.take i) ++ [Cn.letW (p.getD i (0, [])).1]) ++ Cn.litsW ((p.getD i (0, [])).2.take k)).length + [32].length) * 1 ≤ 140737488355328), (Fit (((p.getD i (0, [])).2).getD k 0) ∧ (10 : Int) = 10 ∧ (((Cn.putP (p.take i) ++ [Cn.letW (p.getD i (0, [])).1]) ++ Cn.litsW ((p.getD i (0, [])).2.take k)) ++ [32]).length + 21 ≤ 1000000000000)] [(5, .row 701)] [(701, .row 5 (.bytes ((((Cn.putP (p.take i) ++ [Cn.letW (p.getD i (0, [])).1]) ++ Cn.litsW ((p.getD i (0, [])).2.take k)) ++ [32]) ++ Cn.itoaI (((p.getD i (0, [])).2).getD k 0))))] (by kernel_rfl) ?_ ?_
       ·
        refine (ap ?_ (ap ?_ az))
        all_goals
         first | (simp only [List.length_cons, List.length_nil, List.length_append, List.length_map, List.length_set, List.length_replicate]; omega) | (have h8 := hlit (by omega); exact ⟨⟨by omega, by omega⟩, rfl, by simp only [List.length_append, List.length_cons, List.length_nil]; omega⟩)
       refine fin_block ?_
       refine fin_then ?_
       refine tri_regD hcx [] [30] [5, 15, 16, 17, 28, 29] [701] [Fit ((k : Int) + 1)] [(30, .int ((k : Int) + 1))] [] (by kernel_rfl) ?_ ?_
       ·
        refine (ap ?_ az)
        omega
       refine fin_round (k + 1) ?_ ?_ ?_ ?_
       ·
        show (k + 1) ≤ (p.getD i (0, [])).2.length
        omega
       ·
        show (p.getD i (0, [])).2.length - (k + 1) < (p.getD i (0, [])).2.length - k
        omega
       ·
        exact subE_mk (l := [.row 701, .lines p, .int (p.length : Int), .int (i : Int), .ints ((p.getD i (0, [])).2), .int (((p.getD i (0, [])).2).length : Int), .int ((k : Int) + 1)]) (m := [.row 701, .lines p, .int (p.length : Int), .int (i : Int), .ints ((p.getD i (0, [])).2), .int (((p.getD i (0, [])).2).length : Int), .int ((k + 1) : Int)]) (by kernel_rfl) (by kernel_rfl) (consE rfl (consE rfl (consE rfl (consE rfl (consE rfl (consE rfl (consE (congrArg AV.int (show ((k : Int) + 1) = ((k + 1) : Int) from (by first | rfl | omega | (simp; done)))) rfl)))))))
       ·
        exact Eq.trans (show _ = [(701, .row 5 (.bytes ((((Cn.putP (p.take i) ++ [Cn.letW (p.getD i (0, [])).1]) ++ Cn.litsW ((p.getD i (0, [])).2.take k)) ++ [32]) ++ Cn.itoaI (((p.getD i (0, [])).2).getD k 0))))] from by kernel_rfl) (consH (congrArg (fun x => ((701 : Nat), x)) (congrArg (fun x => AObj.row 5 (.bytes x)) (show ((((Cn.putP (p.take i) ++ [Cn.letW (p.getD i (0, [])).1]) ++ Cn.litsW ((p.getD i (0, [])).2.take k)) ++ [32]) ++ Cn.itoaI (((p.getD i (0, [])).2).getD k 0)) = ((Cn.putP (p.take i) ++ [Cn.letW (p.getD i (0, [])).1]) ++ Cn.litsW ((p.getD i (0, [])).2.take (k + 1))) from (by exact Cn.litsW_next (by omega) _)))) rfl)
      ·
       skip
       have h2 := of_decide_eq_false hb2
       refine tri_exit ?_
       refine fin_then_exit ?_
       refine fin_then_exit ?_
       refine fin_block_same ?_
       refine fin_then ?_
       refine tri_regD hcx [(1001, .to 701)] [5] [15, 16, 17] [] [((((Cn.putP (p.take i) ++ [Cn.letW (p.getD i (0, [])).1]) ++ Cn.litsW ((p.getD i (0, [])).2.take k)).length + (⟨#[32, 48, 10]⟩ : ByteArray).size) * 1 ≤ 140737488355328)] [(5, .row 701)] [(701, .row 5 (.bytes (((Cn.putP (p.take i) ++ [Cn.letW (p.getD i (0, [])).1]) ++ Cn.litsW ((p.getD i (0, [])).2.take k)) ++ (bytesI (⟨#[32, 48, 10]⟩ : ByteArray)))))] (by kernel_rfl) ?_ ?_
       ·
        refine (ap ?_ az)
        (have h9 : (⟨#[32, 48, 10]⟩ : ByteArray).size = 3 := rfl; rw [h9]; simp only [List.length_append, List.length_cons, List.length_nil]; omega)
       refine fin_block ?_
       refine fin_then ?_
       refine tri_regD hcx [] [17] [5, 15, 16] [701] [Fit ((i : Int) + 1)] [(17, .int ((i : Int) + 1))] [] (by kernel_rfl) ?_ ?_
       ·
        refine (ap ?_ az)
        omega
       refine fin_ren (ρ := [(701, .to 700)]) (keys := [5, 15, 16, 17]) (E' := [(5, .row 700), (15, .lines p), (16, .int (p.length : Int)), (17, .int ((i : Int) + 1))]) (H' := [(700, .row 5 (.bytes (((Cn.putP (p.take i) ++ [Cn.letW (p.getD i (0, [])).1]) ++ Cn.litsW ((p.getD i (0, [])).2.take k)) ++ (bytesI (⟨#[32, 48, 10]⟩ : ByteArray)))))]) (by kernel_rfl) ?_
       refine fin_round (i + 1) ?_ ?_ ?_ ?_
       ·
        show (i + 1) ≤ p.length
        omega
       ·
        show p.length - (i + 1) < p.length - i
        omega
       ·
        exact subE_mk (l := [.row 700, .lines p, .int (p.length : Int), .int ((i : Int) + 1)]) (m := [.row 700, .lines p, .int (p.length : Int), .int ((i + 1) : Int)]) (by kernel_rfl) (by kernel_rfl) (consE rfl (consE rfl (consE rfl (consE (congrArg AV.int (show ((i : Int) + 1) = ((i + 1) : Int) from (by first | rfl | omega | (simp; done)))) rfl))))
       ·
        exact Eq.trans (show _ = [(700, .row 5 (.bytes (((Cn.putP (p.take i) ++ [Cn.letW (p.getD i (0, [])).1]) ++ Cn.litsW ((p.getD i (0, [])).2.take k)) ++ (bytesI (⟨#[32, 48, 10]⟩ : ByteArray)))))] from by kernel_rfl) (consH (congrArg (fun x => ((700 : Nat), x)) (congrArg (fun x => AObj.row 5 (.bytes x)) (show (((Cn.putP (p.take i) ++ [Cn.letW (p.getD i (0, [])).1]) ++ Cn.litsW ((p.getD i (0, [])).2.take k)) ++ (bytesI (⟨#[32, 48, 10]⟩ : ByteArray))) = (Cn.putP (p.take (i + 1))) from (by exact Cn.putP_step (by omega) (by omega))))) rfl)
    ·
     skip
     have h1 := of_decide_eq_false hb1
     refine tri_exit ?_
     refine fin_then_exit ?_
     refine fin_then_exit ?_
     refine fin_block_same ?_
     refine fin_then ?_
     refine tri_seq ?_
     refine tri_regD hcx [(700, .frz)] [2, 3] [] [] [] [(2, .bytes (Cn.putP (p.take i))), (3, .int 0)] [] (by kernel_rfl) ?_ ?_
     ·
      exact az
     refine fin_then ?_
     refine tri_ret ?_
     exact fin_ret [] rfl rfl trivial hcx (avs := [.bytes (Cn.putP (p.take i)), .int 0]) (by kernel_rfl) (congrArg AV.tup (consE (congrArg AV.bytes (show (Cn.putP (p.take i)) = (Cn.putV p) from (by first | exact Cn.putV_yes he (by omega) | exact Cn.putV_no hne | exact he.symm | rfl | done))) (consE (congrArg AV.int (show 0 = (Cn.frmV p) from (by first | exact Cn.putV_yes he (by omega) | exact Cn.putV_no hne | exact he.symm | rfl | done))) rfl))) [] rfl
 ·
  cases hσ
def cx_pLine : Cx := ⟨tyTxt, [(87, sSplit), (88, sIndexS), (89, sAtoi), (90, sItoa), (36, pLit_σ)], true⟩
theorem cx_pLine_ok : CxOk Tryz.prog cx_pLine := cx_ok tyTxt_ok ⟨sSplit_sound, sIndexS_sound, sAtoi_sound, sItoa_sound, pLit_sound, trivial⟩
def pLine_σ : CtF
  | [.im (.val (.string s))], [] => some (s.size ≤ 1000000, .tup [.agg [.int (Cn.lnK (bytesI s)), .ints (Cn.lnL (bytesI s))], .bool (Cn.lnOk (bytesI s))], [])
  | _, _ => none
theorem pLine_sound : Sound Tryz.prog 58 pLine_σ := by
 refine sound_mk (cx := cx_pLine) (fn := Tryz.f58) Tryz.func58 (by kernel_rfl) rfl ?_
 intro w0 G0 args os p r outs hσ hp hm0 hd0
 have hcx : CxOk Tryz.prog cx_pLine := cx_pLine_ok
 unfold pLine_σ at hσ
 split at hσ
 ·
  rename_i s
  simp only [Option.some.injEq, Prod.mk.injEq] at hσ
  obtain ⟨rfl, rfl, rfl⟩ := hσ
  obtain ⟨wW, wO, wm, wβ, wd⟩ := w0
  replace hm0 : wm = 0 := hm0
  subst hm0
  replace hd0 : wd = [] := hd0
  subst hd0
  refine ⟨by kernel_rfl, ?_⟩
  change Tri ⟨_, _, _, _, _, _⟩ [(0, .im (.val (.string s)))] [] _ _
  have hm1 := hp
  have hK := Cn.lnK_is s
  obtain ⟨hl1, hl2, hl3⟩ := Cn.ws_facts s
  have hml := Cn.mid_lenS s
  refine tri_seq ?_
  refine tri_regD hcx [(1000, .to 602)] [2] [0] [] [] [(2, .loc 602 0)] [(602, .box [.int 0, .im (.val (.slice none 0 0))])] (by kernel_rfl) ?_ ?_
  ·
   exact az
  refine fin_then ?_
  refine tri_seq ?_
  refine tri_regD hcx [(1001, .to 211)] [4] [2] [602] [(s.size ≤ 1000000 ∧ (⟨#[32]⟩ : ByteArray) = ⟨#[32]⟩)] [(4, .row 211)] [(211, .row 9 (.strs (Cn.wsS s)))] (by kernel_rfl) ?_ ?_
  ·
   refine (ap ?_ az)
   exact ⟨hm1, rfl⟩
  refine fin_then ?_
  refine tri_seq ?_
  refine tri_ren (ρ := [(602, .to 602), (211, .frz)]) (keys := [4, 2]) (E' := [(4, .strs (Cn.wsS s)), (2, .loc 602 0)]) (H' := [(602, .box [.int 0, .im (.val (.slice none 0 0))])]) (by kernel_rfl) ?_
  refine tri_regD hcx [] [5] [4, 2] [602] [Fit (((Cn.wsS s).length : Int) - 1)] [(5, .int (((Cn.wsS s).length : Int) - 1))] [] (by kernel_rfl) ?_ ?_
  ·
   refine (ap ?_ az)
   omega
  refine fin_then ?_
  refine tri_seq ?_
  refine tri_regD hcx [(602, .to 602)] [] [5, 4, 2] [] [((0 : Int) ≤ 0 ∧ 0 < ((Cn.wsS s).length : Int)), ((⟨#[32, 111, 108, 100]⟩ : ByteArray).size ≤ 4294967280)] [] [(602, .box [.int (Lib.index (⟨#[32, 111, 108, 100]⟩ : ByteArray).data.toList ((Cn.wsS s).getD 0 ByteArray.empty).data.toList), .im (.val (.slice none 0 0))])] (by kernel_rfl) ?_ ?_
  ·
   refine (ap ?_ (ap ?_ az))
   all_goals
    first | omega | exact (show (4 : Nat) ≤ _ by omega)
  refine fin_then ?_
  refine tri_seq ?_
  refine tri_seq ?_
  refine tri_regD hcx [] [40] [5, 4, 2] [602] [((0 : Int) ≤ 0 ∧ 0 < ((Cn.wsS s).length : Int)), ((!((((Cn.wsS s).getD 0 ByteArray.empty).size : Int) != 1)) = true → ((!((((Cn.wsS s).getD 0 ByteArray.empty).size : Int) != 1)) = true)), ((!((((Cn.wsS s).getD 0 ByteArray.empty).size : Int) != 1)) = true → ((!((((Cn.wsS s).getD 0 ByteArray.empty).size : Int) != 1)) = true)), (((((Cn.wsS s).getD 0 ByteArray.empty).size : Int) != 1) = false → (!((((Cn.wsS s).getD 0 ByteArray.empty).size : Int) != 1)) = true), ((!(((((Cn.wsS s).getD 0 ByteArray.empty).size : Int) != 1) || (decide ((Lib.index (⟨#[32, 111, 108, 100]⟩ : ByteArray).data.toList ((Cn.wsS s).getD 0 ByteArray.empty).data.toList) < 1)))) = true → ((!(((((Cn.wsS s).getD 0 ByteArray.empty).size : Int) != 1) || (decide ((Lib.index (⟨#[32, 111, 108, 100]⟩ : ByteArray).data.toList ((Cn.wsS s).getD 0 ByteArray.empty).data.toList) < 1)))) = true)), ((((((Cn.wsS s).getD 0 ByteArray.empty).size : Int) != 1) || (decide ((Lib.index (⟨#[32, 111, 108, 100]⟩ : ByteArray).data.toList ((Cn.wsS s).getD 0 ByteArray.empty).data.toList) < 1))) = false → (!(((((Cn.wsS s).getD 0 ByteArray.empty).size : Int) != 1) || (decide ((Lib.index (⟨#[32, 111, 108, 100]⟩ : ByteArray).data.toList ((Cn.wsS s).getD 0 ByteArray.empty).data.toList) < 1)))) = true), ((!((((((Cn.wsS s).getD 0 ByteArray.empty).size : Int) != 1) || (decide ((Lib.index (⟨#[32, 111, 108, 100]⟩ : ByteArray).data.toList ((Cn.wsS s).getD 0 ByteArray.empty).data.toList) < 1))) || (decide ((((Cn.wsS s).length : Int) - 1) < 1)))) = true → ((!((((((Cn.wsS s).getD 0 ByteArray.empty).size : Int) != 1) || (decide ((Lib.index (⟨#[32, 111, 108, 100]⟩ : ByteArray).data.toList ((Cn.wsS s).getD 0 ByteArray.empty).data.toList) < 1))) || (decide ((((Cn.wsS s).length : Int) - 1) < 1)))) = true)), ((!((((((Cn.wsS s).getD 0 ByteArray.empty).size : Int) != 1) || (decide ((Lib.index (⟨#[32, 111, 108, 100]⟩ : ByteArray).data.toList ((Cn.wsS s).getD 0 ByteArray.empty).data.toList) < 1))) || (decide ((((Cn.wsS s).length : Int) - 1) < 1)))) = true → ((!((((((Cn.wsS s).getD 0 ByteArray.empty).size : Int) != 1) || (decide ((Lib.index (⟨#[32, 111, 108, 100]⟩ : ByteArray).data.toList ((Cn.wsS s).getD 0 ByteArray.empty).data.toList) < 1))) || (decide ((((Cn.wsS s).length : Int) - 1) < 1)))) = true)), ((!((((((Cn.wsS s).getD 0 ByteArray.empty).size : Int) != 1) || (decide ((Lib.index (⟨#[32, 111, 108, 100]⟩ : ByteArray).data.toList ((Cn.wsS s).getD 0 ByteArray.empty).data.toList) < 1))) || (decide ((((Cn.wsS s).length : Int) - 1) < 1)))) = true → ((0 : Int) ≤ (((Cn.wsS s).length : Int) - 1) ∧ (((Cn.wsS s).length : Int) - 1) < ((Cn.wsS s).length : Int))), ((!((((((Cn.wsS s).getD 0 ByteArray.empty).size : Int) != 1) || (decide ((Lib.index (⟨#[32, 111, 108, 100]⟩ : ByteArray).data.toList ((Cn.wsS s).getD 0 ByteArray.empty).data.toList) < 1))) || (decide ((((Cn.wsS s).length : Int) - 1) < 1)))) = true → ((!((((((Cn.wsS s).getD 0 ByteArray.empty).size : Int) != 1) || (decide ((Lib.index (⟨#[32, 111, 108, 100]⟩ : ByteArray).data.toList ((Cn.wsS s).getD 0 ByteArray.empty).data.toList) < 1))) || (decide ((((Cn.wsS s).length : Int) - 1) < 1)))) = true)), ((!((((((Cn.wsS s).getD 0 ByteArray.empty).size : Int) != 1) || (decide ((Lib.index (⟨#[32, 111, 108, 100]⟩ : ByteArray).data.toList ((Cn.wsS s).getD 0 ByteArray.empty).data.toList) < 1))) || (decide ((((Cn.wsS s).length : Int) - 1) < 1)))) = true → ((!((((((Cn.wsS s).getD 0 ByteArray.empty).size : Int) != 1) || (decide ((Lib.index (⟨#[32, 111, 108, 100]⟩ : ByteArray).data.toList ((Cn.wsS s).getD 0 ByteArray.empty).data.toList) < 1))) || (decide ((((Cn.wsS s).length : Int) - 1) < 1)))) = true)), (((((((Cn.wsS s).getD 0 ByteArray.empty).size : Int) != 1) || (decide ((Lib.index (⟨#[32, 111, 108, 100]⟩ : ByteArray).data.toList ((Cn.wsS s).getD 0 ByteArray.empty).data.toList) < 1))) || (decide ((((Cn.wsS s).length : Int) - 1) < 1))) = false → (!((((((Cn.wsS s).getD 0 ByteArray.empty).size : Int) != 1) || (decide ((Lib.index (⟨#[32, 111, 108, 100]⟩ : ByteArray).data.toList ((Cn.wsS s).getD 0 ByteArray.empty).data.toList) < 1))) || (decide ((((Cn.wsS s).length : Int) - 1) < 1)))) = true)] [(40, .bool (((((((Cn.wsS s).getD 0 ByteArray.empty).size : Int) != 1) || (decide ((Lib.index (⟨#[32, 111, 108, 100]⟩ : ByteArray).data.toList ((Cn.wsS s).getD 0 ByteArray.empty).data.toList) < 1))) || (decide ((((Cn.wsS s).length : Int) - 1) < 1))) || (!(((Cn.wsS s).getD ((((Cn.wsS s).length : Int) - 1).toNat) ByteArray.empty).toList == (⟨#[48]⟩ : ByteArray).toList))))] [] (by kernel_rfl) ?_ ?_
  ·
   refine (ap ?_ (ap ?_ (ap ?_ (ap (by exact vcNot) (ap ?_ (ap (by exact vcNot) (ap ?_ (ap ?_ (ap ?_ (ap ?_ (ap ?_ (ap (by exact vcNot) az))))))))))))
   all_goals
    first | omega | exact id
  refine fin_then ?_
  refine tri_cond (b := (((((((Cn.wsS s).getD 0 ByteArray.empty).size : Int) != 1) || (decide ((Lib.index (⟨#[32, 111, 108, 100]⟩ : ByteArray).data.toList ((Cn.wsS s).getD 0 ByteArray.empty).data.toList) < 1))) || (decide ((((Cn.wsS s).length : Int) - 1) < 1))) || (!(((Cn.wsS s).getD ((((Cn.wsS s).length : Int) - 1).toNat) ByteArray.empty).toList == (⟨#[48]⟩ : ByteArray).toList)))) (by kernel_rfl) (fun hb0 => ?_) (fun hb0 => ?_)
  ·
   skip
   have h0 := hb0
   have hH := Cn.headS_no (Cn.head_is s) h0
   refine tri_seq ?_
   refine tri_regD hcx [(602, .to 602)] [3] [2] [] [] [(3, .bool false)] [(602, .box [.int (Lib.index (⟨#[32, 111, 108, 100]⟩ : ByteArray).data.toList ((Cn.wsS s).getD 0 ByteArray.empty).data.toList), .im (.val (.slice none 0 0))])] (by kernel_rfl) ?_ ?_
   ·
    exact az
   refine fin_then ?_
   refine tri_ret ?_
   refine fin_then_ret ?_
   refine fin_rowB 602 1 700 0 (.ints []) (by kernel_rfl) (by kernel_rfl) (by kernel_rfl) (by kernel_rfl) (H' := [(602, .box [.int (Lib.index (⟨#[32, 111, 108, 100]⟩ : ByteArray).data.toList ((Cn.wsS s).getD 0 ByteArray.empty).data.toList), .row 700])]) (by kernel_rfl) ?_
   refine fin_ren (ρ := [(602, .to 990), (700, .frz)]) (keys := [2, 3]) (E' := [(2, .loc 990 0), (3, .bool false)]) (H' := [(990, .box [.int (Lib.index (⟨#[32, 111, 108, 100]⟩ : ByteArray).data.toList ((Cn.wsS s).getD 0 ByteArray.empty).data.toList), .ints []])]) (by kernel_rfl) ?_
   exact fin_ret [] rfl rfl trivial hcx (avs := [.agg [.int (Lib.index (⟨#[32, 111, 108, 100]⟩ : ByteArray).data.toList ((Cn.wsS s).getD 0 ByteArray.empty).data.toList), .ints []], .bool false]) (by kernel_rfl) (congrArg AV.tup (consE (congrArg AV.agg (consE (congrArg AV.int (show (Lib.index (⟨#[32, 111, 108, 100]⟩ : ByteArray).data.toList ((Cn.wsS s).getD 0 ByteArray.empty).data.toList) = (Cn.lnK (bytesI s)) from (by first | exact hK | exact Cn.ln_head hH | exact Cn.lnOk_head hH | exact Cn.ln_stop hH (by omega) hok hq | exact Cn.lnOk_stop (by omega) hok hq | exact Cn.ln_all hH (by omega) hok | exact Cn.lnOk_all hH (by omega) hok | done))) (consE (congrArg AV.ints (show [] = (Cn.lnL (bytesI s)) from (by first | exact hK | exact Cn.ln_head hH | exact Cn.lnOk_head hH | exact Cn.ln_stop hH (by omega) hok hq | exact Cn.lnOk_stop (by omega) hok hq | exact Cn.ln_all hH (by omega) hok | exact Cn.lnOk_all hH (by omega) hok | done))) rfl))) (consE (congrArg AV.bool (show false = (Cn.lnOk (bytesI s)) from (by first | exact hK | exact Cn.ln_head hH | exact Cn.lnOk_head hH | exact Cn.ln_stop hH (by omega) hok hq | exact Cn.lnOk_stop (by omega) hok hq | exact Cn.ln_all hH (by omega) hok | exact Cn.lnOk_all hH (by omega) hok | done))) rfl))) [] rfl
  ·
   skip
   have h0 := hb0
   have hH := Cn.headS_yes (Cn.head_is s) h0
   have hH2 := Cn.headS_two hH
   refine tri_skip ?_
   refine fin_then ?_
   refine tri_seq ?_
   refine tri_seq ?_
   refine tri_rowB 602 1 701 3 (.ints []) (by kernel_rfl) (by kernel_rfl) (by kernel_rfl) (by kernel_rfl) (H' := [(602, .box [.int (Lib.index (⟨#[32, 111, 108, 100]⟩ : ByteArray).data.toList ((Cn.wsS s).getD 0 ByteArray.empty).data.toList), .row 701])]) (by kernel_rfl) ?_
   refine tri_regD hcx [] [44, 45, 46] [2] [701, 602] [((0 : Int) ≤ 1 ∧ 1 ≤ (((Cn.wsS s).length : Int) - 1) ∧ (((Cn.wsS s).length : Int) - 1) ≤ ((Cn.wsS s).length : Int))] [(44, .strs (Cn.mdS s)), (45, .int ((Cn.mdS s).length : Int)), (46, .int 0)] [] (by kernel_rfl) ?_ ?_
   ·
    refine (ap ?_ az)
    omega
   refine fin_then ?_
   refine tri_block ?_
   refine tri_ren (ρ := [(602, .to 602), (701, .to 701)]) (keys := [2, 44, 45, 46]) (E' := [(2, .loc 602 0), (44, .strs (Cn.mdS s)), (45, .int ((Cn.mdS s).length : Int)), (46, .int 0)]) (H' := [(602, .box [.int (Lib.index (⟨#[32, 111, 108, 100]⟩ : ByteArray).data.toList ((Cn.wsS s).getD 0 ByteArray.empty).data.toList), .row 701]), (701, .row 3 (.ints []))]) (by kernel_rfl) ?_
   refine tri_loop (X := Nat) (fun x0 => x0 ≤ (Cn.mdS s).length ∧ ∀ j, j < x0 → Cn.litW ((Cn.midW (Cn.splitI 32 (bytesI s))).getD j []) = true) (fun x0 => [(2, .loc 602 0), (44, .strs (Cn.mdS s)), (45, .int ((Cn.mdS s).length : Int)), (46, .int (x0 : Int))]) (fun x0 => [(602, .box [.int (Lib.index (⟨#[32, 111, 108, 100]⟩ : ByteArray).data.toList ((Cn.wsS s).getD 0 ByteArray.empty).data.toList), .row 701]), (701, .row 3 (.ints (((Cn.midW (Cn.splitI 32 (bytesI s))).take x0).map Cn.numN)))]) (fun x0 => (Cn.mdS s).length - x0) (0) ?_ ?_ ?_ ?_
   ·
    show 0 ≤ (Cn.mdS s).length ∧ ∀ j, j < 0 → Cn.litW ((Cn.midW (Cn.splitI 32 (bytesI s))).getD j []) = true
    exact ⟨Nat.zero_le _, fun j hj => by omega⟩
   ·
    exact subE_mk (l := [.loc 602 0, .strs (Cn.mdS s), .int ((Cn.mdS s).length : Int), .int 0]) (m := [.loc 602 0, .strs (Cn.mdS s), .int ((Cn.mdS s).length : Int), .int (0 : Int)]) (by kernel_rfl) (by kernel_rfl) (consE rfl (consE rfl (consE rfl (consE (congrArg AV.int (show 0 = (0 : Int) from (by first | rfl | omega | (simp; done)))) rfl))))
   ·
    exact Eq.trans (show _ = [(602, .box [.int (Lib.index (⟨#[32, 111, 108, 100]⟩ : ByteArray).data.toList ((Cn.wsS s).getD 0 ByteArray.empty).data.toList), .row 701]), (701, .row 3 (.ints []))] from by kernel_rfl) (consH rfl (consH (congrArg (fun x => ((701 : Nat), x)) (congrArg (fun x => AObj.row 3 (.ints x)) (show [] = (((Cn.midW (Cn.splitI 32 (bytesI s))).take 0).map Cn.numN) from (by rfl)))) rfl))
   ·
    intro i hI
    replace hI : i ≤ (Cn.mdS s).length ∧ ∀ j, j < i → Cn.litW ((Cn.midW (Cn.splitI 32 (bytesI s))).getD j []) = true := hI
    change Tri _ [(2, .loc 602 0), (44, .strs (Cn.mdS s)), (45, .int ((Cn.mdS s).length : Int)), (46, .int (i : Int))] [(602, .box [.int (Lib.index (⟨#[32, 111, 108, 100]⟩ : ByteArray).data.toList ((Cn.wsS s).getD 0 ByteArray.empty).data.toList), .row 701]), (701, .row 3 (.ints (((Cn.midW (Cn.splitI 32 (bytesI s))).take i).map Cn.numN)))] _ _
    obtain ⟨hk, hok⟩ := hI
    have hwz := Cn.mid_size (s := s) (i := i)
    have htk := Cn.md_take (s := s) (i := i) (by omega)
    refine tri_seq ?_
    refine tri_regD hcx [] [47] [2, 44, 45, 46] [602, 701] [] [(47, .bool (decide ((i : Int) < ((Cn.mdS s).length : Int))))] [] (by kernel_rfl) ?_ ?_
    ·
     exact az
    refine fin_then ?_
    refine tri_seq ?_
    refine tri_cond (b := (decide ((i : Int) < ((Cn.mdS s).length : Int)))) (by kernel_rfl) (fun hb1 => ?_) (fun hb1 => ?_)
    ·
     skip
     have h1 := of_decide_eq_true hb1
     refine tri_skip ?_
     refine fin_then ?_
     refine tri_seq ?_
     refine tri_block ?_
     refine tri_seq ?_
     refine tri_regD hcx [] [7] [2, 44, 45, 46] [602, 701] [((0 : Int) ≤ (i : Int) ∧ (i : Int) < ((Cn.mdS s).length : Int))] [(7, .im (.val (.string ((Cn.mdS s).getD i ByteArray.empty))))] [] (by kernel_rfl) ?_ ?_
     ·
      refine (ap ?_ az)
      omega
     refine fin_then ?_
     refine tri_seq ?_
     refine tri_regD hcx [] [8, 9] [7, 2, 44, 45, 46] [602, 701] [(((Cn.mdS s).getD i ByteArray.empty).size ≤ 281474976710656)] [(8, .int ((Cn.atoiV ((Cn.mdS s).getD i ByteArray.empty).data.toList).1)), (9, .err ((Cn.atoiV ((Cn.mdS s).getD i ByteArray.empty).data.toList).2))] [] (by kernel_rfl) ?_ ?_
     ·
      refine (ap ?_ az)
      omega
     refine fin_then ?_
     refine tri_seq ?_
     refine tri_seq ?_
     refine tri_regD hcx [] [67] [8, 2, 44, 45, 46] [602, 701] [((!((Cn.atoiV ((Cn.mdS s).getD i ByteArray.empty).data.toList).2)) = true → ((!((Cn.atoiV ((Cn.mdS s).getD i ByteArray.empty).data.toList).2)) = true)), ((!((Cn.atoiV ((Cn.mdS s).getD i ByteArray.empty).data.toList).2)) = true → (True)), ((!((Cn.atoiV ((Cn.mdS s).getD i ByteArray.empty).data.toList).2)) = true → ((!((Cn.atoiV ((Cn.mdS s).getD i ByteArray.empty).data.toList).2)) = true)), ((Cn.atoiV ((Cn.mdS s).getD i ByteArray.empty).data.toList).2 = false → (!((Cn.atoiV ((Cn.mdS s).getD i ByteArray.empty).data.toList).2)) = true), ((!(((Cn.atoiV ((Cn.mdS s).getD i ByteArray.empty).data.toList).2) || (!(Cn.mayP ((Cn.atoiV ((Cn.mdS s).getD i ByteArray.empty).data.toList).1) 65536)))) = true → ((!(((Cn.atoiV ((Cn.mdS s).getD i ByteArray.empty).data.toList).2) || (!(Cn.mayP ((Cn.atoiV ((Cn.mdS s).getD i ByteArray.empty).data.toList).1) 65536)))) = true)), ((!(((Cn.atoiV ((Cn.mdS s).getD i ByteArray.empty).data.toList).2) || (!(Cn.mayP ((Cn.atoiV ((Cn.mdS s).getD i ByteArray.empty).data.toList).1) 65536)))) = true → (Fit ((Cn.atoiV ((Cn.mdS s).getD i ByteArray.empty).data.toList).1))), ((!(((Cn.atoiV ((Cn.mdS s).getD i ByteArray.empty).data.toList).2) || (!(Cn.mayP ((Cn.atoiV ((Cn.mdS s).getD i ByteArray.empty).data.toList).1) 65536)))) = true → ((!(((Cn.atoiV ((Cn.mdS s).getD i ByteArray.empty).data.toList).2) || (!(Cn.mayP ((Cn.atoiV ((Cn.mdS s).getD i ByteArray.empty).data.toList).1) 65536)))) = true)), ((!(((Cn.atoiV ((Cn.mdS s).getD i ByteArray.empty).data.toList).2) || (!(Cn.mayP ((Cn.atoiV ((Cn.mdS s).getD i ByteArray.empty).data.toList).1) 65536)))) = true → ((!(((Cn.atoiV ((Cn.mdS s).getD i ByteArray.empty).data.toList).2) || (!(Cn.mayP ((Cn.atoiV ((Cn.mdS s).getD i ByteArray.empty).data.toList).1) 65536)))) = true)), ((((Cn.atoiV ((Cn.mdS s).getD i ByteArray.empty).data.toList).2) || (!(Cn.mayP ((Cn.atoiV ((Cn.mdS s).getD i ByteArray.empty).data.toList).1) 65536))) = false → (!(((Cn.atoiV ((Cn.mdS s).getD i ByteArray.empty).data.toList).2) || (!(Cn.mayP ((Cn.atoiV ((Cn.mdS s).getD i ByteArray.empty).data.toList).1) 65536)))) = true)] [(67, .bool ((((Cn.atoiV ((Cn.mdS s).getD i ByteArray.empty).data.toList).2) || (!(Cn.mayP ((Cn.atoiV ((Cn.mdS s).getD i ByteArray.empty).data.toList).1) 65536))) || (!((strOfNums (Cn.itoaI ((Cn.atoiV ((Cn.mdS s).getD i ByteArray.empty).data.toList).1))).toList == ((Cn.mdS s).getD i ByteArray.empty).toList))))] [] (by kernel_rfl) ?_ ?_
     ·
      refine (ap ?_ (ap ?_ (ap ?_ (ap (by exact vcNot) (ap ?_ (ap ?_ (ap ?_ (ap ?_ (ap (by exact vcNot) az)))))))))
      all_goals
       first | exact id | (intro h; simp [h]; done) | (intro h; exact Cn.fit_may h)
     refine fin_then ?_
     refine tri_cond (b := ((((Cn.atoiV ((Cn.mdS s).getD i ByteArray.empty).data.toList).2) || (!(Cn.mayP ((Cn.atoiV ((Cn.mdS s).getD i ByteArray.empty).data.toList).1) 65536))) || (!((strOfNums (Cn.itoaI ((Cn.atoiV ((Cn.mdS s).getD i ByteArray.empty).data.toList).1))).toList == ((Cn.mdS s).getD i ByteArray.empty).toList)))) (by kernel_rfl) (fun hb2 => ?_) (fun hb2 => ?_)
     ·
      skip
      have h2 := hb2
      have hq := Cn.lit_no h2
      refine tri_seq ?_
      refine tri_ren (ρ := [(602, .to 602), (701, .frz)]) (keys := [67, 8, 2, 44, 45, 46]) (E' := [(67, .bool ((((Cn.atoiV ((Cn.mdS s).getD i ByteArray.empty).data.toList).2) || (!(Cn.mayP ((Cn.atoiV ((Cn.mdS s).getD i ByteArray.empty).data.toList).1) 65536))) || (!((strOfNums (Cn.itoaI ((Cn.atoiV ((Cn.mdS s).getD i ByteArray.empty).data.toList).1))).toList == ((Cn.mdS s).getD i ByteArray.empty).toList)))), (8, .int ((Cn.atoiV ((Cn.mdS s).getD i ByteArray.empty).data.toList).1)), (2, .loc 602 0), (44, .strs (Cn.mdS s)), (45, .int ((Cn.mdS s).length : Int)), (46, .int (i : Int))]) (H' := [(602, .box [.int (Lib.index (⟨#[32, 111, 108, 100]⟩ : ByteArray).data.toList ((Cn.wsS s).getD 0 ByteArray.empty).data.toList), .ints (((Cn.midW (Cn.splitI 32 (bytesI s))).take i).map Cn.numN)])]) (by kernel_rfl) ?_
      refine tri_regD hcx [(602, .to 602)] [3] [2] [] [] [(3, .bool false)] [(602, .box [.int (Lib.index (⟨#[32, 111, 108, 100]⟩ : ByteArray).data.toList ((Cn.wsS s).getD 0 ByteArray.empty).data.toList), .ints (((Cn.midW (Cn.splitI 32 (bytesI s))).take i).map Cn.numN)])] (by kernel_rfl) ?_ ?_
      ·
       exact az
      refine fin_then ?_
      refine tri_ret ?_
      refine fin_then_ret ?_
      refine fin_block_ret ?_
      refine fin_then_ret ?_
      refine fin_then_ret ?_
      refine fin_block_ret ?_
      refine fin_then_ret ?_
      exact fin_ret [] rfl rfl trivial hcx (avs := [.agg [.int (Lib.index (⟨#[32, 111, 108, 100]⟩ : ByteArray).data.toList ((Cn.wsS s).getD 0 ByteArray.empty).data.toList), .ints (((Cn.midW (Cn.splitI 32 (bytesI s))).take i).map Cn.numN)], .bool false]) (by kernel_rfl) (congrArg AV.tup (consE (congrArg AV.agg (consE (congrArg AV.int (show (Lib.index (⟨#[32, 111, 108, 100]⟩ : ByteArray).data.toList ((Cn.wsS s).getD 0 ByteArray.empty).data.toList) = (Cn.lnK (bytesI s)) from (by first | exact hK | exact Cn.ln_head hH | exact Cn.lnOk_head hH | exact Cn.ln_stop hH (by omega) hok hq | exact Cn.lnOk_stop (by omega) hok hq | exact Cn.ln_all hH (by omega) hok | exact Cn.lnOk_all hH (by omega) hok | done))) (consE (congrArg AV.ints (show (((Cn.midW (Cn.splitI 32 (bytesI s))).take i).map Cn.numN) = (Cn.lnL (bytesI s)) from (by first | exact hK | exact Cn.ln_head hH | exact Cn.lnOk_head hH | exact Cn.ln_stop hH (by omega) hok hq | exact Cn.lnOk_stop (by omega) hok hq | exact Cn.ln_all hH (by omega) hok | exact Cn.lnOk_all hH (by omega) hok | done))) rfl))) (consE (congrArg AV.bool (show false = (Cn.lnOk (bytesI s)) from (by first | exact hK | exact Cn.ln_head hH | exact Cn.lnOk_head hH | exact Cn.ln_stop hH (by omega) hok hq | exact Cn.lnOk_stop (by omega) hok hq | exact Cn.ln_all hH (by omega) hok | exact Cn.lnOk_all hH (by omega) hok | done))) rfl))) [] rfl
     ·
      skip
      have h2 := hb2
      obtain ⟨hq, hqv⟩ := Cn.lit_yes h2
      refine tri_skip ?_
      refine fin_then ?_
      refine tri_regD hcx [(602, .to 602), (1004, .to 701)] [] [2, 44, 45, 46] [] [(((((Cn.midW (Cn.splitI 32 (bytesI s))).take i).map Cn.numN).length + [(Cn.atoiV ((Cn.mdS s).getD i ByteArray.empty).data.toList).1].length) * 8 ≤ 140737488355328)] [] [(602, .box [.int (Lib.index (⟨#[32, 111, 108, 100]⟩ : ByteArray).data.toList ((Cn.wsS s).getD 0 ByteArray.empty).data.toList), .row 701]), (701, .row 3 (.ints ((((Cn.midW (Cn.splitI 32 (bytesI s))).take i).map Cn.numN) ++ [(Cn.atoiV ((Cn.mdS s).getD i ByteArray.empty).data.toList).1])))] (by kernel_rfl) ?_ ?_
      ·
       refine (ap ?_ az)
       (rw [htk]; simp only [List.length_cons, List.length_nil]; omega)
      refine fin_block ?_
      refine fin_then ?_
      refine tri_regD hcx [] [46] [2, 44, 45] [602, 701] [Fit ((i : Int) + 1)] [(46, .int ((i : Int) + 1))] [] (by kernel_rfl) ?_ ?_
      ·
       refine (ap ?_ az)
       omega
      refine fin_round (i + 1) ?_ ?_ ?_ ?_
      ·
       show (i + 1) ≤ (Cn.mdS s).length ∧ ∀ j, j < (i + 1) → Cn.litW ((Cn.midW (Cn.splitI 32 (bytesI s))).getD j []) = true
       exact ⟨by omega, fun j hj => by rcases (by omega : j < i ∨ j = i) with h | rfl; exact hok j h; exact hq⟩
      ·
       show (Cn.mdS s).length - (i + 1) < (Cn.mdS s).length - i
       omega
      ·
       exact subE_mk (l := [.loc 602 0, .strs (Cn.mdS s), .int ((Cn.mdS s).length : Int), .int ((i : Int) + 1)]) (m := [.loc 602 0, .strs (Cn.mdS s), .int ((Cn.mdS s).length : Int), .int ((i + 1) : Int)]) (by kernel_rfl) (by kernel_rfl) (consE rfl (consE rfl (consE rfl (consE (congrArg AV.int (show ((i : Int) + 1) = ((i + 1) : Int) from (by first | rfl | omega | (simp; done)))) rfl))))
      ·
       exact Eq.trans (show _ = [(602, .box [.int (Lib.index (⟨#[32, 111, 108, 100]⟩ : ByteArray).data.toList ((Cn.wsS s).getD 0 ByteArray.empty).data.toList), .row 701]), (701, .row 3 (.ints ((((Cn.midW (Cn.splitI 32 (bytesI s))).take i).map Cn.numN) ++ [(Cn.atoiV ((Cn.mdS s).getD i ByteArray.empty).data.toList).1])))] from by kernel_rfl) (consH rfl (consH (congrArg (fun x => ((701 : Nat), x)) (congrArg (fun x => AObj.row 3 (.ints x)) (show ((((Cn.midW (Cn.splitI 32 (bytesI s))).take i).map Cn.numN) ++ [(Cn.atoiV ((Cn.mdS s).getD i ByteArray.empty).data.toList).1]) = (((Cn.midW (Cn.splitI 32 (bytesI s))).take (i + 1)).map Cn.numN) from (by exact Cn.mid_next (by omega) hqv)))) rfl))
    ·
     skip
     have h1 := of_decide_eq_false hb1
     refine tri_exit ?_
     refine fin_then_exit ?_
     refine fin_then_exit ?_
     refine fin_block_same ?_
     refine fin_then ?_
     refine tri_seq ?_
     refine tri_ren (ρ := [(602, .to 602), (701, .frz)]) (keys := [47, 2, 44, 45, 46]) (E' := [(47, .bool (decide ((i : Int) < ((Cn.mdS s).length : Int)))), (2, .loc 602 0), (44, .strs (Cn.mdS s)), (45, .int ((Cn.mdS s).length : Int)), (46, .int (i : Int))]) (H' := [(602, .box [.int (Lib.index (⟨#[32, 111, 108, 100]⟩ : ByteArray).data.toList ((Cn.wsS s).getD 0 ByteArray.empty).data.toList), .ints (((Cn.midW (Cn.splitI 32 (bytesI s))).take i).map Cn.numN)])]) (by kernel_rfl) ?_
     refine tri_regD hcx [(602, .to 602)] [3] [2] [] [] [(3, .bool true)] [(602, .box [.int (Lib.index (⟨#[32, 111, 108, 100]⟩ : ByteArray).data.toList ((Cn.wsS s).getD 0 ByteArray.empty).data.toList), .ints (((Cn.midW (Cn.splitI 32 (bytesI s))).take i).map Cn.numN)])] (by kernel_rfl) ?_ ?_
     ·
      exact az
     refine fin_then ?_
     refine tri_ret ?_
     exact fin_ret [] rfl rfl trivial hcx (avs := [.agg [.int (Lib.index (⟨#[32, 111, 108, 100]⟩ : ByteArray).data.toList ((Cn.wsS s).getD 0 ByteArray.empty).data.toList), .ints (((Cn.midW (Cn.splitI 32 (bytesI s))).take i).map Cn.numN)], .bool true]) (by kernel_rfl) (congrArg AV.tup (consE (congrArg AV.agg (consE (congrArg AV.int (show (Lib.index (⟨#[32, 111, 108, 100]⟩ : ByteArray).data.toList ((Cn.wsS s).getD 0 ByteArray.empty).data.toList) = (Cn.lnK (bytesI s)) from (by first | exact hK | exact Cn.ln_head hH | exact Cn.lnOk_head hH | exact Cn.ln_stop hH (by omega) hok hq | exact Cn.lnOk_stop (by omega) hok hq | exact Cn.ln_all hH (by omega) hok | exact Cn.lnOk_all hH (by omega) hok | done))) (consE (congrArg AV.ints (show (((Cn.midW (Cn.splitI 32 (bytesI s))).take i).map Cn.numN) = (Cn.lnL (bytesI s)) from (by first | exact hK | exact Cn.ln_head hH | exact Cn.lnOk_head hH | exact Cn.ln_stop hH (by omega) hok hq | exact Cn.lnOk_stop (by omega) hok hq | exact Cn.ln_all hH (by omega) hok | exact Cn.lnOk_all hH (by omega) hok | done))) rfl))) (consE (congrArg AV.bool (show true = (Cn.lnOk (bytesI s)) from (by first | exact hK | exact Cn.ln_head hH | exact Cn.lnOk_head hH | exact Cn.ln_stop hH (by omega) hok hq | exact Cn.lnOk_stop (by omega) hok hq | exact Cn.ln_all hH (by omega) hok | exact Cn.lnOk_all hH (by omega) hok | done))) rfl))) [] rfl
 ·
  cases hσ
def cx_pGet : Cx := ⟨tyTxt, [(58, pLine_σ), (57, sCut)], true⟩
theorem cx_pGet_ok : CxOk Tryz.prog cx_pGet := cx_ok tyTxt_ok ⟨pLine_sound, sCut_sound, trivial⟩
def pGet_σ : CtF
  | [.im (.ls (.bytes b))], [] => some (b.length ≤ 1000000 ∧ Cn.isBytes b, .tup [.lines ((Cn.getV24 b).1), .int ((Cn.getV24 b).2)], [])
  | _, _ => none
theorem pGet_sound : Sound Tryz.prog 21 pGet_σ := by
 refine sound_mk (cx := cx_pGet) (fn := Tryz.f21) Tryz.func21 (by kernel_rfl) rfl ?_
 intro w0 G0 args os p r outs hσ hp hm0 hd0
 have hcx : CxOk Tryz.prog cx_pGet := cx_pGet_ok
 unfold pGet_σ at hσ
 split at hσ
 ·
  rename_i b
  simp only [Option.some.injEq, Prod.mk.injEq] at hσ
  obtain ⟨rfl, rfl, rfl⟩ := hσ
  obtain ⟨wW, wO, wm, wβ, wd⟩ := w0
  replace hm0 : wm = 0 := hm0
  subst hm0
  replace hd0 : wd = [] := hd0
  subst hd0
  refine ⟨by kernel_rfl, ?_⟩
  change Tri ⟨_, _, _, _, _, _⟩ [(0, .bytes b)] [] _ _
  obtain ⟨hm1, hm2⟩ := hp
  refine tri_seq ?_
  refine tri_regD hcx [] [] [0] [] [] [] [] (by kernel_rfl) ?_ ?_
  ·
   exact az
  refine fin_then ?_
  refine tri_seq ?_
  refine tri_seq ?_
  refine tri_regD hcx [] [12] [0] [] [] [(12, .bool (decide ((b.length : Int) > 4194304)))] [] (by kernel_rfl) ?_ ?_
  ·
   exact az
  refine fin_then ?_
  refine tri_cond (b := (decide ((b.length : Int) > 4194304))) (by kernel_rfl) (fun hb0 => ?_) (fun hb0 => ?_)
  ·
   skip
   have h0 := of_decide_eq_true hb0
   omega
  ·
   skip
   have h0 := of_decide_eq_false hb0
   refine tri_skip ?_
   refine fin_then ?_
   refine tri_seq ?_
   refine tri_regD hcx [] [4] [0] [] [] [(4, .im (.val (.slice none 0 0)))] [] (by kernel_rfl) ?_ ?_
   ·
    exact az
   refine fin_then ?_
   refine tri_seq ?_
   refine tri_block ?_
   refine tri_row 4 700 43 (.lines []) (by kernel_rfl) (by kernel_rfl) (by kernel_rfl) (by kernel_rfl) (E' := [(4, .row 700), (0, .bytes b)]) (by kernel_rfl) ?_
   refine tri_loop (X := List Int × List (Int × List Int)) (fun x0 => x0.1.length + x0.2.length ≤ b.length ∧ Cn.isBytes x0.1 ∧ Cn.getI b x0.2 x0.1) (fun x0 => [(0, .bytes x0.1), (4, .row 700)]) (fun x0 => [(700, .row 43 (.lines x0.2))]) (fun x0 => x0.1.length) (b, ([] : List (Int × List Int))) ?_ ?_ ?_ ?_
   ·
    show b.length + ([] : List (Int × List Int)).length ≤ b.length ∧ Cn.isBytes b ∧ Cn.getI b ([] : List (Int × List Int)) b
    exact ⟨Nat.le_refl _, hm2, Cn.getI_0 b⟩
   ·
    exact subE_mk (l := [.bytes b, .row 700]) (m := [.bytes b, .row 700]) (by kernel_rfl) (by kernel_rfl) rfl
   ·
    exact Eq.trans (show _ = [(700, .row 43 (.lines []))] from by kernel_rfl) (consH (congrArg (fun x => ((700 : Nat), x)) (congrArg (fun x => AObj.row 43 (.lines x)) (show [] = ([] : List (Int × List Int)) from (by rfl)))) rfl)
   ·
    intro ⟨r, o⟩ hI
    replace hI : r.length + o.length ≤ b.length ∧ Cn.isBytes r ∧ Cn.getI b o r := hI
    change Tri _ [(0, .bytes r), (4, .row 700)] [(700, .row 43 (.lines o))] _ _
    obtain ⟨hl, hb, hG⟩ := hI
    refine tri_seq ?_
    refine tri_seq ?_
    refine tri_regD hcx [] [15] [0, 4] [700] [] [(15, .bool (decide ((r.length : Int) > 0)))] [] (by kernel_rfl) ?_ ?_
    ·
     exact az
    refine fin_then ?_
    refine tri_cond (b := (decide ((r.length : Int) > 0))) (by kernel_rfl) (fun hb1 => ?_) (fun hb1 => ?_)
    ·
     skip
     have h1 := of_decide_eq_true hb1
     have h15 := h1
     obtain ⟨hc1, hc2, hc3⟩ := Cn.cut_le r
     have hcb := Cn.cut_bytes hb
     have hsz := Cn.str_size (Cn.cutN r).1
     have hbi : (bytesI (strOfNums (Cn.cutN r).1)) = (Cn.cutN r).1 := Cn.bytesI_str hcb.1
     refine tri_skip ?_
     refine fin_then ?_
     refine tri_block ?_
     refine tri_seq ?_
     refine tri_regD hcx [] [5, 6, 7] [4] [700] [(0 < r.length ∧ r.length ≤ 1000000 ∧ Cn.isBytes r ∧ [10] = [(10 : Int)])] [(5, .bytes ((Cn.cutN r).1)), (6, .bytes ((Cn.cutN r).2.1)), (7, .bool ((Cn.cutN r).2.2))] [] (by kernel_rfl) ?_ ?_
     ·
      refine (ap ?_ az)
      exact ⟨by omega, by omega, hb, rfl⟩
     refine fin_then ?_
     refine tri_seq ?_
     refine tri_regD hcx [(1006, .to 608)] [8, 9] [6, 7, 4] [700] [((strOfNums ((Cn.cutN r).1)).size ≤ 1000000)] [(8, .loc 608 0), (9, .bool (Cn.lnOk (bytesI (strOfNums ((Cn.cutN r).1)))))] [(608, .box [.int (Cn.lnK (bytesI (strOfNums ((Cn.cutN r).1)))), .ints (Cn.lnL (bytesI (strOfNums ((Cn.cutN r).1))))])] (by kernel_rfl) ?_ ?_
     ·
      refine (ap ?_ az)
      omega
     refine fin_then ?_
     refine tri_seq ?_
     refine tri_seq ?_
     refine tri_regD hcx [] [34] [8, 6, 4] [608, 700] [((!(!((Cn.cutN r).2.2))) = true → ((!(!((Cn.cutN r).2.2))) = true)), ((!((Cn.cutN r).2.2)) = false → (!(!((Cn.cutN r).2.2))) = true)] [(34, .bool ((!((Cn.cutN r).2.2)) || (!(Cn.lnOk (bytesI (strOfNums ((Cn.cutN r).1)))))))] [] (by kernel_rfl) ?_ ?_
     ·
      refine (ap ?_ (ap (by exact vcNot) az))
      exact id
     refine fin_then ?_
     refine tri_cond (b := ((!((Cn.cutN r).2.2)) || (!(Cn.lnOk (bytesI (strOfNums ((Cn.cutN r).1))))))) (by kernel_rfl) (fun hb2 => ?_) (fun hb2 => ?_)
     ·
      skip
      have h2 := hb2
      have h34 := Cn.cg_no h2
      rw [hbi] at h34
      have hg := Cn.getI_no hG (by omega) h34
      refine tri_seq ?_
      refine tri_regD hcx [] [2, 3] [] [] [] [(2, .im (.val (.slice none 0 0))), (3, .int 11)] [] (by kernel_rfl) ?_ ?_
      ·
       exact az
      refine fin_then ?_
      refine tri_ret ?_
      refine fin_then_ret ?_
      refine fin_block_ret ?_
      refine fin_then_ret ?_
      refine fin_block_ret ?_
      refine fin_then_ret ?_
      refine fin_nil 2 (.lines []) (by kernel_rfl) (E' := [(2, .lines []), (3, .int 11)]) (by kernel_rfl) ?_
      exact fin_ret [] rfl rfl trivial hcx (avs := [.lines [], .int 11]) (by kernel_rfl) (congrArg AV.tup (consE (congrArg AV.lines (show [] = (Cn.getV24 b).1 from (by first | (rw [hg]; done) | (rw [hge]; done) | done))) (consE (congrArg AV.int (show 11 = (Cn.getV24 b).2 from (by first | (rw [hg]; done) | (rw [hge]; done) | done))) rfl))) [] rfl
     ·
      skip
      have h2 := hb2
      have h34 := Cn.cg_yes h2
      rw [hbi] at h34
      have hlt := (Cn.cut_lt (Cn.cg_1 h34)).1
      refine tri_skip ?_
      refine fin_then ?_
      refine tri_regD hcx [(1003, .to 700)] [0, 4] [] [] [((o.length + [((Cn.lnK (bytesI (strOfNums ((Cn.cutN r).1)))), (Cn.lnL (bytesI (strOfNums ((Cn.cutN r).1)))))].length) * 32 ≤ 140737488355328)] [(0, .bytes ((Cn.cutN r).2.1)), (4, .row 700)] [(700, .row 43 (.lines (o ++ [((Cn.lnK (bytesI (strOfNums ((Cn.cutN r).1)))), (Cn.lnL (bytesI (strOfNums ((Cn.cutN r).1)))))])))] (by kernel_rfl) ?_ ?_
      ·
       refine (ap ?_ az)
       (simp only [List.length_cons, List.length_nil, List.length_append, List.length_map, List.length_set, List.length_replicate]; omega)
      refine fin_block ?_
      refine fin_round ((Cn.cutN r).2.1, (o ++ [(Cn.lnK (bytesI (strOfNums (Cn.cutN r).1)), Cn.lnL (bytesI (strOfNums (Cn.cutN r).1)))])) ?_ ?_ ?_ ?_
      ·
       show ((Cn.cutN r).2.1).length + (o ++ [(Cn.lnK (bytesI (strOfNums (Cn.cutN r).1)), Cn.lnL (bytesI (strOfNums (Cn.cutN r).1)))]).length ≤ b.length ∧ Cn.isBytes ((Cn.cutN r).2.1) ∧ Cn.getI b (o ++ [(Cn.lnK (bytesI (strOfNums (Cn.cutN r).1)), Cn.lnL (bytesI (strOfNums (Cn.cutN r).1)))]) ((Cn.cutN r).2.1)
       exact ⟨by simp only [List.length_append, List.length_cons, List.length_nil]; omega, hcb.2, by rw [hbi]; exact Cn.getI_next hG (by omega) h34⟩
      ·
       show ((Cn.cutN r).2.1).length < r.length
       omega
      ·
       exact subE_mk (l := [.bytes ((Cn.cutN r).2.1), .row 700]) (m := [.bytes ((Cn.cutN r).2.1), .row 700]) (by kernel_rfl) (by kernel_rfl) rfl
      ·
       exact Eq.trans (show _ = [(700, .row 43 (.lines (o ++ [((Cn.lnK (bytesI (strOfNums ((Cn.cutN r).1)))), (Cn.lnL (bytesI (strOfNums ((Cn.cutN r).1)))))])))] from by kernel_rfl) (consH (congrArg (fun x => ((700 : Nat), x)) (congrArg (fun x => AObj.row 43 (.lines x)) (show (o ++ [((Cn.lnK (bytesI (strOfNums ((Cn.cutN r).1)))), (Cn.lnL (bytesI (strOfNums ((Cn.cutN r).1)))))]) = (o ++ [(Cn.lnK (bytesI (strOfNums (Cn.cutN r).1)), Cn.lnL (bytesI (strOfNums (Cn.cutN r).1)))]) from (by rfl)))) rfl)
    ·
     skip
     have h1 := of_decide_eq_false hb1
     have h15 := h1
     have hge := Cn.getI_end hG (by omega)
     refine tri_exit ?_
     refine fin_then_exit ?_
     refine fin_then_exit ?_
     refine fin_block_same ?_
     refine fin_then ?_
     refine tri_seq ?_
     refine tri_seq ?_
     refine tri_regD hcx [] [42] [4] [700] [] [(42, .bool (decide ((o.length : Int) > 65536)))] [] (by kernel_rfl) ?_ ?_
     ·
      exact az
     refine fin_then ?_
     refine tri_cond (b := (decide ((o.length : Int) > 65536))) (by kernel_rfl) (fun hb3 => ?_) (fun hb3 => ?_)
     ·
      skip
      have h3 := of_decide_eq_true hb3
      rw [if_pos (by omega)] at hge
      refine tri_seq ?_
      refine tri_regD hcx [] [2, 3] [] [] [] [(2, .im (.val (.slice none 0 0))), (3, .int 2)] [] (by kernel_rfl) ?_ ?_
      ·
       exact az
      refine fin_then ?_
      refine tri_ret ?_
      refine fin_then_ret ?_
      refine fin_nil 2 (.lines []) (by kernel_rfl) (E' := [(2, .lines []), (3, .int 2)]) (by kernel_rfl) ?_
      exact fin_ret [] rfl rfl trivial hcx (avs := [.lines [], .int 2]) (by kernel_rfl) (congrArg AV.tup (consE (congrArg AV.lines (show [] = (Cn.getV24 b).1 from (by first | (rw [hg]; done) | (rw [hge]; done) | done))) (consE (congrArg AV.int (show 2 = (Cn.getV24 b).2 from (by first | (rw [hg]; done) | (rw [hge]; done) | done))) rfl))) [] rfl
     ·
      skip
      have h3 := of_decide_eq_false hb3
      rw [if_neg (by omega)] at hge
      refine tri_skip ?_
      refine fin_then ?_
      refine tri_seq ?_
      refine tri_ren (ρ := [(700, .frz)]) (keys := [42, 4]) (E' := [(42, .bool (decide ((o.length : Int) > 65536))), (4, .lines o)]) (H' := []) (by kernel_rfl) ?_
      refine tri_regD hcx [] [2, 3] [] [] [] [(2, .lines o), (3, .int 0)] [] (by kernel_rfl) ?_ ?_
      ·
       exact az
      refine fin_then ?_
      refine tri_ret ?_
      exact fin_ret [] rfl rfl trivial hcx (avs := [.lines o, .int 0]) (by kernel_rfl) (congrArg AV.tup (consE (congrArg AV.lines (show o = (Cn.getV24 b).1 from (by first | (rw [hg]; done) | (rw [hge]; done) | done))) (consE (congrArg AV.int (show 0 = (Cn.getV24 b).2 from (by first | (rw [hg]; done) | (rw [hge]; done) | done))) rfl))) [] rfl
 ·
  cases hσ
end Go.Proofs.YtbpbndlgfiammaaGreatDoor.En
