/- Lemmas and contracts for the row. -/
import Derived.Test.YtbpbndlgfiammaaGreatDoorPkRowProofResolvedC
import Derived.Test.YtbpbndlgfiammaaGreatDoorPkRowProofResolvedE
import Derived.Test.YtbpbndlgfiammaaGreatDoorPkRowProofResolvedD
import Derived.Test.YtbpbndlgfiammaaGreatDoorProg
import Derived.Test.YtbpbndlgfiammaaGreatDoorPkRowProofResolvedA
import Derived.Lib.Hide
import Derived.Deep.QuietTactic
import Derived.BigQuiet
import Derived.Sort.Grow
import Derived.Shelf.SlicesE.DeleteFunc
import Derived.Shelf.SlSortCmp.NoneTotal
import Derived.Shelf.SlicesG.CompactI
import Derived.Shelf.Spec.SlicesGrow
import Derived.Ground.SlgfProg
import Derived.Ground.SlsfProg
import Derived.Ground.SlgnProg
import Derived.Ground.Names8Prog
import Derived.Lib.RowBridge
import Derived.Shelf.SlIter.Collect
set_option linter.unusedVariables false
set_option linter.unusedSimpArgs false
set_option linter.unnecessarySimpa false
namespace Go.Proofs.YtbpbndlgfiammaaGreatDoor.En
open Go Go.RowKit
def tyTxt : List (Nat × TD) := [(2, ⟨1, false, [.int .i64 0], [], none, 8, false, 1, 1⟩),
  (3, ⟨1, false, [.int .i64 0], [], none, 8, false, 1, 1⟩),
  (5, ⟨1, false, [.int .u8 0], [], none, 1, false, 2, 8⟩),
  (9, ⟨1, false, [.string ⟨#[]⟩], [], none, 16, false, 9, 9⟩),
  (23, ⟨1, false, [.slice none 0 0], [], some 3, 24, false, 0, 3⟩),
  (29, ⟨1, false, [.slice none 0 0], [], some 43, 24, false, 0, 0⟩),
  (31, ⟨1, false, [.int .i64 0], [], none, 8, false, 1, 1⟩),
  (34, ⟨1, false, [.slice none 0 0], [], some 5, 24, false, 0, 0⟩),
  (43, ⟨2, true, [.int .i64 0, .slice none 0 0], [(0, 3), (1, 23)], none, 32, false, 0, 7⟩),
  (105, ⟨1, false, [.slice none 0 0], [], some 9, 24, false, 0, 0⟩),
  (109, ⟨1, false, [.nilIface], [], none, 16, false, 11, 0⟩)]
theorem tyTxt_ok : AllTy Tryz.prog tyTxt := ⟨⟨by kernel_rfl, by kernel_rfl, by kernel_rfl⟩, ⟨by kernel_rfl, by kernel_rfl, by kernel_rfl⟩, ⟨by kernel_rfl, by kernel_rfl, by kernel_rfl⟩, ⟨by kernel_rfl, by kernel_rfl, by kernel_rfl⟩, ⟨by kernel_rfl, by kernel_rfl, by kernel_rfl⟩, ⟨by kernel_rfl, by kernel_rfl, by kernel_rfl⟩, ⟨by kernel_rfl, by kernel_rfl, by kernel_rfl⟩, ⟨by kernel_rfl, by kernel_rfl, by kernel_rfl⟩, ⟨by kernel_rfl, by kernel_rfl, by kernel_rfl⟩, ⟨by kernel_rfl, by kernel_rfl, by kernel_rfl⟩, ⟨by kernel_rfl, by kernel_rfl, by kernel_rfl⟩, trivial⟩
def cx_sAppInt : Cx := ⟨tyTxt, [(84, sAppI)], true⟩
theorem cx_sAppInt_ok : CxOk Tryz.prog cx_sAppInt := cx_ok tyTxt_ok ⟨sAppI_sound, trivial⟩
def sAppInt_σ : CtF
  | [.row 0, .im (.val (.int .i64 i)), .im (.val (.int .i64 b))], [.row 5 (.bytes xs)] => some (Fit i ∧ b = 10 ∧ xs.length + 21 ≤ 1000000000000, .row 1, [none, some (.row 5 (.bytes (xs ++ Cn.itoaI i)))])
  | _, _ => none
theorem sAppInt_sound : Sound Tryz.prog 55 sAppInt_σ := by
 refine Sw (cx := cx_sAppInt) Tryz.f55 Tryz.func55 ?_
 intro wW wO wβ G0 args os p r outs hσ hp
 have hcx := cx_sAppInt_ok
 unfold sAppInt_σ at hσ
 split at hσ
 ·
  rename_i i b xs
  cases hσ
  refine ⟨by kernel_rfl, ?_⟩
  refine Sz hcx [] [] [] [] (Sq hcx [(1003, .to 210)] [6] [0, 1, 2] [0] [(Fit i ∧ b = 10 ∧ xs.length + 21 ≤ 1000000000000)] ?_ (Zr (Fn [(210, .to 1)] [6] (Ru hcx [false, true]))))
  ·
   refine ap ?_ az
   first | exact hp | done
 ·
  cases hσ
def cx_pPut : Cx := ⟨tyTxt, [(55, sAppInt_σ), (43, pFormed_σ)], true⟩
theorem cx_pPut_ok : CxOk Tryz.prog cx_pPut := cx_ok tyTxt_ok ⟨sAppInt_sound, pFormed_sound, trivial⟩
def pPut_σ : CtF
  | [.im (.ls (.lines p))], [] => some (Cn.szP p ≤ 1000000000, .tup [.bytes (Cn.putV p), .int (Cn.frmV p)], [])
  | _, _ => none
theorem pPut_sound : Sound Tryz.prog 19 pPut_σ := by
 refine Sw (cx := cx_pPut) Tryz.f19 Tryz.func19 ?_
 intro wW wO wβ G0 args os p r outs hσ hp
 have hcx := cx_pPut_ok
 unfold pPut_σ at hσ
 split at hσ
 ·
  rename_i p
  cases hσ
  refine ⟨by kernel_rfl, ?_⟩
  have hm1 := hp
  have hpl := Cn.len_szP p
  have hml := fun x (hx : x ∈ p) => Cn.mem_szP hx
  have hfr := Cn.put_frm hm1
  refine Sz hcx [] [] [] [] (Zs (Sq hcx [] [4] [] [] [(p.length ≤ maxLen ∧ ∀ x ∈ p, x.2.length ≤ maxLen)] ?_ (Sz hcx [] [13] [] [] (Zx (a := (Cn.frmV p)) (b := 0) (fun h0 => ?_) fun h0 => ?_))))
  ·
   refine ap ?_ az
   first | omega | exact id | exact vcNot | exact vcG | exact vcH | (intro _; omega) | exact (fun _ h => h) | (intro h; simp at h; omega) | (simp only [List.length_cons, List.length_nil, List.length_append, List.length_map, List.length_set, List.length_replicate]; omega) | (intro h; simp [h]; done) | (constructor <;> omega) | exact hfr | exact Cn.let_in (hq2 _ (hxm (by omega))) | (have h8 := hlit (by omega); exact ⟨⟨by omega, by omega⟩, rfl, by simp only [List.length_append, List.length_cons, List.length_nil]; omega⟩) | (have h9 : (⟨#[32, 48, 10]⟩ : ByteArray).size = 3 := rfl; rw [h9]; simp only [List.length_append, List.length_cons, List.length_nil]; omega) | done
  ·
   have hne : ¬ Cn.frmV p = 0 := by simpa using h0
   exact Sz hcx [] [2, 3] [13, 4, 0] [] (Zr (Fr (Fp 2 (.bytes []) (Rv hcx (congrArg AV.tup (consE (congrArg AV.bytes (show [] = (Cn.putV p) from (by first | exact Cn.putV_yes he (by omega) | exact Cn.putV_no hne | exact he.symm | rfl | done))) rfl)) [] rfl))))
  ·
   have he : Cn.frmV p = 0 := by simpa using h0
   obtain ⟨hq1, hq2, hq3⟩ := Cn.frm_lits he
   have hbd := fun i => Cn.put_le hq3 i
   refine Zk (Ft (Sz hcx [] [5] [13, 4] [] (Zs (Sz hcx [] [15, 16, 17] [0] [] (Zb (Zw 5 700 5 (.bytes []) (Lp (X := Nat) (fun x0 => x0 ≤ p.length) (fun x0 => ([(5, .row 700), (15, .lines p), (16, .int (p.length : Int)), (17, .int (x0 : Int))], [(700, .row 5 (.bytes (Cn.putP (p.take x0))))])) (fun x0 => p.length - x0) (0) ?_ (Ex 17 (congrArg AV.int (show 0 = (0 : Int) from (by first | rfl | omega | (simp; done)))) Eb) Hb fun i hI => ?_)))))))
   ·
    show 0 ≤ p.length
    omega
   ·
    replace hI : i ≤ p.length := hI
    have hbi := fun (hi : i < p.length) (k : Nat) => Cn.put_in24 hq3 hi k
    have hbj := hbd i
    have hxm := fun (hi : i < p.length) => Cn.getD_memL (d := (0, [])) hi
    refine Sz hcx [] [18] [] [] (Zs (Zj (p := ((i : Int) < (p.length : Int))) (fun h1 => ?_) fun h1 => ?_))
    ·
     refine Zk (Ft (Zs (Zb (Sq hcx [(1002, .to 607)] [7] [18] [] [((0 : Int) ≤ (i : Int) ∧ (i : Int) < (p.length : Int))] ?_ (Sq hcx [(1005, .to 700)] [5] [] [700] [((0 : Int) ≤ (p.getD i (0, [])).1 ∧ (p.getD i (0, [])).1 < ((⟨#[32, 111, 108, 100]⟩ : ByteArray).size : Int)), (((Cn.putP (p.take i)).length + [((bytesI (⟨#[32, 111, 108, 100]⟩ : ByteArray)).getD (((p.getD i (0, [])).1).toNat) 0)].length) * 1 ≤ 140737488355328)] ?_ (Zs (Sz hcx [] [28, 29, 30] [7] [607] (Zb (Zn [(700, .to 701)] [5, 15, 16, 17, 28, 29, 30] (Lp (X := Nat) (fun x0 => x0 ≤ (p.getD i (0, [])).2.length) (fun x0 => ([(5, .row 701), (15, .lines p), (16, .int (p.length : Int)), (17, .int (i : Int)), (28, .ints ((p.getD i (0, [])).2)), (29, .int (((p.getD i (0, [])).2).length : Int)), (30, .int (x0 : Int))], [(701, .row 5 (.bytes ((Cn.putP (p.take i) ++ [Cn.letW (p.getD i (0, [])).1]) ++ Cn.litsW ((p.getD i (0, [])).2.take x0))))])) (fun x0 => (p.getD i (0, [])).2.length - x0) (0) ?_ (Ex 30 (congrArg AV.int (show 0 = (0 : Int) from (by first | rfl | omega | (simp; done)))) Eb) (Hx 701 (congrArg (fun x => AObj.row 5 (.bytes x)) (show ((Cn.putP (p.take i)) ++ [((bytesI (⟨#[32, 111, 108, 100]⟩ : ByteArray)).getD (((p.getD i (0, [])).1).toNat) 0)]) = ((Cn.putP (p.take i) ++ [Cn.letW (p.getD i (0, [])).1]) ++ Cn.litsW ((p.getD i (0, [])).2.take 0)) from (by (exact (List.append_nil _).symm)))) Hb) fun k hI => ?_))))))))))
     ·
      refine ap ?_ az
      first | omega | exact id | exact vcNot | exact vcG | exact vcH | (intro _; omega) | exact (fun _ h => h) | (intro h; simp at h; omega) | (simp only [List.length_cons, List.length_nil, List.length_append, List.length_map, List.length_set, List.length_replicate]; omega) | (intro h; simp [h]; done) | (constructor <;> omega) | exact hfr | exact Cn.let_in (hq2 _ (hxm (by omega))) | (have h8 := hlit (by omega); exact ⟨⟨by omega, by omega⟩, rfl, by simp only [List.length_append, List.length_cons, List.length_nil]; omega⟩) | (have h9 : (⟨#[32, 48, 10]⟩ : ByteArray).size = 3 := rfl; rw [h9]; simp only [List.length_append, List.length_cons, List.length_nil]; omega) | done
     ·
      refine ap ?_ (ap ?_ az) <;>
       first | omega | exact id | exact vcNot | exact vcG | exact vcH | (intro _; omega) | exact (fun _ h => h) | (intro h; simp at h; omega) | (simp only [List.length_cons, List.length_nil, List.length_append, List.length_map, List.length_set, List.length_replicate]; omega) | (intro h; simp [h]; done) | (constructor <;> omega) | exact hfr | exact Cn.let_in (hq2 _ (hxm (by omega))) | (have h8 := hlit (by omega); exact ⟨⟨by omega, by omega⟩, rfl, by simp only [List.length_append, List.length_cons, List.length_nil]; omega⟩) | (have h9 : (⟨#[32, 48, 10]⟩ : ByteArray).size = 3 := rfl; rw [h9]; simp only [List.length_append, List.length_cons, List.length_nil]; omega) | done
     ·
      show 0 ≤ (p.getD i (0, [])).2.length
      omega
     ·
      try dsimp only at hI
      have hk2 := hbi (by omega) k
      have hxl := hml _ (hxm (by omega))
      have hlit := fun (hk : k < (p.getD i (0, [])).2.length) => hq3 _ (hxm (by omega)) _ (Cn.getD_memI hk)
      refine Sz hcx [] [31] [] [] (Zs (Zj (p := ((k : Int) < (((p.getD i (0, [])).2).length : Int))) (fun h2 => ?_) fun h2 => ?_))
      ·
       refine Zk (Ft (Zs (Zb (Sq hcx [] [9] [31] [] [((0 : Int) ≤ (k : Int) ∧ (k : Int) < (((p.getD i (0, [])).2).length : Int))] ?_ (Tq hcx [(1004, .to 701)] [5] [9] [701] [((((Cn.putP (p.take i) ++ [Cn.letW (p.getD i (0, [])).1]) ++ Cn.litsW ((p.getD i (0, [])).2.take k)).length + [32].length) * 1 ≤ 140737488355328), (Fit (((p.getD i (0, [])).2).getD k 0) ∧ (10 : Int) = 10 ∧ (((Cn.putP (p.take i) ++ [Cn.letW (p.getD i (0, [])).1]) ++ Cn.litsW ((p.getD i (0, [])).2.take k)) ++ [32]).length + 21 ≤ 1000000000000)] ?_ (Fb (Ft (Tq hcx [] [30] [] [] [Fit ((k : Int) + 1)] ?_ (Lr (k + 1) ?_ ?_ (Ex 30 (congrArg AV.int (show ((k : Int) + 1) = ((k + 1) : Int) from (by first | rfl | omega | (simp; done)))) Eb) (Hx 701 (congrArg (fun x => AObj.row 5 (.bytes x)) (show ((((Cn.putP (p.take i) ++ [Cn.letW (p.getD i (0, [])).1]) ++ Cn.litsW ((p.getD i (0, [])).2.take k)) ++ [32]) ++ Cn.itoaI (((p.getD i (0, [])).2).getD k 0)) = ((Cn.putP (p.take i) ++ [Cn.letW (p.getD i (0, [])).1]) ++ Cn.litsW ((p.getD i (0, [])).2.take (k + 1))) from (by exact Cn.litsW_next (by omega) _))) Hb))))))))))
       ·
        refine ap ?_ az
        first | omega | exact id | exact vcNot | exact vcG | exact vcH | (intro _; omega) | exact (fun _ h => h) | (intro h; simp at h; omega) | (simp only [List.length_cons, List.length_nil, List.length_append, List.length_map, List.length_set, List.length_replicate]; omega) | (intro h; simp [h]; done) | (constructor <;> omega) | exact hfr | exact Cn.let_in (hq2 _ (hxm (by omega))) | (have h8 := hlit (by omega); exact ⟨⟨by omega, by omega⟩, rfl, by simp only [List.length_append, List.length_cons, List.length_nil]; omega⟩) | (have h9 : (⟨#[32, 48, 10]⟩ : ByteArray).size = 3 := rfl; rw [h9]; simp only [List.length_append, List.length_cons, List.length_nil]; omega) | done
       ·
        refine ap ?_ (ap ?_ az) <;>
         first | omega | exact id | exact vcNot | exact vcG | exact vcH | (intro _; omega) | exact (fun _ h => h) | (intro h; simp at h; omega) | (simp only [List.length_cons, List.length_nil, List.length_append, List.length_map, List.length_set, List.length_replicate]; omega) | (intro h; simp [h]; done) | (constructor <;> omega) | exact hfr | exact Cn.let_in (hq2 _ (hxm (by omega))) | (have h8 := hlit (by omega); exact ⟨⟨by omega, by omega⟩, rfl, by simp only [List.length_append, List.length_cons, List.length_nil]; omega⟩) | (have h9 : (⟨#[32, 48, 10]⟩ : ByteArray).size = 3 := rfl; rw [h9]; simp only [List.length_append, List.length_cons, List.length_nil]; omega) | done
       ·
        refine ap ?_ az
        first | omega | exact id | exact vcNot | exact vcG | exact vcH | (intro _; omega) | exact (fun _ h => h) | (intro h; simp at h; omega) | (simp only [List.length_cons, List.length_nil, List.length_append, List.length_map, List.length_set, List.length_replicate]; omega) | (intro h; simp [h]; done) | (constructor <;> omega) | exact hfr | exact Cn.let_in (hq2 _ (hxm (by omega))) | (have h8 := hlit (by omega); exact ⟨⟨by omega, by omega⟩, rfl, by simp only [List.length_append, List.length_cons, List.length_nil]; omega⟩) | (have h9 : (⟨#[32, 48, 10]⟩ : ByteArray).size = 3 := rfl; rw [h9]; simp only [List.length_append, List.length_cons, List.length_nil]; omega) | done
       ·
        show (k + 1) ≤ (p.getD i (0, [])).2.length
        omega
       ·
        try dsimp only
        omega
      ·
       refine Ze (Fe (Fe (Fs (Ft (Tq hcx [(1001, .to 701)] [5] [31, 28, 29, 30] [701] [((((Cn.putP (p.take i) ++ [Cn.letW (p.getD i (0, [])).1]) ++ Cn.litsW ((p.getD i (0, [])).2.take k)).length + (⟨#[32, 48, 10]⟩ : ByteArray).size) * 1 ≤ 140737488355328)] ?_ (Fb (Ft (Tq hcx [] [17] [] [] [Fit ((i : Int) + 1)] ?_ (Fn [(701, .to 700)] [5, 15, 16, 17] (Lr (i + 1) ?_ ?_ (Ex 17 (congrArg AV.int (show ((i : Int) + 1) = ((i + 1) : Int) from (by first | rfl | omega | (simp; done)))) Eb) (Hx 700 (congrArg (fun x => AObj.row 5 (.bytes x)) (show (((Cn.putP (p.take i) ++ [Cn.letW (p.getD i (0, [])).1]) ++ Cn.litsW ((p.getD i (0, [])).2.take k)) ++ (bytesI (⟨#[32, 48, 10]⟩ : ByteArray))) = (Cn.putP (p.take (i + 1))) from (by exact Cn.putP_step (by omega) (by omega)))) Hb)))))))))))
       ·
        refine ap ?_ az
        first | omega | exact id | exact vcNot | exact vcG | exact vcH | (intro _; omega) | exact (fun _ h => h) | (intro h; simp at h; omega) | (simp only [List.length_cons, List.length_nil, List.length_append, List.length_map, List.length_set, List.length_replicate]; omega) | (intro h; simp [h]; done) | (constructor <;> omega) | exact hfr | exact Cn.let_in (hq2 _ (hxm (by omega))) | (have h8 := hlit (by omega); exact ⟨⟨by omega, by omega⟩, rfl, by simp only [List.length_append, List.length_cons, List.length_nil]; omega⟩) | (have h9 : (⟨#[32, 48, 10]⟩ : ByteArray).size = 3 := rfl; rw [h9]; simp only [List.length_append, List.length_cons, List.length_nil]; omega) | done
       ·
        refine ap ?_ az
        first | omega | exact id | exact vcNot | exact vcG | exact vcH | (intro _; omega) | exact (fun _ h => h) | (intro h; simp at h; omega) | (simp only [List.length_cons, List.length_nil, List.length_append, List.length_map, List.length_set, List.length_replicate]; omega) | (intro h; simp [h]; done) | (constructor <;> omega) | exact hfr | exact Cn.let_in (hq2 _ (hxm (by omega))) | (have h8 := hlit (by omega); exact ⟨⟨by omega, by omega⟩, rfl, by simp only [List.length_append, List.length_cons, List.length_nil]; omega⟩) | (have h9 : (⟨#[32, 48, 10]⟩ : ByteArray).size = 3 := rfl; rw [h9]; simp only [List.length_append, List.length_cons, List.length_nil]; omega) | done
       ·
        show (i + 1) ≤ p.length
        omega
       ·
        show p.length - (i + 1) < p.length - i
        omega
    ·
     exact Ze (Fe (Fe (Fs (Ft (Sz hcx [(700, .frz)] [2, 3] [18, 5, 15, 16, 17] [] (Zr (Rv hcx (congrArg AV.tup (consE (congrArg AV.bytes (show (Cn.putP (p.take i)) = (Cn.putV p) from (by first | exact Cn.putV_yes he (by omega) | exact Cn.putV_no hne | exact he.symm | rfl | done))) (consE (congrArg AV.int (show 0 = (Cn.frmV p) from (by first | exact Cn.putV_yes he (by omega) | exact Cn.putV_no hne | exact he.symm | rfl | done))) rfl))) [] rfl)))))))
 ·
  cases hσ
def cx_pLine : Cx := ⟨tyTxt, [(87, sSplit), (88, sIndexS), (89, sAtoi), (90, sItoa), (36, pLit_σ)], true⟩
theorem cx_pLine_ok : CxOk Tryz.prog cx_pLine := cx_ok tyTxt_ok ⟨sSplit_sound, sIndexS_sound, sAtoi_sound, sItoa_sound, pLit_sound, trivial⟩
def pLine_σ : CtF
  | [.im (.val (.string s))], [] => some (s.size ≤ 1000000, .tup [.agg [.int (Cn.lnK (bytesI s)), .ints (Cn.lnL (bytesI s))], .bool (Cn.lnOk (bytesI s))], [])
  | _, _ => none
theorem pLine_sound : Sound Tryz.prog 58 pLine_σ := by
 refine Sw (cx := cx_pLine) Tryz.f58 Tryz.func58 ?_
 intro wW wO wβ G0 args os p r outs hσ hp
 have hcx := cx_pLine_ok
 unfold pLine_σ at hσ
 split at hσ
 ·
  rename_i s
  cases hσ
  refine ⟨by kernel_rfl, ?_⟩
  have hm1 := hp
  have hK := Cn.lnK_is s
  obtain ⟨hl1, hl2, hl3⟩ := Cn.ws_facts s
  have hml := Cn.mid_lenS s
  refine Sz hcx [(1000, .to 602)] [2] [] [] (Sq hcx [(1001, .to 211)] [4] [0] [] [(s.size ≤ 1000000 ∧ (⟨#[32]⟩ : ByteArray) = ⟨#[32]⟩)] ?_ (Zs (Zn [(602, .to 602), (211, .frz)] [4, 2] (Tq hcx [] [5] [] [] [Fit (((Cn.wsS s).length : Int) - 1)] ?_ (Ft (Sq hcx [(602, .to 602)] [] [] [] [((0 : Int) ≤ 0 ∧ 0 < ((Cn.wsS s).length : Int)), ((⟨#[32, 111, 108, 100]⟩ : ByteArray).size ≤ 4294967280)] ?_ (Zs (Sq hcx [] [40] [] [] [((0 : Int) ≤ 0 ∧ 0 < ((Cn.wsS s).length : Int)), ((!((((Cn.wsS s).getD 0 ByteArray.empty).size : Int) != 1)) = true → ((!((((Cn.wsS s).getD 0 ByteArray.empty).size : Int) != 1)) = true)), ((!((((Cn.wsS s).getD 0 ByteArray.empty).size : Int) != 1)) = true → ((!((((Cn.wsS s).getD 0 ByteArray.empty).size : Int) != 1)) = true)), (((((Cn.wsS s).getD 0 ByteArray.empty).size : Int) != 1) = false → (!((((Cn.wsS s).getD 0 ByteArray.empty).size : Int) != 1)) = true), ((!(((((Cn.wsS s).getD 0 ByteArray.empty).size : Int) != 1) || (decide ((Lib.index (⟨#[32, 111, 108, 100]⟩ : ByteArray).data.toList ((Cn.wsS s).getD 0 ByteArray.empty).data.toList) < 1)))) = true → ((!(((((Cn.wsS s).getD 0 ByteArray.empty).size : Int) != 1) || (decide ((Lib.index (⟨#[32, 111, 108, 100]⟩ : ByteArray).data.toList ((Cn.wsS s).getD 0 ByteArray.empty).data.toList) < 1)))) = true)), ((((((Cn.wsS s).getD 0 ByteArray.empty).size : Int) != 1) || (decide ((Lib.index (⟨#[32, 111, 108, 100]⟩ : ByteArray).data.toList ((Cn.wsS s).getD 0 ByteArray.empty).data.toList) < 1))) = false → (!(((((Cn.wsS s).getD 0 ByteArray.empty).size : Int) != 1) || (decide ((Lib.index (⟨#[32, 111, 108, 100]⟩ : ByteArray).data.toList ((Cn.wsS s).getD 0 ByteArray.empty).data.toList) < 1)))) = true), ((!((((((Cn.wsS s).getD 0 ByteArray.empty).size : Int) != 1) || (decide ((Lib.index (⟨#[32, 111, 108, 100]⟩ : ByteArray).data.toList ((Cn.wsS s).getD 0 ByteArray.empty).data.toList) < 1))) || (decide ((((Cn.wsS s).length : Int) - 1) < 1)))) = true → ((!((((((Cn.wsS s).getD 0 ByteArray.empty).size : Int) != 1) || (decide ((Lib.index (⟨#[32, 111, 108, 100]⟩ : ByteArray).data.toList ((Cn.wsS s).getD 0 ByteArray.empty).data.toList) < 1))) || (decide ((((Cn.wsS s).length : Int) - 1) < 1)))) = true)), ((!((((((Cn.wsS s).getD 0 ByteArray.empty).size : Int) != 1) || (decide ((Lib.index (⟨#[32, 111, 108, 100]⟩ : ByteArray).data.toList ((Cn.wsS s).getD 0 ByteArray.empty).data.toList) < 1))) || (decide ((((Cn.wsS s).length : Int) - 1) < 1)))) = true → ((!((((((Cn.wsS s).getD 0 ByteArray.empty).size : Int) != 1) || (decide ((Lib.index (⟨#[32, 111, 108, 100]⟩ : ByteArray).data.toList ((Cn.wsS s).getD 0 ByteArray.empty).data.toList) < 1))) || (decide ((((Cn.wsS s).length : Int) - 1) < 1)))) = true)), ((!((((((Cn.wsS s).getD 0 ByteArray.empty).size : Int) != 1) || (decide ((Lib.index (⟨#[32, 111, 108, 100]⟩ : ByteArray).data.toList ((Cn.wsS s).getD 0 ByteArray.empty).data.toList) < 1))) || (decide ((((Cn.wsS s).length : Int) - 1) < 1)))) = true → ((0 : Int) ≤ (((Cn.wsS s).length : Int) - 1) ∧ (((Cn.wsS s).length : Int) - 1) < ((Cn.wsS s).length : Int))), ((!((((((Cn.wsS s).getD 0 ByteArray.empty).size : Int) != 1) || (decide ((Lib.index (⟨#[32, 111, 108, 100]⟩ : ByteArray).data.toList ((Cn.wsS s).getD 0 ByteArray.empty).data.toList) < 1))) || (decide ((((Cn.wsS s).length : Int) - 1) < 1)))) = true → ((!((((((Cn.wsS s).getD 0 ByteArray.empty).size : Int) != 1) || (decide ((Lib.index (⟨#[32, 111, 108, 100]⟩ : ByteArray).data.toList ((Cn.wsS s).getD 0 ByteArray.empty).data.toList) < 1))) || (decide ((((Cn.wsS s).length : Int) - 1) < 1)))) = true)), ((!((((((Cn.wsS s).getD 0 ByteArray.empty).size : Int) != 1) || (decide ((Lib.index (⟨#[32, 111, 108, 100]⟩ : ByteArray).data.toList ((Cn.wsS s).getD 0 ByteArray.empty).data.toList) < 1))) || (decide ((((Cn.wsS s).length : Int) - 1) < 1)))) = true → ((!((((((Cn.wsS s).getD 0 ByteArray.empty).size : Int) != 1) || (decide ((Lib.index (⟨#[32, 111, 108, 100]⟩ : ByteArray).data.toList ((Cn.wsS s).getD 0 ByteArray.empty).data.toList) < 1))) || (decide ((((Cn.wsS s).length : Int) - 1) < 1)))) = true)), (((((((Cn.wsS s).getD 0 ByteArray.empty).size : Int) != 1) || (decide ((Lib.index (⟨#[32, 111, 108, 100]⟩ : ByteArray).data.toList ((Cn.wsS s).getD 0 ByteArray.empty).data.toList) < 1))) || (decide ((((Cn.wsS s).length : Int) - 1) < 1))) = false → (!((((((Cn.wsS s).getD 0 ByteArray.empty).size : Int) != 1) || (decide ((Lib.index (⟨#[32, 111, 108, 100]⟩ : ByteArray).data.toList ((Cn.wsS s).getD 0 ByteArray.empty).data.toList) < 1))) || (decide ((((Cn.wsS s).length : Int) - 1) < 1)))) = true)] ?_ (Zi (b := ((((((Cn.wsS s).getD 0 ByteArray.empty).size : Int) != 1) || (decide ((Lib.index (⟨#[32, 111, 108, 100]⟩ : ByteArray).data.toList ((Cn.wsS s).getD 0 ByteArray.empty).data.toList) < 1))) || (decide ((((Cn.wsS s).length : Int) - 1) < 1))) || (!(((Cn.wsS s).getD ((((Cn.wsS s).length : Int) - 1).toNat) ByteArray.empty).toList == (⟨#[48]⟩ : ByteArray).toList))) (fun h0 => ?_) fun h0 => ?_)))))))))
  ·
   refine ap ?_ az
   first | omega | exact id | exact vcNot | exact vcG | exact vcH | (intro _; omega) | exact (fun _ h => h) | (intro h; simp at h; omega) | (simp only [List.length_cons, List.length_nil, List.length_append, List.length_map, List.length_set, List.length_replicate]; omega) | (intro h; simp [h]; done) | exact ⟨hm1, rfl⟩ | (constructor <;> omega) | exact (show (4 : Nat) ≤ _ by omega) | (intro h; exact Cn.ws_in h) | (have h8 := hl3 _ (Cn.getD_memS (d := ByteArray.empty) (by omega)); omega) | (have h8 := hwz (by omega); omega) | exact True.intro | (intro _; exact True.intro) | (intro h; exact Cn.fit_may h) | (rw [htk]; simp only [List.length_cons, List.length_nil]; omega) | exact ⟨by omega, by omega, by omega⟩ | done
  ·
   refine ap ?_ az
   first | omega | exact id | exact vcNot | exact vcG | exact vcH | (intro _; omega) | exact (fun _ h => h) | (intro h; simp at h; omega) | (simp only [List.length_cons, List.length_nil, List.length_append, List.length_map, List.length_set, List.length_replicate]; omega) | (intro h; simp [h]; done) | exact ⟨hm1, rfl⟩ | (constructor <;> omega) | exact (show (4 : Nat) ≤ _ by omega) | (intro h; exact Cn.ws_in h) | (have h8 := hl3 _ (Cn.getD_memS (d := ByteArray.empty) (by omega)); omega) | (have h8 := hwz (by omega); omega) | exact True.intro | (intro _; exact True.intro) | (intro h; exact Cn.fit_may h) | (rw [htk]; simp only [List.length_cons, List.length_nil]; omega) | exact ⟨by omega, by omega, by omega⟩ | done
  ·
   refine ap ?_ (ap ?_ az) <;>
    first | omega | exact id | exact vcNot | exact vcG | exact vcH | (intro _; omega) | exact (fun _ h => h) | (intro h; simp at h; omega) | (simp only [List.length_cons, List.length_nil, List.length_append, List.length_map, List.length_set, List.length_replicate]; omega) | (intro h; simp [h]; done) | exact ⟨hm1, rfl⟩ | (constructor <;> omega) | exact (show (4 : Nat) ≤ _ by omega) | (intro h; exact Cn.ws_in h) | (have h8 := hl3 _ (Cn.getD_memS (d := ByteArray.empty) (by omega)); omega) | (have h8 := hwz (by omega); omega) | exact True.intro | (intro _; exact True.intro) | (intro h; exact Cn.fit_may h) | (rw [htk]; simp only [List.length_cons, List.length_nil]; omega) | exact ⟨by omega, by omega, by omega⟩ | done
  ·
   refine ap ?_ (ap ?_ (ap ?_ (ap (by exact vcNot) (ap ?_ (ap (by exact vcNot) (ap ?_ (ap ?_ (ap ?_ (ap ?_ (ap ?_ (ap (by exact vcNot) az))))))))))) <;>
    first | omega | exact id | exact vcNot | exact vcG | exact vcH | (intro _; omega) | exact (fun _ h => h) | (intro h; simp at h; omega) | (simp only [List.length_cons, List.length_nil, List.length_append, List.length_map, List.length_set, List.length_replicate]; omega) | (intro h; simp [h]; done) | exact ⟨hm1, rfl⟩ | (constructor <;> omega) | exact (show (4 : Nat) ≤ _ by omega) | (intro h; exact Cn.ws_in h) | (have h8 := hl3 _ (Cn.getD_memS (d := ByteArray.empty) (by omega)); omega) | (have h8 := hwz (by omega); omega) | exact True.intro | (intro _; exact True.intro) | (intro h; exact Cn.fit_may h) | (rw [htk]; simp only [List.length_cons, List.length_nil]; omega) | exact ⟨by omega, by omega, by omega⟩ | done
  ·
   have hH := Cn.headS_no (Cn.head_is s) h0
   exact Sz hcx [(602, .to 602)] [3] [40, 5, 4] [] (Zr (Fr (Fv 602 1 700 0 (.ints []) (Fn [(602, .to 990), (700, .frz)] [2, 3] (Rv hcx (congrArg AV.tup (consE (congrArg AV.agg (consE (congrArg AV.int (show (Lib.index (⟨#[32, 111, 108, 100]⟩ : ByteArray).data.toList ((Cn.wsS s).getD 0 ByteArray.empty).data.toList) = (Cn.lnK (bytesI s)) from (by first | exact hK | exact Cn.ln_head hH | exact Cn.lnOk_head hH | exact Cn.ln_stop hH (by omega) hok hq | exact Cn.lnOk_stop (by omega) hok hq | exact Cn.ln_all hH (by omega) hok | exact Cn.lnOk_all hH (by omega) hok | done))) (consE (congrArg AV.ints (show [] = (Cn.lnL (bytesI s)) from (by first | exact hK | exact Cn.ln_head hH | exact Cn.lnOk_head hH | exact Cn.ln_stop hH (by omega) hok hq | exact Cn.lnOk_stop (by omega) hok hq | exact Cn.ln_all hH (by omega) hok | exact Cn.lnOk_all hH (by omega) hok | done))) rfl))) (consE (congrArg AV.bool (show false = (Cn.lnOk (bytesI s)) from (by first | exact hK | exact Cn.ln_head hH | exact Cn.lnOk_head hH | exact Cn.ln_stop hH (by omega) hok hq | exact Cn.lnOk_stop (by omega) hok hq | exact Cn.ln_all hH (by omega) hok | exact Cn.lnOk_all hH (by omega) hok | done))) rfl))) [] rfl)))))
  ·
   have hH := Cn.headS_yes (Cn.head_is s) h0
   have hH2 := Cn.headS_two hH
   refine Zk (Ft (Zs (Zs (Zv 602 1 701 3 (.ints []) (Tq hcx [] [44, 45, 46] [40, 5, 4] [] [((0 : Int) ≤ 1 ∧ 1 ≤ (((Cn.wsS s).length : Int) - 1) ∧ (((Cn.wsS s).length : Int) - 1) ≤ ((Cn.wsS s).length : Int))] ?_ (Ft (Zb (Zn [(602, .to 602), (701, .to 701)] [2, 44, 45, 46] (Lp (X := Nat) (fun x0 => x0 ≤ (Cn.mdS s).length ∧ ∀ j, j < x0 → Cn.litW ((Cn.midW (Cn.splitI 32 (bytesI s))).getD j []) = true) (fun x0 => ([(2, .loc 602 0), (44, .strs (Cn.mdS s)), (45, .int ((Cn.mdS s).length : Int)), (46, .int (x0 : Int))], [(602, .box [.int (Lib.index (⟨#[32, 111, 108, 100]⟩ : ByteArray).data.toList ((Cn.wsS s).getD 0 ByteArray.empty).data.toList), .row 701]), (701, .row 3 (.ints (((Cn.midW (Cn.splitI 32 (bytesI s))).take x0).map Cn.numN)))])) (fun x0 => (Cn.mdS s).length - x0) (0) ?_ (Ex 46 (congrArg AV.int (show 0 = (0 : Int) from (by first | rfl | omega | (simp; done)))) Eb) Hb fun i hI => ?_)))))))))
   ·
    refine ap ?_ az
    first | omega | exact id | exact vcNot | exact vcG | exact vcH | (intro _; omega) | exact (fun _ h => h) | (intro h; simp at h; omega) | (simp only [List.length_cons, List.length_nil, List.length_append, List.length_map, List.length_set, List.length_replicate]; omega) | (intro h; simp [h]; done) | exact ⟨hm1, rfl⟩ | (constructor <;> omega) | exact (show (4 : Nat) ≤ _ by omega) | (intro h; exact Cn.ws_in h) | (have h8 := hl3 _ (Cn.getD_memS (d := ByteArray.empty) (by omega)); omega) | (have h8 := hwz (by omega); omega) | exact True.intro | (intro _; exact True.intro) | (intro h; exact Cn.fit_may h) | (rw [htk]; simp only [List.length_cons, List.length_nil]; omega) | exact ⟨by omega, by omega, by omega⟩ | done
   ·
    exact ⟨Nat.zero_le _, fun j hj => by omega⟩
   ·
    try dsimp only at hI
    obtain ⟨hk, hok⟩ := hI
    have hwz := Cn.mid_size (s := s) (i := i)
    have htk := Cn.md_take (s := s) (i := i) (by omega)
    refine Sz hcx [] [47] [] [] (Zs (Zj (p := ((i : Int) < ((Cn.mdS s).length : Int))) (fun h1 => ?_) fun h1 => ?_))
    ·
     refine Zk (Ft (Zs (Zb (Sq hcx [] [7] [47] [] [((0 : Int) ≤ (i : Int) ∧ (i : Int) < ((Cn.mdS s).length : Int))] ?_ (Sq hcx [] [8, 9] [] [] [(((Cn.mdS s).getD i ByteArray.empty).size ≤ 281474976710656)] ?_ (Zs (Sq hcx [] [67] [9, 7] [] [((!((Cn.atoiV ((Cn.mdS s).getD i ByteArray.empty).data.toList).2)) = true → ((!((Cn.atoiV ((Cn.mdS s).getD i ByteArray.empty).data.toList).2)) = true)), ((!((Cn.atoiV ((Cn.mdS s).getD i ByteArray.empty).data.toList).2)) = true → (True)), ((!((Cn.atoiV ((Cn.mdS s).getD i ByteArray.empty).data.toList).2)) = true → ((!((Cn.atoiV ((Cn.mdS s).getD i ByteArray.empty).data.toList).2)) = true)), ((Cn.atoiV ((Cn.mdS s).getD i ByteArray.empty).data.toList).2 = false → (!((Cn.atoiV ((Cn.mdS s).getD i ByteArray.empty).data.toList).2)) = true), ((!(((Cn.atoiV ((Cn.mdS s).getD i ByteArray.empty).data.toList).2) || (!(Cn.mayP ((Cn.atoiV ((Cn.mdS s).getD i ByteArray.empty).data.toList).1) 65536)))) = true → ((!(((Cn.atoiV ((Cn.mdS s).getD i ByteArray.empty).data.toList).2) || (!(Cn.mayP ((Cn.atoiV ((Cn.mdS s).getD i ByteArray.empty).data.toList).1) 65536)))) = true)), ((!(((Cn.atoiV ((Cn.mdS s).getD i ByteArray.empty).data.toList).2) || (!(Cn.mayP ((Cn.atoiV ((Cn.mdS s).getD i ByteArray.empty).data.toList).1) 65536)))) = true → (Fit ((Cn.atoiV ((Cn.mdS s).getD i ByteArray.empty).data.toList).1))), ((!(((Cn.atoiV ((Cn.mdS s).getD i ByteArray.empty).data.toList).2) || (!(Cn.mayP ((Cn.atoiV ((Cn.mdS s).getD i ByteArray.empty).data.toList).1) 65536)))) = true → ((!(((Cn.atoiV ((Cn.mdS s).getD i ByteArray.empty).data.toList).2) || (!(Cn.mayP ((Cn.atoiV ((Cn.mdS s).getD i ByteArray.empty).data.toList).1) 65536)))) = true)), ((!(((Cn.atoiV ((Cn.mdS s).getD i ByteArray.empty).data.toList).2) || (!(Cn.mayP ((Cn.atoiV ((Cn.mdS s).getD i ByteArray.empty).data.toList).1) 65536)))) = true → ((!(((Cn.atoiV ((Cn.mdS s).getD i ByteArray.empty).data.toList).2) || (!(Cn.mayP ((Cn.atoiV ((Cn.mdS s).getD i ByteArray.empty).data.toList).1) 65536)))) = true)), ((((Cn.atoiV ((Cn.mdS s).getD i ByteArray.empty).data.toList).2) || (!(Cn.mayP ((Cn.atoiV ((Cn.mdS s).getD i ByteArray.empty).data.toList).1) 65536))) = false → (!(((Cn.atoiV ((Cn.mdS s).getD i ByteArray.empty).data.toList).2) || (!(Cn.mayP ((Cn.atoiV ((Cn.mdS s).getD i ByteArray.empty).data.toList).1) 65536)))) = true)] ?_ (Zi (b := (((Cn.atoiV ((Cn.mdS s).getD i ByteArray.empty).data.toList).2) || (!(Cn.mayP ((Cn.atoiV ((Cn.mdS s).getD i ByteArray.empty).data.toList).1) 65536))) || (!((strOfNums (Cn.itoaI ((Cn.atoiV ((Cn.mdS s).getD i ByteArray.empty).data.toList).1))).toList == ((Cn.mdS s).getD i ByteArray.empty).toList))) (fun h2 => ?_) fun h2 => ?_))))))))
     ·
      refine ap ?_ az
      first | omega | exact id | exact vcNot | exact vcG | exact vcH | (intro _; omega) | exact (fun _ h => h) | (intro h; simp at h; omega) | (simp only [List.length_cons, List.length_nil, List.length_append, List.length_map, List.length_set, List.length_replicate]; omega) | (intro h; simp [h]; done) | exact ⟨hm1, rfl⟩ | (constructor <;> omega) | exact (show (4 : Nat) ≤ _ by omega) | (intro h; exact Cn.ws_in h) | (have h8 := hl3 _ (Cn.getD_memS (d := ByteArray.empty) (by omega)); omega) | (have h8 := hwz (by omega); omega) | exact True.intro | (intro _; exact True.intro) | (intro h; exact Cn.fit_may h) | (rw [htk]; simp only [List.length_cons, List.length_nil]; omega) | exact ⟨by omega, by omega, by omega⟩ | done
     ·
      refine ap ?_ az
      first | omega | exact id | exact vcNot | exact vcG | exact vcH | (intro _; omega) | exact (fun _ h => h) | (intro h; simp at h; omega) | (simp only [List.length_cons, List.length_nil, List.length_append, List.length_map, List.length_set, List.length_replicate]; omega) | (intro h; simp [h]; done) | exact ⟨hm1, rfl⟩ | (constructor <;> omega) | exact (show (4 : Nat) ≤ _ by omega) | (intro h; exact Cn.ws_in h) | (have h8 := hl3 _ (Cn.getD_memS (d := ByteArray.empty) (by omega)); omega) | (have h8 := hwz (by omega); omega) | exact True.intro | (intro _; exact True.intro) | (intro h; exact Cn.fit_may h) | (rw [htk]; simp only [List.length_cons, List.length_nil]; omega) | exact ⟨by omega, by omega, by omega⟩ | done
     ·
      refine ap ?_ (ap ?_ (ap ?_ (ap (by exact vcNot) (ap ?_ (ap ?_ (ap ?_ (ap ?_ (ap (by exact vcNot) az)))))))) <;>
       first | omega | exact id | exact vcNot | exact vcG | exact vcH | (intro _; omega) | exact (fun _ h => h) | (intro h; simp at h; omega) | (simp only [List.length_cons, List.length_nil, List.length_append, List.length_map, List.length_set, List.length_replicate]; omega) | (intro h; simp [h]; done) | exact ⟨hm1, rfl⟩ | (constructor <;> omega) | exact (show (4 : Nat) ≤ _ by omega) | (intro h; exact Cn.ws_in h) | (have h8 := hl3 _ (Cn.getD_memS (d := ByteArray.empty) (by omega)); omega) | (have h8 := hwz (by omega); omega) | exact True.intro | (intro _; exact True.intro) | (intro h; exact Cn.fit_may h) | (rw [htk]; simp only [List.length_cons, List.length_nil]; omega) | exact ⟨by omega, by omega, by omega⟩ | done
     ·
      have hq := Cn.lit_no h2
      exact Zs (Zn [(602, .to 602), (701, .frz)] [67, 8, 2, 44, 45, 46] (Tz hcx [(602, .to 602)] [3] [67, 8, 44, 45, 46] [] (Ft (Zr (Fr (Fk (Fr (Fr (Fk (Fr (Rv hcx (congrArg AV.tup (consE (congrArg AV.agg (consE (congrArg AV.int (show (Lib.index (⟨#[32, 111, 108, 100]⟩ : ByteArray).data.toList ((Cn.wsS s).getD 0 ByteArray.empty).data.toList) = (Cn.lnK (bytesI s)) from (by first | exact hK | exact Cn.ln_head hH | exact Cn.lnOk_head hH | exact Cn.ln_stop hH (by omega) hok hq | exact Cn.lnOk_stop (by omega) hok hq | exact Cn.ln_all hH (by omega) hok | exact Cn.lnOk_all hH (by omega) hok | done))) (consE (congrArg AV.ints (show (((Cn.midW (Cn.splitI 32 (bytesI s))).take i).map Cn.numN) = (Cn.lnL (bytesI s)) from (by first | exact hK | exact Cn.ln_head hH | exact Cn.lnOk_head hH | exact Cn.ln_stop hH (by omega) hok hq | exact Cn.lnOk_stop (by omega) hok hq | exact Cn.ln_all hH (by omega) hok | exact Cn.lnOk_all hH (by omega) hok | done))) rfl))) (consE (congrArg AV.bool (show false = (Cn.lnOk (bytesI s)) from (by first | exact hK | exact Cn.ln_head hH | exact Cn.lnOk_head hH | exact Cn.ln_stop hH (by omega) hok hq | exact Cn.lnOk_stop (by omega) hok hq | exact Cn.ln_all hH (by omega) hok | exact Cn.lnOk_all hH (by omega) hok | done))) rfl))) [] rfl)))))))))))
     ·
      obtain ⟨hq, hqv⟩ := Cn.lit_yes h2
      refine Zk (Ft (Tq hcx [(602, .to 602), (1004, .to 701)] [] [67, 8] [701] [(((((Cn.midW (Cn.splitI 32 (bytesI s))).take i).map Cn.numN).length + [(Cn.atoiV ((Cn.mdS s).getD i ByteArray.empty).data.toList).1].length) * 8 ≤ 140737488355328)] ?_ (Fb (Ft (Tq hcx [] [46] [] [] [Fit ((i : Int) + 1)] ?_ (Lr (i + 1) ?_ ?_ (Ex 46 (congrArg AV.int (show ((i : Int) + 1) = ((i + 1) : Int) from (by first | rfl | omega | (simp; done)))) Eb) (Hx 701 (congrArg (fun x => AObj.row 3 (.ints x)) (show ((((Cn.midW (Cn.splitI 32 (bytesI s))).take i).map Cn.numN) ++ [(Cn.atoiV ((Cn.mdS s).getD i ByteArray.empty).data.toList).1]) = (((Cn.midW (Cn.splitI 32 (bytesI s))).take (i + 1)).map Cn.numN) from (by exact Cn.mid_next (by omega) hqv))) Hb)))))))
      ·
       refine ap ?_ az
       first | omega | exact id | exact vcNot | exact vcG | exact vcH | (intro _; omega) | exact (fun _ h => h) | (intro h; simp at h; omega) | (simp only [List.length_cons, List.length_nil, List.length_append, List.length_map, List.length_set, List.length_replicate]; omega) | (intro h; simp [h]; done) | exact ⟨hm1, rfl⟩ | (constructor <;> omega) | exact (show (4 : Nat) ≤ _ by omega) | (intro h; exact Cn.ws_in h) | (have h8 := hl3 _ (Cn.getD_memS (d := ByteArray.empty) (by omega)); omega) | (have h8 := hwz (by omega); omega) | exact True.intro | (intro _; exact True.intro) | (intro h; exact Cn.fit_may h) | (rw [htk]; simp only [List.length_cons, List.length_nil]; omega) | exact ⟨by omega, by omega, by omega⟩ | done
      ·
       refine ap ?_ az
       first | omega | exact id | exact vcNot | exact vcG | exact vcH | (intro _; omega) | exact (fun _ h => h) | (intro h; simp at h; omega) | (simp only [List.length_cons, List.length_nil, List.length_append, List.length_map, List.length_set, List.length_replicate]; omega) | (intro h; simp [h]; done) | exact ⟨hm1, rfl⟩ | (constructor <;> omega) | exact (show (4 : Nat) ≤ _ by omega) | (intro h; exact Cn.ws_in h) | (have h8 := hl3 _ (Cn.getD_memS (d := ByteArray.empty) (by omega)); omega) | (have h8 := hwz (by omega); omega) | exact True.intro | (intro _; exact True.intro) | (intro h; exact Cn.fit_may h) | (rw [htk]; simp only [List.length_cons, List.length_nil]; omega) | exact ⟨by omega, by omega, by omega⟩ | done
      ·
       exact ⟨by omega, fun j hj => by rcases (by omega : j < i ∨ j = i) with h | rfl; exact hok j h; exact hq⟩
      ·
       try dsimp only
       omega
    ·
     exact Ze (Fe (Fe (Fs (Ft (Zs (Zn [(602, .to 602), (701, .frz)] [47, 2, 44, 45, 46] (Tz hcx [(602, .to 602)] [3] [47, 44, 45, 46] [] (Ft (Zr (Rv hcx (congrArg AV.tup (consE (congrArg AV.agg (consE (congrArg AV.int (show (Lib.index (⟨#[32, 111, 108, 100]⟩ : ByteArray).data.toList ((Cn.wsS s).getD 0 ByteArray.empty).data.toList) = (Cn.lnK (bytesI s)) from (by first | exact hK | exact Cn.ln_head hH | exact Cn.lnOk_head hH | exact Cn.ln_stop hH (by omega) hok hq | exact Cn.lnOk_stop (by omega) hok hq | exact Cn.ln_all hH (by omega) hok | exact Cn.lnOk_all hH (by omega) hok | done))) (consE (congrArg AV.ints (show (((Cn.midW (Cn.splitI 32 (bytesI s))).take i).map Cn.numN) = (Cn.lnL (bytesI s)) from (by first | exact hK | exact Cn.ln_head hH | exact Cn.lnOk_head hH | exact Cn.ln_stop hH (by omega) hok hq | exact Cn.lnOk_stop (by omega) hok hq | exact Cn.ln_all hH (by omega) hok | exact Cn.lnOk_all hH (by omega) hok | done))) rfl))) (consE (congrArg AV.bool (show true = (Cn.lnOk (bytesI s)) from (by first | exact hK | exact Cn.ln_head hH | exact Cn.lnOk_head hH | exact Cn.ln_stop hH (by omega) hok hq | exact Cn.lnOk_stop (by omega) hok hq | exact Cn.ln_all hH (by omega) hok | exact Cn.lnOk_all hH (by omega) hok | done))) rfl))) [] rfl))))))))))
 ·
  cases hσ
def cx_pGet : Cx := ⟨tyTxt, [(58, pLine_σ), (57, sCut)], true⟩
theorem cx_pGet_ok : CxOk Tryz.prog cx_pGet := cx_ok tyTxt_ok ⟨pLine_sound, sCut_sound, trivial⟩
def pGet_σ : CtF
  | [.im (.ls (.bytes b))], [] => some (b.length ≤ 1000000 ∧ Cn.isBytes b, .tup [.lines ((Cn.getV24 b).1), .int ((Cn.getV24 b).2)], [])
  | _, _ => none
theorem pGet_sound : Sound Tryz.prog 21 pGet_σ := by
 refine Sw (cx := cx_pGet) Tryz.f21 Tryz.func21 ?_
 intro wW wO wβ G0 args os p r outs hσ hp
 have hcx := cx_pGet_ok
 unfold pGet_σ at hσ
 split at hσ
 ·
  rename_i b
  cases hσ
  refine ⟨by kernel_rfl, ?_⟩
  obtain ⟨hm1, hm2⟩ := hp
  refine Sz hcx [] [] [] [] (Zs (Sz hcx [] [12] [] [] (Zj (p := ((b.length : Int) > 4194304)) (fun h0 => ?_) fun h0 => ?_)))
  ·
   omega
  ·
   refine Zk (Ft (Sz hcx [] [4] [12] [] (Zs (Zb (Zw 4 700 43 (.lines []) (Lp (X := List Int × List (Int × List Int)) (fun x0 => x0.1.length + x0.2.length ≤ b.length ∧ Cn.isBytes x0.1 ∧ Cn.getI b x0.2 x0.1) (fun x0 => ([(0, .bytes x0.1), (4, .row 700)], [(700, .row 43 (.lines x0.2))])) (fun x0 => x0.1.length) (b, ([] : List (Int × List Int))) ?_ Eb Hb fun ⟨r, o⟩ hI => ?_))))))
   ·
    try dsimp only
    exact ⟨Nat.le_refl _, hm2, Cn.getI_0 b⟩
   ·
    try dsimp only at hI
    obtain ⟨hl, hb, hG⟩ := hI
    refine Zs (Sz hcx [] [15] [] [] (Zj (p := ((r.length : Int) > 0)) (fun h1 => ?_) fun h1 => ?_))
    ·
     have h15 := h1
     obtain ⟨hc1, hc2, hc3⟩ := Cn.cut_le r
     have hcb := Cn.cut_bytes hb
     have hsz := Cn.str_size (Cn.cutN r).1
     have hbi : (bytesI (strOfNums (Cn.cutN r).1)) = (Cn.cutN r).1 := Cn.bytesI_str hcb.1
     refine Zk (Ft (Zb (Sq hcx [] [5, 6, 7] [15, 0] [] [(0 < r.length ∧ r.length ≤ 1000000 ∧ Cn.isBytes r ∧ [10] = [(10 : Int)])] ?_ (Sq hcx [(1006, .to 608)] [8, 9] [5] [] [((strOfNums ((Cn.cutN r).1)).size ≤ 1000000)] ?_ (Zs (Sq hcx [] [34] [9, 7] [] [((!(!((Cn.cutN r).2.2))) = true → ((!(!((Cn.cutN r).2.2))) = true)), ((!((Cn.cutN r).2.2)) = false → (!(!((Cn.cutN r).2.2))) = true)] ?_ (Zi (b := (!((Cn.cutN r).2.2)) || (!(Cn.lnOk (bytesI (strOfNums ((Cn.cutN r).1)))))) (fun h2 => ?_) fun h2 => ?_)))))))
     ·
      refine ap ?_ az
      first | omega | exact id | exact vcNot | exact vcG | exact vcH | (intro _; omega) | exact (fun _ h => h) | (intro h; simp at h; omega) | (simp only [List.length_cons, List.length_nil, List.length_append, List.length_map, List.length_set, List.length_replicate]; omega) | (intro h; simp [h]; done) | (constructor <;> omega) | exact ⟨by omega, by omega, hb, rfl⟩ | (rw [hsz]; omega) | (simp only [List.length_cons, List.length_nil]; omega) | done
     ·
      refine ap ?_ az
      first | omega | exact id | exact vcNot | exact vcG | exact vcH | (intro _; omega) | exact (fun _ h => h) | (intro h; simp at h; omega) | (simp only [List.length_cons, List.length_nil, List.length_append, List.length_map, List.length_set, List.length_replicate]; omega) | (intro h; simp [h]; done) | (constructor <;> omega) | exact ⟨by omega, by omega, hb, rfl⟩ | (rw [hsz]; omega) | (simp only [List.length_cons, List.length_nil]; omega) | done
     ·
      refine ap ?_ (ap (by exact vcNot) az)
      first | omega | exact id | exact vcNot | exact vcG | exact vcH | (intro _; omega) | exact (fun _ h => h) | (intro h; simp at h; omega) | (simp only [List.length_cons, List.length_nil, List.length_append, List.length_map, List.length_set, List.length_replicate]; omega) | (intro h; simp [h]; done) | (constructor <;> omega) | exact ⟨by omega, by omega, hb, rfl⟩ | (rw [hsz]; omega) | (simp only [List.length_cons, List.length_nil]; omega) | done
     ·
      have h34 := Cn.cg_no h2
      rw [hbi] at h34
      have hg := Cn.getI_no hG (by omega) h34
      exact Sz hcx [] [2, 3] [34, 8, 6, 4] [608, 700] (Zr (Fr (Fk (Fr (Fk (Fr (Fp 2 (.lines []) (Rv hcx (congrArg AV.tup (consE (congrArg AV.lines (show [] = (Cn.getV24 b).1 from (by first | (rw [hg]; done) | (rw [hge]; done) | done))) (consE (congrArg AV.int (show 11 = (Cn.getV24 b).2 from (by first | (rw [hg]; done) | (rw [hge]; done) | done))) rfl))) [] rfl))))))))
     ·
      have h34 := Cn.cg_yes h2
      rw [hbi] at h34
      have hlt := (Cn.cut_lt (Cn.cg_1 h34)).1
      refine Zk (Ft (Tq hcx [(1003, .to 700)] [0, 4] [34, 8, 6] [608, 700] [((o.length + [((Cn.lnK (bytesI (strOfNums ((Cn.cutN r).1)))), (Cn.lnL (bytesI (strOfNums ((Cn.cutN r).1)))))].length) * 32 ≤ 140737488355328)] ?_ (Fb (Lr ((Cn.cutN r).2.1, (o ++ [(Cn.lnK (bytesI (strOfNums (Cn.cutN r).1)), Cn.lnL (bytesI (strOfNums (Cn.cutN r).1)))])) ?_ ?_ Eb Hb))))
      ·
       refine ap ?_ az
       first | omega | exact id | exact vcNot | exact vcG | exact vcH | (intro _; omega) | exact (fun _ h => h) | (intro h; simp at h; omega) | (simp only [List.length_cons, List.length_nil, List.length_append, List.length_map, List.length_set, List.length_replicate]; omega) | (intro h; simp [h]; done) | (constructor <;> omega) | exact ⟨by omega, by omega, hb, rfl⟩ | (rw [hsz]; omega) | (simp only [List.length_cons, List.length_nil]; omega) | done
      ·
       try dsimp only
       exact ⟨by simp only [List.length_append, List.length_cons, List.length_nil]; omega, hcb.2, by rw [hbi]; exact Cn.getI_next hG (by omega) h34⟩
      ·
       show ((Cn.cutN r).2.1).length < r.length
       omega
    ·
     have h15 := h1
     have hge := Cn.getI_end hG (by omega)
     refine Ze (Fe (Fe (Fs (Ft (Zs (Sz hcx [] [42] [15, 0] [] (Zj (p := ((o.length : Int) > 65536)) (fun h3 => ?_) fun h3 => ?_)))))))
     ·
      rw [if_pos (by omega)] at hge
      exact Sz hcx [] [2, 3] [42, 4] [700] (Zr (Fr (Fp 2 (.lines []) (Rv hcx (congrArg AV.tup (consE (congrArg AV.lines (show [] = (Cn.getV24 b).1 from (by first | (rw [hg]; done) | (rw [hge]; done) | done))) (consE (congrArg AV.int (show 2 = (Cn.getV24 b).2 from (by first | (rw [hg]; done) | (rw [hge]; done) | done))) rfl))) [] rfl))))
     ·
      rw [if_neg (by omega)] at hge
      exact Zk (Ft (Zs (Zn [(700, .frz)] [42, 4] (Tz hcx [] [2, 3] [42, 4] [] (Ft (Zr (Rv hcx (congrArg AV.tup (consE (congrArg AV.lines (show o = (Cn.getV24 b).1 from (by first | (rw [hg]; done) | (rw [hge]; done) | done))) (consE (congrArg AV.int (show 0 = (Cn.getV24 b).2 from (by first | (rw [hg]; done) | (rw [hge]; done) | done))) rfl))) [] rfl)))))))
 ·
  cases hσ
end Go.Proofs.YtbpbndlgfiammaaGreatDoor.En
namespace Go.Proofs.YtbpbndlgfiammaaGreatDoor.En
open Go
end Go.Proofs.YtbpbndlgfiammaaGreatDoor.En
namespace Go.Proofs.YtbpbndlgfiammaaGreatDoor.Cn
open Go Go.RowKit En
theorem itoa_no {n c : Int} (hc : c = 32 ∨ c = 10) : c ∉ itoaI n := fun h => by
  have := itoa_mem _ h
  omega
theorem split_line : ∀ (l : List Int) (a : List Int), (32 : Int) ∉ a → splitI 32 (a ++ (litsW l ++ [32, 48])) = a :: (l.map itoaI ++ [[48]])
  | [], a, h => by
    show splitI 32 (a ++ 32 :: [48]) = _
    rw [splitI_hit h]; rfl
  | y :: l, a, h => by
    have e : a ++ (litsW (y :: l) ++ [32, 48]) = a ++ 32 :: (itoaI y ++ (litsW l ++ [32, 48])) := by simp [litsW]
    rw [e, splitI_hit h, split_line l (itoaI y) (itoa_no (.inl rfl))]
    rfl
def lineT (x : Int × List Int) : List Int := letW x.1 :: (litsW x.2 ++ [32, 48])
theorem lineB_is (x : Int × List Int) : lineB x = lineT x ++ [10] := by simp [lineB, lineT]
theorem let_cases {k : Int} (h : 1 ≤ k ∧ k ≤ 3) : (k = 1 ∧ letW k = 111) ∨ (k = 2 ∧ letW k = 108) ∨ (k = 3 ∧ letW k = 100) := by
  rcases (by omega : k = 1 ∨ k = 2 ∨ k = 3) with rfl | rfl | rfl
  · exact .inl ⟨rfl, by decide⟩
  · exact .inr (.inl ⟨rfl, by decide⟩)
  · exact .inr (.inr ⟨rfl, by decide⟩)
theorem kin_let {k : Int} (h : 1 ≤ k ∧ k ≤ 3) : kinI [letW k] = k := by
  rcases let_cases h with ⟨rfl, e⟩ | ⟨rfl, e⟩ | ⟨rfl, e⟩ <;> rw [e] <;> decide
theorem line_ok {x : Int × List Int} (h : lineOk x = true) : (1 ≤ x.1 ∧ x.1 ≤ 3) ∧ ∀ y ∈ x.2, mayP y 65536 = true := by
  unfold lineOk at h
  simp only [Bool.and_eq_true, decide_eq_true_eq, List.all_eq_true] at h
  exact h
theorem split_T {x : Int × List Int} (h : lineOk x = true) : splitI 32 (lineT x) = [letW x.1] :: (x.2.map itoaI ++ [[48]]) := by
  have := split_line x.2 [letW x.1] (by rcases let_cases (line_ok h).1 with ⟨_, e⟩ | ⟨_, e⟩ | ⟨_, e⟩ <;> rw [e] <;> simp)
  exact this
theorem mid_T {k : Int} {ws : List (List Int)} : midW ([k] :: (ws ++ [[48]])) = ws := by
  unfold midW
  have e : ([k] :: (ws ++ [[48]])).length - 1 = ws.length + 1 := by simp
  rw [e, List.take_succ_cons, List.drop_succ_cons, List.drop_zero, List.take_append_of_le_length (Nat.le_refl _), List.take_length]
theorem head_T {k : Int} (h : 1 ≤ k ∧ k ≤ 3) {ws : List (List Int)} : headW ([letW k] :: (ws ++ [[48]])) = true := by
  have h0 : wd ([letW k] :: (ws ++ [[48]])) 0 = [letW k] := rfl
  have h1 : wd ([letW k] :: (ws ++ [[48]])) (([letW k] :: (ws ++ [[48]])).length - 1) = [48] := by
    unfold wd
    have e : ([letW k] :: (ws ++ [[48]])).length - 1 = ws.length + 1 := by simp
    rw [e]
    simp [List.getD]
  unfold headW
  rw [h0, h1, kin_let h]
  simp
  omega
theorem lit_itoa {y : Int} (h : mayP y 65536 = true) : litW (itoaI y) = true ∧ numN (itoaI y) = y := litW_of h rfl
theorem all_lits {l : List Int} (h : ∀ y ∈ l, mayP y 65536 = true) : (l.map itoaI).all litW = true ∧ (l.map itoaI).takeWhile litW = l.map itoaI ∧ (l.map itoaI).map numN = l := by
  have ha : ∀ w ∈ l.map itoaI, litW w = true := fun w hw => by
    obtain ⟨y, hy, rfl⟩ := List.mem_map.1 hw
    exact (lit_itoa (h y hy)).1
  refine ⟨List.all_eq_true.2 ha, ?_, ?_⟩
  · have := List.takeWhile_append_of_pos (l₂ := []) ha
    simpa using this
  · rw [List.map_map]
    conv => rhs; rw [← List.map_id l]
    exact List.map_congr_left fun y hy => (lit_itoa (h y hy)).2
theorem line_back {x : Int × List Int} (h : lineOk x = true) : lnK (lineT x) = x.1 ∧ lnL (lineT x) = x.2 ∧ lnOk (lineT x) = true := by
  obtain ⟨h1, h2⟩ := line_ok h
  obtain ⟨a1, a2, a3⟩ := all_lits h2
  unfold lnK lnL lnOk
  rw [split_T h, head_T h1, mid_T, if_pos rfl, a2, a3, a1]
  exact ⟨kin_let h1, rfl, rfl⟩
theorem line_no {x : Int × List Int} (h : lineOk x = true) : (10 : Int) ∉ lineT x := by
  unfold lineT
  have hl : (10 : Int) ∉ litsW x.2 := fun hm => by
    unfold litsW at hm
    obtain ⟨y, _, hy⟩ := List.mem_flatMap.1 hm
    rcases List.mem_cons.1 hy with hy | hy
    · cases hy
    · exact itoa_no (.inr rfl) hy
  simp only [List.mem_cons, List.mem_append, not_or]
  refine ⟨?_, hl, by decide, by decide, by simp⟩
  rcases let_cases (line_ok h).1 with ⟨_, e⟩ | ⟨_, e⟩ | ⟨_, e⟩ <;> rw [e] <;> decide
theorem get_put24 : ∀ {p : List (Int × List Int)}, p.all lineOk = true → getL (putP p) = some p
  | [], _ => rfl
  | x :: p, h => by
    simp only [List.all_cons, Bool.and_eq_true] at h
    have e : putP (x :: p) = lineT x ++ 10 :: putP p := by
      have : putP (x :: p) = lineB x ++ putP p := by simp [putP]
      rw [this, lineB_is]; simp
    obtain ⟨b1, b2, b3⟩ := line_back h.1
    have hc := cut_hit (r := putP p) (line_no h.1)
    rw [e, getL_yes (by simp only [List.length_append, List.length_cons]; omega) (by rw [hc, b3]; rfl), hc]
    simp only
    rw [get_put24 h.2, b1, b2]
    rfl
theorem get_putV {p : List (Int × List Int)} (h : frmV p = 0) : getV24 (putV p) = (p, 0) := by
  obtain ⟨h1, h2⟩ := frm_ok.1 h
  unfold putV getV24
  rw [if_pos h, get_put24 h2]
  simp only
  rw [if_neg (by omega)]
end Go.Proofs.YtbpbndlgfiammaaGreatDoor.Cn
namespace Go.Proofs.YtbpbndlgfiammaaGreatDoor.Cn
open Go Go.RowKit En
def szG {α : Type} (f : α → Nat) (l : List α) : Nat := (l.map fun x => 1 + f x).sum
def szC (c : List (List Int)) : Nat := szG List.length c
theorem szG_next {α : Type} {f : α → Nat} {l : List α} {d : α} {i : Nat} (hi : i < l.length) : szG f (l.take i) + (1 + f (l.getD i d)) = szG f (l.take (i + 1)) := by
  have e : l.take (i + 1) = l.take i ++ [l.getD i d] := by rw [List.take_add_one]; simp [List.getD, List.getElem?_eq_getElem hi]
  rw [e]; simp [szG]
theorem szG_take {α : Type} {f : α → Nat} (l : List α) (i : Nat) : szG f (l.take i) ≤ szG f l := by
  have e : szG f (l.take i ++ l.drop i) = szG f (l.take i) + szG f (l.drop i) := by unfold szG; rw [List.map_append, List.sum_append]
  rw [List.take_append_drop] at e
  omega
theorem szG_mem {α : Type} {f : α → Nat} {l : List α} {x : α} (hx : x ∈ l) : f x < szG f l := by
  obtain ⟨i, hi, rfl⟩ := List.getElem_of_mem hx
  have h1 := szG_next (f := f) (d := l[i]) hi
  have h2 := szG_take (f := f) l (i + 1)
  rw [show l.getD i l[i] = l[i] by simp [List.getD, List.getElem?_eq_getElem hi]] at h1
  omega
def fewG {α : Type} (f : α → Nat) (l : List α) (m : Int) : Bool := decide ((l.length : Int) ≤ m) && decide ((szG f l : Int) ≤ 6 * m)
def fewC (c : List (List Int)) (m : Int) : Bool := fewG List.length c m
theorem fewG_big {α : Type} {f : α → Nat} {l : List α} {m : Int} {i : Nat} (h : 6 * m < (szG f (l.take i) : Int)) : false = fewG f l m := by
  have := szG_take (f := f) l i
  unfold fewG
  rw [show decide ((szG f l : Int) ≤ 6 * m) = false by rw [decide_eq_false_iff_not]; omega, Bool.and_false]
theorem fewG_end {α : Type} {f : α → Nat} {l : List α} {m : Int} {i : Nat} (hs : (szG f (l.take i) : Int) ≤ 6 * m) (hi : i ≤ l.length) (h : (decide ((i : Int) < (l.length : Int)) && decide ((i : Int) ≤ m)) = false) : decide ((l.length : Int) ≤ m) = fewG f l m := by
  unfold fewG
  by_cases hl : i = l.length
  · rw [hl, List.take_length] at hs
    rw [show decide ((szG f l : Int) ≤ 6 * m) = true by rw [decide_eq_true_iff]; exact hs, Bool.and_true]
  · have : ¬ (i : Int) ≤ m := by
      intro hm
      rw [show decide ((i : Int) < (l.length : Int)) = true by rw [decide_eq_true_iff]; omega, show decide ((i : Int) ≤ m) = true by rw [decide_eq_true_iff]; exact hm] at h
      cases h
    rw [show decide ((l.length : Int) ≤ m) = false by rw [decide_eq_false_iff_not]; omega, Bool.false_and]
theorem fewC_next {c : List (List Int)} {i : Nat} (hi : i < c.length) : szC (c.take i) + (1 + (c.getD i []).length) = szC (c.take (i + 1)) := szG_next hi
theorem fewC_iff {c : List (List Int)} {m : Int} (h : fewC c m = true) : (c.length : Int) ≤ m ∧ (szC c : Int) ≤ 6 * m ∧ ∀ x ∈ c, x.length < szC c := by
  unfold fewC fewG at h
  simp only [Bool.and_eq_true, decide_eq_true_eq] at h
  exact ⟨h.1, h.2, fun x hx => szG_mem (f := List.length) hx⟩
theorem and_t {a b : Bool} (h : (a && b) = true) : a = true ∧ b = true := Bool.and_eq_true_iff.1 h
end Go.Proofs.YtbpbndlgfiammaaGreatDoor.Cn
namespace Go.Proofs.YtbpbndlgfiammaaGreatDoor.Cn
open Go Go.RowKit En
abbrev four4 : List (List Int) := [[1, 2], [-1, 2], [1, -2], [-1, -2]]
theorem given_next {c : List (List Int)} {i : Nat} (hi : i < c.length) : ((c.take i).map fun l => ((1 : Int), l)) ++ [(1, c.getD i [])] = (c.take (i + 1)).map fun l => ((1 : Int), l) := by
  have e : c.take (i + 1) = c.take i ++ [c.getD i []] := by rw [List.take_add_one]; simp [List.getD, List.getElem?_eq_getElem hi]
  rw [e, List.map_append]; rfl
section
variable {α : Type} {p : α → Bool} {l : List α} {d : α} {i : Nat}
end
theorem lv24_1 : flwV ((four4.take 2).drop 0) [2] = true := by decide +kernel
theorem lv24_2 : flwV four4 [] = false := by decide +kernel
theorem lv24_3 : flwV (four4 ++ [[2]]) [] = true := by decide +kernel
theorem lv24_4 : chkC 2 four4 ((four4.map fun l => ((1 : Int), l)) ++ [(2, [2])]) [] = 0 := by decide +kernel
theorem lv24_5 : chkC 2 four4 ((((four4.map fun l => ((1 : Int), l)) ++ [(2, [2])]).take 4).drop 0) [] = 250 := by decide +kernel
theorem lv24_6 : frmV [(1, [1, -2])] = 0 := by decide +kernel
theorem lv24_7 : putV [(1, [1, -2])] = [111, 32, 49, 32, 45, 50, 32, 48, 10] := by
  have h1 : itoaI 1 = [49] := by rw [show (1 : Int) = ((1 : Nat) : Int) from rfl]; unfold itoaI; rw [Lib.itoa_nonneg, Lib.decDigits_one (by omega)]; rfl
  have h2 : itoaI (-2) = [45, 50] := by rw [show (-2 : Int) = -((2 : Nat) : Int) from rfl]; unfold itoaI; rw [Lib.itoa_neg 2 (by omega), Lib.decDigits_one (by omega)]; rfl
  unfold putV
  rw [if_pos lv24_6]
  simp [putP, lineB, litsW, h1, h2, letW, bytesI]
theorem lv24_8 : getV24 [111, 32, 49, 32, 45, 50, 32, 48, 10] = ([(1, [1, -2])], 0) := by
  rw [← lv24_7]; exact get_putV lv24_6
theorem str24 : ((strOfNums [111, 32, 49, 32, 45, 50, 32, 48, 10]).toList == (⟨#[111, 32, 49, 32, 45, 50, 32, 48, 10]⟩ : ByteArray).toList) = true := by
  rw [show strOfNums [111, 32, 49, 32, 45, 50, 32, 48, 10] = (⟨#[111, 32, 49, 32, 45, 50, 32, 48, 10]⟩ : ByteArray) by decide]
  simp
end Go.Proofs.YtbpbndlgfiammaaGreatDoor.Cn
namespace Go.Proofs.YtbpbndlgfiammaaGreatDoor.Cn
open Go Go.RowKit En
section
variable {N at_ n : Int} {L : List (List Int)} {p : List (Int × List Int)} {core l more : List Int} {a : List Bool}
end
end Go.Proofs.YtbpbndlgfiammaaGreatDoor.Cn
namespace Go.Proofs.YtbpbndlgfiammaaGreatDoor.En
open Go Go.RowKit
def tyLv24 : List (Nat × TD) := [(3, ⟨1, false, [.int .i64 0], [], none, 8, false, 1, 1⟩),
  (4, ⟨1, false, [.bool false], [], none, 1, true, 0, 2⟩),
  (5, ⟨1, false, [.int .u8 0], [], none, 1, false, 2, 8⟩),
  (9, ⟨1, false, [.string ⟨#[]⟩], [], none, 16, false, 9, 9⟩),
  (22, ⟨1, false, [.slice none 0 0], [], some 23, 24, false, 0, 50⟩),
  (23, ⟨1, false, [.slice none 0 0], [], some 3, 24, false, 0, 3⟩),
  (28, ⟨2, true, [.int .i64 0, .slice none 0 0], [(0, 3), (1, 22)], none, 32, false, 0, 6⟩),
  (29, ⟨1, false, [.slice none 0 0], [], some 43, 24, false, 0, 0⟩),
  (31, ⟨1, false, [.int .i64 0], [], none, 8, false, 1, 1⟩),
  (34, ⟨1, false, [.slice none 0 0], [], some 5, 24, false, 0, 0⟩),
  (43, ⟨2, true, [.int .i64 0, .slice none 0 0], [(0, 3), (1, 23)], none, 32, false, 0, 7⟩),
  (45, ⟨1, false, [.slice none 0 0], [], some 4, 24, false, 0, 0⟩)]
theorem tyLv24_ok : AllTy Tryz.prog tyLv24 := ⟨⟨by kernel_rfl, by kernel_rfl, by kernel_rfl⟩, ⟨by kernel_rfl, by kernel_rfl, by kernel_rfl⟩, ⟨by kernel_rfl, by kernel_rfl, by kernel_rfl⟩, ⟨by kernel_rfl, by kernel_rfl, by kernel_rfl⟩, ⟨by kernel_rfl, by kernel_rfl, by kernel_rfl⟩, ⟨by kernel_rfl, by kernel_rfl, by kernel_rfl⟩, ⟨by kernel_rfl, by kernel_rfl, by kernel_rfl⟩, ⟨by kernel_rfl, by kernel_rfl, by kernel_rfl⟩, ⟨by kernel_rfl, by kernel_rfl, by kernel_rfl⟩, ⟨by kernel_rfl, by kernel_rfl, by kernel_rfl⟩, ⟨by kernel_rfl, by kernel_rfl, by kernel_rfl⟩, ⟨by kernel_rfl, by kernel_rfl, by kernel_rfl⟩, trivial⟩
def cx_lFour : Cx := ⟨tyLv24, [], true⟩
theorem cx_lFour_ok : CxOk Tryz.prog cx_lFour := cx_ok tyLv24_ok trivial
def lFour_σ : CtF
  | [], [] => some (True, .row 0, [some (.row 23 (.intss Cn.four4))])
  | _, _ => none
theorem lFour_sound : Sound Tryz.prog 34 lFour_σ := by
 refine Sw (cx := cx_lFour) Tryz.f34 Tryz.func34 ?_
 intro wW wO wβ G0 args os p r outs hσ hp
 have hcx := cx_lFour_ok
 unfold lFour_σ at hσ
 split at hσ
 ·
  cases hσ
  refine ⟨by kernel_rfl, ?_⟩
  exact Sz hcx [] [] [] [] (Sz hcx [(1004, .to 205)] [0] [] [] (Zr (Fn [(205, .to 0)] [0] (Rv hcx rfl [true] (consO (congrArg some (congrArg (fun x => AObj.row 23 (.intss x)) (show [[1, 2], [(-1), 2], [1, (-2)], [(-1), (-2)]] = Cn.four4 from (by rfl)))) rfl)))))
 ·
  cases hσ
def cx_lGiven : Cx := ⟨tyLv24, [], true⟩
theorem cx_lGiven_ok : CxOk Tryz.prog cx_lGiven := cx_ok tyLv24_ok trivial
def lGiven_σ : CtF
  | [.row 0], [.row 23 (.intss c)] => some (c.length ≤ 1000000, .row 1, [some (.row 23 (.intss c)), some (.row 43 (.lines (c.map fun l => ((1 : Int), l))))])
  | _, _ => none
theorem lGiven_sound : Sound Tryz.prog 35 lGiven_σ := by
 refine Sw (cx := cx_lGiven) Tryz.f35 Tryz.func35 ?_
 intro wW wO wβ G0 args os p r outs hσ hp
 have hcx := cx_lGiven_ok
 unfold lGiven_σ at hσ
 split at hσ
 ·
  rename_i c
  cases hσ
  refine ⟨by kernel_rfl, ?_⟩
  have hm1 := hp
  refine Sz hcx [] [] [] [] (Sz hcx [] [3] [] [] (Zs (Sz hcx [] [6, 7, 8] [0] [] (Zb (Zw 3 700 43 (.lines []) (Zn [(0, .to 0), (700, .to 700)] [3, 6, 7, 8] (Lp (X := Nat) (fun x0 => x0 ≤ c.length) (fun x0 => ([(3, .row 700), (6, .row 0), (7, .int (c.length : Int)), (8, .int (x0 : Int))], [(0, .row 23 (.intss c)), (700, .row 43 (.lines ((c.take x0).map fun l => ((1 : Int), l))))])) (fun x0 => c.length - x0) (0) ?_ (Ex 8 (congrArg AV.int (show 0 = (0 : Int) from (by first | rfl | omega | (simp; done)))) Eb) Hb fun i hI => ?_)))))))
  ·
   show 0 ≤ c.length
   omega
  ·
   replace hI : i ≤ c.length := hI
   refine Sz hcx [] [9] [] [] (Zs (Zj (p := ((i : Int) < (c.length : Int))) (fun h0 => ?_) fun h0 => ?_))
   ·
    refine Zk (Ft (Zs (Zb (Sq hcx [] [5] [9] [] [((0 : Int) ≤ (i : Int) ∧ (i : Int) < (c.length : Int)), (i < c.length)] ?_ (Tq hcx [(1004, .to 700)] [3] [5] [700] [((((c.take i).map fun l => ((1 : Int), l)).length + [(1, (c.getD i []))].length) * 32 ≤ 140737488355328)] ?_ (Fb (Ft (Tq hcx [] [8] [] [] [Fit ((i : Int) + 1)] ?_ (Fn [(0, .to 0), (700, .to 700)] [3, 6, 7, 8] (Lr (i + 1) ?_ ?_ (Ex 8 (congrArg AV.int (show ((i : Int) + 1) = ((i + 1) : Int) from (by first | rfl | omega | (simp; done)))) Eb) (Hx 700 (congrArg (fun x => AObj.row 43 (.lines x)) (show (((c.take i).map fun l => ((1 : Int), l)) ++ [(1, (c.getD i []))]) = ((c.take (i + 1)).map fun l => ((1 : Int), l)) from (by exact Cn.given_next (by omega)))) Hb)))))))))))
    ·
     refine ap ?_ (ap ?_ az) <;>
      first | omega | exact id | exact vcNot | exact vcG | exact vcH | (intro _; omega) | exact (fun _ h => h) | (intro h; simp at h; omega) | (simp only [List.length_cons, List.length_nil, List.length_append, List.length_map, List.length_set, List.length_replicate]; omega) | (intro h; simp [h]; done) | (simp only [List.length_cons, List.length_nil, List.length_map, List.length_take]; omega) | done
    ·
     refine ap ?_ az
     first | omega | exact id | exact vcNot | exact vcG | exact vcH | (intro _; omega) | exact (fun _ h => h) | (intro h; simp at h; omega) | (simp only [List.length_cons, List.length_nil, List.length_append, List.length_map, List.length_set, List.length_replicate]; omega) | (intro h; simp [h]; done) | (simp only [List.length_cons, List.length_nil, List.length_map, List.length_take]; omega) | done
    ·
     refine ap ?_ az
     first | omega | exact id | exact vcNot | exact vcG | exact vcH | (intro _; omega) | exact (fun _ h => h) | (intro h; simp at h; omega) | (simp only [List.length_cons, List.length_nil, List.length_append, List.length_map, List.length_set, List.length_replicate]; omega) | (intro h; simp [h]; done) | (simp only [List.length_cons, List.length_nil, List.length_map, List.length_take]; omega) | done
    ·
     show (i + 1) ≤ c.length
     omega
    ·
     show c.length - (i + 1) < c.length - i
     omega
   ·
    exact Ze (Fe (Fe (Fs (Ft (Sz hcx [] [2] [9, 3, 6, 7, 8] [] (Zr (Fn [(0, .to 0), (700, .to 1)] [2] (Rv hcx rfl [true, true] (consO rfl (consO (congrArg some (congrArg (fun x => AObj.row 43 (.lines x)) (show ((c.take i).map fun l => ((1 : Int), l)) = (c.map fun l => ((1 : Int), l)) from (by (rw [show i = c.length by omega, List.take_length]))))) rfl))))))))))
 ·
  cases hσ
attribute [local irreducible] Cn.flwV Cn.chkC Cn.putV Cn.getV24 Cn.frmV
abbrev lvC1 : Bool := ((Cn.flwV ((Cn.four4.take 2).drop 0) [2]) && (!(Cn.flwV Cn.four4 ([] : List (Int)))))
abbrev lvC2 : Bool := (lvC1 && (Cn.flwV (Cn.four4 ++ [[2]]) ([] : List (Int))))
abbrev lvC3 : Bool := (lvC2 && ((Cn.chkC (2 : Int) Cn.four4 ((Cn.four4.map fun l => ((1 : Int), l)) ++ [(2, [2])]) ([] : List (Int))) == 0))
abbrev lvC4 : Bool := (lvC3 && ((Cn.chkC (2 : Int) Cn.four4 ((((Cn.four4.map fun l => ((1 : Int), l)) ++ [(2, [2])]).take 4).drop 0) ([] : List (Int))) == 250))
abbrev lvC5 : Bool := (lvC4 && ((strOfNums (Cn.putV [(1, [1, (-2)])])).toList == (⟨#[111, 32, 49, 32, 45, 50, 32, 48, 10]⟩ : ByteArray).toList))
abbrev lvC6 : Bool := (lvC5 && ((Cn.frmV [(1, [1, (-2)])]) == 0))
abbrev lvC7 : Bool := (lvC6 && ((((Cn.getV24 (Cn.putV [(1, [1, (-2)])])).1).length : Int) == 1))
def cx_live24 : Cx := ⟨tyLv24, [(14, (coeF [.ld (.intss []), .ld (.ints [])] pFlw_σ)), (17, (coeF [.agg [.id, .ld (.intss [])], .ld (.lines []), .ld (.ints [])] pCheck_σ)), (19, (coeF [.ld (.lines [])] pPut_σ)), (21, (coeF [.ld (.bytes [])] pGet_σ)), (34, lFour_σ), (35, lGiven_σ)], true⟩
theorem cx_live24_ok : CxOk Tryz.prog cx_live24 := cx_ok tyLv24_ok ⟨(pFlw_sound.coe [.ld (.intss []), .ld (.ints [])] rfl), (pCheck_sound.coe [.agg [.id, .ld (.intss [])], .ld (.lines []), .ld (.ints [])] rfl), (pPut_sound.coe [.ld (.lines [])] rfl), (pGet_sound.coe [.ld (.bytes [])] rfl), lFour_sound, lGiven_sound, trivial⟩
def live24_σ : CtF
  | [], [] => some (True, .bool true, [])
  | _, _ => none
theorem live24_sound : Sound Tryz.prog 12 live24_σ := by
 refine Sw (cx := cx_live24) Tryz.f12 Tryz.func12 ?_
 intro wW wO wβ G0 args os p r outs hσ hp
 have hcx := cx_live24_ok
 have hmx : Tryz.prog.follows .mixedOrders = true := by kernel_rfl
 unfold live24_σ at hσ
 split at hσ
 ·
  cases hσ
  refine ⟨by kernel_rfl, ?_⟩
  have h1 := Cn.lv24_1
  have h2 := Cn.lv24_2
  have h3 := Cn.lv24_3
  have h4 := Cn.lv24_4
  have h5 := Cn.lv24_5
  have h6 := Cn.lv24_6
  have h7 := Cn.lv24_7
  have h8 := Cn.lv24_8
  refine Sz hcx [] [] [] [] (Sq hcx [(1000, .to 207), (1002, .to 601)] [1] [] [] [(True)] ?_ (Sq hcx [(1005, .to 214)] [2] [] [] [(True), (Cn.four4.length ≤ 1000000), (((Cn.four4.map fun l => ((1 : Int), l)).length + [(2, [2])].length) * 32 ≤ 140737488355328)] ?_ (Zs (Zn [(601, .to 601), (207, .frz), (214, .frz)] [2, 1] (Tq hcx [] [3, 4] [] [] [(Cn.szP [(1, [1, (-2)])] ≤ 1000000000)] ?_ (Ft (Sq hcx [] [5, 6] [] [] [((Cn.putV [(1, [1, (-2)])]).length ≤ 1000000 ∧ Cn.isBytes (Cn.putV [(1, [1, (-2)])]))] ?_ (Sd hcx hmx [0, 1, 0, 7, 15, 31, 63, 127, 255, 511, 1023, 1023, 3071, 8191, 16383, 32767, 65535, 131071, 131071, 524287, 1048575, 2097151, 4194303, 8388607, 8388607, 25165823, 67108863, 134217727, 268435455, 536870911, 1073741823, 2147483647, 4294967295, 8589934591, 17179869183, 34359738367, 68719476735, 137438953471, 274877906943, 549755813887, 1099511627775, 2199023255551, 4398046511103, 8796093022207, 17592186044415, 35184372088831, 70368744177663, 140737488355327] [] [0] [5, 6, 3, 4, 2, 1] [601] [(True), ((0 : Int) ≤ 2 ∧ 2 ≤ (Cn.four4.length : Int)), (((Cn.four4.take 2).drop 0).length ≤ 1000000000 ∧ (∀ x ∈ ((Cn.four4.take 2).drop 0), x.length ≤ maxLen) ∧ [2].length ≤ maxLen), ((Cn.flwV ((Cn.four4.take 2).drop 0) [2]) = true), (True), ((Cn.flwV ((Cn.four4.take 2).drop 0) [2]) = true → (Cn.four4.length ≤ 1000000000 ∧ (∀ x ∈ Cn.four4, x.length ≤ maxLen) ∧ ([] : List (Int)).length ≤ maxLen)), ((Cn.flwV ((Cn.four4.take 2).drop 0) [2]) = true → ((Cn.flwV ((Cn.four4.take 2).drop 0) [2]) = true)), ((Cn.flwV ((Cn.four4.take 2).drop 0) [2]) = true → (Cn.flwV ((Cn.four4.take 2).drop 0) [2]) = true), (lvC1 = true), (True), (lvC1 = true), (lvC1 = true), (lvC1 = true), ((Cn.four4.length + [[2]].length) * 24 ≤ 140737488355328), (lvC1 = true → ((Cn.four4 ++ [[2]]).length ≤ 1000000000 ∧ (∀ x ∈ (Cn.four4 ++ [[2]]), x.length ≤ maxLen) ∧ ([] : List (Int)).length ≤ maxLen)), (lvC1 = true → lvC1 = true), (lvC2 = true → (lvC2 = true)), (lvC2 = true → (lvC2 = true)), (lvC2 = true → (Cn.four4.length ≤ maxLen ∧ (∀ x ∈ Cn.four4, x.length ≤ 1000000000000) ∧ ((Cn.four4.map fun l => ((1 : Int), l)) ++ [(2, [2])]).length ≤ maxLen ∧ (∀ x ∈ ((Cn.four4.map fun l => ((1 : Int), l)) ++ [(2, [2])]), x.2.length ≤ 1000000000000) ∧ ([] : List (Int)).length ≤ 1000000000000)), (lvC2 = true → (lvC2 = true)), (lvC2 = true → lvC2 = true), (lvC3 = true → (lvC3 = true)), (lvC3 = true → ((0 : Int) ≤ 4 ∧ 4 ≤ (((Cn.four4.map fun l => ((1 : Int), l)) ++ [(2, [2])]).length : Int))), (lvC3 = true → (lvC3 = true)), (lvC3 = true → (lvC3 = true)), (lvC3 = true → (Cn.four4.length ≤ maxLen ∧ (∀ x ∈ Cn.four4, x.length ≤ 1000000000000) ∧ ((((Cn.four4.map fun l => ((1 : Int), l)) ++ [(2, [2])]).take 4).drop 0).length ≤ maxLen ∧ (∀ x ∈ ((((Cn.four4.map fun l => ((1 : Int), l)) ++ [(2, [2])]).take 4).drop 0), x.2.length ≤ 1000000000000) ∧ ([] : List (Int)).length ≤ 1000000000000)), (lvC3 = true → (lvC3 = true)), (lvC3 = true → lvC3 = true), (lvC4 = true → (lvC4 = true)), (lvC4 = true → (lvC4 = true)), (lvC4 = true → lvC4 = true), (lvC5 = true → (lvC5 = true)), (lvC5 = true → lvC5 = true), (lvC6 = true → (lvC6 = true)), (lvC6 = true → (lvC6 = true)), (lvC6 = true → lvC6 = true), (lvC7 = true → (lvC7 = true)), (lvC7 = true → lvC7 = true)] ?_ (Zr (Rv hcx (congrArg AV.bool (show (lvC7 && (((Cn.getV24 (Cn.putV [(1, [1, (-2)])])).2) == 0)) = true from (by (simp only [lvC1, lvC2, lvC3, lvC4, lvC5, lvC6, lvC7, h1, h2, h3, h4, h5, h6, h7, h8, Cn.str24]; decide)))) [] rfl))))))))))
  ·
   refine ap ?_ az
   first | exact True.intro | exact (fun h => h) | exact (fun h => (Bool.and_eq_true_iff.1 h).1) | (rw [h7]; exact ⟨by decide, by unfold Cn.isBytes; decide⟩) | (simp only [h1]; done) | (simp only [lvC1, lvC2, lvC3, lvC4, lvC5, lvC6, lvC7, h1, h2, h3, h4, h5, h6]; decide) | decide | (intro _; exact True.intro) | (intro _; rw [h7]; decide) | (intro _; decide) | done
  ·
   refine ap ?_ (ap ?_ (ap ?_ az)) <;>
    first | exact True.intro | exact (fun h => h) | exact (fun h => (Bool.and_eq_true_iff.1 h).1) | (rw [h7]; exact ⟨by decide, by unfold Cn.isBytes; decide⟩) | (simp only [h1]; done) | (simp only [lvC1, lvC2, lvC3, lvC4, lvC5, lvC6, lvC7, h1, h2, h3, h4, h5, h6]; decide) | decide | (intro _; exact True.intro) | (intro _; rw [h7]; decide) | (intro _; decide) | done
  ·
   refine ap ?_ az
   first | exact True.intro | exact (fun h => h) | exact (fun h => (Bool.and_eq_true_iff.1 h).1) | (rw [h7]; exact ⟨by decide, by unfold Cn.isBytes; decide⟩) | (simp only [h1]; done) | (simp only [lvC1, lvC2, lvC3, lvC4, lvC5, lvC6, lvC7, h1, h2, h3, h4, h5, h6]; decide) | decide | (intro _; exact True.intro) | (intro _; rw [h7]; decide) | (intro _; decide) | done
  ·
   refine ap ?_ az
   first | exact True.intro | exact (fun h => h) | exact (fun h => (Bool.and_eq_true_iff.1 h).1) | (rw [h7]; exact ⟨by decide, by unfold Cn.isBytes; decide⟩) | (simp only [h1]; done) | (simp only [lvC1, lvC2, lvC3, lvC4, lvC5, lvC6, lvC7, h1, h2, h3, h4, h5, h6]; decide) | decide | (intro _; exact True.intro) | (intro _; rw [h7]; decide) | (intro _; decide) | done
  ·
   refine ap ?_ (ap ?_ (ap ?_ (ap ?_ (ap ?_ (ap ?_ (ap ?_ (ap (by exact id) (ap ?_ (ap ?_ (ap ?_ (ap ?_ (ap ?_ (ap ?_ (ap ?_ (ap (by exact id) (ap ?_ (ap ?_ (ap ?_ (ap ?_ (ap (by exact id) (ap ?_ (ap ?_ (ap ?_ (ap ?_ (ap ?_ (ap ?_ (ap (by exact id) (ap ?_ (ap ?_ (ap (by exact id) (ap ?_ (ap (by exact id) (ap ?_ (ap ?_ (ap (by exact id) (ap ?_ (ap (by exact id) az))))))))))))))))))))))))))))))))))))) <;>
    first | exact True.intro | exact (fun h => h) | exact (fun h => (Bool.and_eq_true_iff.1 h).1) | (rw [h7]; exact ⟨by decide, by unfold Cn.isBytes; decide⟩) | (simp only [h1]; done) | (simp only [lvC1, lvC2, lvC3, lvC4, lvC5, lvC6, lvC7, h1, h2, h3, h4, h5, h6]; decide) | decide | (intro _; exact True.intro) | (intro _; rw [h7]; decide) | (intro _; decide) | done
 ·
  cases hσ
end Go.Proofs.YtbpbndlgfiammaaGreatDoor.En
namespace Go.Proofs.YtbpbndlgfiammaaGreatDoor.En
open Go Go.RowKit
def tyR24A : List (Nat × TD) := [(3, ⟨1, false, [.int .i64 0], [], none, 8, false, 1, 1⟩),
  (22, ⟨1, false, [.slice none 0 0], [], some 23, 24, false, 0, 0⟩),
  (23, ⟨1, false, [.slice none 0 0], [], some 3, 24, false, 0, 3⟩),
  (29, ⟨1, false, [.slice none 0 0], [], some 43, 24, false, 0, 0⟩),
  (43, ⟨2, true, [.int .i64 0, .slice none 0 0], [(0, 3), (1, 23)], none, 32, false, 0, 7⟩)]
theorem tyR24A_ok : AllTy Tryz.prog tyR24A := ⟨⟨by kernel_rfl, by kernel_rfl, by kernel_rfl⟩, ⟨by kernel_rfl, by kernel_rfl, by kernel_rfl⟩, ⟨by kernel_rfl, by kernel_rfl, by kernel_rfl⟩, ⟨by kernel_rfl, by kernel_rfl, by kernel_rfl⟩, ⟨by kernel_rfl, by kernel_rfl, by kernel_rfl⟩, trivial⟩
def cx_rFewC : Cx := ⟨tyR24A, [], true⟩
theorem cx_rFewC_ok : CxOk Tryz.prog cx_rFewC := cx_ok tyR24A_ok trivial
def rFewC_σ : CtF
  | [.im (.ls (.intss c)), .im (.val (.int .i64 m))], [] => some (c.length ≤ maxLen ∧ (∀ x ∈ c, x.length ≤ 17592186043904) ∧ 0 ≤ m ∧ m ≤ 1000, .bool (Cn.fewC c m), [])
  | _, _ => none
theorem rFewC_sound : Sound Tryz.prog 13 rFewC_σ := by
 refine Sw (cx := cx_rFewC) Tryz.f13 Tryz.func13 ?_
 intro wW wO wβ G0 args os p r outs hσ hp
 have hcx := cx_rFewC_ok
 unfold rFewC_σ at hσ
 split at hσ
 ·
  rename_i c m
  cases hσ
  refine ⟨by kernel_rfl, ?_⟩
  obtain ⟨hm1, hm2, hm3, hm4⟩ := hp
  unfold maxLen at hm1
  refine Sz hcx [] [] [] [] (Sz hcx [] [5] [] [] (Zs (Sz hcx [] [6] [] [] (Zb (Lp (X := Nat) (fun x0 => x0 ≤ c.length ∧ (Cn.szC (c.take x0) : Int) ≤ 6 * m) (fun x0 => ([(0, .intss c), (1, .int m), (5, .int (Cn.szC (c.take x0) : Int)), (6, .int (x0 : Int))], [])) (fun x0 => c.length - x0) (0) ?_ (Ex 6 (congrArg AV.int (show 0 = (0 : Int) from (by first | rfl | omega | (simp; done)))) Eb) Hb fun i hI => ?_)))))
  ·
   exact ⟨Nat.zero_le _, by show (0 : Int) ≤ 6 * m; omega⟩
  ·
   try dsimp only at hI
   obtain ⟨hk, hs⟩ := hI
   have hn := fun (h : i < c.length) => Cn.fewC_next h
   have hxl := fun (h : i < c.length) => hm2 _ (Cn.getD_memL (d := []) h)
   refine Zs (Sq hcx [] [15] [] [] [((decide ((i : Int) < (c.length : Int))) = true → ((decide ((i : Int) < (c.length : Int))) = true)), ((decide ((i : Int) < (c.length : Int))) = true → ((decide ((i : Int) < (c.length : Int))) = true)), ((decide ((i : Int) < (c.length : Int))) = true → (decide ((i : Int) < (c.length : Int))) = true)] ?_ (Zi (b := (decide ((i : Int) < (c.length : Int))) && (decide ((i : Int) ≤ m))) (fun h0 => ?_) fun h0 => ?_))
   ·
    refine ap ?_ (ap ?_ (ap (by exact id) az)) <;>
     first | omega | exact id | exact vcNot | exact vcG | exact vcH | (intro _; omega) | exact (fun _ h => h) | (intro h; simp at h; omega) | (simp only [List.length_cons, List.length_nil, List.length_append, List.length_map, List.length_set, List.length_replicate]; omega) | (intro h; simp [h]; done) | exact (fun _ => ⟨by omega, by omega⟩) | (constructor <;> omega) | (intro _; constructor <;> omega) | omega | done
   ·
    have h15 := (Cn.and_t h0).1
    have h15b : i < c.length := by simpa using h15
    have hn9 := hn h15b
    have hx9 := hxl h15b
    refine Zk (Ft (Zs (Zb (Sq hcx [] [5] [15] [] [((0 : Int) ≤ (i : Int) ∧ (i : Int) < (c.length : Int)), Fit (1 + ((c.getD i []).length : Int)), Fit ((Cn.szC (c.take i) : Int) + (1 + ((c.getD i []).length : Int)))] ?_ (Sq hcx [] [29] [] [] [Fit (6 * m)] ?_ (Zj (p := (((Cn.szC (c.take i) : Int) + (1 + ((c.getD i []).length : Int))) > (6 * m))) (fun h1 => ?_) fun h1 => ?_))))))
    ·
     refine ap ?_ (ap ?_ (ap ?_ az)) <;>
      first | omega | exact id | exact vcNot | exact vcG | exact vcH | (intro _; omega) | exact (fun _ h => h) | (intro h; simp at h; omega) | (simp only [List.length_cons, List.length_nil, List.length_append, List.length_map, List.length_set, List.length_replicate]; omega) | (intro h; simp [h]; done) | exact (fun _ => ⟨by omega, by omega⟩) | (constructor <;> omega) | (intro _; constructor <;> omega) | omega | done
    ·
     refine ap ?_ az
     first | omega | exact id | exact vcNot | exact vcG | exact vcH | (intro _; omega) | exact (fun _ h => h) | (intro h; simp at h; omega) | (simp only [List.length_cons, List.length_nil, List.length_append, List.length_map, List.length_set, List.length_replicate]; omega) | (intro h; simp [h]; done) | exact (fun _ => ⟨by omega, by omega⟩) | (constructor <;> omega) | (intro _; constructor <;> omega) | omega | done
    ·
     have h29 := h1
     exact Sz hcx [] [4] [29, 5, 0, 1, 6] [] (Zr (Fk (Fr (Fr (Fk (Fr (Rv hcx (congrArg AV.bool (show false = (Cn.fewC c m) from (by first | exact Cn.fewG_big (by rw [show Cn.szG _ _ = Cn.szC (c.take (i + 1)) from rfl]; omega) | exact Cn.fewG_end hs hk h15 | done))) [] rfl)))))))
    ·
     have h29 := h1
     refine Zk (Fb (Ft (Tq hcx [] [6] [29] [] [Fit ((i : Int) + 1)] ?_ (Lr (i + 1) ?_ ?_ (Ex 5 (congrArg AV.int (show ((Cn.szC (c.take i) : Int) + (1 + ((c.getD i []).length : Int))) = (Cn.szC (c.take (i + 1)) : Int) from (by (have h8 := hn (by omega); omega)))) (Ex 6 (congrArg AV.int (show ((i : Int) + 1) = ((i + 1) : Int) from (by first | rfl | omega | (simp; done)))) Eb)) Hb))))
     ·
      refine ap ?_ az
      first | omega | exact id | exact vcNot | exact vcG | exact vcH | (intro _; omega) | exact (fun _ h => h) | (intro h; simp at h; omega) | (simp only [List.length_cons, List.length_nil, List.length_append, List.length_map, List.length_set, List.length_replicate]; omega) | (intro h; simp [h]; done) | exact (fun _ => ⟨by omega, by omega⟩) | (constructor <;> omega) | (intro _; constructor <;> omega) | omega | done
     ·
      exact ⟨by omega, by omega⟩
     ·
      show c.length - (i + 1) < c.length - i
      omega
   ·
    have h15 := h0
    exact Ze (Fe (Fe (Fs (Ft (Sz hcx [] [4] [15, 0, 1, 5, 6] [] (Zr (Rv hcx (congrArg AV.bool (show (decide ((c.length : Int) ≤ m)) = (Cn.fewC c m) from (by first | exact Cn.fewG_big (by rw [show Cn.szG _ _ = Cn.szC (c.take (i + 1)) from rfl]; omega) | exact Cn.fewG_end hs hk h15 | done))) [] rfl)))))))
 ·
  cases hσ
end Go.Proofs.YtbpbndlgfiammaaGreatDoor.En
namespace Go.Proofs.YtbpbndlgfiammaaGreatDoor.En
open Go Go.RowKit
theorem info_int : (Tryz.prog.info? 3).map (fun i => (i.zero, i.size, i.bytes)) = some (some (.int .i64 0), 1, 8) := by kernel_rfl
theorem info_of {ty sz by_ : Nat} {z : Value} (h : (Tryz.prog.info? ty).map (fun i => (i.zero, i.size, i.bytes)) = some (some z, sz, by_)) : ∃ i, Tryz.prog.info? ty = some i ∧ i.zero = some z ∧ i.size = sz ∧ i.bytes = by_ := by
  cases h' : Tryz.prog.info? ty with
  | none => rw [h'] at h; cases h
  | some i => rw [h'] at h; injection h with h; injection h with h1 h2; injection h2 with h2 h3; exact ⟨i, rfl, h1, h2, h3⟩
def NewRow (e : Nat) (w : World) (us : List Value) (en : Ending) (w' : World) : Prop :=
  ∃ A cap, en = .returned (.slice A us.length cap) ∧ Own w' e (.slice A us.length cap) us ∧ Below w.heap.size w w' ∧ ∀ g, (Value.slice A us.length cap).ownBlock = some g → w.heap.size ≤ g
set_option maxHeartbeats 400000 in
theorem clone_nil (c : Nat) (w : World) : Calls Tryz.prog 71 #[.slice none 0 c] w fun e w' => NewRow 3 w [] e w' := by
  have hnil := Lib.run_eql_slice_nil (P := Tryz.prog)
  go_enter Tryz.func71, Tryz.ntmps71
  go_wp2
  go_ret
  exact ⟨none, 0, rfl, Own.nil _ _, Below.refl _ _, fun g h => by simp [Value.ownBlock] at h⟩
set_option maxHeartbeats 400000 in
theorem clone_some (ad : Addr) (c : Nat) (us : List Value) (n : Nat) (hn : us.length = n) (w : World) (h : ∀ j u, us[j]? = some u → w.cell? (ad.add j) = some u) (h1 : ∀ u ∈ us, u.oneCell' = true) (hl : n ≤ 1000000000000) :
    Calls Tryz.prog 71 #[.slice (some ad) n c] w fun e w' => NewRow 3 w us e w' := by
  obtain ⟨i0, hi, hz0, hz1, hz2⟩ := info_of info_int
  have hnil := Lib.run_eql_slice_nil (P := Tryz.prog)
  have HI := Lib.hid (And.intro hi (And.intro hz0 (And.intro hz1 hz2)))
  have hcells : SrcAt (w.alloc (.cells #[] 3)) (some ad) us := .inr ⟨ad, rfl, fun j u hu => by
    have h2 := h j u hu
    rw [World.cell?_alloc_lt w _ _ (World.block_lt_of_cell? w _ h2)]
    exact h2⟩
  have HC := Lib.hid hcells
  have HN := Lib.hid hn
  have H1 := Lib.hid h1
  clear hi hz0 hz1 hz2 h hcells hn h1
  go_enter Tryz.func71, Tryz.ntmps71
  go_wp2_with (at_builtin; refine wpList_appendR _ rfl (.tmp 5) (.tmp 6) 23 rfl 3 i0 (.int .i64 0) 8 Tryz.underlying23 HI.out.1 HI.out.2.1 HI.out.2.2.1 HI.out.2.2.2 rfl _ [] 0 rfl rfl (Own.empty w _) (some ad) c us n HN.out rfl HC.out H1.out (by unfold maxLen; omega) (by omega) ?_)
  intro A cap w1 h1 h2 h3
  have H1 := Lib.hid h1
  have H2 := Lib.hid h2
  have H3 := Lib.hid h3
  clear h1 h2 h3
  go_wp2
  go_ret
  have HN' := HN.out
  subst HN'
  refine ⟨A, cap, rfl, H1.out, ?_, ?_⟩
  · exact (((Kp.refl (fun _ => False) w).alloc _).grown H2.out (fun g e hg => by simp [Value.ownBlock] at e; omega)).none_below
  · intro g hg
    rcases H3.out g hg with e | e
    · simp [Value.ownBlock] at e; omega
    · omega
theorem rep_src {W : World} {G : Nat → Prop} {l : LD} {v : Value} (hf : isFlat1 l = true) (h : Rep W G (.ls l) v) : ∃ A c, v = .slice A l.len c ∧ (A = none → l.len = 0) ∧ ∀ ad, A = some ad → ∀ j u, (encL l)[j]? = some u → W.cell? (ad.add j) = some u := by
  obtain ⟨hn, hst⟩ := encL_len hf
  rcases h.cases_ls with ⟨h0, A, c, rfl⟩ | ⟨b, off, c, u, rfl, h1, h2, h3, h4, h5⟩
  · refine ⟨A, c, by rw [h0], fun _ => h0, fun ad _ j u hj => ?_⟩
    have := (List.getElem?_eq_some_iff.1 hj).1
    omega
  · refine ⟨some ⟨b, off, none⟩, c, rfl, (fun h => by cases h), fun ad had j y hj => ?_⟩
    injection had with had
    subst had
    obtain ⟨hj1, hj2⟩ := List.getElem?_eq_some_iff.1 hj
    rw [hn] at hj1
    have hc := h4 j 0 hj1 (by omega)
    have he : (List.range l.len).map (fun i => u i 0) = encL l := encL_of (W := W) (G := G) hf (by simp) (fun i hi => by
      have := h5 i 0 hi (by omega)
      simpa [List.getD, hi] using this)
    rw [add_mk, ← hj2]
    rw [hst] at hc
    simp only [Nat.mul_one, Nat.add_zero] at hc
    rw [hc]
    simp [← he]
theorem flat_one {l : LD} (hf : isFlat1 l = true) : ∀ u ∈ encL l, u.oneCell' = true := by
  intro u hu
  cases l <;> simp [isFlat1] at hf <;> (simp only [encL, List.mem_map] at hu; obtain ⟨x, _, rfl⟩ := hu; rfl)
def sClone : CtF := fun args os => match args, os with
  | [.im (.ls (.ints xs))], [] => some (xs.length ≤ 1000000000000, .row 0, [some (.row 3 (.ints xs))])
  | _, _ => none
theorem sClone_sound : Sound Tryz.prog 71 sClone := by
  refine sound_new (e := 3) (run_enters Tryz.func71 (by kernel_rfl) rfl) fun args os p r outs h => ?_
  unfold sClone at h
  split at h
  · rename_i xs
    injection h with h
    injection h with h1 h
    injection h with h2 h3
    subst h1 h2 h3
    refine ⟨.ints xs, rfl, rfl, rfl, rfl, fun hp => ⟨by show xs.length ≤ maxLen; unfold maxLen; omega, fun W G vs hG _ hd => ?_⟩⟩
    simp only [DenL] at hd
    obtain ⟨v, vs', rfl, hd0, hd1⟩ := hd
    subst hd1
    have hr : Rep W G (.ls (.ints xs)) v := hd0
    obtain ⟨A, c, rfl, hA, hs⟩ := rep_src (l := .ints xs) rfl hr
    have hn := (encL_len (l := .ints xs) rfl).1
    have fin : ∀ us, us = encL (.ints xs) → ∀ e' W', NewRow 3 W us e' W' → ∃ v', e' = .returned v' ∧ Own W' 3 v' (encL (.ints xs)) ∧ Below W.heap.size W W' ∧ ∀ b, v'.ownBlock = some b → W.heap.size ≤ b := by
      rintro us rfl e' W' ⟨A', cap, rfl, h1, h2, h3⟩
      exact ⟨_, rfl, h1, h2, h3⟩
    cases A with
    | none =>
      have h0 : xs = [] := List.eq_nil_of_length_eq_zero (hA rfl)
      subst h0
      exact (clone_nil c W).mono (fin [] rfl)
    | some ad => exact (clone_some ad c _ xs.length hn W (hs ad rfl) (flat_one rfl) hp).mono (fin _ rfl)
  · cases h
end Go.Proofs.YtbpbndlgfiammaaGreatDoor.En
namespace Go.Proofs.YtbpbndlgfiammaaGreatDoor
open Go Go.RowKit
theorem may_x (x n : Int) (w : World) (hn0 : 0 ≤ n) (hn : n ≤ 65536) : Calls Tryz.prog 63 #[I64 x, I64 n] w fun e w' => e = .returned (.bool (Cn.mayP x n)) ∧ w = w' := by
  by_cases h0 : x = 0
  · have e0 : (x != 0) = false := by simpa using h0
    have HR := Lib.hid (show Cn.mayP x n = false by simp [Cn.mayP, h0])
    clear h0
    go_enter Tryz.func63, Tryz.ntmps63
    go_wp2
    go_ret
    exact ⟨by rw [HR.out]; rfl, rfl⟩
  · have e0 : (x != 0) = true := by simpa using h0
    by_cases h1 : -n ≤ x
    · by_cases h2 : x ≤ n
      · have HR := Lib.hid (show Cn.mayP x n = true by simp [Cn.mayP, h0, h1, h2])
        clear h0
        go_enter Tryz.func63, Tryz.ntmps63
        go_wp2
        go_ret
        exact ⟨by rw [HR.out]; rfl, rfl⟩
      · have HR := Lib.hid (show Cn.mayP x n = false by simp [Cn.mayP, h2])
        have e2 : decide (x ≤ n) = false := by simpa using h2
        clear h0
        go_enter Tryz.func63, Tryz.ntmps63
        go_wp2
        go_ret
        exact ⟨by rw [HR.out]; rfl, rfl⟩
    · have HR := Lib.hid (show Cn.mayP x n = false by simp [Cn.mayP, h1])
      have e1 : decide (-n ≤ x) = false := by simpa using h1
      clear h0
      go_enter Tryz.func63, Tryz.ntmps63
      go_wp2
      go_ret
      exact ⟨by rw [HR.out]; rfl, rfl⟩
theorem ret_eqx {x y : Int} (h : x = y) : Ending.returned (I64 x) = Ending.returned (I64 y) := by rw [h]
theorem of_x (x : Int) (w : World) (h1 : -65536 ≤ x) (h2 : x ≤ 65536) : Calls Tryz.prog 93 #[I64 x] w fun e w' => e = .returned (I64 (x.natAbs : Int)) ∧ w = w' := by
  by_cases h : 0 < x
  · have HR := Lib.hid (show (x.natAbs : Int) = x by omega)
    go_enter Tryz.func93, Tryz.ntmps93
    go_wp2
    go_ret
    exact ⟨by rw [HR.out]; rfl, rfl⟩
  · have HR := Lib.hid (show (x.natAbs : Int) = -x by omega)
    go_enter Tryz.func93, Tryz.ntmps93
    go_wp2
    all_goals
      go_ret
      exact ⟨by rw [HR.out]; exact ret_eqx (by omega), rfl⟩
theorem isNaN_x (x : Int) (w : World) : Calls Tryz.prog 124 #[I64 x] w fun e w' => e = .returned (.bool false) ∧ w = w' := by
  go_enter Tryz.func124, Tryz.ntmps124
  go_wp2_with fail
  go_ret
  exact ⟨by simp, rfl⟩
def cmpI (x y : Int) : Int := if x < y then -1 else if y < x then 1 else 0
theorem compare_x (x y : Int) (w : World) : Calls Tryz.prog 98 #[I64 x, I64 y] w fun e w' => e = .returned (I64 (cmpI x y)) ∧ w = w' := by
  unfold cmpI
  rcases Int.lt_trichotomy x y with h | h | h
  · rw [if_pos h]
    go_enter Tryz.func98, Tryz.ntmps98
    go_wp2_with (first | (go_at_call 124; refine (isNaN_x _ _).mono ?_; rintro e w1 ⟨rfl, rfl⟩))
    go_ret
    exact ⟨rfl, rfl⟩
  · subst h
    rw [if_neg (Int.lt_irrefl _), if_neg (Int.lt_irrefl _)]
    have h1 : ¬ x < x := Int.lt_irrefl _
    go_enter Tryz.func98, Tryz.ntmps98
    go_wp2_with (first | (go_at_call 124; refine (isNaN_x _ _).mono ?_; rintro e w1 ⟨rfl, rfl⟩))
    go_ret
    exact ⟨rfl, rfl⟩
  · have h1 : ¬ x < y := by omega
    rw [if_neg h1, if_pos h]
    go_enter Tryz.func98, Tryz.ntmps98
    go_wp2_with (first | (go_at_call 124; refine (isNaN_x _ _).mono ?_; rintro e w1 ⟨rfl, rfl⟩))
    go_ret
    exact ⟨rfl, rfl⟩
theorem or_x (a b : Int) (g : Nat) (w : World) (h0 : w.cell? ⟨g, 0, none⟩ = some (I64 a)) (h1 : w.cell? ⟨g, 1, none⟩ = some (I64 b)) :
    Calls Tryz.prog 97 #[.slice (some ⟨g, 0, none⟩) 2 2] w fun e w' => e = .returned (I64 (if a = 0 then b else a)) ∧ w = w' := by
  by_cases ha : a = 0
  · rw [if_pos ha]
    have e0 : (a != 0) = false := by simpa using ha
    clear ha
    by_cases hb : b = 0
    · subst hb
      go_enter Tryz.func97, Tryz.ntmps97
      go_wp2_with fail
      refine wp_loop_rounds 3 ?_
      rw [rounds_succ]
      go_wp2_with fail
      rw [rounds_succ]
      go_wp2_with fail
      rw [rounds_succ]
      go_wp2_with fail
      go_ret
      exact ⟨rfl, rfl⟩
    · have e1 : (b != 0) = true := by simpa using hb
      clear hb
      go_enter Tryz.func97, Tryz.ntmps97
      go_wp2_with fail
      refine wp_loop_rounds 3 ?_
      rw [rounds_succ]
      go_wp2_with fail
      rw [rounds_succ]
      go_wp2_with fail
      go_ret
      exact ⟨rfl, rfl⟩
  · rw [if_neg ha]
    have e0 : (a != 0) = true := by simpa using ha
    clear ha
    go_enter Tryz.func97, Tryz.ntmps97
    go_wp2_with fail
    refine wp_loop_rounds 3 ?_
    rw [rounds_succ]
    go_wp2_with fail
    go_ret
    exact ⟨rfl, rfl⟩
theorem norm1_x (x : Int) (w : World) : Calls Tryz.prog 94 #[I64 x] w fun e w' => e = .returned (.bool (!Cn.mayP x 65536)) ∧ w = w' := by
  have HM := Lib.hid (may_x x 65536 w (by decide) (by decide))
  go_enter Tryz.func94, Tryz.ntmps94
  go_wp2_with fail
  refine HM.out.mono ?_
  rintro e w1 ⟨rfl, rfl⟩
  go_wp2_with fail
  go_ret
  exact ⟨rfl, rfl⟩
theorem res11_x (q o : Nat) (x y : Int) (w : World) (hq : w.cell? ⟨q, o, none⟩ = some (I64 x)) : Calls Tryz.prog 72 #[I64 y, .pointer (some ⟨q, o, none⟩)] w fun e w' => e = .returned (.bool (y == x)) ∧ w = w' := by
  go_enter Tryz.func72, Tryz.ntmps72
  go_wp2_with fail
  go_ret
  exact ⟨rfl, rfl⟩
def cmpL (x y : Int) : Int := if cmpI x.natAbs y.natAbs = 0 then cmpI y x else cmpI x.natAbs y.natAbs
set_option maxHeartbeats 400000 in
theorem norm2_x (x y : Int) (w : World) (hx1 : -65536 ≤ x) (hx2 : x ≤ 65536) (hy1 : -65536 ≤ y) (hy2 : y ≤ 65536) :
    Calls Tryz.prog 96 #[I64 x, I64 y] w fun e w' => e = .returned (I64 (cmpL x y)) ∧ ∃ os, w' = Sort.grow w os := by
  have HX := Lib.hid (of_x x w hx1 hx2)
  have HY := Lib.hid (of_x y w hy1 hy2)
  have HC := Lib.hid (compare_x x.natAbs y.natAbs w)
  have HD := Lib.hid (compare_x y x w)
  have HO := Lib.hid (fun g W => or_x (cmpI x.natAbs y.natAbs) (cmpI y x) g W)
  have HR := Lib.hid (show cmpL x y = if cmpI x.natAbs y.natAbs = 0 then cmpI y x else cmpI x.natAbs y.natAbs from rfl)
  clear hx1 hx2 hy1 hy2
  generalize (x.natAbs : Int) = xa at HX HC HO HR
  generalize (y.natAbs : Int) = ya at HY HC HO HR
  generalize cmpI xa ya = c1 at HC HO HR
  generalize cmpI y x = c2 at HD HO HR
  generalize (if c1 = 0 then c2 else c1) = r at HO HR
  go_enter Tryz.func96, Tryz.ntmps96
  go_wp2_with fail
  refine HX.out.mono ?_
  rintro e w1 ⟨rfl, rfl⟩
  go_wp2_with fail
  refine HY.out.mono ?_
  rintro e w1 ⟨rfl, rfl⟩
  go_wp2_with fail
  refine HC.out.mono ?_
  rintro e w1 ⟨rfl, rfl⟩
  go_wp2_with fail
  refine HD.out.mono ?_
  rintro e w1 ⟨rfl, rfl⟩
  go_wp2_with fail
  refine (HO.out _ _ ?_ ?_).mono ?_
  · rw [cell_of_row _ _ _ _ _ _ (heap_alloc_new _ _)]; rfl
  · rw [cell_of_row _ _ _ _ _ _ (heap_alloc_new _ _)]; rfl
  rintro e w1 ⟨rfl, rfl⟩
  go_wp2_with fail
  go_ret
  exact ⟨by rw [HR.out]; rfl, _, Sort.alloc_eq_grow _ _⟩
end Go.Proofs.YtbpbndlgfiammaaGreatDoor
namespace Go.Proofs
open Go.Shelf
def Tryz.shDelete_ren : Go.Shelf.Ren := ⟨fun | 10 => 70 | 6 => 92 | n => n, fun | 22 => 23 | 23 => 3 | 25 => 66 | 3 => 3 | 4 => 4 | 0 => 0 | n => n, fun | n => n⟩
theorem Tryz.shDelete : Go.Proofs.SlLaysH.n10 Tryz.prog Tryz.shDelete_ren := {
  mixed := by kernel_rfl
  f6 := ⟨Tryz.f92.name, by decide, Tryz.func92.trans (congrArg some (by kernel_rfl))⟩
  f10 := ⟨Tryz.f70.name, by decide, Tryz.func70.trans (congrArg some (by kernel_rfl))⟩
  t0 := Tryz.underlying0
  a0 := Tryz.isAgg0
  z0 := Tryz.sizeOf0
  v0 := Tryz.zeroValue0
  t3 := Tryz.underlying3
  a3 := Tryz.isAgg3
  z3 := Tryz.sizeOf3
  v3 := Tryz.zeroValue3
  t4 := Tryz.underlying4
  a4 := Tryz.isAgg4
  z4 := Tryz.sizeOf4
  v4 := Tryz.zeroValue4
  t22 := Tryz.underlying23
  a22 := Tryz.isAgg23
  z22 := Tryz.sizeOf23
  v22 := Tryz.zeroValue23
  a23 := Tryz.isAgg3
  z23 := Tryz.sizeOf3
  t25 := Tryz.underlying66
  a25 := Tryz.isAgg66
  z25 := Tryz.sizeOf66
  v25 := Tryz.zeroValue66 }
def Tryz.shSortF_ren : Go.Shelf.Ren := ⟨fun | 6 => 95 | 15 => 123 | 14 => 122 | 28 => 156 | 29 => 157 | 20 => 148 | 21 => 149 | 22 => 150 | 23 => 151 | 24 => 152 | 25 => 153 | 26 => 154 | 27 => 155 | 46 => 172 | 47 => 173 | 48 => 174 | 49 => 175 | 50 => 176 | 57 => 191 | n => n, fun | 22 => 23 | 24 => 3 | 25 => 117 | 3 => 3 | 39 => 133 | 0 => 0 | 53 => 143 | 55 => 128 | 4 => 4 | 46 => 157 | 45 => 156 | 50 => 68 | 5 => 5 | 9 => 9 | 66 => 178 | 70 => 182 | 76 => 195 | 77 => 196 | n => n, fun | n => n⟩
theorem Tryz.shSortF : Go.Proofs.SlLaysF.n6 Tryz.prog Tryz.shSortF_ren := {
  mixed := by kernel_rfl
  f6 := ⟨Tryz.f95.name, by decide, Tryz.func95.trans (congrArg some (by kernel_rfl))⟩
  f14 := ⟨Tryz.f122.name, by decide, Tryz.func122.trans (congrArg some (by kernel_rfl))⟩
  f15 := Tryz.func123.trans (congrArg some (by kernel_rfl))
  f20 := ⟨Tryz.f148.name, by decide, Tryz.func148.trans (congrArg some (by kernel_rfl))⟩
  f21 := ⟨Tryz.f149.name, by decide, Tryz.func149.trans (congrArg some (by kernel_rfl))⟩
  f22 := ⟨Tryz.f150.name, by decide, Tryz.func150.trans (congrArg some (by kernel_rfl))⟩
  f23 := ⟨Tryz.f151.name, by decide, Tryz.func151.trans (congrArg some (by kernel_rfl))⟩
  f24 := ⟨Tryz.f152.name, by decide, Tryz.func152.trans (congrArg some (by kernel_rfl))⟩
  f25 := ⟨Tryz.f153.name, by decide, Tryz.func153.trans (congrArg some (by kernel_rfl))⟩
  f26 := ⟨Tryz.f154.name, by decide, Tryz.func154.trans (congrArg some (by kernel_rfl))⟩
  f27 := ⟨Tryz.f155.name, by decide, Tryz.func155.trans (congrArg some (by kernel_rfl))⟩
  f28 := Tryz.func156.trans (congrArg some (by kernel_rfl))
  f29 := Tryz.func157.trans (congrArg some (by kernel_rfl))
  f46 := ⟨Tryz.f172.name, by decide, Tryz.func172.trans (congrArg some (by kernel_rfl))⟩
  f47 := Tryz.func173.trans (congrArg some (by kernel_rfl))
  f48 := Tryz.func174.trans (congrArg some (by kernel_rfl))
  f49 := ⟨Tryz.f175.name, by decide, Tryz.func175.trans (congrArg some (by kernel_rfl))⟩
  f50 := ⟨Tryz.f176.name, by decide, Tryz.func176.trans (congrArg some (by kernel_rfl))⟩
  f57 := ⟨Tryz.f191.name, by decide, Tryz.func191.trans (congrArg some (by kernel_rfl))⟩
  t0 := Tryz.underlying0
  a0 := Tryz.isAgg0
  z0 := Tryz.sizeOf0
  v0 := Tryz.zeroValue0
  t3 := Tryz.underlying3
  a3 := Tryz.isAgg3
  z3 := Tryz.sizeOf3
  v3 := Tryz.zeroValue3
  t4 := Tryz.underlying4
  a4 := Tryz.isAgg4
  z4 := Tryz.sizeOf4
  v4 := Tryz.zeroValue4
  t5 := Tryz.underlying5
  a5 := Tryz.isAgg5
  z5 := Tryz.sizeOf5
  v5 := Tryz.zeroValue5
  t9 := Tryz.underlying9
  a9 := Tryz.isAgg9
  z9 := Tryz.sizeOf9
  v9 := Tryz.zeroValue9
  t22 := Tryz.underlying23
  a22 := Tryz.isAgg23
  z22 := Tryz.sizeOf23
  v22 := Tryz.zeroValue23
  a24 := Tryz.isAgg3
  z24 := Tryz.sizeOf3
  t25 := Tryz.underlying117
  a25 := Tryz.isAgg117
  z25 := Tryz.sizeOf117
  v25 := Tryz.zeroValue117
  t39 := Tryz.underlying133
  a39 := Tryz.isAgg133
  z39 := Tryz.sizeOf133
  v39 := Tryz.zeroValue133
  t45 := Tryz.underlying156
  a45 := Tryz.isAgg156
  z45 := Tryz.sizeOf156
  v45 := Tryz.zeroValue156
  t46 := Tryz.underlying157
  a46 := Tryz.isAgg157
  z46 := Tryz.sizeOf157
  v46 := Tryz.zeroValue157
  t50 := Tryz.underlying68
  a50 := Tryz.isAgg68
  z50 := Tryz.sizeOf68
  v50 := Tryz.zeroValue68
  t53 := Tryz.underlying143
  a53 := Tryz.isAgg143
  z53 := Tryz.sizeOf143
  v53 := Tryz.zeroValue143
  t55 := Tryz.underlying128
  a55 := Tryz.isAgg128
  z55 := Tryz.sizeOf128
  v55 := Tryz.zeroValue128
  t66 := Tryz.underlying178
  a66 := Tryz.isAgg178
  z66 := Tryz.sizeOf178
  v66 := Tryz.zeroValue178
  t70 := Tryz.underlying182
  a70 := Tryz.isAgg182
  z70 := Tryz.sizeOf182
  v70 := Tryz.zeroValue182
  t76 := Tryz.underlying195
  a76 := Tryz.isAgg195
  z76 := Tryz.sizeOf195
  v76 := Tryz.zeroValue195
  t77 := Tryz.underlying196
  a77 := Tryz.isAgg196
  z77 := Tryz.sizeOf196
  v77 := Tryz.zeroValue196 }
def Tryz.shGrow_ren : Go.Shelf.Ren := ⟨fun | 4 => 102 | n => n, fun | 22 => 23 | 25 => 3 | 3 => 3 | 4 => 4 | 9 => 9 | 20 => 20 | 0 => 0 | n => n, fun | n => n⟩
theorem Tryz.shGrow : Go.Proofs.Lays8.n4 Tryz.prog Tryz.shGrow_ren := {
  mixed := by kernel_rfl
  f4 := ⟨Tryz.f102.name, by decide, Tryz.func102.trans (congrArg some (by kernel_rfl))⟩
  t0 := Tryz.underlying0
  a0 := Tryz.isAgg0
  z0 := Tryz.sizeOf0
  v0 := Tryz.zeroValue0
  t3 := Tryz.underlying3
  a3 := Tryz.isAgg3
  z3 := Tryz.sizeOf3
  v3 := Tryz.zeroValue3
  t4 := Tryz.underlying4
  a4 := Tryz.isAgg4
  z4 := Tryz.sizeOf4
  v4 := Tryz.zeroValue4
  t9 := Tryz.underlying9
  a9 := Tryz.isAgg9
  z9 := Tryz.sizeOf9
  v9 := Tryz.zeroValue9
  t20 := Tryz.underlying20
  a20 := Tryz.isAgg20
  z20 := Tryz.sizeOf20
  v20 := Tryz.zeroValue20
  t22 := Tryz.underlying23
  a22 := Tryz.isAgg23
  z22 := Tryz.sizeOf23
  v22 := Tryz.zeroValue23 }
end Go.Proofs
namespace Go.Proofs.YtbpbndlgfiammaaGreatDoor
open Go Go.RowKit Go.Sort Go.Shelf
open Cn (ahd sortL)
theorem one_i64 : OneCell I64 := fun _ => rfl
def PredIn (f : Nat) (lb : List Value) (p : Int → Bool) (G : Nat → Prop) (w : World) : Prop :=
  ∀ (W : World) (x : Int), (∀ b, G b → W.heap[b]? = w.heap[b]?) → Calls Tryz.prog f (I64 x :: lb).toArray W fun e w' => e = .returned (.bool (p x)) ∧ W = w'
theorem ifnone_x (A : Option Addr) (c : Nat) (fv : Value) (w : World) : Calls Tryz.prog 92 #[.slice A 0 c, fv] w fun e w' => e = .returned (I64 (-1)) ∧ w = w' := by
  go_enter Tryz.func92, Tryz.ntmps92
  go_wp2_with fail
  refine wp_loop_rounds 1 ?_
  rw [rounds_succ]
  go_wp2_with fail
  go_ret
  exact ⟨rfl, rfl⟩
theorem delnone_x (A : Option Addr) (c : Nat) (fv : Value) (w : World) : Calls Tryz.prog 70 #[.slice A 0 c, fv] w fun e w' => e = .returned (.slice A 0 c) ∧ w = w' := by
  go_enter Tryz.func70, Tryz.ntmps70
  go_wp2_with fail
  refine (ifnone_x A c fv w).mono ?_
  rintro e w1 ⟨rfl, rfl⟩
  go_wp2_with fail
  go_ret
  exact ⟨rfl, rfl⟩
theorem del_own {f : Nat} {lb : List Value} {p : Int → Bool} {G : Nat → Prop} {v : Value} {xs : List Int} {w : World} (heg : ∀ (args : Array Value) (w : World), (callFunc f args).run Tryz.prog w = .ok (.enter f args) w)
    (hG : ∀ b, G b → b < w.heap.size) (hv : ∀ b, v.ownBlock = some b → ¬ G b) (hp : PredIn f lb p G w) (ho : Own w 3 v (xs.map I64)) (hl : xs.length ≤ maxLen) :
    Calls Tryz.prog 70 #[v, .func (.func f) #[] lb.toArray] w fun e w' => ∃ v', e = .returned v' ∧ Turned 3 w v ((xs.filter fun x => !p x).map I64) w' v' := by
  obtain ⟨A, cap, hform, _⟩ := ho.form
  rw [List.length_map] at hform
  subst hform
  by_cases h0 : xs.length = 0
  · obtain rfl := List.eq_nil_of_length_eq_zero h0
    refine (delnone_x A cap _ w).mono ?_
    rintro e w' ⟨rfl, rfl⟩
    exact ⟨_, rfl, ho, grown_refl _ _, fun _ h => h⟩
  · obtain ⟨g, off, rfl⟩ := ho.addr (by omega)
    obtain ⟨cur, h1, h2, h3, h4, _⟩ := ho.cur rfl
    rw [List.length_map] at h2
    have hng : ¬ G g := hv g rfl
    have hcall : ∀ (W : World) (x : Int), (∀ b, G b → W.heap[b]? = w.heap[b]?) → FnGives Tryz.prog f lb.toArray #[I64 x] (.bool (p x)) W := fun W x hW => by
      unfold FnGives
      have e : #[I64 x] ++ lb.toArray = (I64 x :: lb).toArray := by simp
      rw [e]
      refine (hp W x hW).mono ?_
      rintro e w' ⟨rfl, rfl⟩
      exact ⟨rfl, 0, rfl⟩
    have h := AnyE.slices_DeleteFunc Tryz.shDelete I64 one_i64 p f lb.toArray heg 0 (fun w => Tryz.zeroValue3 w) g off cap xs.toArray w
      (fun W x hb => hcall W x fun b hb' => hb.block b (hG b hb')) (fun n os dk x _ => hcall _ x fun b hb' => (sort_kp n dk os).block b (hG b hb') (fun e => hng (e ▸ hb')))
      (own_holds ho) (by simp; unfold maxLen at hl; omega) (by simpa using h2)
    simp only [List.size_toArray, List.toList_toArray] at h
    refine Calls.mono h ?_
    rintro e w' ⟨rfl, q, rfl⟩
    have hfl : (xs.filter fun x => !p x).length ≤ xs.length := List.length_filter_le _ _
    rw [put_sort]
    refine ⟨_, rfl, ?_, kp_grown (sort_kp _ _ _), fun b h => h⟩
    have := sort_own ho q #[] (ys := (xs.filter fun x => !p x) ++ List.replicate (xs.length - (xs.filter fun x => !p x).length) 0) (by simp; omega) (m := (xs.filter fun x => !p x).length) (by simp)
    rw [List.take_left'] at this
    · exact this
    · rfl
abbrev Lit := { x : Int // Cn.mayP x 65536 = true }
instance : Inhabited Lit := ⟨⟨1, by decide⟩⟩
def encLit (x : Lit) : Value := I64 x.1
theorem one_lit : OneCell encLit := fun _ => rfl
theorem cmpL_lt (x y : Int) : decide (cmpL x y < 0) = ahd x y := by
  unfold cmpL cmpI ahd
  rw [decide_eq_decide]
  split <;> rename_i h <;> (repeat' split) <;> first | omega | (constructor <;> intro _ <;> omega) | skip
theorem may_bd {x : Int} (h : Cn.mayP x 65536 = true) : x ≠ 0 ∧ -65536 ≤ x ∧ x ≤ 65536 := by
  simp [Cn.mayP] at h
  omega
theorem swo_lit : SWO (ltOf fun (x y : Lit) => cmpL x.1 y.1) := by
  refine ⟨fun x => ?_, fun x y z => ?_, fun x y z => ?_⟩ <;> simp only [ltOf, cmpL_lt, ahd, decide_eq_true_eq, decide_eq_false_iff_not] <;> omega
theorem sortf_own {v : Value} {xs : List Int} {w : World} (hm : ∀ x ∈ xs, Cn.mayP x 65536 = true) (ho : Own w 3 v (xs.map I64)) (hl : xs.length ≤ 1000000000000) :
    Calls Tryz.prog 95 #[v, .func (.func 96) #[] #[]] w fun e w' => e = .returned (.tuple #[]) ∧ Own w' 3 v ((sortL xs).map I64) ∧ Kp (fun b => v.ownBlock = some b) w w' := by
  obtain ⟨A, cap, hform, _⟩ := ho.form
  rw [List.length_map] at hform
  subst hform
  by_cases h0 : xs.length = 0
  · obtain rfl := List.eq_nil_of_length_eq_zero h0
    refine (AnyF.slices_SortFunc_none (P := Tryz.prog) (ρ := Tryz.shSortF_ren) { Tryz.shSortF with } A cap _ w).mono ?_
    rintro e w' ⟨rfl, rfl⟩
    exact ⟨rfl, by simpa [sortL] using ho, Kp.refl _ _⟩
  · obtain ⟨g, off, rfl⟩ := ho.addr (by omega)
    have hlt : g < w.heap.size := ho.lt rfl
    let ls : List Lit := xs.pmap Subtype.mk hm
    have hls : ls.map (fun x : Lit => x.1) = xs := by simp [ls, List.map_pmap]
    have hle : ls.length = xs.length := by simp [ls]
    have hen : ls.map encLit = xs.map I64 := by rw [← hls, List.map_map]; rfl
    have hol : Own w 3 (.slice (some ⟨g, off, none⟩) xs.length cap) (ls.map encLit) := by rw [hen]; exact ho
    have hcmp : CmpLays1 Tryz.prog 96 #[] encLit (fun (x y : Lit) => cmpL x.1 y.1) g off ls.toArray.size w := fun m os dk _ x y => by
      have hx := may_bd x.2
      have hy := may_bd y.2
      refine (norm2_x x.1 y.1 _ hx.2.1 hx.2.2 hy.2.1 hy.2.2).mono ?_
      rintro e w' ⟨rfl, os', rfl⟩
      exact ⟨rfl, 0, os', rfl⟩
    have h := Any.slices_SortFunc_total Tryz.shSortF encLit one_lit (fun (x y : Lit) => cmpL x.1 y.1) swo_lit 96 #[] g off cap ls.toArray w (En.run_enters Tryz.func96 (by kernel_rfl) rfl) hcmp (own_holds hol) hlt (by simp [hle]; omega)
      (fun x y h1 h2 => by
        simp only [ltOf, cmpL_lt, ahd, decide_eq_false_iff_not] at h1 h2
        exact Subtype.ext (by omega))
    simp only [List.size_toArray, List.toList_toArray, hle] at h
    refine Calls.mono h ?_
    rintro e w' ⟨rfl, n, os, rfl⟩
    refine ⟨rfl, ?_, (sort_kp _ _ _).mono fun k _ h => by subst h; rfl⟩
    have h2 := sort_own hol n os (ys := ls.mergeSort fun x y => !(ltOf fun (x y : Lit) => cmpL x.1 y.1) y x) (by simp) (m := xs.length) (by simp [hle])
    rw [List.take_of_length_le (by simp [hle])] at h2
    have h3 : (ls.mergeSort fun x y => !(ltOf fun (x y : Lit) => cmpL x.1 y.1) y x).map encLit = (sortL xs).map I64 := by
      have := List.map_mergeSort (r := fun x y => !(ltOf fun (x y : Lit) => cmpL x.1 y.1) y x) (s := fun x y => !ahd y x) (f := fun x : Lit => x.1) (l := ls) (fun a _ b _ => by simp only [ltOf, cmpL_lt])
      rw [hls] at this
      unfold sortL
      rw [← this, List.map_map]
      rfl
    rw [h3] at h2
    exact h2
theorem grow_x (n : Nat) (hn : n ≤ 1000000) (w : World) : Calls Tryz.prog 102 #[.slice none 0 0, .int .i64 n] w fun e w' => ∃ A c, e = .returned (.slice A 0 c) ∧ Own w' 3 (.slice A 0 c) [] ∧
    (∀ g, (Value.slice A 0 c).ownBlock = some g → w.heap.size ≤ g) ∧ Below w.heap.size w w' := by
  by_cases h0 : n = 0
  · subst h0
    refine (Any8.slices_Grow_room Tryz.shGrow none 0 0 0 w (by omega) (by omega) (by omega) (by omega)).mono ?_
    rintro e w' ⟨rfl, rfl⟩
    exact ⟨none, 0, rfl, Own.nil _ _, fun g h => (by cases h), Below.refl _ _⟩
  · have hinf : (Tryz.prog.info? 3).map (fun i => (i.zero, i.size, i.bytes)) = some (some (.int .i64 0), 1, 8) := by kernel_rfl
    obtain ⟨i0, hi, hz0, hz1, hz2⟩ := info_parts hinf
    refine (Any8.slices_Grow_grow Tryz.shGrow i0 (.int .i64 0) hi hz0 (by omega) none 0 0 n [] w (by omega) (by omega) (by rw [hz2]; omega) (by omega) (by simp) (fun _ => rfl) (fun a h => by cases h)).mono ?_
    rintro e w' ⟨rfl, rfl⟩
    have hge := grownCap_ge w (0 + n) 0 3
    have hle := grownCap_le_maxLen w (0 + n) 0 3 (by unfold maxLen; omega)
    refine ⟨_, _, rfl, .inr ⟨w.heap.size, 0, _, _, rfl, .mk0 (heap_alloc_new _ _), Nat.zero_le _, hle, ?_, fun j h => by simp at h⟩, fun g h => ?_, ((Below.refl _ w).drew).alloc (Nat.le_refl _) _⟩
    · simp only [Array.size_append, size_zeroCells, List.size_toArray, List.length_nil, Nat.zero_add, Nat.sub_zero] at hge ⊢
      simp [Value.cells]
      omega
    · simp [Value.ownBlock] at h
      omega
end Go.Proofs.YtbpbndlgfiammaaGreatDoor
namespace Go.Proofs.YtbpbndlgfiammaaGreatDoor.En
open Go Go.RowKit
def sDel1 : CtF := fun args os => match args, os with
  | [.row 0, .clo 94 []], [.row 3 (.ints xs)] => some (xs.length ≤ 1000000000000, .row 1, [none, some (.row 3 (.ints (xs.filter fun x => Cn.mayP x 65536)))])
  | _, _ => none
def sDel2 : CtF := fun args os => match args, os with
  | [.row 0, .clo 72 [.pto [.val (.int .i64 y)]]], [.row 3 (.ints xs)] => some (xs.length ≤ 1000000000000, .row 1, [none, some (.row 3 (.ints (xs.filter fun x => !(x == y))))])
  | _, _ => none
def sSortF : CtF := fun args os => match args, os with
  | [.row 0, .clo 96 []], [.row 3 (.ints xs)] => some (xs.length ≤ 1000000000000 ∧ ∀ x ∈ xs, Cn.mayP x 65536 = true, .tup [], [some (.row 3 (.ints (Cn.sortL xs)))])
  | _, _ => none
def sGrow : CtF := fun args os => match args, os with
  | [.im (.val (.slice .none 0 0)), .im (.val (.int .i64 n))], [] => some (0 ≤ n ∧ n ≤ 1000000, .row 0, [some (.row 3 (.ints []))])
  | _, _ => none
theorem denL_val2 {g : Gh} {a b : Value} {vs : List Value} (h : DenL g [.im (.val a), .im (.val b)] vs) : vs = [a, b] := by
  simp only [DenL] at h
  obtain ⟨v, vs', rfl, h1, u, us, rfl, h2, rfl⟩ := h
  rw [den_val h1, den_val h2]
theorem sDel1_sound : Sound Tryz.prog 70 sDel1 := by
  refine sound_row (e := 3) (run_enters Tryz.func70 (by kernel_rfl) rfl) fun args os p r outs h => ?_
  unfold sDel1 at h
  split at h
  · rename_i xs
    injection h with h
    injection h with h1 h
    injection h with h2 h3
    subst h1 h2 h3
    refine ⟨_, .ints xs, _, rfl, rfl, rfl, rfl, rfl, rfl, rfl, fun hp => ⟨?_, fun W G v vs hG hn _ ho hl hd => ?_⟩⟩
    · have := List.length_filter_le (fun x => Cn.mayP x 65536) xs
      show (xs.filter _).length ≤ maxLen
      unfold maxLen; omega
    · simp only [DenL, Den] at hd
      obtain ⟨v1, vs', rfl, ⟨lb, rfl, rfl⟩, rfl⟩ := hd
      have := del_own (f := 94) (lb := []) (p := fun x => !Cn.mayP x 65536) (G := G) (v := v) (xs := xs) (w := W) (run_enters Tryz.func94 (by kernel_rfl) rfl) hG hn (fun W x _ => norm1_x x W) ho hl
      refine this.mono fun e' W' h => turned_out ?_
      simp only [Bool.not_not] at h
      exact h
  · cases h
theorem sDel2_sound : Sound Tryz.prog 70 sDel2 := by
  refine sound_row (e := 3) (run_enters Tryz.func70 (by kernel_rfl) rfl) fun args os p r outs h => ?_
  unfold sDel2 at h
  split at h
  · rename_i y xs
    injection h with h
    injection h with h1 h
    injection h with h2 h3
    subst h1 h2 h3
    refine ⟨_, .ints xs, _, rfl, rfl, rfl, rfl, rfl, rfl, rfl, fun hp => ⟨?_, fun W G v vs hG hn _ ho hl hd => ?_⟩⟩
    · have := List.length_filter_le (fun x => !(x == y)) xs
      show (xs.filter _).length ≤ maxLen
      unfold maxLen; omega
    · simp only [DenL, Den] at hd
      obtain ⟨v1, vs', rfl, ⟨lb, rfl, u, lb', rfl, ⟨b, off, rfl, hb, hc⟩, rfl⟩, rfl⟩ := hd
      obtain ⟨u, hcu, hru⟩ := hc 0 (.val (.int .i64 y)) rfl
      have hu : u = I64 y := den_val (g := g0 W G) (by simp only [Den]; exact hru)
      subst hu
      have := del_own (f := 72) (lb := [.pointer (some ⟨b, off, none⟩)]) (p := fun x => x == y) (G := G) (v := v) (xs := xs) (w := W) (run_enters Tryz.func72 (by kernel_rfl) rfl) hG hn
        (fun W1 x hW => res11_x b off y x W1 ((World.cell?_of_block (a := ⟨b, off, none⟩) (hW b hb)).trans hcu)) ho hl
      exact this.mono fun e' W' h => turned_out h
  · cases h
theorem sSortF_sound : Sound Tryz.prog 95 sSortF := by
  refine sound_inrow (e := 3) (run_enters Tryz.func95 (by kernel_rfl) rfl) fun args os p r outs h => ?_
  unfold sSortF at h
  split at h
  · rename_i xs
    injection h with h
    injection h with h1 h
    injection h with h2 h3
    subst h1 h2 h3
    refine ⟨_, .ints xs, _, _, rfl, rfl, rfl, rfl, rfl, rfl, rfl, rfl, fun hp => ⟨?_, ?_, fun W G v vs hG hn _ ho hl hd => ?_⟩⟩
    · show (Cn.sortL xs).length ≤ maxLen
      simp only [Cn.sortL, List.length_mergeSort]
      unfold maxLen; omega
    · show (Cn.sortL xs).length = xs.length
      simp only [Cn.sortL, List.length_mergeSort]
    · simp only [DenL, Den] at hd
      obtain ⟨v1, vs', rfl, ⟨lb, rfl, rfl⟩, rfl⟩ := hd
      exact sortf_own hp.2 ho hp.1
  · cases h
theorem sGrow_sound : Sound Tryz.prog 102 sGrow := by
  refine sound_new (e := 3) (run_enters Tryz.func102 (by kernel_rfl) rfl) fun args os p r outs h => ?_
  unfold sGrow at h
  split at h
  · rename_i n
    injection h with h
    injection h with h1 h
    injection h with h2 h3
    subst h1 h2 h3
    refine ⟨_, rfl, rfl, rfl, rfl, fun hp => ⟨by decide, fun W G vs hG _ hd => ?_⟩⟩
    have hv := denL_val2 hd
    obtain ⟨k, rfl⟩ := Int.eq_ofNat_of_zero_le hp.1
    subst hv
    refine (grow_x k (by omega) W).mono ?_
    rintro e' W' ⟨A, c, rfl, h1, h2, h3⟩
    exact ⟨_, rfl, h1, h3, h2⟩
  · cases h
end Go.Proofs.YtbpbndlgfiammaaGreatDoor.En
namespace Go.Proofs.YtbpbndlgfiammaaGreatDoor.En
open Go Go.RowKit
def tyCnfT : List (Nat × TD) := [(3, ⟨1, false, [.int .i64 0], [], none, 8, false, 1, 1⟩),
  (22, ⟨1, false, [.slice none 0 0], [], some 23, 24, false, 0, 0⟩),
  (23, ⟨1, false, [.slice none 0 0], [], some 3, 24, false, 0, 3⟩),
  (66, ⟨1, false, [.nilFunc], [], none, 8, false, 0, 0⟩),
  (117, ⟨1, false, [.nilFunc], [], none, 8, false, 0, 0⟩)]
theorem tyCnfT_ok : AllTy Tryz.prog tyCnfT := ⟨⟨by kernel_rfl, by kernel_rfl, by kernel_rfl⟩, ⟨by kernel_rfl, by kernel_rfl, by kernel_rfl⟩, ⟨by kernel_rfl, by kernel_rfl, by kernel_rfl⟩, ⟨by kernel_rfl, by kernel_rfl, by kernel_rfl⟩, ⟨by kernel_rfl, by kernel_rfl, by kernel_rfl⟩, trivial⟩
def cx_cNorm : Cx := ⟨tyCnfT, [(71, sClone), (70, (orF sDel1 sDel2)), (95, sSortF), (99, sCompact)], false⟩
theorem cx_cNorm_ok : CxOk Tryz.prog cx_cNorm := cx_ok tyCnfT_ok ⟨sClone_sound, (sDel1_sound.or sDel2_sound), sSortF_sound, sCompact_sound, trivial⟩
def cNorm_σ : CtF
  | [.im (.ls (.ints l))], [] => some (l.length ≤ 1000000, .tup [.row 0, .bool (Cn.tautL l)], [some (.row 3 (.ints (Cn.normL l)))])
  | _, _ => none
theorem cNorm_sound : Sound Tryz.prog 66 cNorm_σ := by
 refine Sw (cx := cx_cNorm) Tryz.f66 Tryz.func66 ?_
 intro wW wO wβ G0 args os p r outs hσ hp
 have hcx := cx_cNorm_ok
 have hmx : Tryz.prog.follows .mixedOrders = true := by kernel_rfl
 unfold cNorm_σ at hσ
 split at hσ
 ·
  rename_i l
  cases hσ
  refine ⟨by kernel_rfl, ?_⟩
  have hf := List.length_filter_le (fun x => Cn.mayP x 65536) l
  have hs : (Cn.sortL (l.filter fun x => Cn.mayP x 65536)).length = (l.filter fun x => Cn.mayP x 65536).length := List.length_mergeSort ..
  have hnl : (Lib.compact (Cn.sortL (l.filter fun x => Cn.mayP x 65536))).length ≤ l.length := Cn.norm_len l
  have hnb : ∀ j, j < (Lib.compact (Cn.sortL (l.filter fun x => Cn.mayP x 65536))).length → -65536 ≤ (Lib.compact (Cn.sortL (l.filter fun x => Cn.mayP x 65536))).getD j 0 ∧ (Lib.compact (Cn.sortL (l.filter fun x => Cn.mayP x 65536))).getD j 0 ≤ 65536 := fun j hj => Cn.norm_bd (l := l) hj
  refine Sz hcx [] [] [] [] (Sq hcx [(1002, .to 208)] [4] [0] [] [(l.length ≤ 1000000000000), (l.length ≤ 1000000000000)] ?_ (Sq hcx [(208, .to 208)] [] [] [] [((l.filter fun z9 => Cn.mayP z9 65536).length ≤ 1000000000000 ∧ ∀ z9 ∈ (l.filter fun z9 => Cn.mayP z9 65536), Cn.mayP z9 65536 = true)] ?_ (Sq hcx [(1001, .to 208)] [4] [] [208] [((Cn.sortL (l.filter fun z9 => Cn.mayP z9 65536)).length ≤ 1000000000000)] ?_ (Zs (Sz hcx [] [14, 15] [] [] (Zb (Lp (X := Nat) (fun x0 => x0 ≤ (Lib.compact (Cn.sortL (l.filter fun x => Cn.mayP x 65536))).length ∧ ∀ j, 0 < j → j < x0 → (Lib.compact (Cn.sortL (l.filter fun x => Cn.mayP x 65536))).getD (j - 1) 0 ≠ -((Lib.compact (Cn.sortL (l.filter fun x => Cn.mayP x 65536))).getD j 0)) (fun x0 => ([(4, .row 208), (14, .int ((Lib.compact (Cn.sortL (l.filter fun z9 => Cn.mayP z9 65536))).length : Int)), (15, .int (x0 : Int))], [(208, .row 3 (.ints (Lib.compact (Cn.sortL (l.filter fun z9 => Cn.mayP z9 65536)))))])) (fun x0 => (Lib.compact (Cn.sortL (l.filter fun x => Cn.mayP x 65536))).length - x0) (0) ?_ (Ex 15 (congrArg AV.int (show 0 = (0 : Int) from (by first | rfl | omega | (simp; done)))) Eb) Hb fun k hI => ?_)))))))
  ·
   refine ap ?_ (ap ?_ az) <;>
    first | omega | exact id | exact vcNot | exact vcG | exact vcH | (intro _; omega) | exact (fun _ h => h) | (intro h; simp at h; omega) | (simp only [List.length_cons, List.length_nil, List.length_append, List.length_map, List.length_set, List.length_replicate]; omega) | (intro h; simp [h]; done) | exact ⟨by omega, fun x hx => (List.mem_filter.1 hx).2⟩ | exact (fun _ => by have := hbk (by omega); constructor <;> omega)
  ·
   refine ap ?_ az
   first | omega | exact id | exact vcNot | exact vcG | exact vcH | (intro _; omega) | exact (fun _ h => h) | (intro h; simp at h; omega) | (simp only [List.length_cons, List.length_nil, List.length_append, List.length_map, List.length_set, List.length_replicate]; omega) | (intro h; simp [h]; done) | exact ⟨by omega, fun x hx => (List.mem_filter.1 hx).2⟩ | exact (fun _ => by have := hbk (by omega); constructor <;> omega)
  ·
   refine ap ?_ az
   first | omega | exact id | exact vcNot | exact vcG | exact vcH | (intro _; omega) | exact (fun _ h => h) | (intro h; simp at h; omega) | (simp only [List.length_cons, List.length_nil, List.length_append, List.length_map, List.length_set, List.length_replicate]; omega) | (intro h; simp [h]; done) | exact ⟨by omega, fun x hx => (List.mem_filter.1 hx).2⟩ | exact (fun _ => by have := hbk (by omega); constructor <;> omega)
  ·
   exact ⟨Nat.zero_le _, fun j _ hj => by omega⟩
  ·
   try dsimp only at hI
   obtain ⟨hk, hok⟩ := hI
   have hbk : k < (Lib.compact (Cn.sortL (l.filter fun x => Cn.mayP x 65536))).length → _ := hnb k
   refine Sz hcx [] [16] [] [] (Zs (Zj (p := ((k : Int) < ((Lib.compact (Cn.sortL (l.filter fun z9 => Cn.mayP z9 65536))).length : Int))) (fun h0 => ?_) fun h0 => ?_))
   ·
    refine Zk (Ft (Zs (Zb (Sz hcx [] [5] [16] [] (Sd hcx hmx [0, 1, 3, 7, 7, 23, 63, 127, 7, 7, 775, 1799, 3847, 8191, 16383] [] [32] [5] [] [((decide ((k : Int) > 0)) = true → ((decide ((k : Int) > 0)) = true)), ((decide ((k : Int) > 0)) = true → Fit ((k : Int) - 1)), ((decide ((k : Int) > 0)) = true → ((decide ((k : Int) > 0)) = true)), ((decide ((k : Int) > 0)) = true → ((decide ((k : Int) > 0)) = true)), ((decide ((k : Int) > 0)) = true → ((0 : Int) ≤ ((k : Int) - 1) ∧ ((k : Int) - 1) < ((Lib.compact (Cn.sortL (l.filter fun z9 => Cn.mayP z9 65536))).length : Int))), ((decide ((k : Int) > 0)) = true → ((decide ((k : Int) > 0)) = true)), ((decide ((k : Int) > 0)) = true → ((((k : Int) - 1).toNat) < (Lib.compact (Cn.sortL (l.filter fun z9 => Cn.mayP z9 65536))).length)), ((decide ((k : Int) > 0)) = true → ((decide ((k : Int) > 0)) = true)), ((decide ((k : Int) > 0)) = true → ((decide ((k : Int) > 0)) = true)), ((decide ((k : Int) > 0)) = true → ((0 : Int) ≤ (k : Int) ∧ (k : Int) < ((Lib.compact (Cn.sortL (l.filter fun z9 => Cn.mayP z9 65536))).length : Int))), ((decide ((k : Int) > 0)) = true → ((decide ((k : Int) > 0)) = true)), ((decide ((k : Int) > 0)) = true → (k < (Lib.compact (Cn.sortL (l.filter fun z9 => Cn.mayP z9 65536))).length)), ((decide ((k : Int) > 0)) = true → ((decide ((k : Int) > 0)) = true)), ((decide ((k : Int) > 0)) = true → Fit (-((Lib.compact (Cn.sortL (l.filter fun z9 => Cn.mayP z9 65536))).getD k 0))), ((decide ((k : Int) > 0)) = true → ((decide ((k : Int) > 0)) = true)), ((decide ((k : Int) > 0)) = true → ((decide ((k : Int) > 0)) = true)), ((decide ((k : Int) > 0)) = true → (decide ((k : Int) > 0)) = true)] ?_ (Zi (b := (decide ((k : Int) > 0)) && (((Lib.compact (Cn.sortL (l.filter fun z9 => Cn.mayP z9 65536))).getD (((k : Int) - 1).toNat) 0) == (-((Lib.compact (Cn.sortL (l.filter fun z9 => Cn.mayP z9 65536))).getD k 0)))) (fun h1 => ?_) fun h1 => ?_))))))
    ·
     refine ap ?_ (ap ?_ (ap ?_ (ap ?_ (ap ?_ (ap ?_ (ap ?_ (ap ?_ (ap ?_ (ap ?_ (ap ?_ (ap ?_ (ap ?_ (ap ?_ (ap ?_ (ap ?_ (ap (by exact id) az)))))))))))))))) <;>
      first | omega | exact id | exact vcNot | exact vcG | exact vcH | (intro _; omega) | exact (fun _ h => h) | (intro h; simp at h; omega) | (simp only [List.length_cons, List.length_nil, List.length_append, List.length_map, List.length_set, List.length_replicate]; omega) | (intro h; simp [h]; done) | exact ⟨by omega, fun x hx => (List.mem_filter.1 hx).2⟩ | exact (fun _ => by have := hbk (by omega); constructor <;> omega)
    ·
     try simp only [Bool.or_eq_true, Bool.or_eq_false_iff, Bool.and_eq_true, Bool.and_eq_false_iff, Bool.not_eq_true', Bool.not_eq_false', decide_eq_true_eq, decide_eq_false_iff_not, bne_iff_ne, bne_eq_false_iff_eq, beq_iff_eq, beq_eq_false_iff_ne] at h1
     have hq := h1
     rw [show ((k : Int) - 1).toNat = k - 1 by omega] at hq
     exact Sz hcx [] [2, 3] [32, 4, 14, 15] [] (Zr (Fk (Fr (Fr (Fk (Fr (Fn [(208, .to 0)] [2, 3] (Rv hcx (congrArg AV.tup (consE rfl (consE (congrArg AV.bool (show true = (Cn.tautL l) from (by exact (Cn.taut_adj_yes (xs := Cn.normL l) (i := k) (by omega) (show k < (Lib.compact (Cn.sortL (l.filter fun x => Cn.mayP x 65536))).length by omega) hq.2).symm))) rfl))) [true] (consO (congrArg some (congrArg (fun x => AObj.row 3 (.ints x)) (show (Lib.compact (Cn.sortL (l.filter fun z9 => Cn.mayP z9 65536))) = (Cn.normL l) from (by first | rfl | (simp; done))))) rfl)))))))))
    ·
     try simp only [Bool.or_eq_true, Bool.or_eq_false_iff, Bool.and_eq_true, Bool.and_eq_false_iff, Bool.not_eq_true', Bool.not_eq_false', decide_eq_true_eq, decide_eq_false_iff_not, bne_iff_ne, bne_eq_false_iff_eq, beq_iff_eq, beq_eq_false_iff_ne] at h1
     have hq := h1
     refine Zk (Fb (Ft (Tq hcx [] [15] [32] [] [Fit ((k : Int) + 1)] ?_ (Lr (k + 1) ?_ ?_ (Ex 15 (congrArg AV.int (show ((k : Int) + 1) = ((k + 1) : Int) from (by first | rfl | omega | (simp; done)))) Eb) Hb))))
     ·
      refine ap ?_ az
      first | omega | exact id | exact vcNot | exact vcG | exact vcH | (intro _; omega) | exact (fun _ h => h) | (intro h; simp at h; omega) | (simp only [List.length_cons, List.length_nil, List.length_append, List.length_map, List.length_set, List.length_replicate]; omega) | (intro h; simp [h]; done) | exact ⟨by omega, fun x hx => (List.mem_filter.1 hx).2⟩ | exact (fun _ => by have := hbk (by omega); constructor <;> omega)
     ·
      try dsimp only
      (refine ⟨by omega, fun j hj0 hj => ?_⟩; by_cases hjk : j = k; (subst hjk; rcases hq with hq | hq; (exact absurd hj0 (by omega)); (rwa [show ((j : Int) - 1).toNat = j - 1 by omega] at hq)); exact hok j hj0 (by omega))
     ·
      try dsimp only
      omega
   ·
    exact Ze (Fe (Fe (Fs (Ft (Sz hcx [] [2, 3] [16, 4, 14, 15] [] (Zr (Fn [(208, .to 0)] [2, 3] (Rv hcx (congrArg AV.tup (consE rfl (consE (congrArg AV.bool (show false = (Cn.tautL l) from (by exact (Cn.taut_adj_no (xs := Cn.normL l) (Cn.norm_str l) (fun x hx => Cn.norm_nz hx) (fun i hi0 hi => hok i hi0 (by have : i < (Lib.compact (Cn.sortL (l.filter fun x => Cn.mayP x 65536))).length := hi; omega))).symm))) rfl))) [true] (consO (congrArg some (congrArg (fun x => AObj.row 3 (.ints x)) (show (Lib.compact (Cn.sortL (l.filter fun z9 => Cn.mayP z9 65536))) = (Cn.normL l) from (by first | rfl | (simp; done))))) rfl)))))))))
 ·
  cases hσ
def cx_sConcat : Cx := ⟨tyCnfT, [(102, sGrow)], false⟩
theorem cx_sConcat_ok : CxOk Tryz.prog cx_sConcat := cx_ok tyCnfT_ok ⟨sGrow_sound, trivial⟩
def sConcat_σ : CtF
  | [.im (.ls (.intss xss))], [] => some (xss.length ≤ 1000000 ∧ Cn.lensN xss ≤ 1000000, .row 0, [some (.row 3 (.ints xss.flatten))])
  | _, _ => none
theorem sConcat_sound : Sound Tryz.prog 73 sConcat_σ := by
 refine Sw (cx := cx_sConcat) Tryz.f73 Tryz.func73 ?_
 intro wW wO wβ G0 args os p r outs hσ hp
 have hcx := cx_sConcat_ok
 unfold sConcat_σ at hσ
 split at hσ
 ·
  rename_i xss
  cases hσ
  refine ⟨by kernel_rfl, ?_⟩
  obtain ⟨hm1, hm2⟩ := hp
  have hl1 := Cn.lens_take xss
  have hl2 := @Cn.lens_step xss
  refine Sz hcx [] [] [] [] (Sz hcx [] [3] [] [] (Zs (Sz hcx [] [9, 10, 11] [] [] (Zb (Lp (X := Nat) (fun x0 => x0 ≤ xss.length) (fun x0 => ([(0, .intss xss), (3, .int (Cn.lensN (xss.take x0) : Int)), (9, .intss xss), (10, .int (xss.length : Int)), (11, .int (x0 : Int))], [])) (fun x0 => xss.length - x0) (0) ?_ (Ex 3 (congrArg AV.int (show 0 = (Cn.lensN (xss.take 0) : Int) from (by first | rfl | omega | (simp; done)))) (Ex 11 (congrArg AV.int (show 0 = (0 : Int) from (by first | rfl | omega | (simp; done)))) Eb)) Hb fun k hI => ?_)))))
  ·
   show 0 ≤ xss.length
   omega
  ·
   replace hI : k ≤ xss.length := hI
   have hl3 := hl1 k
   have hl4 := hl1 (k + 1)
   have hl5 : k < xss.length → _ := fun h => hl2 h
   refine Sz hcx [] [12] [] [] (Zs (Zj (p := ((k : Int) < (xss.length : Int))) (fun h0 => ?_) fun h0 => ?_))
   ·
    refine Zk (Ft (Zs (Zb (Sq hcx [] [5] [12] [] [((0 : Int) ≤ (k : Int) ∧ (k : Int) < (xss.length : Int))] ?_ (Sq hcx [] [3] [5] [] [Fit ((Cn.lensN (xss.take k) : Int) + ((xss.getD k []).length : Int))] ?_ (Sz hcx [] [20] [] [] (Zj (p := (((Cn.lensN (xss.take k) : Int) + ((xss.getD k []).length : Int)) < 0)) (fun h1 => ?_) fun h1 => ?_)))))))
    ·
     refine ap ?_ az
     first | omega | exact id | exact vcNot | exact vcG | exact vcH | (intro _; omega) | exact (fun _ h => h) | (intro h; simp at h; omega) | (simp only [List.length_cons, List.length_nil, List.length_append, List.length_map, List.length_set, List.length_replicate]; omega) | (intro h; simp [h]; done) | (rw [hl6]; omega) | (simp only [hl6]; omega)
    ·
     refine ap ?_ az
     first | omega | exact id | exact vcNot | exact vcG | exact vcH | (intro _; omega) | exact (fun _ h => h) | (intro h; simp at h; omega) | (simp only [List.length_cons, List.length_nil, List.length_append, List.length_map, List.length_set, List.length_replicate]; omega) | (intro h; simp [h]; done) | (rw [hl6]; omega) | (simp only [hl6]; omega)
    ·
     omega
    ·
     refine Zk (Fb (Ft (Tq hcx [] [11] [20] [] [Fit ((k : Int) + 1)] ?_ (Lr (k + 1) ?_ ?_ (Ex 3 (congrArg AV.int (show ((Cn.lensN (xss.take k) : Int) + ((xss.getD k []).length : Int)) = (Cn.lensN (xss.take (k + 1)) : Int) from (by first | rfl | omega | (simp; done)))) (Ex 11 (congrArg AV.int (show ((k : Int) + 1) = ((k + 1) : Int) from (by first | rfl | omega | (simp; done)))) Eb)) Hb))))
     ·
      refine ap ?_ az
      first | omega | exact id | exact vcNot | exact vcG | exact vcH | (intro _; omega) | exact (fun _ h => h) | (intro h; simp at h; omega) | (simp only [List.length_cons, List.length_nil, List.length_append, List.length_map, List.length_set, List.length_replicate]; omega) | (intro h; simp [h]; done) | (rw [hl6]; omega) | (simp only [hl6]; omega)
     ·
      show (k + 1) ≤ xss.length
      omega
     ·
      show xss.length - (k + 1) < xss.length - k
      omega
   ·
    refine Ze (Fe (Fe (Fs (Ft (Sq hcx [(1001, .to 224)] [6] [12, 3, 9, 10, 11] [] [(0 ≤ (Cn.lensN (xss.take k) : Int) ∧ (Cn.lensN (xss.take k) : Int) ≤ 1000000)] ?_ (Zs (Sz hcx [] [25, 26, 27] [0] [] (Zb (Zn [(224, .to 10)] [6, 25, 26, 27] (Lp (X := Nat) (fun x0 => x0 ≤ xss.length) (fun x0 => ([(6, .row 10), (25, .intss xss), (26, .int (xss.length : Int)), (27, .int (x0 : Int))], [(10, .row 3 (.ints ((xss.take x0).flatten)))])) (fun x0 => xss.length - x0) (0) ?_ (Ex 27 (congrArg AV.int (show 0 = (0 : Int) from (by first | rfl | omega | (simp; done)))) Eb) (Hx 10 (congrArg (fun x => AObj.row 3 (.ints x)) (show [] = (xss.take 0).flatten from (by simp))) Hb) fun k hI => ?_))))))))))
    ·
     refine ap ?_ az
     first | omega | exact id | exact vcNot | exact vcG | exact vcH | (intro _; omega) | exact (fun _ h => h) | (intro h; simp at h; omega) | (simp only [List.length_cons, List.length_nil, List.length_append, List.length_map, List.length_set, List.length_replicate]; omega) | (intro h; simp [h]; done) | (rw [hl6]; omega) | (simp only [hl6]; omega)
    ·
     show 0 ≤ xss.length
     omega
    ·
     replace hI : k ≤ xss.length := hI
     have hl3 := hl1 k
     have hl4 := hl1 (k + 1)
     have hl5 : k < xss.length → _ := fun h => hl2 h
     have hl6 : (xss.take k).flatten.length = Cn.lensN (xss.take k) := Cn.lens_flat _
     refine Sz hcx [] [28] [] [] (Zs (Zj (p := ((k : Int) < (xss.length : Int))) (fun h2 => ?_) fun h2 => ?_))
     ·
      refine Zk (Ft (Zs (Zb (Sq hcx [] [8] [28] [] [((0 : Int) ≤ (k : Int) ∧ (k : Int) < (xss.length : Int))] ?_ (Tq hcx [(1002, .to 10)] [6] [8] [10] [((((xss.take k).flatten).length + (xss.getD k []).length) * 8 ≤ 140737488355328)] ?_ (Fb (Ft (Tq hcx [] [27] [] [] [Fit ((k : Int) + 1)] ?_ (Lr (k + 1) ?_ ?_ (Ex 27 (congrArg AV.int (show ((k : Int) + 1) = ((k + 1) : Int) from (by first | rfl | omega | (simp; done)))) Eb) (Hx 10 (congrArg (fun x => AObj.row 3 (.ints x)) (show (((xss.take k).flatten) ++ (xss.getD k [])) = (xss.take (k + 1)).flatten from (by exact Cn.flat_take (by omega)))) Hb))))))))))
      ·
       refine ap ?_ az
       first | omega | exact id | exact vcNot | exact vcG | exact vcH | (intro _; omega) | exact (fun _ h => h) | (intro h; simp at h; omega) | (simp only [List.length_cons, List.length_nil, List.length_append, List.length_map, List.length_set, List.length_replicate]; omega) | (intro h; simp [h]; done) | (rw [hl6]; omega) | (simp only [hl6]; omega)
      ·
       refine ap ?_ az
       first | omega | exact id | exact vcNot | exact vcG | exact vcH | (intro _; omega) | exact (fun _ h => h) | (intro h; simp at h; omega) | (simp only [List.length_cons, List.length_nil, List.length_append, List.length_map, List.length_set, List.length_replicate]; omega) | (intro h; simp [h]; done) | (rw [hl6]; omega) | (simp only [hl6]; omega)
      ·
       refine ap ?_ az
       first | omega | exact id | exact vcNot | exact vcG | exact vcH | (intro _; omega) | exact (fun _ h => h) | (intro h; simp at h; omega) | (simp only [List.length_cons, List.length_nil, List.length_append, List.length_map, List.length_set, List.length_replicate]; omega) | (intro h; simp [h]; done) | (rw [hl6]; omega) | (simp only [hl6]; omega)
      ·
       show (k + 1) ≤ xss.length
       omega
      ·
       show xss.length - (k + 1) < xss.length - k
       omega
     ·
      exact Ze (Fe (Fe (Fs (Ft (Sz hcx [] [2] [28, 6, 25, 26, 27] [] (Zr (Fn [(10, .to 0)] [2] (Rv hcx rfl [true] (consO (congrArg some (congrArg (fun x => AObj.row 3 (.ints x)) (show (xss.take k).flatten = xss.flatten from (by rw [show k = xss.length from (by omega), List.take_length])))) rfl)))))))))
 ·
  cases hσ
def cx_cRes1 : Cx := ⟨tyCnfT, [(71, sClone), (70, (orF sDel1 sDel2))], false⟩
theorem cx_cRes1_ok : CxOk Tryz.prog cx_cRes1 := cx_ok tyCnfT_ok ⟨sClone_sound, (sDel1_sound.or sDel2_sound), trivial⟩
def cRes1_σ : CtF
  | [.im (.ls (.ints l)), .im (.val (.int .i64 x))], [] => some (l.length ≤ 1000000, .row 0, [some (.row 3 (.ints (l.filter fun z9 => !(z9 == x))))])
  | _, _ => none
theorem cRes1_sound : Sound Tryz.prog 69 cRes1_σ := by
 refine Sw (cx := cx_cRes1) Tryz.f69 Tryz.func69 ?_
 intro wW wO wβ G0 args os p r outs hσ hp
 have hcx := cx_cRes1_ok
 unfold cRes1_σ at hσ
 split at hσ
 ·
  rename_i l x
  cases hσ
  refine ⟨by kernel_rfl, ?_⟩
  exact Sz hcx [(1000, .frz)] [3] [1] [] (Sq hcx [(1003, .to 208)] [4] [3, 0] [] [(l.length ≤ 1000000000000), (l.length ≤ 1000000000000)] (ap (by omega) (ap (by omega) az)) (Zr (Fn [(208, .to 0)] [4] (Ru hcx [true]))))
 ·
  cases hσ
def cx_cResolve : Cx := ⟨tyCnfT, [(44, (coeF [.ld (.ints []), .id] sContains_σ)), (66, (coeF [.ld (.ints [])] cNorm_σ)), (73, (coeF [.ld (.intss [])] sConcat_σ)), (69, (coeF [.ld (.ints []), .id] cRes1_σ))], false⟩
theorem cx_cResolve_ok : CxOk Tryz.prog cx_cResolve := cx_ok tyCnfT_ok ⟨(sContains_sound.coe [.ld (.ints []), .id] rfl), (cNorm_sound.coe [.ld (.ints [])] rfl), (sConcat_sound.coe [.ld (.intss [])] rfl), (cRes1_sound.coe [.ld (.ints []), .id] rfl), trivial⟩
def cResolve_σ : CtF
  | [.im (.ls (.ints a)), .im (.ls (.ints b)), .im (.val (.int .i64 v))], [] => some (a.length ≤ 100000 ∧ b.length ≤ 100000 ∧ Fit v, .tup [.row 0, .int (Cn.resE a b v)], [some (.row 3 (.ints (Cn.resL a b v)))])
  | _, _ => none
theorem cResolve_sound : Sound Tryz.prog 32 cResolve_σ := by
 refine Sw (cx := cx_cResolve) Tryz.f32 Tryz.func32 ?_
 intro wW wO wβ G0 args os p r outs hσ hp
 have hcx := cx_cResolve_ok
 unfold cResolve_σ at hσ
 split at hσ
 ·
  rename_i a b v
  cases hσ
  refine ⟨by kernel_rfl, ?_⟩
  obtain ⟨hm1, hm2, hm3, hm4⟩ := hp
  have hm5 : a.length ≤ maxLen := by unfold maxLen; omega
  have hm6 : b.length ≤ maxLen := by unfold maxLen; omega
  have hm7 : [v, -v].length = 2 := rfl
  refine Sz hcx [] [] [] [] (Zs (Sq hcx [] [18] [] [] [((!(decide (v < 1))) = true → ((!(decide (v < 1))) = true)), ((decide (v < 1)) = false → (!(decide (v < 1))) = true)] ?_ (Zi (b := (decide (v < 1)) || (decide (v > 65536))) (fun h0 => ?_) fun h0 => ?_)))
  ·
   refine ap ?_ (ap (by exact vcNot) az)
   first | exact hm5 | exact hm6 | exact (fun _ => hm6) | (first | omega | exact id | exact vcNot | exact vcG | exact vcH | (intro _; omega) | exact (fun _ h => h) | (intro h; simp at h; omega) | (simp only [List.length_cons, List.length_nil, List.length_append, List.length_map, List.length_set, List.length_replicate]; omega) | (intro h; simp [h]; done)) | (have := hX (by omega); constructor <;> omega) | (intro _; have := hX (by omega); constructor <;> omega) | (simp only [Cn.lensN, List.map_cons, List.map_nil, List.sum_cons, List.sum_nil, List.length_cons, List.length_nil]; omega) | (rw [Cn.flat2, List.length_append]; omega)
  ·
   try simp only [Bool.or_eq_true, Bool.or_eq_false_iff, Bool.and_eq_true, Bool.and_eq_false_iff, Bool.not_eq_true', Bool.not_eq_false', decide_eq_true_eq, decide_eq_false_iff_not, bne_iff_ne, bne_eq_false_iff_eq, beq_iff_eq, beq_eq_false_iff_ne] at h0
   exact Sz hcx [] [6, 7] [18, 0, 1, 2] [] (Zr (Fr (Fw 6 700 3 (.ints []) (Fn [(700, .to 0)] [6, 7] (Rv hcx (congrArg AV.tup (consE rfl (consE (congrArg AV.int (show 140 = (Cn.resE a b v) from (by exact (Cn.res_out (by omega)).2.symm))) rfl))) [true] (consO (congrArg some (congrArg (fun x => AObj.row 3 (.ints x)) (show [] = (Cn.resL a b v) from (by exact (Cn.res_out (by omega)).1.symm)))) rfl))))))
  ·
   try simp only [Bool.or_eq_true, Bool.or_eq_false_iff, Bool.and_eq_true, Bool.and_eq_false_iff, Bool.not_eq_true', Bool.not_eq_false', decide_eq_true_eq, decide_eq_false_iff_not, bne_iff_ne, bne_eq_false_iff_eq, beq_iff_eq, beq_eq_false_iff_ne] at h0
   have hv1 : 1 ≤ v := by omega
   have hv2 : v ≤ 65536 := by omega
   refine Zk (Ft (Zs (Sq hcx [] [22, 23, 24] [18, 2] [] [Fit (-v)] ?_ (Zb (Lp (X := Nat) (fun x0 => x0 ≤ 2 ∧ ∀ j, j < x0 → Cn.onB a b ([v, -v].getD j 0) = false) (fun x0 => ([(0, .ints a), (1, .ints b), (22, .ints [v, (-v)]), (23, .int ([v, (-v)].length : Int)), (24, .int (x0 : Int))], [])) (fun x0 => 2 - x0) (0) ?_ (Ex 24 (congrArg AV.int (show 0 = (0 : Int) from (by first | rfl | omega | (simp; done)))) Eb) Hb fun k hI => ?_)))))
   ·
    refine ap ?_ az
    first | exact hm5 | exact hm6 | exact (fun _ => hm6) | (first | omega | exact id | exact vcNot | exact vcG | exact vcH | (intro _; omega) | exact (fun _ h => h) | (intro h; simp at h; omega) | (simp only [List.length_cons, List.length_nil, List.length_append, List.length_map, List.length_set, List.length_replicate]; omega) | (intro h; simp [h]; done)) | (have := hX (by omega); constructor <;> omega) | (intro _; have := hX (by omega); constructor <;> omega) | (simp only [Cn.lensN, List.map_cons, List.map_nil, List.sum_cons, List.sum_nil, List.length_cons, List.length_nil]; omega) | (rw [Cn.flat2, List.length_append]; omega)
   ·
    exact ⟨Nat.zero_le _, fun j hj => by omega⟩
   ·
    try dsimp only at hI
    obtain ⟨hk, hok⟩ := hI
    have hX : k < 2 → -65536 ≤ ([v, -v].getD k 0) ∧ ([v, -v].getD k 0) ≤ 65536 := fun h => Cn.two_bd h hv1 hv2
    refine Sz hcx [] [25] [] [] (Zs (Zj (p := ((k : Int) < ([v, (-v)].length : Int))) (fun h1 => ?_) fun h1 => ?_))
    ·
     refine Zk (Ft (Zs (Zb (Sq hcx [] [9] [25] [] [((0 : Int) ≤ (k : Int) ∧ (k : Int) < ([v, (-v)].length : Int))] ?_ (Zs (Sq hcx [] [38] [] [] [(a.length ≤ maxLen), ((!(!(a.contains ([v, (-v)].getD k 0)))) = true → ((!(!(a.contains ([v, (-v)].getD k 0)))) = true)), ((!(!(a.contains ([v, (-v)].getD k 0)))) = true → Fit (-([v, (-v)].getD k 0))), ((!(!(a.contains ([v, (-v)].getD k 0)))) = true → ((!(!(a.contains ([v, (-v)].getD k 0)))) = true)), ((!(!(a.contains ([v, (-v)].getD k 0)))) = true → ((!(!(a.contains ([v, (-v)].getD k 0)))) = true)), ((!(!(a.contains ([v, (-v)].getD k 0)))) = true → (b.length ≤ maxLen)), ((!(!(a.contains ([v, (-v)].getD k 0)))) = true → ((!(!(a.contains ([v, (-v)].getD k 0)))) = true)), ((!(a.contains ([v, (-v)].getD k 0))) = false → (!(!(a.contains ([v, (-v)].getD k 0)))) = true)] ?_ (Zi (b := (!(a.contains ([v, (-v)].getD k 0))) || (!(b.contains (-([v, (-v)].getD k 0))))) (fun h2 => ?_) fun h2 => ?_)))))))
     ·
      refine ap ?_ az
      first | exact hm5 | exact hm6 | exact (fun _ => hm6) | (first | omega | exact id | exact vcNot | exact vcG | exact vcH | (intro _; omega) | exact (fun _ h => h) | (intro h; simp at h; omega) | (simp only [List.length_cons, List.length_nil, List.length_append, List.length_map, List.length_set, List.length_replicate]; omega) | (intro h; simp [h]; done)) | (have := hX (by omega); constructor <;> omega) | (intro _; have := hX (by omega); constructor <;> omega) | (simp only [Cn.lensN, List.map_cons, List.map_nil, List.sum_cons, List.sum_nil, List.length_cons, List.length_nil]; omega) | (rw [Cn.flat2, List.length_append]; omega)
     ·
      refine ap ?_ (ap ?_ (ap ?_ (ap ?_ (ap ?_ (ap ?_ (ap ?_ (ap (by exact vcNot) az))))))) <;>
       first | exact hm5 | exact hm6 | exact (fun _ => hm6) | (first | omega | exact id | exact vcNot | exact vcG | exact vcH | (intro _; omega) | exact (fun _ h => h) | (intro h; simp at h; omega) | (simp only [List.length_cons, List.length_nil, List.length_append, List.length_map, List.length_set, List.length_replicate]; omega) | (intro h; simp [h]; done)) | (have := hX (by omega); constructor <;> omega) | (intro _; have := hX (by omega); constructor <;> omega) | (simp only [Cn.lensN, List.map_cons, List.map_nil, List.sum_cons, List.sum_nil, List.length_cons, List.length_nil]; omega) | (rw [Cn.flat2, List.length_append]; omega)
     ·
      have hq : Cn.onB a b ([v, -v].getD k 0) = false := Cn.onB_no h2
      refine Ze (Fe (Fs (Ft (Tq hcx [] [24] [38, 9] [] [Fit ((k : Int) + 1)] ?_ (Lr (k + 1) ?_ ?_ (Ex 24 (congrArg AV.int (show ((k : Int) + 1) = ((k + 1) : Int) from (by first | rfl | omega | (simp; done)))) Eb) Hb)))))
      ·
       refine ap ?_ az
       first | exact hm5 | exact hm6 | exact (fun _ => hm6) | (first | omega | exact id | exact vcNot | exact vcG | exact vcH | (intro _; omega) | exact (fun _ h => h) | (intro h; simp at h; omega) | (simp only [List.length_cons, List.length_nil, List.length_append, List.length_map, List.length_set, List.length_replicate]; omega) | (intro h; simp [h]; done)) | (have := hX (by omega); constructor <;> omega) | (intro _; have := hX (by omega); constructor <;> omega) | (simp only [Cn.lensN, List.map_cons, List.map_nil, List.sum_cons, List.sum_nil, List.length_cons, List.length_nil]; omega) | (rw [Cn.flat2, List.length_append]; omega)
      ·
       exact ⟨by omega, Cn.falseSucc (f := fun j => Cn.onB a b ([v, -v].getD j 0)) hok hq⟩
      ·
       show 2 - (k + 1) < 2 - k
       omega
     ·
      have hq : Cn.onB a b ([v, -v].getD k 0) = true := Cn.onB_yes h2
      have hf1 := List.length_filter_le (fun y => !(y == ([v, -v].getD k 0))) a
      have hf2 := List.length_filter_le (fun y => !(y == -([v, -v].getD k 0))) b
      refine Zk (Ft (Sz hcx [] [10] [38, 22, 23, 24] [] (Sq hcx [(1011, .to 251)] [11] [10, 9, 0, 1] [] [(a.length ≤ 1000000), Fit (-([v, (-v)].getD k 0)), (b.length ≤ 1000000), ([(a.filter fun z9 => !(z9 == ([v, (-v)].getD k 0))), (b.filter fun z9 => !(z9 == (-([v, (-v)].getD k 0))))].length ≤ 1000000 ∧ Cn.lensN [(a.filter fun z9 => !(z9 == ([v, (-v)].getD k 0))), (b.filter fun z9 => !(z9 == (-([v, (-v)].getD k 0))))] ≤ 1000000), (([(a.filter fun z9 => !(z9 == ([v, (-v)].getD k 0))), (b.filter fun z9 => !(z9 == (-([v, (-v)].getD k 0))))].flatten).length ≤ 1000000)] ?_ (Sz hcx [] [6, 7] [11] [] (Zr (Fk (Fr (Fr (Fk (Fr (Fn [(251, .to 0)] [6, 7] (Rv hcx (congrArg AV.tup (consE rfl (consE (congrArg AV.int (show 0 = (Cn.resE a b v) from (by exact (Cn.res_yes (k := k) (by omega) hv1 hv2 hok hq).2.symm))) rfl))) [true] (consO (congrArg some (congrArg (fun x => AObj.row 3 (.ints x)) (show (Cn.normL ([(a.filter fun z9 => !(z9 == ([v, (-v)].getD k 0))), (b.filter fun z9 => !(z9 == (-([v, (-v)].getD k 0))))].flatten)) = (Cn.resL a b v) from (by rw [Cn.flat2]; exact (Cn.res_yes (k := k) (by omega) hv1 hv2 hok hq).1.symm)))) rfl)))))))))))))
      ·
       refine ap ?_ (ap ?_ (ap ?_ (ap ?_ (ap ?_ az)))) <;>
        first | exact hm5 | exact hm6 | exact (fun _ => hm6) | (first | omega | exact id | exact vcNot | exact vcG | exact vcH | (intro _; omega) | exact (fun _ h => h) | (intro h; simp at h; omega) | (simp only [List.length_cons, List.length_nil, List.length_append, List.length_map, List.length_set, List.length_replicate]; omega) | (intro h; simp [h]; done)) | (have := hX (by omega); constructor <;> omega) | (intro _; have := hX (by omega); constructor <;> omega) | (simp only [Cn.lensN, List.map_cons, List.map_nil, List.sum_cons, List.sum_nil, List.length_cons, List.length_nil]; omega) | (rw [Cn.flat2, List.length_append]; omega)
    ·
     exact Ze (Fe (Fe (Fs (Ft (Sz hcx [] [6, 7] [25, 0, 1, 22, 23, 24] [] (Zr (Fw 6 700 3 (.ints []) (Fn [(700, .to 0)] [6, 7] (Rv hcx (congrArg AV.tup (consE rfl (consE (congrArg AV.int (show 140 = (Cn.resE a b v) from (by exact (Cn.res_no (fun j hj => hok j (by omega))).2.symm))) rfl))) [true] (consO (congrArg some (congrArg (fun x => AObj.row 3 (.ints x)) (show [] = (Cn.resL a b v) from (by exact (Cn.res_no (fun j hj => hok j (by omega))).1.symm)))) rfl))))))))))
 ·
  cases hσ
end Go.Proofs.YtbpbndlgfiammaaGreatDoor.En
namespace Go.Proofs.YtbpbndlgfiammaaGreatDoor.Cn
open Go
def wP (x : Int) (l : List Int) : Bool := l.contains x && !(l.contains (-x))
def withL (c : List (List Int)) (x : Int) : List (List Int) := c.filter (wP x)
def wIdx (c : List (List Int)) (x : Int) (k : Nat) : List Nat := (List.range k).filter fun i => wP x (c.getD i [])
theorem wIdx_succ {c : List (List Int)} {x : Int} {k : Nat} : wIdx c x (k + 1) = if wP x (c.getD k []) then wIdx c x k ++ [k] else wIdx c x k := by
  unfold wIdx
  rw [List.range_succ, List.filter_append]
  by_cases h : wP x (c.getD k []) = true
  · rw [if_pos h, List.filter_cons_of_pos (p := fun i => wP x (c.getD i [])) h, List.filter_nil]
  · rw [if_neg h, List.filter_cons_of_neg (p := fun i => wP x (c.getD i [])) h, List.filter_nil, List.append_nil]
theorem wIdx_mono {c : List (List Int)} {x : Int} {k n : Nat} (h : k ≤ n) : ∃ t, wIdx c x n = wIdx c x k ++ t := by
  induction n with
  | zero => obtain rfl : k = 0 := (by omega); exact ⟨[], by simp⟩
  | succ n ih =>
    by_cases hk : k = n + 1
    · subst hk; exact ⟨[], by simp⟩
    · obtain ⟨t, ht⟩ := ih (by omega)
      rw [wIdx_succ, ht]
      split
      · exact ⟨t ++ [n], by simp⟩
      · exact ⟨t, rfl⟩
theorem wIdx_at {c : List (List Int)} {x : Int} {k n : Nat} (h : k < n) (hp : wP x (c.getD k []) = true) : (wIdx c x k).length < (wIdx c x n).length ∧ (wIdx c x n).getD (wIdx c x k).length 0 = k := by
  obtain ⟨t, ht⟩ := wIdx_mono (c := c) (x := x) (show k + 1 ≤ n from h)
  rw [wIdx_succ, if_pos hp] at ht
  rw [ht]
  constructor
  · simp
  · rw [List.append_assoc, List.getD_eq_getElem?_getD, List.getElem?_append_right (Nat.le_refl _), Nat.sub_self]; rfl
theorem range_get (c : List (List Int)) : (List.range c.length).map (fun i => c.getD i []) = c := by
  refine List.ext_getElem (by simp) fun i h1 h2 => ?_
  simp [List.getD, h2]
theorem withL_idx (c : List (List Int)) (x : Int) : withL c x = (wIdx c x c.length).map fun i => c.getD i [] := by
  have e : c.filter (wP x) = ((List.range c.length).map fun i => c.getD i []).filter (wP x) := by rw [range_get]
  unfold withL wIdx
  rw [e, List.filter_map]
  rfl
theorem wIdx_lt {c : List (List Int)} {x : Int} {n j : Nat} (h : j < (wIdx c x n).length) : (wIdx c x n).getD j 0 < n := by
  rw [List.getD_eq_getElem?_getD, List.getElem?_eq_getElem h]
  have := (List.mem_filter.1 (List.getElem_mem h)).1
  exact List.mem_range.1 this
theorem withL_get {c : List (List Int)} {x : Int} {j : Nat} (h : j < (withL c x).length) : (withL c x).getD j [] = c.getD ((wIdx c x c.length).getD j 0) [] := by
  have hl : j < (wIdx c x c.length).length := by rw [withL_idx] at h; simpa using h
  have e : (wIdx c x c.length).getD j 0 = (wIdx c x c.length)[j] := by rw [List.getD_eq_getElem?_getD, List.getElem?_eq_getElem hl]; rfl
  rw [withL_idx, e, List.getD_eq_getElem?_getD, List.getElem?_map, List.getElem?_eq_getElem hl]
  rfl
theorem withL_len (c : List (List Int)) (x : Int) : (withL c x).length = (wIdx c x c.length).length := by rw [withL_idx]; simp
def hasV (v : Int) (l : List Int) : Bool := l.contains v || l.contains (-v)
def uOf (c : List (List Int)) (v : Int) : List (List Int) := c.filter (hasV v)
def xOf (c : List (List Int)) (v : Int) : List (List Int) := c.filter fun l => !(hasV v l)
def resT (a : List Int) (v : Int) (b : List Int) : List (List Int) := if tautL (resL a b v) then [] else [resL a b v]
def resB (a : List Int) (bs : List (List Int)) (v : Int) (j : Nat) : List (List Int) := (bs.take j).flatMap (resT a v)
def resA (as bs : List (List Int)) (v : Int) (i : Nat) : List (List Int) := (as.take i).flatMap fun a => bs.flatMap (resT a v)
def cutX (many : Int) : List (List Int) → List (List Int) → List (List Int)
  | acc, [] => acc
  | acc, l :: ls => if many < ((acc ++ [l]).length : Int) then acc ++ [l] else cutX many (acc ++ [l]) ls
def outX (c : List (List Int)) (v many : Int) : List (List Int) := cutX many (xOf c v) (resA (withL (uOf c v) v) (withL (uOf c v) (-v)) v (withL (uOf c v) v).length)
end Go.Proofs.YtbpbndlgfiammaaGreatDoor.Cn
namespace Go.Proofs.YtbpbndlgfiammaaGreatDoor.En
open Go Go.RowKit
def with_it : ItF
  | [.pto [.ls (.intss c)], .pto [.val (.int .i64 x)]] => some (c.length ≤ maxLen ∧ (∀ l ∈ c, l.length ≤ maxLen) ∧ -65536 ≤ x ∧ x ≤ 65536, (Cn.withL c x).length, fun i => [.ints ((Cn.withL c x).getD i [])])
  | _ => none
theorem contains_x {G : Nat → Prop} {W : World} (hG : ∀ b, G b → b < W.heap.size) (hgl : GlOk (g0 W G)) {l : List Int} {v : Value} {y : Int} (hl : l.length ≤ maxLen) (hv : Den (g0 W G) (.ints l) v) :
    CallsIn (FR none) 2 Tryz.prog 44 #[v, I64 y] W fun e W' => e = .returned (.bool (l.contains y)) ∧ Below W.heap.size W W' := by
  have h := sContains_sound.callsG hG hgl (args := [.ints l, .int y]) (vs := [v, I64 y]) rfl hl (by simp only [DenL]; exact ⟨_, _, rfl, hv, _, _, rfl, .val _, rfl⟩)
  refine callsIn_fr.2 (Calls.mono h fun e w' he => ?_)
  obtain ⟨u, rfl, hb, g', _, _, hd⟩ := he
  rw [den_val hd]
  exact ⟨rfl, hb⟩
set_option maxRecDepth 100000 in
set_option maxHeartbeats 1000000 in
theorem with_x {G : Nat → Prop} {W : World} (hG : ∀ b, G b → b < W.heap.size) (hgl : GlOk (g0 W G)) (vv : Nat → Value) (c : List (List Int)) (A : Option Addr) (cp p1 o1 p2 o2 : Nat) (x : Int)
    (h1 : W.cell? ⟨p1, o1, none⟩ = some (.slice A c.length cp)) (g1 : G p1) (h2 : W.cell? ⟨p2, o2, none⟩ = some (I64 x)) (g2 : G p2)
    (hA : ∀ k, k < c.length → ∃ b off, A = some ⟨b, off, none⟩ ∧ G b ∧ W.cell? ⟨b, off + k, none⟩ = some (vv k)) (hv : ∀ k, k < c.length → Den (g0 W G) (.ints (c.getD k [])) (vv k))
    (hl : c.length ≤ maxLen) (hll : ∀ l ∈ c, l.length ≤ maxLen) (hx1 : -65536 ≤ x) (hx2 : x ≤ 65536) :
    SeqX Tryz.prog 127 #[.pointer (some ⟨p1, o1, none⟩), .pointer (some ⟨p2, o2, none⟩)] (KRG G) (Cn.wIdx c x c.length).length (fun j => #[vv ((Cn.wIdx c x c.length).getD j 0)]) W := by
  intro l J Jx Z W1 hKR hJs hJxs hY h0
  unfold maxLen at hl
  have HC1 := Lib.hid (fun (W' : World) (h : KRG G W W') => (World.cell?_of_block (a := ⟨p1, o1, none⟩) (h p1 g1)).trans h1)
  have HC2 := Lib.hid (fun (W' : World) (h : KRG G W W') => (World.cell?_of_block (a := ⟨p2, o2, none⟩) (h p2 g2)).trans h2)
  have HA := Lib.hid (fun k (hk : k < c.length) (W' : World) (h : KRG G W W') => by
    obtain ⟨b, off, e, hb, hc⟩ := hA k hk
    exact (⟨b, off, e, (World.cell?_of_block (a := ⟨b, off + k, none⟩) (h b hb)).trans hc⟩ : ∃ b off, A = some ⟨b, off, none⟩ ∧ W'.cell? ⟨b, off + k, none⟩ = some (vv k)))
  have HCN := Lib.hid (fun k (hk : k < c.length) (y : Int) (W' : World) (h : KRG G W W') =>
    contains_x (G := G) (W := W') (y := y) (krg_lt hG h) (hgl.up (krg_le h)) (hll _ (Cn.getD_memL hk)) (Den.mono (krg_le h) _ _ (hv k hk)))
  have HJ := Lib.hid hJs
  have HY := Lib.hid hY
  have HG := Lib.hid hG
  have HK := Lib.hid hKR
  have H0 := Lib.hid h0
  clear h1 h2 hA hv hll hgl hJs hY hG hJxs h0 hKR
  refine callsIn_fr.1 (callsIn_of_wp (F := FR none) (n := 3) Tryz.func127 rfl trivial ?_ rfl)
  simp only [Tryz.ntmps127, List.size_toArray, List.length_cons, List.length_nil, Nat.reduceAdd, Nat.reduceSub, Array.replicate_succ, Array.replicate_zero, List.push_toArray, List.append_toArray, List.nil_append, List.cons_append]
  have hro : (FR none).round = none := rfl
  have hc1 := HC1.out W1 HK.out
  gi_wp2_with fail
  clear hc1
  gi_loopw [5, 8] (fun _ kv wr => ∃ (k : Nat) (Z : Nat → Prop), kv = .int .i64 k ∧ k ≤ c.length ∧ KRG G W wr ∧ J (Cn.wIdx c x k).length Z wr) (fun _ kv _ => c.length - (intOf kv).toNat)
  case atStart => exact ⟨0, Z, rfl, Nat.zero_le _, HK.out, H0.out⟩
  case round =>
    obtain ⟨k, Z2, rfl, hk, hkr, hj⟩ := hrel
    have HKR := Lib.hid hkr
    have HJ2 := Lib.hid hj
    clear hkr hj
    by_cases hlt : k < c.length
    · obtain ⟨b, off, rfl, hcell⟩ := HA.out k hlt wr HKR.out
      have HCK := Lib.hid (HCN.out k hlt)
      have HPA := Lib.hid (fun h => Cn.wIdx_at (c := c) (x := x) (n := c.length) hlt h)
      have HPS := Lib.hid (Cn.wIdx_succ (c := c) (x := x) (k := k))
      have HWP := Lib.hid (show Cn.wP x (c.getD k []) = ((c.getD k []).contains x && !((c.getD k []).contains (-x))) from rfl)
      generalize c.getD k [] = ck at HCK HPA HPS HWP
      have hc2 := HC2.out wr HKR.out
      have hng : wrap64 (-x) = -x := by unfold wrap64; omega
      have next : ∀ (w2 : World), Cn.wP x ck = false → KRG G W w2 → (∃ Z, J (Cn.wIdx c x k).length Z w2) → ∃ (k' : Nat) (Z : Nat → Prop), Value.int .i64 (k + 1 : Nat) = .int .i64 k' ∧ k' ≤ c.length ∧ KRG G W w2 ∧ J (Cn.wIdx c x k').length Z w2 := fun w2 h1 h2 ⟨Z, h3⟩ => by
        refine ⟨k + 1, Z, rfl, hlt, h2, ?_⟩
        rw [HPS.out, h1, if_neg (by simp)]; exact h3
      have HNX := Lib.hid next
      clear next
      gi_wp2_with fail
      refine ⟨trivial, (HCK.out x wr HKR.out).mono ?_⟩
      rintro e w2 ⟨rfl, hb2⟩
      have hk2 := krg_below HKR.out (krg_lt HG.out HKR.out) hb2
      have HK2 := Lib.hid hk2
      have HJ3 := Lib.hid (HJ.out _ _ _ _ HJ2.out (kp_no hb2 Z2))
      have hc3 := HC2.out w2 hk2
      clear hb2 hk2 hc2
      cases hB1 : ck.contains x with
      | false =>
        have HNO := Lib.hid (show Cn.wP x ck = false by rw [HWP.out, hB1]; rfl)
        clear hB1
        gi_wp2_with fail
        refine ⟨trivial, ?_⟩
        gi_wp2_with fail
        refine ⟨fun f hf => (by cases hf), ?_⟩
        gi_wp2_with fail
        go_roundw
        case rel => exact HNX.out _ HNO.out HK2.out ⟨_, HJ3.out⟩
        case measure => simp [intOf]; omega
      | true =>
        gi_wp2_with fail
        refine ⟨trivial, (HCK.out (-x) w2 HK2.out).mono ?_⟩
        rintro e w3 ⟨rfl, hb3⟩
        have HK3 := Lib.hid (krg_below HK2.out (krg_lt HG.out HK2.out) hb3)
        have HJ4 := Lib.hid (HJ.out _ _ _ _ HJ3.out (kp_no hb3 _))
        clear hb3
        cases hB2 : ck.contains (-x) with
        | true =>
          have HNO := Lib.hid (show Cn.wP x ck = false by rw [HWP.out, hB1, hB2]; rfl)
          clear hB1 hB2
          gi_wp2_with fail
          refine ⟨fun f hf => (by cases hf), ?_⟩
          gi_wp2_with fail
          go_roundw
          case rel => exact HNX.out _ HNO.out HK3.out ⟨_, HJ4.out⟩
          case measure => simp [intOf]; omega
        | false =>
          have HYS := Lib.hid (show Cn.wP x ck = true by rw [HWP.out, hB1, hB2]; rfl)
          clear hB1 hB2
          obtain ⟨hlt2, hat⟩ := HPA.out HYS.out
          have hyy := HY.out _ _ w3 hlt2 HJ4.out
          rw [hat] at hyy
          obtain ⟨fn, tmps, assign, body, hy, hR⟩ := hyy
          have HLEN := Lib.hid (show (Cn.wIdx c x (k + 1)).length = (Cn.wIdx c x k).length + 1 by rw [HPS.out, HYS.out, if_pos rfl]; simp)
          clear hlt2 hat
          gi_wp2_with fail
          refine hR.mono ?_
          rintro e w4 ⟨⟨rfl, hj4⟩ | ⟨rfl, hjx⟩, hk4, hz4, hs4⟩
          · have HK4 := Lib.hid (krg_tr HK3.out hk4)
            have HJ5 := Lib.hid hj4
            clear hj4 hk4 hz4 hs4
            gi_wp2_with fail
            go_roundw
            case rel => exact ⟨k + 1, _, rfl, hlt, HK4.out, by rw [HLEN.out]; exact HJ5.out⟩
            case measure => simp [intOf]; omega
          · have HJX := Lib.hid hjx
            clear hjx hk4 hz4 hs4
            gi_wp2_with fail
            refine bodyPost_ret (results_none rfl _ _ _) rfl ?_
            exact ⟨⟨_, rfl⟩, .inr ⟨_, _, HJX.out⟩⟩
    · obtain rfl : k = c.length := by omega
      gi_wp2_with fail
      go_end0
      exact ⟨⟨_, rfl⟩, .inl ⟨Z2, HJ2.out⟩⟩
theorem with_seq : SeqSound Tryz.prog 127 with_it := by
  refine ⟨run_enters Tryz.func127 (by kernel_rfl) rfl, fun W G caps vs p N el hG hgl hσ hp hd => ?_⟩
  unfold with_it at hσ
  split at hσ
  · rename_i c x
    injection hσ with hσ
    injection hσ with h1 h2
    injection h2 with h2 h3
    subst h1 h2 h3
    obtain ⟨hl, hll, hx1, hx2⟩ := hp
    simp only [DenL, Den] at hd
    obtain ⟨v1, vs1, rfl, ⟨p1, o1, rfl, g1, hc1⟩, v2, vs2, rfl, ⟨p2, o2, rfl, g2, hc2⟩, rfl⟩ := hd
    obtain ⟨u1, hu1, hr1⟩ := hc1 0 (.ls (.intss c)) rfl
    obtain ⟨u2, hu2, hr2⟩ := hc2 0 (.val (.int .i64 x)) rfl
    have e2 : u2 = I64 x := den_val (g := g0 W G) (by simp only [Den]; exact hr2)
    subst e2
    have key : ∃ (A : Option Addr) (cp : Nat) (vv : Nat → Value), u1 = .slice A c.length cp ∧ (∀ k, k < c.length → ∃ b off, A = some ⟨b, off, none⟩ ∧ G b ∧ W.cell? ⟨b, off + k, none⟩ = some (vv k)) ∧ ∀ k, k < c.length → Den (g0 W G) (.ints (c.getD k [])) (vv k) := by
      rcases hr1.cases_ls with ⟨h0, A, cp, rfl⟩ | ⟨b, off, cp, u, rfl, _, _, hb, hcell, hrep⟩
      · have h0' : c.length = 0 := h0
        exact ⟨A, cp, fun _ => undef, by rw [h0'], fun k hk => by omega, fun k hk => by omega⟩
      · refine ⟨_, cp, fun i => u i 0, rfl, fun k hk => ⟨b, off, rfl, hb, ?_⟩, fun k hk => ?_⟩
        · have h1 : W.cell? ⟨b, off + k * 1 + 0, none⟩ = some (u k 0) := hcell k 0 hk Nat.one_pos
          rwa [Nat.mul_one, Nat.add_zero] at h1
        · simp only [Den]; exact hrep k 0 hk Nat.one_pos
    obtain ⟨A, cp, vv, rfl, hA, hv⟩ := key
    refine ⟨fun j => #[vv ((Cn.wIdx c x c.length).getD j 0)], fun i hi => ?_, ?_⟩
    · simp only [DenL]
      refine ⟨_, _, rfl, ?_, rfl⟩
      rw [Cn.withL_get hi]
      exact hv _ (Cn.wIdx_lt (by rwa [← Cn.withL_len]))
    · rw [Cn.withL_len]
      exact with_x hG hgl vv c A cp p1 o1 p2 o2 x hu1 g1 hu2 g2 hA hv hl hll hx1 hx2
  · cases hσ
end Go.Proofs.YtbpbndlgfiammaaGreatDoor.En
namespace Go.Proofs.YtbpbndlgfiammaaGreatDoor.Cn
open Go
theorem uOf_next_y {c : List (List Int)} {v : Int} {k : Nat} (hk : k < c.length) (h : hasV v (c.getD k []) = true) : uOf (c.take k) v ++ [c.getD k []] = uOf (c.take (k + 1)) v ∧ xOf (c.take k) v = xOf (c.take (k + 1)) v := by
  unfold uOf xOf
  rw [take_sD (d := []) hk, List.filter_append, List.filter_append, List.filter_cons_of_pos h, List.filter_cons_of_neg (by rw [h]; simp)]
  simp
theorem uOf_next_n {c : List (List Int)} {v : Int} {k : Nat} (hk : k < c.length) (h : hasV v (c.getD k []) = false) : xOf (c.take k) v ++ [c.getD k []] = xOf (c.take (k + 1)) v ∧ uOf (c.take k) v = uOf (c.take (k + 1)) v := by
  unfold uOf xOf
  rw [take_sD (d := []) hk, List.filter_append, List.filter_append, List.filter_cons_of_pos (by rw [h]; rfl), List.filter_cons_of_neg (by rw [h]; simp)]
  simp
abbrev posL (c : List (List Int)) (v : Int) : List (List Int) := withL (uOf c v) v
abbrev negL (c : List (List Int)) (v : Int) : List (List Int) := withL (uOf c v) (-v)
def stX (c : List (List Int)) (v : Int) (p q : Nat) : List (List Int) := xOf c v ++ resA (posL c v) (negL c v) v p ++ resB ((posL c v).getD p []) (negL c v) v q
def okX (c : List (List Int)) (v many : Int) (p q : Nat) : Prop := stX c v p q = xOf c v ∨ ((stX c v p q).length : Int) ≤ many
section
variable {c : List (List Int)} {v many : Int} {p q : Nat}
theorem st_zero : xOf c v = stX c v 0 0 := by simp [stX, resA, resB]
theorem ok_zero : okX c v many 0 0 := .inl st_zero.symm
theorem resB_all (a : List Int) (bs : List (List Int)) : resB a bs v bs.length = bs.flatMap (resT a v) := by simp [resB]
theorem st_next (hp : p < (posL c v).length) : stX c v p (negL c v).length = stX c v (p + 1) 0 := by
  unfold stX
  rw [resB_all]
  have h1 : resA (posL c v) (negL c v) v (p + 1) = resA (posL c v) (negL c v) v p ++ (negL c v).flatMap (resT ((posL c v).getD p []) v) := by
    unfold resA; rw [take_sD (d := []) hp, List.flatMap_append]; simp
  rw [h1]
  simp [resB]
theorem ok_next (hp : p < (posL c v).length) (h : okX c v many p (negL c v).length) : okX c v many (p + 1) 0 := by
  unfold okX at h ⊢; rw [← st_next hp]; exact h
theorem resB_succ {a : List Int} {bs : List (List Int)} (hq : q < bs.length) : resB a bs v (q + 1) = resB a bs v q ++ resT a v (bs.getD q []) := by
  unfold resB; rw [take_sD (d := []) hq, List.flatMap_append]; simp
theorem st_skip (hq : q < (negL c v).length) (h : tautL (resL ((posL c v).getD p []) ((negL c v).getD q []) v) = true) : stX c v p q = stX c v p (q + 1) := by
  unfold stX; rw [resB_succ hq]; unfold resT; rw [if_pos h, List.append_nil]
theorem ok_skip (hq : q < (negL c v).length) (h : tautL (resL ((posL c v).getD p []) ((negL c v).getD q []) v) = true) (ho : okX c v many p q) : okX c v many p (q + 1) := by
  unfold okX at ho ⊢; rw [← st_skip hq h]; exact ho
theorem st_add (hq : q < (negL c v).length) (h : tautL (resL ((posL c v).getD p []) ((negL c v).getD q []) v) = false) : stX c v p q ++ [resL ((posL c v).getD p []) ((negL c v).getD q []) v] = stX c v p (q + 1) := by
  unfold stX; rw [resB_succ hq]; unfold resT; rw [if_neg (by rw [h]; simp), ← List.append_assoc]
theorem ok_add (hq : q < (negL c v).length) (h : tautL (resL ((posL c v).getD p []) ((negL c v).getD q []) v) = false) (ho : ((stX c v p q ++ [resL ((posL c v).getD p []) ((negL c v).getD q []) v]).length : Int) ≤ many) : okX c v many p (q + 1) := by
  rw [st_add hq h] at ho; exact .inr ho
theorem cut_pre : ∀ {acc r1 r2 : List (List Int)}, (r1 = [] ∨ ((acc ++ r1).length : Int) ≤ many) → cutX many acc (r1 ++ r2) = cutX many (acc ++ r1) r2
  | acc, [], r2, _ => by simp
  | acc, l :: r1, r2, h => by
    have h' : ((acc ++ l :: r1).length : Int) ≤ many := by rcases h with h | h
                                                           · cases h
                                                           · exact h
    have h1 : ((acc ++ [l]).length : Int) ≤ many := by simp only [List.length_append, List.length_cons, List.length_nil] at h' ⊢; omega
    show (if many < ((acc ++ [l]).length : Int) then acc ++ [l] else cutX many (acc ++ [l]) (r1 ++ r2)) = _
    rw [if_neg (by omega), cut_pre (acc := acc ++ [l]) (r1 := r1) (.inr (by simpa [List.append_assoc] using h')), List.append_assoc]
    rfl
theorem cut_brk {acc ls : List (List Int)} {l : List Int} (h : many < ((acc ++ [l]).length : Int)) : cutX many acc (l :: ls) = acc ++ [l] := by
  show (if many < ((acc ++ [l]).length : Int) then acc ++ [l] else _) = _
  rw [if_pos h]
theorem cut_nil {acc : List (List Int)} : cutX many acc [] = acc := rfl
theorem ok_cut {acc r1 r2 : List (List Int)} (h : acc ++ r1 = acc ∨ ((acc ++ r1).length : Int) ≤ many) : cutX many acc (r1 ++ r2) = cutX many (acc ++ r1) r2 :=
  cut_pre (h.imp (fun h => by simpa using h) id)
theorem st_end (h : okX c v many (posL c v).length 0) : outX c v many = stX c v (posL c v).length 0 := by
  have e : stX c v (posL c v).length 0 = xOf c v ++ resA (posL c v) (negL c v) v (posL c v).length := by simp [stX, resB]
  unfold okX at h
  rw [e] at h ⊢
  have := ok_cut (r2 := []) h
  rw [List.append_nil, cut_nil] at this
  exact this
theorem resA_split (hp : p < (posL c v).length) (hq : q < (negL c v).length) (h : tautL (resL ((posL c v).getD p []) ((negL c v).getD q []) v) = false) :
    ∃ t, resA (posL c v) (negL c v) v (posL c v).length = (resA (posL c v) (negL c v) v p ++ resB ((posL c v).getD p []) (negL c v) v q) ++ (resL ((posL c v).getD p []) ((negL c v).getD q []) v :: t) := by
  have e1 : posL c v = (posL c v).take p ++ ((posL c v).getD p [] :: (posL c v).drop (p + 1)) := by
    rw [List.getD_eq_getElem?_getD, List.getElem?_eq_getElem hp]
    simp
  have e2 : negL c v = (negL c v).take q ++ ((negL c v).getD q [] :: (negL c v).drop (q + 1)) := by
    rw [List.getD_eq_getElem?_getD, List.getElem?_eq_getElem hq]
    simp
  generalize hA : (posL c v).getD p [] = a at *
  generalize hB : (negL c v).getD q [] = b at *
  have e3 : (negL c v).flatMap (resT a v) = resB a (negL c v) v q ++ (resL a b v :: ((negL c v).drop (q + 1)).flatMap (resT a v)) := by
    conv => lhs; rw [e2]
    rw [List.flatMap_append, List.flatMap_cons]
    unfold resB
    have : resT a v b = [resL a b v] := by unfold resT; rw [if_neg (by rw [h]; simp)]
    rw [this]; rfl
  refine ⟨((negL c v).drop (q + 1)).flatMap (resT a v) ++ ((posL c v).drop (p + 1)).flatMap (fun a => (negL c v).flatMap (resT a v)), ?_⟩
  have e4 : resA (posL c v) (negL c v) v (posL c v).length = (posL c v).flatMap fun a => (negL c v).flatMap (resT a v) := by unfold resA; rw [List.take_length]
  have e5 : ((posL c v).flatMap fun a => (negL c v).flatMap (resT a v)) = ((posL c v).take p).flatMap (fun a => (negL c v).flatMap (resT a v)) ++ ((negL c v).flatMap (resT a v) ++ ((posL c v).drop (p + 1)).flatMap (fun a => (negL c v).flatMap (resT a v))) := by
    conv => lhs; arg 2; rw [e1]
    rw [List.flatMap_append, List.flatMap_cons]
  rw [e4, e5, e3]
  unfold resA
  simp [List.append_assoc]
theorem st_brk (hp : p < (posL c v).length) (hq : q < (negL c v).length) (h : tautL (resL ((posL c v).getD p []) ((negL c v).getD q []) v) = false) (ho : okX c v many p q)
    (hb : ((stX c v p q ++ [resL ((posL c v).getD p []) ((negL c v).getD q []) v]).length : Int) > many) : outX c v many = stX c v p q ++ [resL ((posL c v).getD p []) ((negL c v).getD q []) v] := by
  obtain ⟨t, ht⟩ := resA_split hp hq h
  unfold outX
  rw [show resA (withL (uOf c v) v) (withL (uOf c v) (-v)) v (withL (uOf c v) v).length = _ from ht]
  have e : stX c v p q = xOf c v ++ (resA (posL c v) (negL c v) v p ++ resB ((posL c v).getD p []) (negL c v) v q) := by unfold stX; rw [List.append_assoc]
  unfold okX at ho
  rw [e] at ho hb ⊢
  rw [ok_cut ho, cut_brk hb]
theorem resL_len (a b : List Int) (v : Int) : (resL a b v).length ≤ a.length + b.length := by
  have hn : ∀ x, (resOn a b x).length ≤ a.length + b.length := fun x => by
    unfold resOn
    refine Nat.le_trans (norm_len _) ?_
    rw [List.length_append]
    exact Nat.add_le_add (List.length_filter_le _ _) (List.length_filter_le _ _)
  unfold resL
  split
  · split
    · exact hn _
    · split
      · exact hn _
      · simp
  · simp
theorem uOf_len : (uOf c v).length ≤ c.length := List.length_filter_le _ _
theorem xOf_len : (xOf c v).length ≤ c.length := List.length_filter_le _ _
theorem pos_mem {l : List Int} (h : l ∈ posL c v) : l ∈ c := (List.mem_filter.1 (List.mem_filter.1 h).1).1
theorem neg_mem {l : List Int} (h : l ∈ negL c v) : l ∈ c := (List.mem_filter.1 (List.mem_filter.1 h).1).1
theorem ok_len (hc : c.length ≤ 10000) (hm : many ≤ 65536) (h : okX c v many p q) : (stX c v p q).length ≤ 75536 := by
  rcases h with h | h
  · rw [h]; have := xOf_len (c := c) (v := v); omega
  · omega
theorem cutX_len : ∀ {acc ls : List (List Int)}, (cutX many acc ls).length ≤ acc.length + 1 ∨ ((cutX many acc ls).length : Int) ≤ many + 1
  | acc, [] => .inl (by rw [cut_nil]; omega)
  | acc, l :: ls => by
    show (if many < ((acc ++ [l]).length : Int) then acc ++ [l] else cutX many (acc ++ [l]) ls).length ≤ _ ∨ ((if many < ((acc ++ [l]).length : Int) then acc ++ [l] else cutX many (acc ++ [l]) ls).length : Int) ≤ _
    split
    · left; simp
    · rename_i hn
      rcases cutX_len (acc := acc ++ [l]) (ls := ls) with h | h
      · right; omega
      · right; exact h
theorem cut_mem : ∀ {acc ls : List (List Int)} {l : List Int}, l ∈ cutX many acc ls → l ∈ acc ∨ l ∈ ls
  | acc, [], l, h => .inl h
  | acc, m :: ls, l, h => by
    have h : l ∈ (if many < ((acc ++ [m]).length : Int) then acc ++ [m] else cutX many (acc ++ [m]) ls) := h
    split at h
    · rcases List.mem_append.1 h with h | h
      · exact .inl h
      · rw [List.mem_singleton] at h; subst h; exact .inr List.mem_cons_self
    · rcases cut_mem h with h | h
      · rcases List.mem_append.1 h with h | h
        · exact .inl h
        · rw [List.mem_singleton] at h; subst h; exact .inr List.mem_cons_self
      · exact .inr (List.mem_cons_of_mem _ h)
theorem out_mem {l : List Int} (h : l ∈ outX c v many) : l ∈ c ∨ ∃ a b, a ∈ posL c v ∧ b ∈ negL c v ∧ tautL (resL a b v) = false ∧ l = resL a b v := by
  rcases cut_mem h with h | h
  · exact .inl (List.mem_filter.1 h).1
  · right
    unfold resA at h
    rw [List.take_length] at h
    obtain ⟨a, ha, h⟩ := List.mem_flatMap.1 h
    obtain ⟨b, hb, h⟩ := List.mem_flatMap.1 h
    unfold resT at h
    split at h
    · cases h
    · rename_i ht
      rw [List.mem_singleton] at h
      exact ⟨a, b, ha, hb, by simpa using ht, h⟩
theorem out_len (hc : c.length ≤ 10000) (hm : many ≤ 65536) : (outX c v many).length ≤ 75537 := by
  have := xOf_len (c := c) (v := v)
  rcases cutX_len (many := many) (acc := xOf c v) (ls := resA (withL (uOf c v) v) (withL (uOf c v) (-v)) v (withL (uOf c v) v).length) with h | h
  · unfold outX; omega
  · unfold outX; omega
theorem out_lens (hl : ∀ m ∈ c, m.length ≤ 1000) : ∀ l ∈ outX c v many, l.length ≤ 2000 := fun l h => by
  rcases out_mem h with h | ⟨a, b, ha, hb, _, rfl⟩
  · have := hl l h; omega
  · have h1 := hl a (pos_mem ha)
    have h2 := hl b (neg_mem hb)
    have := resL_len a b v
    omega
end
def ouE (N : Int) (L : List (List Int)) (v : Int) : Int := if chkV N L ≠ 0 then chkV N L else if v < 1 ∨ N < v then 140 else if 65536 < ((outX L v 65536).length : Int) then 2 else 0
def ouN (N : Int) (L : List (List Int)) (v : Int) : Int := if ouE N L v = 0 then N else 0
def ouX (N : Int) (L : List (List Int)) (v : Int) : List (List Int) := if ouE N L v = 0 then outX L v 65536 else []
def ouV (N : Int) (L : List (List Int)) (v : Int) : Int := if ouE N L v = 0 then v else 0
def ouU (N : Int) (L : List (List Int)) (v : Int) : List (List Int) := if ouE N L v = 0 then uOf L v else []
theorem ou_no {N : Int} {L : List (List Int)} {v e : Int} (h : ouE N L v = e) (h0 : e ≠ 0) : ouN N L v = 0 ∧ ouX N L v = [] ∧ ouV N L v = 0 ∧ ouU N L v = [] ∧ ouE N L v = e := by
  unfold ouN ouX ouV ouU
  rw [h, if_neg h0, if_neg h0, if_neg h0, if_neg h0]
  exact ⟨rfl, rfl, rfl, rfl, rfl⟩
theorem ou_chk {N : Int} {L : List (List Int)} {v : Int} (h : chkV N L ≠ 0) : ouE N L v = chkV N L := if_pos h
theorem ou_lit {N : Int} {L : List (List Int)} {v : Int} (h : chkV N L = 0) (hv : v < 1 ∨ N < v) : ouE N L v = 140 := by
  unfold ouE; rw [if_neg (fun e => e h), if_pos hv]
theorem ou_big {N : Int} {L : List (List Int)} {v : Int} (h : chkV N L = 0) (hv : ¬ (v < 1 ∨ N < v)) (hb : ¬ (((outX L v 65536).length : Int) ≤ 65536)) : ouE N L v = 2 := by
  unfold ouE; rw [if_neg (fun e => e h), if_neg hv, if_pos (Int.not_le.1 hb)]
theorem ou_ok {N : Int} {L : List (List Int)} {v : Int} (h : chkV N L = 0) (hv : ¬ (v < 1 ∨ N < v)) (hb : ((outX L v 65536).length : Int) ≤ 65536) : ouE N L v = 0 ∧ ouN N L v = N ∧ ouX N L v = outX L v 65536 ∧ ouV N L v = v ∧ ouU N L v = uOf L v := by
  have e : ouE N L v = 0 := by unfold ouE; rw [if_neg (fun e => e h), if_neg hv, if_neg (Int.not_lt.2 hb)]
  unfold ouN ouX ouV ouU
  rw [e]
  exact ⟨rfl, rfl, rfl, rfl, rfl⟩
end Go.Proofs.YtbpbndlgfiammaaGreatDoor.Cn
namespace Go.Proofs.YtbpbndlgfiammaaGreatDoor.En
open Go Go.RowKit
def tyElim : List (Nat × TD) := [(3, ⟨1, false, [.int .i64 0], [], none, 8, false, 1, 1⟩),
  (22, ⟨1, false, [.slice none 0 0], [], some 23, 24, false, 0, 0⟩),
  (23, ⟨1, false, [.slice none 0 0], [], some 3, 24, false, 0, 3⟩),
  (28, ⟨2, true, [.int .i64 0, .slice none 0 0], [(0, 3), (1, 22)], none, 32, false, 0, 6⟩),
  (31, ⟨1, false, [.int .i64 0], [], none, 8, false, 1, 1⟩),
  (58, ⟨2, true, [.int .i64 0, .slice none 0 0], [(0, 3), (1, 22)], none, 32, false, 0, 6⟩)]
theorem tyElim_ok : AllTy Tryz.prog tyElim := ⟨⟨by kernel_rfl, by kernel_rfl, by kernel_rfl⟩, ⟨by kernel_rfl, by kernel_rfl, by kernel_rfl⟩, ⟨by kernel_rfl, by kernel_rfl, by kernel_rfl⟩, ⟨by kernel_rfl, by kernel_rfl, by kernel_rfl⟩, ⟨by kernel_rfl, by kernel_rfl, by kernel_rfl⟩, ⟨by kernel_rfl, by kernel_rfl, by kernel_rfl⟩, trivial⟩
def cx_eHas1 : Cx := ⟨tyElim, [(44, (coeF [.ld (.ints []), .id] sContains_σ))], false⟩
theorem cx_eHas1_ok : CxOk Tryz.prog cx_eHas1 := cx_ok tyElim_ok ⟨(sContains_sound.coe [.ld (.ints []), .id] rfl), trivial⟩
def eHas1_σ : CtF
  | [.im (.ls (.ints l)), .pto [.val (.int .i64 v)]], [] => some (l.length ≤ maxLen ∧ -65536 ≤ v ∧ v ≤ 65536, .bool (Cn.hasV v l), [])
  | _, _ => none
theorem eHas1_sound : Sound Tryz.prog 126 eHas1_σ := by
 refine Sw (cx := cx_eHas1) Tryz.f126 Tryz.func126 ?_
 intro wW wO wβ G0 args os p r outs hσ hp
 have hcx := cx_eHas1_ok
 unfold eHas1_σ at hσ
 split at hσ
 ·
  rename_i l v
  cases hσ
  refine ⟨by kernel_rfl, ?_⟩
  obtain ⟨hm1, hm2, hm3⟩ := hp
  refine Sz hcx [] [] [] [] (Sq hcx [] [3] [0, 1] [] [(l.length ≤ maxLen), ((!(l.contains v)) = true → ((!(l.contains v)) = true)), ((!(l.contains v)) = true → Fit (-v)), ((!(l.contains v)) = true → ((!(l.contains v)) = true)), ((!(l.contains v)) = true → ((!(l.contains v)) = true)), ((!(l.contains v)) = true → (l.length ≤ maxLen)), ((l.contains v) = false → (!(l.contains v)) = true)] ?_ (Zr (Ru hcx [])))
  ·
   refine ap ?_ (ap ?_ (ap ?_ (ap ?_ (ap ?_ (ap ?_ (ap (by exact vcNot) az)))))) <;>
    first | exact hm1 | exact (fun _ => hm1) | (first | omega | exact id | exact vcNot | exact vcG | exact vcH | (intro _; omega) | exact (fun _ h => h) | (intro h; simp at h; omega) | (simp only [List.length_cons, List.length_nil, List.length_append, List.length_map, List.length_set, List.length_replicate]; omega) | (intro h; simp [h]; done)) | (constructor <;> omega) | (intro _; constructor <;> omega)
 ·
  cases hσ
def cx_eHas : Cx := ⟨tyElim, [], false⟩
theorem cx_eHas_ok : CxOk Tryz.prog cx_eHas := cx_ok tyElim_ok trivial
def eHas_σ : CtF
  | [.im (.val (.int .i64 v))], [] => some (True, .clo 126 [.pto [.int v]], [])
  | _, _ => none
theorem eHas_sound : Sound Tryz.prog 103 eHas_σ := by
 refine Sw (cx := cx_eHas) Tryz.f103 Tryz.func103 ?_
 intro wW wO wβ G0 args os p r outs hσ hp
 have hcx := cx_eHas_ok
 unfold eHas_σ at hσ
 split at hσ
 ·
  rename_i v
  cases hσ
  refine ⟨by kernel_rfl, ?_⟩
  exact Sz hcx [(1000, .frz)] [1] [0] [] (Sz hcx [] [2] [1] [] (Zr (Ru hcx [])))
 ·
  cases hσ
def cx_eWith : Cx := ⟨tyElim, [], false⟩
theorem cx_eWith_ok : CxOk Tryz.prog cx_eWith := cx_ok tyElim_ok trivial
def eWith_σ : CtF
  | [.im (.ls (.intss c)), .im (.val (.int .i64 x))], [] => some (True, .clo 127 [.pto [.ls (.intss c)], .pto [.int x]], [])
  | _, _ => none
theorem eWith_sound : Sound Tryz.prog 104 eWith_σ := by
 refine Sw (cx := cx_eWith) Tryz.f104 Tryz.func104 ?_
 intro wW wO wβ G0 args os p r outs hσ hp
 have hcx := cx_eWith_ok
 unfold eWith_σ at hσ
 split at hσ
 ·
  rename_i c x
  cases hσ
  refine ⟨by kernel_rfl, ?_⟩
  exact Sz hcx [(1000, .frz), (1001, .frz)] [2, 3] [0, 1] [] (Sz hcx [] [4] [2, 3] [] (Zr (Ru hcx [])))
 ·
  cases hσ
def cx_eOwn : Cx := ⟨tyElim, [(71, sClone)], false⟩
theorem cx_eOwn_ok : CxOk Tryz.prog cx_eOwn := cx_ok tyElim_ok ⟨sClone_sound, trivial⟩
def eOwn_σ : CtF
  | [.im (.ls (.intss c))], [] => some (c.length ≤ 1000000 ∧ ∀ l ∈ c, l.length ≤ 1000000, .row 0, [some (.row 23 (.intss c))])
  | _, _ => none
theorem eOwn_sound : Sound Tryz.prog 105 eOwn_σ := by
 refine Sw (cx := cx_eOwn) Tryz.f105 Tryz.func105 ?_
 intro wW wO wβ G0 args os p r outs hσ hp
 have hcx := cx_eOwn_ok
 unfold eOwn_σ at hσ
 split at hσ
 ·
  rename_i c
  cases hσ
  refine ⟨by kernel_rfl, ?_⟩
  obtain ⟨hm1, hm2⟩ := hp
  have hm3 : ∀ k, k < c.length → (c.getD k []).length ≤ 1000000 := fun k hk => hm2 _ (Cn.getD_memL hk)
  refine Sz hcx [] [] [] [] (Sz hcx [] [3] [] [] (Zs (Sz hcx [] [6, 7, 8] [0] [] (Zb (Zw 3 10 23 (.intss []) (Lp (X := Nat) (fun x0 => x0 ≤ c.length) (fun x0 => ([(3, .row 10), (6, .intss c), (7, .int (c.length : Int)), (8, .int (x0 : Int))], [(10, .row 23 (.intss (c.take x0)))])) (fun x0 => c.length - x0) (0) ?_ (Ex 8 (congrArg AV.int (show 0 = (0 : Int) from (by first | rfl | omega | (simp; done)))) Eb) Hb fun k hI => ?_))))))
  ·
   show 0 ≤ c.length
   omega
  ·
   replace hI : k ≤ c.length := hI
   have hm4 := hm3 k
   have htl : (c.take k).length ≤ k := by rw [List.length_take]; omega
   refine Sz hcx [] [9] [] [] (Zs (Zj (p := ((k : Int) < (c.length : Int))) (fun h0 => ?_) fun h0 => ?_))
   ·
    refine Zk (Ft (Zs (Zb (Sq hcx [] [5] [9] [] [((0 : Int) ≤ (k : Int) ∧ (k : Int) < (c.length : Int))] ?_ (Tq hcx [(1004, .to 10)] [3] [5] [10] [((c.getD k []).length ≤ 1000000000000), (((c.take k).length + [(c.getD k [])].length) * 24 ≤ 140737488355328)] ?_ (Fb (Ft (Tq hcx [] [8] [] [] [Fit ((k : Int) + 1)] ?_ (Lr (k + 1) ?_ ?_ (Ex 8 (congrArg AV.int (show ((k : Int) + 1) = ((k + 1) : Int) from (by first | rfl | omega | (simp; done)))) Eb) (Hx 10 (congrArg (fun x => AObj.row 23 (.intss x)) (show ((c.take k) ++ [(c.getD k [])]) = (c.take (k + 1)) from (by exact (Cn.take_sD (by omega)).symm))) Hb))))))))))
    ·
     refine ap ?_ az
     first | omega | exact id | exact vcNot | exact vcG | exact vcH | (intro _; omega) | exact (fun _ h => h) | (intro h; simp at h; omega) | (simp only [List.length_cons, List.length_nil, List.length_append, List.length_map, List.length_set, List.length_replicate]; omega) | (intro h; simp [h]; done) | (have := hm4 (by omega); omega)
    ·
     refine ap ?_ (ap ?_ az) <;>
      first | omega | exact id | exact vcNot | exact vcG | exact vcH | (intro _; omega) | exact (fun _ h => h) | (intro h; simp at h; omega) | (simp only [List.length_cons, List.length_nil, List.length_append, List.length_map, List.length_set, List.length_replicate]; omega) | (intro h; simp [h]; done) | (have := hm4 (by omega); omega)
    ·
     refine ap ?_ az
     first | omega | exact id | exact vcNot | exact vcG | exact vcH | (intro _; omega) | exact (fun _ h => h) | (intro h; simp at h; omega) | (simp only [List.length_cons, List.length_nil, List.length_append, List.length_map, List.length_set, List.length_replicate]; omega) | (intro h; simp [h]; done) | (have := hm4 (by omega); omega)
    ·
     show (k + 1) ≤ c.length
     omega
    ·
     show c.length - (k + 1) < c.length - k
     omega
   ·
    exact Ze (Fe (Fe (Fs (Ft (Sz hcx [] [2] [9, 3, 6, 7, 8] [] (Zr (Fn [(10, .to 0)] [2] (Rv hcx rfl [true] (consO (congrArg some (congrArg (fun x => AObj.row 23 (.intss x)) (show (c.take k) = c from (by rw [show k = c.length from (by omega), List.take_length])))) rfl)))))))))
 ·
  cases hσ
def cx_eOut : Cx := ⟨tyElim, [(66, (coeF [.ld (.ints [])] cNorm_σ)), (32, (coeF [.ld (.ints []), .ld (.ints []), .id] cResolve_σ)), (126, (coeF [.ld (.ints []), .id] eHas1_σ)), (103, eHas_σ), (104, (coeF [.ld (.intss []), .id] eWith_σ)), (105, (coeF [.ld (.intss [])] eOwn_σ))], false⟩
theorem cx_eOut_ok : CxOk Tryz.prog cx_eOut := cx_ok tyElim_ok ⟨(cNorm_sound.coe [.ld (.ints [])] rfl), (cResolve_sound.coe [.ld (.ints []), .ld (.ints []), .id] rfl), (eHas1_sound.coe [.ld (.ints []), .id] rfl), eHas_sound, (eWith_sound.coe [.ld (.intss []), .id] rfl), (eOwn_sound.coe [.ld (.intss [])] rfl), trivial⟩
def eOut_σ : CtF
  | [.agg [.im (.val (.int .i64 N)), .im (.ls (.intss L))], .im (.val (.int .i64 v)), .im (.val (.int .i64 many))], [] => some (L.length ≤ 10000 ∧ (∀ l ∈ L, l.length ≤ 1000) ∧ 1 ≤ v ∧ v ≤ 65536 ∧ 0 ≤ many ∧ many ≤ 65536, .tup [.agg [.int N, .row 0], .agg [.int v, .row 1], .bool (decide (((Cn.outX L v many).length : Int) ≤ many))], [some (.row 23 (.intss (Cn.outX L v many))), some (.row 23 (.intss (Cn.uOf L v)))])
  | _, _ => none
theorem eOut_sound : Sound Tryz.prog 74 eOut_σ := by
 refine Sw (cx := cx_eOut) Tryz.f74 Tryz.func74 ?_
 intro wW wO wβ G0 args os p r outs hσ hp
 have hcx := cx_eOut_ok
 have hmx : Tryz.prog.follows .mixedOrders = true := by kernel_rfl
 unfold eOut_σ at hσ
 split at hσ
 ·
  rename_i N L v many
  cases hσ
  refine ⟨by kernel_rfl, ?_⟩
  obtain ⟨hm1, hm2, hm3, hm4, hm5, hm6⟩ := hp
  have hXX : (Cn.outX L v many).length ≤ 1000000 ∧ ∀ l ∈ (Cn.outX L v many), l.length ≤ 1000000 := ⟨by have := Cn.out_len (v := v) hm1 hm6; omega, fun l hl => by have := Cn.out_lens hm2 l hl; omega⟩
  have hm7 : ∀ k, k < L.length → (L.getD k []).length ≤ 1000 := fun k hk => hm2 _ (Cn.getD_memL hk)
  refine Sz hcx [(1003, .to 606), (1004, .to 607), (1000, .frz), (1001, .frz), (1002, .frz)] [3, 4, 5, 6, 7, 8] [0, 1, 2] [] (Zc (Sd hcx hmx [0, 1, 3, 0, 8, 7, 63] [(606, .to 606), (607, .to 607)] [] [] [] [] az (Sq hcx [] [9] [] [] [(True)] ?_ (Zs (Zs (Zv 606 1 10 23 (.intss []) (Zv 607 1 11 23 (.intss []) (Tz hcx [] [26, 27, 28] [3] [] (Ft (Zb (Zn [(10, .to 10), (11, .to 11), (606, .to 606), (607, .to 607)] [4, 5, 6, 7, 8, 9, 26, 27, 28] (Lp (X := Nat) (fun x0 => x0 ≤ L.length) (fun x0 => ([(4, .pto [.int v]), (5, .pto [.int many]), (6, .loc 606 0), (7, .loc 607 0), (8, .bool false), (9, .clo 126 [.pto [.int v]]), (26, .intss L), (27, .int (L.length : Int)), (28, .int (x0 : Int))], [(10, .row 23 (.intss (Cn.xOf (L.take x0) v))), (11, .row 23 (.intss (Cn.uOf (L.take x0) v))), (606, .box [.int N, .row 10]), (607, .box [.int v, .row 11])])) (fun x0 => L.length - x0) (0) ?_ (Ex 28 (congrArg AV.int (show 0 = (0 : Int) from (by first | rfl | omega | (simp; done)))) Eb) (Hx 10 (congrArg (fun x => AObj.row 23 (.intss x)) (show [] = (Cn.xOf (L.take 0) v) from (by simp [Cn.xOf]))) (Hx 11 (congrArg (fun x => AObj.row 23 (.intss x)) (show [] = (Cn.uOf (L.take 0) v) from (by simp [Cn.uOf]))) Hb)) fun k hI => ?_))))))))))))
  ·
   refine ap ?_ az
   first | (rw [← hOX]; exact hXX) | exact hUU | (first | omega | exact id | exact vcNot | exact vcG | exact vcH | (intro _; omega) | exact (fun _ h => h) | (intro h; simp at h; omega) | (simp only [List.length_cons, List.length_nil, List.length_append, List.length_map, List.length_set, List.length_replicate]; omega) | (intro h; simp [h]; done)) | exact ⟨by have := hpl p hi0; omega, by have := hql q hi1; omega, by omega, by omega⟩ | (have := hm7 k (by omega); exact ⟨by unfold maxLen; omega, by omega, by omega⟩) | (have := hpl p hi0; have := hql q hi1; have := Cn.resL_len ((Cn.withL (Cn.uOf (L.take k) v) v).getD p []) ((Cn.withL (Cn.uOf (L.take k) v) (-v)).getD q []) v; omega) | (constructor <;> omega) | trivial
  ·
   show 0 ≤ L.length
   omega
  ·
   replace hI : k ≤ L.length := hI
   have hxl := Cn.xOf_len (c := L.take k) (v := v)
   have hul := Cn.uOf_len (c := L.take k) (v := v)
   have htl : (L.take k).length ≤ k := by rw [List.length_take]; omega
   refine Sz hcx [] [29] [] [] (Zs (Zj (p := ((k : Int) < (L.length : Int))) (fun h0 => ?_) fun h0 => ?_))
   ·
    refine Zk (Ft (Zs (Zb (Sq hcx [] [11] [29] [] [((0 : Int) ≤ (k : Int) ∧ (k : Int) < (L.length : Int))] ?_ (Sq hcx [] [34] [] [] [((L.getD k []).length ≤ maxLen ∧ -65536 ≤ v ∧ v ≤ 65536)] ?_ (Zi (b := Cn.hasV v (L.getD k [])) (fun h1 => ?_) fun h1 => ?_))))))
    ·
     refine ap ?_ az
     first | (rw [← hOX]; exact hXX) | exact hUU | (first | omega | exact id | exact vcNot | exact vcG | exact vcH | (intro _; omega) | exact (fun _ h => h) | (intro h; simp at h; omega) | (simp only [List.length_cons, List.length_nil, List.length_append, List.length_map, List.length_set, List.length_replicate]; omega) | (intro h; simp [h]; done)) | exact ⟨by have := hpl p hi0; omega, by have := hql q hi1; omega, by omega, by omega⟩ | (have := hm7 k (by omega); exact ⟨by unfold maxLen; omega, by omega, by omega⟩) | (have := hpl p hi0; have := hql q hi1; have := Cn.resL_len ((Cn.withL (Cn.uOf (L.take k) v) v).getD p []) ((Cn.withL (Cn.uOf (L.take k) v) (-v)).getD q []) v; omega) | (constructor <;> omega) | trivial
    ·
     refine ap ?_ az
     first | (rw [← hOX]; exact hXX) | exact hUU | (first | omega | exact id | exact vcNot | exact vcG | exact vcH | (intro _; omega) | exact (fun _ h => h) | (intro h; simp at h; omega) | (simp only [List.length_cons, List.length_nil, List.length_append, List.length_map, List.length_set, List.length_replicate]; omega) | (intro h; simp [h]; done)) | exact ⟨by have := hpl p hi0; omega, by have := hql q hi1; omega, by omega, by omega⟩ | (have := hm7 k (by omega); exact ⟨by unfold maxLen; omega, by omega, by omega⟩) | (have := hpl p hi0; have := hql q hi1; have := Cn.resL_len ((Cn.withL (Cn.uOf (L.take k) v) v).getD p []) ((Cn.withL (Cn.uOf (L.take k) v) (-v)).getD q []) v; omega) | (constructor <;> omega) | trivial
    ·
     have hq := h1
     refine Tq hcx [(1004, .to 11), (607, .to 607)] [] [34, 11] [11] [(((Cn.uOf (L.take k) v).length + [(L.getD k [])].length) * 24 ≤ 140737488355328)] ?_ (Fb (Ft (Tq hcx [] [28] [] [] [Fit ((k : Int) + 1)] ?_ (Fn [(10, .to 10), (11, .to 11), (606, .to 606), (607, .to 607)] [4, 5, 6, 7, 8, 9, 26, 27, 28] (Lr (k + 1) ?_ ?_ (Ex 28 (congrArg AV.int (show ((k : Int) + 1) = ((k + 1) : Int) from (by first | rfl | omega | (simp; done)))) Eb) (Hx 10 (congrArg (fun x => AObj.row 23 (.intss x)) (show (Cn.xOf (L.take k) v) = (Cn.xOf (L.take (k + 1)) v) from (by first | exact (Cn.uOf_next_y (by omega) hq).2 | exact (Cn.uOf_next_n (by omega) hq).1))) (Hx 11 (congrArg (fun x => AObj.row 23 (.intss x)) (show ((Cn.uOf (L.take k) v) ++ [(L.getD k [])]) = (Cn.uOf (L.take (k + 1)) v) from (by first | exact (Cn.uOf_next_y (by omega) hq).1 | exact (Cn.uOf_next_n (by omega) hq).2))) Hb)))))))
     ·
      refine ap ?_ az
      first | (rw [← hOX]; exact hXX) | exact hUU | (first | omega | exact id | exact vcNot | exact vcG | exact vcH | (intro _; omega) | exact (fun _ h => h) | (intro h; simp at h; omega) | (simp only [List.length_cons, List.length_nil, List.length_append, List.length_map, List.length_set, List.length_replicate]; omega) | (intro h; simp [h]; done)) | exact ⟨by have := hpl p hi0; omega, by have := hql q hi1; omega, by omega, by omega⟩ | (have := hm7 k (by omega); exact ⟨by unfold maxLen; omega, by omega, by omega⟩) | (have := hpl p hi0; have := hql q hi1; have := Cn.resL_len ((Cn.withL (Cn.uOf (L.take k) v) v).getD p []) ((Cn.withL (Cn.uOf (L.take k) v) (-v)).getD q []) v; omega) | (constructor <;> omega) | trivial
     ·
      refine ap ?_ az
      first | (rw [← hOX]; exact hXX) | exact hUU | (first | omega | exact id | exact vcNot | exact vcG | exact vcH | (intro _; omega) | exact (fun _ h => h) | (intro h; simp at h; omega) | (simp only [List.length_cons, List.length_nil, List.length_append, List.length_map, List.length_set, List.length_replicate]; omega) | (intro h; simp [h]; done)) | exact ⟨by have := hpl p hi0; omega, by have := hql q hi1; omega, by omega, by omega⟩ | (have := hm7 k (by omega); exact ⟨by unfold maxLen; omega, by omega, by omega⟩) | (have := hpl p hi0; have := hql q hi1; have := Cn.resL_len ((Cn.withL (Cn.uOf (L.take k) v) v).getD p []) ((Cn.withL (Cn.uOf (L.take k) v) (-v)).getD q []) v; omega) | (constructor <;> omega) | trivial
     ·
      show (k + 1) ≤ L.length
      omega
     ·
      show L.length - (k + 1) < L.length - k
      omega
    ·
     have hq := h1
     refine Tq hcx [(1004, .to 10), (606, .to 606)] [] [34, 11] [10] [(((Cn.xOf (L.take k) v).length + [(L.getD k [])].length) * 24 ≤ 140737488355328)] ?_ (Fb (Ft (Tq hcx [] [28] [] [] [Fit ((k : Int) + 1)] ?_ (Fn [(10, .to 10), (11, .to 11), (606, .to 606), (607, .to 607)] [4, 5, 6, 7, 8, 9, 26, 27, 28] (Lr (k + 1) ?_ ?_ (Ex 28 (congrArg AV.int (show ((k : Int) + 1) = ((k + 1) : Int) from (by first | rfl | omega | (simp; done)))) Eb) (Hx 10 (congrArg (fun x => AObj.row 23 (.intss x)) (show ((Cn.xOf (L.take k) v) ++ [(L.getD k [])]) = (Cn.xOf (L.take (k + 1)) v) from (by first | exact (Cn.uOf_next_y (by omega) hq).2 | exact (Cn.uOf_next_n (by omega) hq).1))) (Hx 11 (congrArg (fun x => AObj.row 23 (.intss x)) (show (Cn.uOf (L.take k) v) = (Cn.uOf (L.take (k + 1)) v) from (by first | exact (Cn.uOf_next_y (by omega) hq).1 | exact (Cn.uOf_next_n (by omega) hq).2))) Hb)))))))
     ·
      refine ap ?_ az
      first | (rw [← hOX]; exact hXX) | exact hUU | (first | omega | exact id | exact vcNot | exact vcG | exact vcH | (intro _; omega) | exact (fun _ h => h) | (intro h; simp at h; omega) | (simp only [List.length_cons, List.length_nil, List.length_append, List.length_map, List.length_set, List.length_replicate]; omega) | (intro h; simp [h]; done)) | exact ⟨by have := hpl p hi0; omega, by have := hql q hi1; omega, by omega, by omega⟩ | (have := hm7 k (by omega); exact ⟨by unfold maxLen; omega, by omega, by omega⟩) | (have := hpl p hi0; have := hql q hi1; have := Cn.resL_len ((Cn.withL (Cn.uOf (L.take k) v) v).getD p []) ((Cn.withL (Cn.uOf (L.take k) v) (-v)).getD q []) v; omega) | (constructor <;> omega) | trivial
     ·
      refine ap ?_ az
      first | (rw [← hOX]; exact hXX) | exact hUU | (first | omega | exact id | exact vcNot | exact vcG | exact vcH | (intro _; omega) | exact (fun _ h => h) | (intro h; simp at h; omega) | (simp only [List.length_cons, List.length_nil, List.length_append, List.length_map, List.length_set, List.length_replicate]; omega) | (intro h; simp [h]; done)) | exact ⟨by have := hpl p hi0; omega, by have := hql q hi1; omega, by omega, by omega⟩ | (have := hm7 k (by omega); exact ⟨by unfold maxLen; omega, by omega, by omega⟩) | (have := hpl p hi0; have := hql q hi1; have := Cn.resL_len ((Cn.withL (Cn.uOf (L.take k) v) v).getD p []) ((Cn.withL (Cn.uOf (L.take k) v) (-v)).getD q []) v; omega) | (constructor <;> omega) | trivial
     ·
      show (k + 1) ≤ L.length
      omega
     ·
      show L.length - (k + 1) < L.length - k
      omega
   ·
    have hkL : (L.take k) = L := by rw [show k = L.length from (by omega), List.take_length]
    have hu1 : (Cn.uOf (L.take k) v).length ≤ 10000 := by have := Cn.uOf_len (c := (L.take k)) (v := v); rw [hkL] at *; omega
    have hu2 : ∀ l ∈ (Cn.uOf (L.take k) v), l.length ≤ 1000 := fun l hl => hm2 l (by rw [hkL] at hl; exact (List.mem_filter.1 hl).1)
    have hit : (Cn.uOf (L.take k) v).length ≤ maxLen ∧ (∀ l ∈ (Cn.uOf (L.take k) v), l.length ≤ maxLen) := ⟨by unfold maxLen; omega, fun l hl => by have := hu2 l hl; unfold maxLen; omega⟩
    have hUU : (Cn.uOf (L.take k) v).length ≤ 1000000 ∧ ∀ l ∈ (Cn.uOf (L.take k) v), l.length ≤ 1000000 := ⟨by omega, fun l hl => by have := hu2 l hl; omega⟩
    have hpl : ∀ p, p < (Cn.withL (Cn.uOf (L.take k) v) v).length → ((Cn.withL (Cn.uOf (L.take k) v) v).getD p []).length ≤ 1000 := fun p hp => hu2 _ (List.mem_filter.1 (Cn.getD_memL hp)).1
    have hql : ∀ q, q < (Cn.withL (Cn.uOf (L.take k) v) (-v)).length → ((Cn.withL (Cn.uOf (L.take k) v) (-v)).getD q []).length ≤ 1000 := fun q hq => hu2 _ (List.mem_filter.1 (Cn.getD_memL hq)).1
    refine Ze (Fe (Fe (Fs (Ft (Zs (Zl (Ft (Zs (Zs (Zn [(10, .to 10), (606, .to 606), (607, .to 607), (11, .frz)] [29, 4, 5, 6, 7, 8, 9, 26, 27, 28] (Tq hcx [] [51] [29, 9, 26, 27, 28] [] [(True)] ?_ (Ft (Zb ?_)))))))))))))
    ·
     refine ap ?_ az
     first | (rw [← hOX]; exact hXX) | exact hUU | (first | omega | exact id | exact vcNot | exact vcG | exact vcH | (intro _; omega) | exact (fun _ h => h) | (intro h; simp at h; omega) | (simp only [List.length_cons, List.length_nil, List.length_append, List.length_map, List.length_set, List.length_replicate]; omega) | (intro h; simp [h]; done)) | exact ⟨by have := hpl p hi0; omega, by have := hql q hi1; omega, by omega, by omega⟩ | (have := hm7 k (by omega); exact ⟨by unfold maxLen; omega, by omega, by omega⟩) | (have := hpl p hi0; have := hql q hi1; have := Cn.resL_len ((Cn.withL (Cn.uOf (L.take k) v) v).getD p []) ((Cn.withL (Cn.uOf (L.take k) v) (-v)).getD q []) v; omega) | (constructor <;> omega) | trivial
    refine tri_ren (ρ := [(606, .to 0), (607, .to 1), (10, .to 10)]) (keys := [51, 4, 5, 6, 7, 8]) (E' := [(51, .clo 127 [.pto [.ls (.intss (Cn.uOf (L.take k) v))], .pto [.int v]]), (4, .pto [.int v]), (5, .pto [.int many]), (6, .loc 0 0), (7, .loc 1 0), (8, .bool false)]) (H' := [(0, .box [.int N, .row 10]), (1, .box [.int v, .intss (Cn.uOf (L.take k) v)]), (10, .row 23 (.intss (Cn.xOf (L.take k) v)))]) (by kernel_rfl) ?_
    refine tri_range (X := Unit) rfl with_seq (caps := [.pto [.ls (.intss (Cn.uOf (L.take k) v))], .pto [.int v]]) (by kernel_rfl) (N := (Cn.withL (Cn.uOf (L.take k) v) v).length) (el := fun p => [.ints ((Cn.withL (Cn.uOf (L.take k) v) v).getD p [])]) rfl (by kernel_rfl) ?_ 2 970 989 (by kernel_rfl) (fun p x0 => Cn.okX (L.take k) v many p 0) (fun p x0 => [(0, .box [.int N, .row 10]), (1, .box [.int v, .intss (Cn.uOf (L.take k) v)]), (10, .row 23 (.intss (Cn.stX (L.take k) v p 0)))]) (fun p x0 => [(51, .clo 127 [.pto [.ls (.intss (Cn.uOf (L.take k) v))], .pto [.int v]]), (4, .pto [.int v]), (5, .pto [.int many]), (6, .loc 0 0), (7, .loc 1 0), (8, .bool false), (12, .loc 612 0)]) (fun p x0 => [(0, .box [.int N, .row 10]), (1, .box [.int v, .intss (Cn.uOf (L.take k) v)]), (10, .row 23 (.intss (Cn.stX (L.take k) v p 0))), (612, .box [.ints ((Cn.withL (Cn.uOf (L.take k) v) v).getD p [])])]) (()) ?_ ?_ (fun _ _ => rfl) (fun _ _ _ => by kernel_rfl) (fun _ _ => by kernel_rfl) ?_ ?_ ?_
    ·
     exact ⟨hit.1, hit.2, by omega, by omega⟩
    ·
     show Cn.okX (L.take k) v many 0 0
     exact Cn.ok_zero
    ·
     exact Hx 10 (congrArg (fun x => AObj.row 23 (.intss x)) (show (Cn.xOf (L.take k) v) = (Cn.stX (L.take k) v 0 0) from (by exact Cn.st_zero))) Hb
    ·
     intro Wr Or βr Gr l0 r0 p un hi0 hI0
     replace hI0 : Cn.okX (L.take k) v many p 0 := hI0
     change Tri _ [(52, .ints ((Cn.withL (Cn.uOf (L.take k) v) v).getD p [])), (51, .clo 127 [.pto [.ls (.intss (Cn.uOf (L.take k) v))], .pto [.int v]]), (4, .pto [.int v]), (5, .pto [.int many]), (6, .loc 0 0), (7, .loc 1 0), (8, .bool false)] [(970, .other l0 (.loop r0)), (0, .box [.int N, .row 10]), (1, .box [.int v, .intss (Cn.uOf (L.take k) v)]), (10, .row 23 (.intss (Cn.stX (L.take k) v p 0)))] _ _
     refine Zt (Tz hcx [(1000, .to 612)] [12] [52] [] (Fn [(970, .to 970), (0, .to 0), (1, .to 1), (10, .to 10), (612, .to 612)] [4, 5, 6, 7, 8, 12, 51] ?_))
     refine fin_assign ?_ ?_
     ·
      exact Eb
     ·
      exact Hb
    ·
     intro Wr Or βr Gr l0 r0 p un hi0 hI0
     replace hI0 : Cn.okX (L.take k) v many p 0 := hI0
     change Tri _ [(51, .clo 127 [.pto [.ls (.intss (Cn.uOf (L.take k) v))], .pto [.int v]]), (4, .pto [.int v]), (5, .pto [.int many]), (6, .loc 0 0), (7, .loc 1 0), (8, .bool false), (12, .loc 612 0)] [(970, .other l0 (.loop r0)), (0, .box [.int N, .row 10]), (1, .box [.int v, .intss (Cn.uOf (L.take k) v)]), (10, .row 23 (.intss (Cn.stX (L.take k) v p 0))), (612, .box [.ints ((Cn.withL (Cn.uOf (L.take k) v) v).getD p [])])] _ _
     refine Zt (Zb (Sq hcx [] [57] [51] [] [Fit (-v), (True)] ?_ (Zb ?_)))
     ·
      refine ap ?_ (ap ?_ az) <;>
       first | (rw [← hOX]; exact hXX) | exact hUU | (first | omega | exact id | exact vcNot | exact vcG | exact vcH | (intro _; omega) | exact (fun _ h => h) | (intro h; simp at h; omega) | (simp only [List.length_cons, List.length_nil, List.length_append, List.length_map, List.length_set, List.length_replicate]; omega) | (intro h; simp [h]; done)) | exact ⟨by have := hpl p hi0; omega, by have := hql q hi1; omega, by omega, by omega⟩ | (have := hm7 k (by omega); exact ⟨by unfold maxLen; omega, by omega, by omega⟩) | (have := hpl p hi0; have := hql q hi1; have := Cn.resL_len ((Cn.withL (Cn.uOf (L.take k) v) v).getD p []) ((Cn.withL (Cn.uOf (L.take k) v) (-v)).getD q []) v; omega) | (constructor <;> omega) | trivial
     refine tri_ren (ρ := [(0, .to 0), (1, .to 1), (612, .to 2), (10, .to 10), (970, .to 970)]) (keys := [57, 4, 5, 6, 7, 8, 12]) (E' := [(57, .clo 127 [.pto [.ls (.intss (Cn.uOf (L.take k) v))], .pto [.int (-v)]]), (4, .pto [.int v]), (5, .pto [.int many]), (6, .loc 0 0), (7, .loc 1 0), (8, .bool false), (12, .loc 2 0)]) (H' := [(0, .box [.int N, .row 10]), (1, .box [.int v, .intss (Cn.uOf (L.take k) v)]), (2, .box [.ints ((Cn.withL (Cn.uOf (L.take k) v) v).getD p [])]), (10, .row 23 (.intss (Cn.stX (L.take k) v p 0))), (970, .other l0 (.loop r0))]) (by kernel_rfl) ?_
     refine tri_rangeN (X := Unit) 970 l0 r0 rfl rfl with_seq (caps := [.pto [.ls (.intss (Cn.uOf (L.take k) v))], .pto [.int (-v)]]) (by kernel_rfl) (N := (Cn.withL (Cn.uOf (L.take k) v) (-v)).length) (el := fun q => [.ints ((Cn.withL (Cn.uOf (L.take k) v) (-v)).getD q [])]) rfl (by kernel_rfl) ?_ 3 971 (by kernel_rfl) (fun q x0 => Cn.okX (L.take k) v many p q) (fun q x0 => [(0, .box [.int N, .row 10]), (1, .box [.int v, .intss (Cn.uOf (L.take k) v)]), (2, .box [.ints ((Cn.withL (Cn.uOf (L.take k) v) v).getD p [])]), (10, .row 23 (.intss (Cn.stX (L.take k) v p q))), (970, .other l0 (.loop r0))]) (fun q x0 => [(57, .clo 127 [.pto [.ls (.intss (Cn.uOf (L.take k) v))], .pto [.int (-v)]]), (4, .pto [.int v]), (5, .pto [.int many]), (6, .loc 0 0), (7, .loc 1 0), (8, .bool false), (12, .loc 2 0), (13, .ints ((Cn.withL (Cn.uOf (L.take k) v) (-v)).getD q []))]) (fun q x0 => [(0, .box [.int N, .row 10]), (1, .box [.int v, .intss (Cn.uOf (L.take k) v)]), (2, .box [.ints ((Cn.withL (Cn.uOf (L.take k) v) v).getD p [])]), (10, .row 23 (.intss (Cn.stX (L.take k) v p q))), (970, .other l0 (.loop r0))]) (()) ?_ ?_ (fun _ _ => rfl) (fun _ _ _ => by kernel_rfl) ?_ ?_ ?_
     ·
      exact ⟨hit.1, hit.2, by omega, by omega⟩
     ·
      show Cn.okX (L.take k) v many p 0
      exact hI0
     ·
      exact Hb
     ·
      intro Wr Or βr Gr l1 r1 q un2 hi1 hI1
      replace hI1 : Cn.okX (L.take k) v many p q := hI1
      have hsl := Cn.ok_len (by rw [hkL]; exact hm1) hm6 hI1
      change Tri _ [(58, .ints ((Cn.withL (Cn.uOf (L.take k) v) (-v)).getD q [])), (57, .clo 127 [.pto [.ls (.intss (Cn.uOf (L.take k) v))], .pto [.int (-v)]]), (4, .pto [.int v]), (5, .pto [.int many]), (6, .loc 0 0), (7, .loc 1 0), (8, .bool false), (12, .loc 2 0)] [(971, .other l1 (.loop r1)), (0, .box [.int N, .row 10]), (1, .box [.int v, .intss (Cn.uOf (L.take k) v)]), (2, .box [.ints ((Cn.withL (Cn.uOf (L.take k) v) v).getD p [])]), (10, .row 23 (.intss (Cn.stX (L.take k) v p q))), (970, .other l0 (.loop r0))] _ _
      refine Zt (Tz hcx [] [13] [58] [] ?_)
      refine fin_assign ?_ ?_
      ·
       exact Eb
      ·
       exact Hb
     ·
      intro Wr Or βr Gr l1 r1 q un2 hi1 hI1
      replace hI1 : Cn.okX (L.take k) v many p q := hI1
      have hsl := Cn.ok_len (by rw [hkL]; exact hm1) hm6 hI1
      change Tri _ [(57, .clo 127 [.pto [.ls (.intss (Cn.uOf (L.take k) v))], .pto [.int (-v)]]), (4, .pto [.int v]), (5, .pto [.int many]), (6, .loc 0 0), (7, .loc 1 0), (8, .bool false), (12, .loc 2 0), (13, .ints ((Cn.withL (Cn.uOf (L.take k) v) (-v)).getD q []))] [(971, .other l1 (.loop r1)), (0, .box [.int N, .row 10]), (1, .box [.int v, .intss (Cn.uOf (L.take k) v)]), (2, .box [.ints ((Cn.withL (Cn.uOf (L.take k) v) v).getD p [])]), (10, .row 23 (.intss (Cn.stX (L.take k) v p q))), (970, .other l0 (.loop r0))] _ _
      refine Zt (Zb (Sq hcx [(1003, .to 263)] [14] [57, 4, 8, 12, 13] [] [(((Cn.withL (Cn.uOf (L.take k) v) v).getD p []).length ≤ 100000 ∧ ((Cn.withL (Cn.uOf (L.take k) v) (-v)).getD q []).length ≤ 100000 ∧ Fit v)] ?_ (Zs (Sq hcx [] [17] [] [] [((Cn.resL ((Cn.withL (Cn.uOf (L.take k) v) v).getD p []) ((Cn.withL (Cn.uOf (L.take k) v) (-v)).getD q []) v).length ≤ 1000000)] ?_ (Sz hcx [] [71] [17] [] (Zi (b := Cn.tautL (Cn.resL ((Cn.withL (Cn.uOf (L.take k) v) v).getD p []) ((Cn.withL (Cn.uOf (L.take k) v) (-v)).getD q []) v)) (fun h2 => ?_) fun h2 => ?_))))))
      ·
       refine ap ?_ az
       first | (rw [← hOX]; exact hXX) | exact hUU | (first | omega | exact id | exact vcNot | exact vcG | exact vcH | (intro _; omega) | exact (fun _ h => h) | (intro h; simp at h; omega) | (simp only [List.length_cons, List.length_nil, List.length_append, List.length_map, List.length_set, List.length_replicate]; omega) | (intro h; simp [h]; done)) | exact ⟨by have := hpl p hi0; omega, by have := hql q hi1; omega, by omega, by omega⟩ | (have := hm7 k (by omega); exact ⟨by unfold maxLen; omega, by omega, by omega⟩) | (have := hpl p hi0; have := hql q hi1; have := Cn.resL_len ((Cn.withL (Cn.uOf (L.take k) v) v).getD p []) ((Cn.withL (Cn.uOf (L.take k) v) (-v)).getD q []) v; omega) | (constructor <;> omega) | trivial
      ·
       refine ap ?_ az
       first | (rw [← hOX]; exact hXX) | exact hUU | (first | omega | exact id | exact vcNot | exact vcG | exact vcH | (intro _; omega) | exact (fun _ h => h) | (intro h; simp at h; omega) | (simp only [List.length_cons, List.length_nil, List.length_append, List.length_map, List.length_set, List.length_replicate]; omega) | (intro h; simp [h]; done)) | exact ⟨by have := hpl p hi0; omega, by have := hql q hi1; omega, by omega, by omega⟩ | (have := hm7 k (by omega); exact ⟨by unfold maxLen; omega, by omega, by omega⟩) | (have := hpl p hi0; have := hql q hi1; have := Cn.resL_len ((Cn.withL (Cn.uOf (L.take k) v) v).getD p []) ((Cn.withL (Cn.uOf (L.take k) v) (-v)).getD q []) v; omega) | (constructor <;> omega) | trivial
      ·
       have ht := h2
       refine Ze (Fe (Fs (Fn [(971, .to 971), (0, .to 0), (1, .to 1), (2, .to 2), (10, .to 10), (970, .to 970)] [] ?_)))
       refine fin_rnext (()) ?_ ?_
       ·
        show Cn.okX (L.take k) v many p (q + 1)
        first | exact Cn.ok_skip hi1 ht hI1 | exact Cn.ok_add hi1 ht (by first | exact Int.not_lt.1 hle | exact hle | omega)
       ·
        exact Hx 10 (congrArg (fun x => AObj.row 23 (.intss x)) (show (Cn.stX (L.take k) v p q) = (Cn.stX (L.take k) v p (q + 1)) from (by first | exact Cn.st_skip hi1 ht | exact Cn.st_add hi1 ht))) Hb
      ·
       have ht := h2
       refine Zk (Ft (Sq hcx [(0, .to 0), (1004, .to 10)] [] [71, 14] [263, 10] [(((Cn.stX (L.take k) v p q).length + [(Cn.resL ((Cn.withL (Cn.uOf (L.take k) v) v).getD p []) ((Cn.withL (Cn.uOf (L.take k) v) (-v)).getD q []) v)].length) * 24 ≤ 140737488355328)] ?_ (Sz hcx [] [82] [] [] (Zj (p := ((((Cn.stX (L.take k) v p q) ++ [(Cn.resL ((Cn.withL (Cn.uOf (L.take k) v) v).getD p []) ((Cn.withL (Cn.uOf (L.take k) v) (-v)).getD q []) v)]).length : Int) > many)) (fun h3 => ?_) fun h3 => ?_))))
       ·
        refine ap ?_ az
        first | (rw [← hOX]; exact hXX) | exact hUU | (first | omega | exact id | exact vcNot | exact vcG | exact vcH | (intro _; omega) | exact (fun _ h => h) | (intro h; simp at h; omega) | (simp only [List.length_cons, List.length_nil, List.length_append, List.length_map, List.length_set, List.length_replicate]; omega) | (intro h; simp [h]; done)) | exact ⟨by have := hpl p hi0; omega, by have := hql q hi1; omega, by omega, by omega⟩ | (have := hm7 k (by omega); exact ⟨by unfold maxLen; omega, by omega, by omega⟩) | (have := hpl p hi0; have := hql q hi1; have := Cn.resL_len ((Cn.withL (Cn.uOf (L.take k) v) v).getD p []) ((Cn.withL (Cn.uOf (L.take k) v) (-v)).getD q []) v; omega) | (constructor <;> omega) | trivial
       ·
        have hOX : (Cn.outX L v many) = (Cn.stX (L.take k) v p q) ++ [(Cn.resL ((Cn.withL (Cn.uOf (L.take k) v) v).getD p []) ((Cn.withL (Cn.uOf (L.take k) v) (-v)).getD q []) v)] := by have := Cn.st_brk hi0 hi1 ht hI1 h3; rw [hkL] at this ⊢; exact this
        refine Ze (Fo ?_)
        refine fin_ren (ρ := [(971, .to 971), (0, .to 0), (1, .to 1), (2, .to 2), (10, .to 10), (970, .to 970)]) (keys := []) (E' := []) (H' := [(971, .other l1 (.loop r1)), (0, .box [.int N, .row 10]), (1, .box [.int v, .intss (Cn.uOf (L.take k) v)]), (2, .box [.ints ((Cn.withL (Cn.uOf (L.take k) v) v).getD p [])]), (10, .row 23 (.intss ((Cn.stX (L.take k) v p q) ++ [(Cn.resL ((Cn.withL (Cn.uOf (L.take k) v) v).getD p []) ((Cn.withL (Cn.uOf (L.take k) v) (-v)).getD q []) v)]))), (970, .other l0 (.loop r0))]) (by kernel_rfl) ?_
        refine fin_rexit [(0, .box [.int N, .row 10]), (1, .box [.int v, .intss (Cn.uOf (L.take k) v)]), (2, .box [.ints ((Cn.withL (Cn.uOf (L.take k) v) v).getD p [])]), (10, .row 23 (.intss ((Cn.stX (L.take k) v p q) ++ [(Cn.resL ((Cn.withL (Cn.uOf (L.take k) v) v).getD p []) ((Cn.withL (Cn.uOf (L.take k) v) (-v)).getD q []) v)]))), (970, .other l0 (.loop r0))] rfl (by kernel_rfl) ?_
        change Fin _ [(57, .clo 127 [.pto [.ls (.intss (Cn.uOf (L.take k) v))], .pto [.int (-v)]]), (4, .pto [.int v]), (5, .pto [.int many]), (6, .loc 0 0), (7, .loc 1 0), (8, .bool false), (12, .loc 2 0)] [(0, .box [.int N, .row 10]), (1, .box [.int v, .intss (Cn.uOf (L.take k) v)]), (2, .box [.ints ((Cn.withL (Cn.uOf (L.take k) v) v).getD p [])]), (10, .row 23 (.intss ((Cn.stX (L.take k) v p q) ++ [(Cn.resL ((Cn.withL (Cn.uOf (L.take k) v) v).getD p []) ((Cn.withL (Cn.uOf (L.take k) v) (-v)).getD q []) v)]))), (970, .other l0 (.loop r0))] _ _
        refine Zf (Fo (Fo ?_))
        refine fin_ren (ρ := [(970, .to 970), (0, .to 0), (1, .to 1), (10, .to 10)]) (keys := []) (E' := []) (H' := [(970, .other l0 (.loop r0)), (0, .box [.int N, .row 10]), (1, .box [.int v, .intss (Cn.uOf (L.take k) v)]), (10, .row 23 (.intss ((Cn.stX (L.take k) v p q) ++ [(Cn.resL ((Cn.withL (Cn.uOf (L.take k) v) v).getD p []) ((Cn.withL (Cn.uOf (L.take k) v) (-v)).getD q []) v)])))]) (by kernel_rfl) ?_
        refine fin_rexit [(0, .box [.int N, .row 10]), (1, .box [.int v, .intss (Cn.uOf (L.take k) v)]), (10, .row 23 (.intss ((Cn.stX (L.take k) v p q) ++ [(Cn.resL ((Cn.withL (Cn.uOf (L.take k) v) v).getD p []) ((Cn.withL (Cn.uOf (L.take k) v) (-v)).getD q []) v)])))] rfl (by kernel_rfl) ⟨by kernel_rfl, fun D0 => ?_⟩
        change Fin _ [(51, .clo 127 [.pto [.ls (.intss (Cn.uOf (L.take k) v))], .pto [.int v]]), (4, .pto [.int v]), (5, .pto [.int many]), (6, .loc 0 0), (7, .loc 1 0), (8, .bool false)] [(989, .other D0 dfr), (0, .box [.int N, .row 10]), (1, .box [.int v, .intss (Cn.uOf (L.take k) v)]), (10, .row 23 (.intss ((Cn.stX (L.take k) v p q) ++ [(Cn.resL ((Cn.withL (Cn.uOf (L.take k) v) v).getD p []) ((Cn.withL (Cn.uOf (L.take k) v) (-v)).getD q []) v)])))] _ _
        refine Zf (Fs (Ft (Zs (Zn [(0, .to 0), (1, .to 1), (989, .to 989), (10, .frz)] [51, 4, 5, 6, 7, 8] (Td hcx hmx [0, 1, 3, 0, 8, 31, 7, 127, 255, 511] [(0, .to 0), (1, .to 1), (1002, .to 285), (1005, .to 288)] [] [51, 4, 8] [] [(((Cn.stX (L.take k) v p q) ++ [(Cn.resL ((Cn.withL (Cn.uOf (L.take k) v) v).getD p []) ((Cn.withL (Cn.uOf (L.take k) v) (-v)).getD q []) v)]).length ≤ 1000000 ∧ ∀ l ∈ ((Cn.stX (L.take k) v p q) ++ [(Cn.resL ((Cn.withL (Cn.uOf (L.take k) v) v).getD p []) ((Cn.withL (Cn.uOf (L.take k) v) (-v)).getD q []) v)]), l.length ≤ 1000000), ((Cn.uOf (L.take k) v).length ≤ 1000000 ∧ ∀ l ∈ (Cn.uOf (L.take k) v), l.length ≤ 1000000)] ?_ (Ft (Sd hcx hmx [0, 0, 0, 4, 12, 0, 60, 13, 143, 511] [(0, .to 0), (1, .to 1)] [8] [5] [] [] az (Zr (Fx (Fn [(285, .to 0), (288, .to 1), (989, .to 989), (0, .to 990), (1, .to 991)] [6, 7, 8] (Fq [(6, .loc 990 0), (7, .loc 991 0), (8, .bool (decide ((((Cn.stX (L.take k) v p q) ++ [(Cn.resL ((Cn.withL (Cn.uOf (L.take k) v) v).getD p []) ((Cn.withL (Cn.uOf (L.take k) v) (-v)).getD q []) v)]).length : Int) ≤ many)))] [(0, .row 23 (.intss ((Cn.stX (L.take k) v p q) ++ [(Cn.resL ((Cn.withL (Cn.uOf (L.take k) v) v).getD p []) ((Cn.withL (Cn.uOf (L.take k) v) (-v)).getD q []) v)]))), (1, .row 23 (.intss (Cn.uOf (L.take k) v))), (989, .other D0 dfr), (990, .box [.int N, .row 0]), (991, .box [.int v, .row 1])] (fin_retM _ rfl [(989, D0)] rfl rfl ⟨rfl, trivial⟩ hcx (avs := [.agg [.int N, .row 0], .agg [.int v, .row 1], .bool (decide ((((Cn.stX (L.take k) v p q) ++ [(Cn.resL ((Cn.withL (Cn.uOf (L.take k) v) v).getD p []) ((Cn.withL (Cn.uOf (L.take k) v) (-v)).getD q []) v)]).length : Int) ≤ many))]) (by kernel_rfl) (congrArg AV.tup (consE rfl (consE rfl (consE (congrArg AV.bool (show (decide ((((Cn.stX (L.take k) v p q) ++ [(Cn.resL ((Cn.withL (Cn.uOf (L.take k) v) v).getD p []) ((Cn.withL (Cn.uOf (L.take k) v) (-v)).getD q []) v)]).length : Int) ≤ many)) = (decide (((Cn.outX L v many).length : Int) ≤ many)) from (by rw [hOX]))) rfl)))) [true, true] (Eq.trans (show _ = [some (.row 23 (.intss ((Cn.stX (L.take k) v p q) ++ [(Cn.resL ((Cn.withL (Cn.uOf (L.take k) v) v).getD p []) ((Cn.withL (Cn.uOf (L.take k) v) (-v)).getD q []) v)]))), some (.row 23 (.intss (Cn.uOf (L.take k) v)))] from by kernel_rfl) (consO (congrArg some (congrArg (fun x => AObj.row 23 (.intss x)) (show ((Cn.stX (L.take k) v p q) ++ [(Cn.resL ((Cn.withL (Cn.uOf (L.take k) v) v).getD p []) ((Cn.withL (Cn.uOf (L.take k) v) (-v)).getD q []) v)]) = (Cn.outX L v many) from (by exact hOX.symm)))) (consO (congrArg some (congrArg (fun x => AObj.row 23 (.intss x)) (show (Cn.uOf (L.take k) v) = (Cn.uOf L v) from (by rw [hkL])))) rfl)))))))))))))))
        ·
         refine ap ?_ (ap ?_ az) <;>
          first | (rw [← hOX]; exact hXX) | exact hUU | (first | omega | exact id | exact vcNot | exact vcG | exact vcH | (intro _; omega) | exact (fun _ h => h) | (intro h; simp at h; omega) | (simp only [List.length_cons, List.length_nil, List.length_append, List.length_map, List.length_set, List.length_replicate]; omega) | (intro h; simp [h]; done)) | exact ⟨by have := hpl p hi0; omega, by have := hql q hi1; omega, by omega, by omega⟩ | (have := hm7 k (by omega); exact ⟨by unfold maxLen; omega, by omega, by omega⟩) | (have := hpl p hi0; have := hql q hi1; have := Cn.resL_len ((Cn.withL (Cn.uOf (L.take k) v) v).getD p []) ((Cn.withL (Cn.uOf (L.take k) v) (-v)).getD q []) v; omega) | (constructor <;> omega) | trivial
       ·
        have hle := h3
        refine Zk (Fb (Fn [(971, .to 971), (0, .to 0), (1, .to 1), (2, .to 2), (10, .to 10), (970, .to 970)] [] ?_))
        refine fin_rnext (()) ?_ ?_
        ·
         show Cn.okX (L.take k) v many p (q + 1)
         first | exact Cn.ok_skip hi1 ht hI1 | exact Cn.ok_add hi1 ht (by first | exact Int.not_lt.1 hle | exact hle | omega)
        ·
         exact Hx 10 (congrArg (fun x => AObj.row 23 (.intss x)) (show ((Cn.stX (L.take k) v p q) ++ [(Cn.resL ((Cn.withL (Cn.uOf (L.take k) v) v).getD p []) ((Cn.withL (Cn.uOf (L.take k) v) (-v)).getD q []) v)]) = (Cn.stX (L.take k) v p (q + 1)) from (by first | exact Cn.st_skip hi1 ht | exact Cn.st_add hi1 ht))) Hb
     ·
      intro un2 hI1
      replace hI1 : Cn.okX (L.take k) v many p ((Cn.withL (Cn.uOf (L.take k) v) (-v)).length) := hI1
      change Fin _ [(57, .clo 127 [.pto [.ls (.intss (Cn.uOf (L.take k) v))], .pto [.int (-v)]]), (4, .pto [.int v]), (5, .pto [.int many]), (6, .loc 0 0), (7, .loc 1 0), (8, .bool false), (12, .loc 2 0)] [(0, .box [.int N, .row 10]), (1, .box [.int v, .intss (Cn.uOf (L.take k) v)]), (2, .box [.ints ((Cn.withL (Cn.uOf (L.take k) v) v).getD p [])]), (10, .row 23 (.intss (Cn.stX (L.take k) v p ((Cn.withL (Cn.uOf (L.take k) v) (-v)).length)))), (970, .other l0 (.loop r0))] _ _
      refine Zf (Fb (Fb (Fn [(970, .to 970), (0, .to 0), (1, .to 1), (10, .to 10)] [] ?_)))
      refine fin_rnext (()) ?_ ?_
      ·
       show Cn.okX (L.take k) v many (p + 1) 0
       exact Cn.ok_next hi0 hI1
      ·
       exact Hx 10 (congrArg (fun x => AObj.row 23 (.intss x)) (show (Cn.stX (L.take k) v p ((Cn.withL (Cn.uOf (L.take k) v) (-v)).length)) = (Cn.stX (L.take k) v (p + 1) 0) from (by exact Cn.st_next hi0))) Hb
    ·
     intro D0 un hI0
     replace hI0 : Cn.okX (L.take k) v many ((Cn.withL (Cn.uOf (L.take k) v) v).length) 0 := hI0
     have hOX : (Cn.outX L v many) = (Cn.stX (L.take k) v (Cn.withL (Cn.uOf (L.take k) v) v).length 0) := by have := Cn.st_end hI0; rw [hkL] at this ⊢; exact this
     change Fin _ [(51, .clo 127 [.pto [.ls (.intss (Cn.uOf (L.take k) v))], .pto [.int v]]), (4, .pto [.int v]), (5, .pto [.int many]), (6, .loc 0 0), (7, .loc 1 0), (8, .bool false)] [(989, .other D0 dfr), (0, .box [.int N, .row 10]), (1, .box [.int v, .intss (Cn.uOf (L.take k) v)]), (10, .row 23 (.intss (Cn.stX (L.take k) v ((Cn.withL (Cn.uOf (L.take k) v) v).length) 0)))] _ _
     refine Zf (Fb (Ft (Zs (Zn [(0, .to 0), (1, .to 1), (989, .to 989), (10, .frz)] [51, 4, 5, 6, 7, 8] (Td hcx hmx [0, 1, 3, 0, 8, 31, 7, 127, 255, 511] [(0, .to 0), (1, .to 1), (1002, .to 285), (1005, .to 288)] [] [51, 4, 8] [] [((Cn.stX (L.take k) v ((Cn.withL (Cn.uOf (L.take k) v) v).length) 0).length ≤ 1000000 ∧ ∀ l ∈ (Cn.stX (L.take k) v ((Cn.withL (Cn.uOf (L.take k) v) v).length) 0), l.length ≤ 1000000), ((Cn.uOf (L.take k) v).length ≤ 1000000 ∧ ∀ l ∈ (Cn.uOf (L.take k) v), l.length ≤ 1000000)] ?_ (Ft (Sd hcx hmx [0, 0, 0, 4, 12, 0, 60, 13, 143, 511] [(0, .to 0), (1, .to 1)] [8] [5] [] [] az (Zr (Fx (Fn [(285, .to 0), (288, .to 1), (989, .to 989), (0, .to 990), (1, .to 991)] [6, 7, 8] (Fq [(6, .loc 990 0), (7, .loc 991 0), (8, .bool (decide (((Cn.stX (L.take k) v ((Cn.withL (Cn.uOf (L.take k) v) v).length) 0).length : Int) ≤ many)))] [(0, .row 23 (.intss (Cn.stX (L.take k) v ((Cn.withL (Cn.uOf (L.take k) v) v).length) 0))), (1, .row 23 (.intss (Cn.uOf (L.take k) v))), (989, .other D0 dfr), (990, .box [.int N, .row 0]), (991, .box [.int v, .row 1])] (fin_retM _ rfl [(989, D0)] rfl rfl ⟨rfl, trivial⟩ hcx (avs := [.agg [.int N, .row 0], .agg [.int v, .row 1], .bool (decide (((Cn.stX (L.take k) v ((Cn.withL (Cn.uOf (L.take k) v) v).length) 0).length : Int) ≤ many))]) (by kernel_rfl) (congrArg AV.tup (consE rfl (consE rfl (consE (congrArg AV.bool (show (decide (((Cn.stX (L.take k) v ((Cn.withL (Cn.uOf (L.take k) v) v).length) 0).length : Int) ≤ many)) = (decide (((Cn.outX L v many).length : Int) ≤ many)) from (by rw [hOX]))) rfl)))) [true, true] (Eq.trans (show _ = [some (.row 23 (.intss (Cn.stX (L.take k) v ((Cn.withL (Cn.uOf (L.take k) v) v).length) 0))), some (.row 23 (.intss (Cn.uOf (L.take k) v)))] from by kernel_rfl) (consO (congrArg some (congrArg (fun x => AObj.row 23 (.intss x)) (show (Cn.stX (L.take k) v ((Cn.withL (Cn.uOf (L.take k) v) v).length) 0) = (Cn.outX L v many) from (by exact hOX.symm)))) (consO (congrArg some (congrArg (fun x => AObj.row 23 (.intss x)) (show (Cn.uOf (L.take k) v) = (Cn.uOf L v) from (by rw [hkL])))) rfl)))))))))))))))
     ·
      refine ap ?_ (ap ?_ az) <;>
       first | (rw [← hOX]; exact hXX) | exact hUU | (first | omega | exact id | exact vcNot | exact vcG | exact vcH | (intro _; omega) | exact (fun _ h => h) | (intro h; simp at h; omega) | (simp only [List.length_cons, List.length_nil, List.length_append, List.length_map, List.length_set, List.length_replicate]; omega) | (intro h; simp [h]; done)) | exact ⟨by have := hpl p hi0; omega, by have := hql q hi1; omega, by omega, by omega⟩ | (have := hm7 k (by omega); exact ⟨by unfold maxLen; omega, by omega, by omega⟩) | (have := hpl p hi0; have := hql q hi1; have := Cn.resL_len ((Cn.withL (Cn.uOf (L.take k) v) v).getD p []) ((Cn.withL (Cn.uOf (L.take k) v) (-v)).getD q []) v; omega) | (constructor <;> omega) | trivial
 ·
  cases hσ
def cx_eOutF : Cx := ⟨tyElim, [(27, (coeF [.agg [.id, .ld (.intss [])]] cCheck_σ)), (74, (coeF [.agg [.id, .ld (.intss [])], .id, .id] eOut_σ))], false⟩
theorem cx_eOutF_ok : CxOk Tryz.prog cx_eOutF := cx_ok tyElim_ok ⟨(cCheck_sound.coe [.agg [.id, .ld (.intss [])]] rfl), (eOut_sound.coe [.agg [.id, .ld (.intss [])], .id, .id] rfl), trivial⟩
def eOutF_σ : CtF
  | [.agg [.im (.val (.int .i64 N)), .im (.ls (.intss L))], .im (.val (.int .i64 v))], [] => some (L.length ≤ 10000 ∧ (∀ l ∈ L, l.length ≤ 1000), .tup [.agg [.int (Cn.ouN N L v), .row 0], .agg [.int (Cn.ouV N L v), .row 1], .int (Cn.ouE N L v)], [some (.row 23 (.intss (Cn.ouX N L v))), some (.row 23 (.intss (Cn.ouU N L v)))])
  | _, _ => none
theorem eOutF_sound : Sound Tryz.prog 33 eOutF_σ := by
 refine Sw (cx := cx_eOutF) Tryz.f33 Tryz.func33 ?_
 intro wW wO wβ G0 args os p r outs hσ hp
 have hcx := cx_eOutF_ok
 have hmx : Tryz.prog.follows .mixedOrders = true := by kernel_rfl
 unfold eOutF_σ at hσ
 split at hσ
 ·
  rename_i N L v
  cases hσ
  refine ⟨by kernel_rfl, ?_⟩
  obtain ⟨hm1, hm2⟩ := hp
  have hck : L.length ≤ maxLen ∧ ∀ l ∈ L, l.length ≤ maxLen := ⟨by unfold maxLen; omega, fun l hl => by have := hm2 l hl; unfold maxLen; omega⟩
  refine Sz hcx [(1001, .to 604), (1002, .to 605), (1000, .frz)] [2, 4, 5] [0] [] (Zs (Sq hcx [] [6] [] [] [(L.length ≤ maxLen ∧ ∀ l ∈ L, l.length ≤ maxLen)] ?_ (Sz hcx [] [13] [] [] (Zx (a := (Cn.chkV N L)) (b := 0) (fun h0 => ?_) fun h0 => ?_))))
  ·
   refine ap ?_ az
   first | exact hck | (first | omega | exact id | exact vcNot | exact vcG | exact vcH | (intro _; omega) | exact (fun _ h => h) | (intro h; simp at h; omega) | (simp only [List.length_cons, List.length_nil, List.length_append, List.length_map, List.length_set, List.length_replicate]; omega) | (intro h; simp [h]; done)) | exact ⟨hm1, hm2, by omega, by omega, by omega, by omega⟩ | trivial
  ·
   obtain ⟨hA, hB, hC, hD, hE⟩ := Cn.ou_no (v := v) (Cn.ou_chk h0) h0
   exact Sd hcx hmx [0, 0, 0, 1, 11, 31] [(604, .to 604), (605, .to 605)] [6] [13, 2, 1] [] [] az (Zr (Fr (Fv 604 1 700 23 (.intss []) (Fv 605 1 701 23 (.intss []) (Fn [(700, .to 0), (701, .to 1), (604, .to 990), (605, .to 991)] [4, 5, 6] (Rv hcx (congrArg AV.tup (consE (congrArg AV.agg (consE (congrArg AV.int (show 0 = (Cn.ouN N L v) from (by first | exact hA.symm | exact hC.symm | exact hE.symm))) rfl)) (consE (congrArg AV.agg (consE (congrArg AV.int (show 0 = (Cn.ouV N L v) from (by first | exact hA.symm | exact hC.symm | exact hE.symm))) rfl)) (consE (congrArg AV.int (show (Cn.chkV N L) = (Cn.ouE N L v) from (by first | exact hA.symm | exact hC.symm | exact hE.symm))) rfl)))) [true, true] (consO (congrArg some (congrArg (fun x => AObj.row 23 (.intss x)) (show [] = (Cn.ouX N L v) from (by exact hB.symm)))) (consO (congrArg some (congrArg (fun x => AObj.row 23 (.intss x)) (show [] = (Cn.ouU N L v) from (by exact hD.symm)))) rfl))))))))
  ·
   have hc0 : Cn.chkV N L = 0 := h0
   have hN := Cn.chkV_0.1 hc0
   refine Zk (Ft (Zs (Sq hcx [] [24] [13, 6] [] [((!(decide (v < 1))) = true → ((!(decide (v < 1))) = true)), ((!(decide (v < 1))) = true → ((!(decide (v < 1))) = true)), ((!(decide (v < 1))) = true → ((!(decide (v < 1))) = true)), ((decide (v < 1)) = false → (!(decide (v < 1))) = true)] ?_ (Zi (b := (decide (v < 1)) || (decide (v > N))) (fun h1 => ?_) fun h1 => ?_))))
   ·
    refine ap ?_ (ap ?_ (ap ?_ (ap (by exact vcNot) az))) <;>
     first | exact hck | (first | omega | exact id | exact vcNot | exact vcG | exact vcH | (intro _; omega) | exact (fun _ h => h) | (intro h; simp at h; omega) | (simp only [List.length_cons, List.length_nil, List.length_append, List.length_map, List.length_set, List.length_replicate]; omega) | (intro h; simp [h]; done)) | exact ⟨hm1, hm2, by omega, by omega, by omega, by omega⟩ | trivial
   ·
    try simp only [Bool.or_eq_true, Bool.or_eq_false_iff, Bool.and_eq_true, Bool.and_eq_false_iff, Bool.not_eq_true', Bool.not_eq_false', decide_eq_true_eq, decide_eq_false_iff_not, bne_iff_ne, bne_eq_false_iff_eq, beq_iff_eq, beq_eq_false_iff_ne] at h1
    obtain ⟨hA, hB, hC, hD, hE⟩ := Cn.ou_no (Cn.ou_lit hc0 (by omega)) (by decide)
    exact Sd hcx hmx [0, 0, 1, 7, 15] [(604, .to 604), (605, .to 605)] [6] [24, 2, 1] [] [] az (Zr (Fr (Fv 604 1 700 23 (.intss []) (Fv 605 1 701 23 (.intss []) (Fn [(700, .to 0), (701, .to 1), (604, .to 990), (605, .to 991)] [4, 5, 6] (Rv hcx (congrArg AV.tup (consE (congrArg AV.agg (consE (congrArg AV.int (show 0 = (Cn.ouN N L v) from (by first | exact hA.symm | exact hC.symm | exact hE.symm))) rfl)) (consE (congrArg AV.agg (consE (congrArg AV.int (show 0 = (Cn.ouV N L v) from (by first | exact hA.symm | exact hC.symm | exact hE.symm))) rfl)) (consE (congrArg AV.int (show 140 = (Cn.ouE N L v) from (by first | exact hA.symm | exact hC.symm | exact hE.symm))) rfl)))) [true, true] (consO (congrArg some (congrArg (fun x => AObj.row 23 (.intss x)) (show [] = (Cn.ouX N L v) from (by exact hB.symm)))) (consO (congrArg some (congrArg (fun x => AObj.row 23 (.intss x)) (show [] = (Cn.ouU N L v) from (by exact hD.symm)))) rfl))))))))
   ·
    try simp only [Bool.or_eq_true, Bool.or_eq_false_iff, Bool.and_eq_true, Bool.and_eq_false_iff, Bool.not_eq_true', Bool.not_eq_false', decide_eq_true_eq, decide_eq_false_iff_not, bne_iff_ne, bne_eq_false_iff_eq, beq_iff_eq, beq_eq_false_iff_ne] at h1
    have hv : ¬ (v < 1 ∨ N < v) := by omega
    refine Zk (Ft (Sq hcx [(1002, .to 230), (1007, .to 607), (1008, .to 608), (2002, .to 900)] [7, 8, 9] [24, 2, 1] [] [(L.length ≤ 10000 ∧ (∀ l ∈ L, l.length ≤ 1000) ∧ 1 ≤ v ∧ v ≤ 65536 ∧ 0 ≤ (65536 : Int) ∧ (65536 : Int) ≤ 65536)] ?_ (Zs (Sz hcx [] [35] [9] [] (Zi (b := !(decide (((Cn.outX L v (65536 : Int)).length : Int) ≤ (65536 : Int)))) (fun h2 => ?_) fun h2 => ?_)))))
    ·
     refine ap ?_ az
     first | exact hck | (first | omega | exact id | exact vcNot | exact vcG | exact vcH | (intro _; omega) | exact (fun _ h => h) | (intro h; simp at h; omega) | (simp only [List.length_cons, List.length_nil, List.length_append, List.length_map, List.length_set, List.length_replicate]; omega) | (intro h; simp [h]; done)) | exact ⟨hm1, hm2, by omega, by omega, by omega, by omega⟩ | trivial
    ·
     obtain ⟨hA, hB, hC, hD, hE⟩ := Cn.ou_no (Cn.ou_big hc0 hv (by simpa using h2)) (by decide)
     exact Sd hcx hmx [0, 0, 1, 7, 15] [(604, .to 604), (605, .to 605)] [6] [35, 7, 8] [230, 607, 608, 900] [] az (Zr (Fr (Fv 604 1 700 23 (.intss []) (Fv 605 1 701 23 (.intss []) (Fn [(700, .to 0), (701, .to 1), (604, .to 990), (605, .to 991)] [4, 5, 6] (Rv hcx (congrArg AV.tup (consE (congrArg AV.agg (consE (congrArg AV.int (show 0 = (Cn.ouN N L v) from (by first | exact hA.symm | exact hC.symm | exact hE.symm))) rfl)) (consE (congrArg AV.agg (consE (congrArg AV.int (show 0 = (Cn.ouV N L v) from (by first | exact hA.symm | exact hC.symm | exact hE.symm))) rfl)) (consE (congrArg AV.int (show 2 = (Cn.ouE N L v) from (by first | exact hA.symm | exact hC.symm | exact hE.symm))) rfl)))) [true, true] (consO (congrArg some (congrArg (fun x => AObj.row 23 (.intss x)) (show [] = (Cn.ouX N L v) from (by exact hB.symm)))) (consO (congrArg some (congrArg (fun x => AObj.row 23 (.intss x)) (show [] = (Cn.ouU N L v) from (by exact hD.symm)))) rfl))))))))
    ·
     obtain ⟨hE, hA, hB, hC, hD⟩ := Cn.ou_ok hc0 hv (by simpa using h2)
     exact Zk (Ft (Sd hcx hmx [0, 0, 1, 7, 15] [(604, .to 604), (605, .to 605)] [6] [35, 7, 8] [607, 608] [] az (Zr (Fn [(230, .to 0), (900, .to 1), (604, .to 990), (605, .to 991)] [4, 5, 6] (Rv hcx (congrArg AV.tup (consE (congrArg AV.agg (consE (congrArg AV.int (show N = (Cn.ouN N L v) from (by first | exact hA.symm | exact hC.symm | exact hE.symm))) rfl)) (consE (congrArg AV.agg (consE (congrArg AV.int (show v = (Cn.ouV N L v) from (by first | exact hA.symm | exact hC.symm | exact hE.symm))) rfl)) (consE (congrArg AV.int (show 0 = (Cn.ouE N L v) from (by first | exact hA.symm | exact hC.symm | exact hE.symm))) rfl)))) [true, true] (consO (congrArg some (congrArg (fun x => AObj.row 23 (.intss x)) (show (Cn.outX L v (65536 : Int)) = (Cn.ouX N L v) from (by exact hB.symm)))) (consO (congrArg some (congrArg (fun x => AObj.row 23 (.intss x)) (show (Cn.uOf L v) = (Cn.ouU N L v) from (by exact hD.symm)))) rfl)))))))
 ·
  cases hσ
end Go.Proofs.YtbpbndlgfiammaaGreatDoor.En
namespace Go.Proofs.YtbpbndlgfiammaaGreatDoor.Cn
open Go
theorem flw_in {c : List (List Int)} {l : List Int} (h : l ∈ c) : flwV c l = true := flw_t (Rup.conf _ l h (look_conf.2 fun x hx hm => negT_iff.2 ⟨by rw [may_neg]; exact hm, by rw [Int.neg_neg]; exact hx⟩))
theorem flw_res {c : List (List Int)} {a b r : List Int} {x : Int} (ha : a ∈ c) (hb : b ∈ c) (hx : mayP x 65536 = true) (hxa : x ∈ a) (hr : ∀ y, y ∈ r ↔ ((y ∈ a ∧ y ≠ x) ∨ (y ∈ b ∧ y ≠ -x)) ∧ mayP y 65536 = true) : flwV c r = true := by
  refine flw_t ?_
  have hA : ∀ y ∈ a, mayP y 65536 = true → negT r (-y) = true ∨ y = x := fun y hy hm => by
    by_cases e : y = x
    · exact .inr e
    · exact .inl (negT_iff.2 ⟨by rw [may_neg]; exact hm, by rw [Int.neg_neg]; exact (hr y).2 ⟨.inl ⟨hy, e⟩, hm⟩⟩)
  have hB : ∀ y ∈ b, mayP y 65536 = true → negT r (-y) = true ∨ y = -x := fun y hy hm => by
    by_cases e : y = -x
    · exact .inr e
    · exact .inl (negT_iff.2 ⟨by rw [may_neg]; exact hm, by rw [Int.neg_neg]; exact (hr y).2 ⟨.inr ⟨hy, e⟩, hm⟩⟩)
  cases h1 : negT r (-x) with
  | true => exact Rup.conf _ a ha (look_conf.2 fun y hy hm => (hA y hy hm).elim id fun e => by rw [e]; exact h1)
  | false =>
    cases h2 : negT r x with
    | true => exact Rup.conf _ b hb (look_conf.2 fun y hy hm => (hB y hy hm).elim id fun e => by rw [e, Int.neg_neg]; exact h2)
    | false =>
      have hu : UnitV (negT r) a x := ⟨⟨hxa, hx, h1, h2⟩, hA⟩
      refine .unit _ a ha (by rw [unit_look hu]; exact may_ne hx) ?_
      rw [unit_look hu]
      refine Rup.conf _ b hb (look_conf.2 fun y hy hm => ?_)
      unfold addT
      rcases hB y hy hm with h | h
      · rw [h]; rfl
      · rw [h, Int.neg_neg]; simp
theorem on_mem {a b : List Int} {x y : Int} : y ∈ resOn a b x ↔ ((y ∈ a ∧ y ≠ x) ∨ (y ∈ b ∧ y ≠ -x)) ∧ mayP y 65536 = true := by
  unfold resOn
  rw [norm_mem, List.mem_append, List.mem_filter, List.mem_filter]
  simp
theorem flw_resL {c : List (List Int)} {a b : List Int} {v : Int} (ha : a ∈ c) (hb : b ∈ c) (h : resE a b v = 0) : flwV c (resL a b v) = true := by
  unfold resE at h
  unfold resL
  split at h
  · rename_i hv
    rw [if_pos hv]
    have hm : mayP v 65536 = true := mayP_iff.2 ⟨by omega, by omega, by omega⟩
    split at h
    · rename_i ho
      split
      · rename_i h1
        unfold onB at h1
        simp only [Bool.and_eq_true, List.contains_iff_mem] at h1
        exact flw_res ha hb hm h1.1 fun y => on_mem
      · rename_i h1
        have h2 : onB a b (-v) = true := by
          rw [Bool.or_eq_true] at ho
          exact ho.resolve_left h1
        rw [if_pos h2]
        unfold onB at h2
        simp only [Bool.and_eq_true, List.contains_iff_mem] at h2
        exact flw_res ha hb (by rw [may_neg]; exact hm) h2.1 fun y => on_mem
    · cases h
  · cases h
theorem flw_out {c : List (List Int)} {v : Int} {l : List Int} (hv : 1 ≤ v ∧ v ≤ 65536) {many : Int} (h : l ∈ outX c v many) : flwV c l = true := by
  rcases out_mem h with h | ⟨a, b, ha, hb, _, rfl⟩
  · exact flw_in h
  · refine flw_resL (pos_mem ha) (neg_mem hb) ?_
    have h1 := (List.mem_filter.1 ha).2
    have h2 := (List.mem_filter.1 hb).2
    unfold wP at h1 h2
    simp only [Bool.and_eq_true] at h1 h2
    unfold resE
    rw [if_pos hv, if_pos]
    unfold onB
    rw [h1.1, h2.1]; rfl
theorem flw_ou {N : Int} {c : List (List Int)} {v : Int} {i : Nat} (h : i < (ouX N c v).length) : flwV c ((ouX N c v).getD i []) = true := by
  have hm := getD_memL (d := ([] : List Int)) h
  unfold ouX at hm ⊢
  split at hm
  · rename_i h0
    rw [if_pos h0]
    refine flw_out ?_ hm
    unfold ouE at h0
    split at h0
    · rename_i h1; exact absurd h0 h1
    · split at h0
      · cases h0
      · rename_i h1 h2
        have := (chkV_0.1 (by simpa using h1)).1
        omega
  · cases hm
theorem getD_len {L : List (List Int)} {n : Nat} (h : ∀ l ∈ L, l.length ≤ n) (j : Nat) : (L.getD j []).length ≤ n := by
  by_cases hj : j < L.length
  · exact h _ (getD_memL hj)
  · rw [List.getD_eq_getElem?_getD, List.getElem?_eq_none (by omega)]; exact Nat.zero_le _
theorem c_ik {i k n : Int} (h : (((decide (i ≥ 0) && decide (k ≥ 0)) && decide (i < n)) && decide (k < n)) = true) : 0 ≤ i ∧ 0 ≤ k ∧ i < n ∧ k < n := by
  simp only [Bool.and_eq_true, decide_eq_true_eq] at h
  omega
theorem dead_r1 {a b : List Int} {v : Int} (h : ((resE a b v == 0) && !(flwV [a, b] (resL a b v))) = true) : False := by
  rw [Bool.and_eq_true, beq_iff_eq] at h
  rw [flw_resL (c := [a, b]) List.mem_cons_self (List.mem_cons_of_mem _ List.mem_cons_self) h.1] at h
  simp at h
theorem dead_r2 {N : Int} {c : List (List Int)} {v : Int} {i : Nat} (hi : i < (ouX N c v).length) (h : (!(flwV c ((ouX N c v).getD i []))) = true) : False := by
  rw [flw_ou hi] at h
  cases h
theorem ou_len {N : Int} {c : List (List Int)} {v : Int} (hl : ∀ m ∈ c, m.length ≤ 1000) : ∀ l ∈ ouX N c v, l.length ≤ 2000 := fun l h => by
  unfold ouX at h
  split at h
  · exact out_lens hl l h
  · cases h
theorem ou_num {N : Int} {c : List (List Int)} {v : Int} (hc : c.length ≤ 10000) : (ouX N c v).length ≤ 75537 := by
  unfold ouX
  split
  · exact out_len hc (by decide)
  · exact Nat.zero_le _
theorem c_resd {N : Int} {c : List (List Int)} {b : Bool} (h : ((!b || decide (N > 30)) || (chkV N c != 0)) = false) : b = true ∧ N ≤ 30 ∧ chkV N c = 0 := by
  simp only [Bool.or_eq_false_iff, Bool.not_eq_false', decide_eq_false_iff_not, bne_eq_false_iff_eq] at h
  exact ⟨h.1.1, by omega, h.2⟩
theorem ou_bad {N : Int} {c : List (List Int)} {v : Int} (h : ouE N c v ≠ 0) : ouX N c v = [] := by unfold ouX; rw [if_neg h]
end Go.Proofs.YtbpbndlgfiammaaGreatDoor.Cn
