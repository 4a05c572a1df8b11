/- Lemmas and contracts for the row. -/
import Derived.Test.YtbpbndlgfiammaaGreatDoorPkRowProofTidyT
import Derived.Test.YtbpbndlgfiammaaGreatDoorPkRowProofTidyAF
import Derived.Test.YtbpbndlgfiammaaGreatDoorPkRowProofTidyAM
import Derived.Test.YtbpbndlgfiammaaGreatDoorPkRowProofTidyAI
import Derived.Test.YtbpbndlgfiammaaGreatDoorPkRowProofTidyAJ
set_option linter.unusedVariables false
set_option linter.unusedSimpArgs false
set_option linter.unnecessarySimpa false
namespace Go.Proofs.YtbpbndlgfiammaaGreatDoor.En
open Go Go.RowKit
def tyTxt : List (Nat × TD) := [(2, ⟨1, false, [.int .i64 0], [], none, 8, false, 1, 1⟩),
  (3, ⟨1, false, [.int .i64 0], [], none, 8, false, 1, 1⟩),
  (5, ⟨1, false, [.int .u8 0], [], none, 1, false, 2, 8⟩),
  (9, ⟨1, false, [.string ⟨#[]⟩], [], none, 16, false, 9, 9⟩),
  (23, ⟨1, false, [.slice none 0 0], [], some 3, 24, false, 0, 3⟩),
  (29, ⟨1, false, [.slice none 0 0], [], some 43, 24, false, 0, 0⟩),
  (31, ⟨1, false, [.int .i64 0], [], none, 8, false, 1, 1⟩),
  (34, ⟨1, false, [.slice none 0 0], [], some 5, 24, false, 0, 0⟩),
  (43, ⟨2, true, [.int .i64 0, .slice none 0 0], [(0, 3), (1, 23)], none, 32, false, 0, 7⟩),
  (105, ⟨1, false, [.slice none 0 0], [], some 9, 24, false, 0, 0⟩),
  (109, ⟨1, false, [.nilIface], [], none, 16, false, 11, 0⟩)]
theorem tyTxt_ok : AllTy Tryz.prog tyTxt := ⟨⟨by kernel_rfl, by kernel_rfl, by kernel_rfl⟩, ⟨by kernel_rfl, by kernel_rfl, by kernel_rfl⟩, ⟨by kernel_rfl, by kernel_rfl, by kernel_rfl⟩, ⟨by kernel_rfl, by kernel_rfl, by kernel_rfl⟩, ⟨by kernel_rfl, by kernel_rfl, by kernel_rfl⟩, ⟨by kernel_rfl, by kernel_rfl, by kernel_rfl⟩, ⟨by kernel_rfl, by kernel_rfl, by kernel_rfl⟩, ⟨by kernel_rfl, by kernel_rfl, by kernel_rfl⟩, ⟨by kernel_rfl, by kernel_rfl, by kernel_rfl⟩, ⟨by kernel_rfl, by kernel_rfl, by kernel_rfl⟩, ⟨by kernel_rfl, by kernel_rfl, by kernel_rfl⟩, trivial⟩
def cx_sAppInt : Cx := ⟨tyTxt, [(84, sAppI)], true⟩
theorem cx_sAppInt_ok : CxOk Tryz.prog cx_sAppInt := cx_ok tyTxt_ok ⟨sAppI_sound, trivial⟩
def sAppInt_σ : CtF
  | [.row 0, .im (.val (.int .i64 i)), .im (.val (.int .i64 b))], [.row 5 (.bytes xs)] => some (Fit i ∧ b = 10 ∧ xs.length + 21 ≤ 1000000000000, .row 1, [none, some (.row 5 (.bytes (xs ++ Cn.itoaI i)))])
  | _, _ => none
theorem sAppInt_sound : Sound Tryz.prog 55 sAppInt_σ := by
 refine Sw (cx := cx_sAppInt) Tryz.f55 Tryz.func55 ?_
 intro wW wO wβ G0 args os p r outs hσ hp
 have hcx := cx_sAppInt_ok
 unfold sAppInt_σ at hσ
 split at hσ
 ·
  rename_i i b xs
  cases hσ
  refine ⟨by kernel_rfl, ?_⟩
  refine Sz hcx [] [] [] [] (Sq hcx [(1003, .to 210)] [6] [0, 1, 2] [0] [(Fit i ∧ b = 10 ∧ xs.length + 21 ≤ 1000000000000)] ?_ (Zr (Fn [(210, .to 1)] [6] (Ru hcx [false, true]))))
  ·
   refine ap ?_ az
   first | exact hp | done
 ·
  cases hσ
def cx_pPut : Cx := ⟨tyTxt, [(55, sAppInt_σ), (43, pFormed_σ)], true⟩
theorem cx_pPut_ok : CxOk Tryz.prog cx_pPut := cx_ok tyTxt_ok ⟨sAppInt_sound, pFormed_sound, trivial⟩
def pPut_σ : CtF
  | [.im (.ls (.lines p))], [] => some (Cn.szP p ≤ 1000000000, .tup [.bytes (Cn.putV p), .int (Cn.frmV p)], [])
  | _, _ => none
theorem pPut_sound : Sound Tryz.prog 19 pPut_σ := by
 refine Sw (cx := cx_pPut) Tryz.f19 Tryz.func19 ?_
 intro wW wO wβ G0 args os p r outs hσ hp
 have hcx := cx_pPut_ok
 unfold pPut_σ at hσ
 split at hσ
 ·
  rename_i p
  cases hσ
  refine ⟨by kernel_rfl, ?_⟩
  have hm1 := hp
  have hpl := Cn.len_szP p
  have hml := fun x (hx : x ∈ p) => Cn.mem_szP hx
  have hfr := Cn.put_frm hm1
  refine Sz hcx [] [] [] [] (Zs (Sq hcx [] [4] [] [] [(p.length ≤ maxLen ∧ ∀ x ∈ p, x.2.length ≤ maxLen)] ?_ (Sz hcx [] [13] [] [] (Zx (a := (Cn.frmV p)) (b := 0) (fun h0 => ?_) fun h0 => ?_))))
  ·
   refine ap ?_ az
   first | omega | exact id | exact vcNot | exact vcG | exact vcH | (intro _; omega) | exact (fun _ h => h) | (intro h; simp at h; omega) | (simp only [List.length_cons, List.length_nil, List.length_append, List.length_map, List.length_set, List.length_replicate]; omega) | (intro h; simp [h]; done) | (constructor <;> omega) | exact hfr | exact Cn.let_in (hq2 _ (hxm (by omega))) | (have h8 := hlit (by omega); exact ⟨⟨by omega, by omega⟩, rfl, by simp only [List.length_append, List.length_cons, List.length_nil]; omega⟩) | (have h9 : (⟨#[32, 48, 10]⟩ : ByteArray).size = 3 := rfl; rw [h9]; simp only [List.length_append, List.length_cons, List.length_nil]; omega) | done
  ·
   have hne : ¬ Cn.frmV p = 0 := by simpa using h0
   exact Sz hcx [] [2, 3] [13, 4, 0] [] (Zr (Fr (Fp 2 (.bytes []) (Rv hcx (congrArg AV.tup (consE (congrArg AV.bytes (show [] = (Cn.putV p) from (by first | exact Cn.putV_yes he (by omega) | exact Cn.putV_no hne | exact he.symm | rfl | done))) rfl)) [] rfl))))
  ·
   have he : Cn.frmV p = 0 := by simpa using h0
   obtain ⟨hq1, hq2, hq3⟩ := Cn.frm_lits he
   have hbd := fun i => Cn.put_le hq3 i
   refine Zk (Ft (Sz hcx [] [5] [13, 4] [] (Zs (Sz hcx [] [15, 16, 17] [0] [] (Zb (Zw 5 700 5 (.bytes []) (Lp (X := Nat) (fun x0 => x0 ≤ p.length) (fun x0 => ([(5, .row 700), (15, .lines p), (16, .int (p.length : Int)), (17, .int (x0 : Int))], [(700, .row 5 (.bytes (Cn.putP (p.take x0))))])) (fun x0 => p.length - x0) (0) ?_ (Ex 17 (congrArg AV.int (show 0 = (0 : Int) from (by first | rfl | omega | (simp; done)))) Eb) Hb fun i hI => ?_)))))))
   ·
    show 0 ≤ p.length
    omega
   ·
    replace hI : i ≤ p.length := hI
    have hbi := fun (hi : i < p.length) (k : Nat) => Cn.put_in24 hq3 hi k
    have hbj := hbd i
    have hxm := fun (hi : i < p.length) => Cn.getD_memL (d := (0, [])) hi
    refine Sz hcx [] [18] [] [] (Zs (Zj (p := ((i : Int) < (p.length : Int))) (fun h1 => ?_) fun h1 => ?_))
    ·
     refine Zk (Ft (Zs (Zb (Sq hcx [(1002, .to 607)] [7] [18] [] [((0 : Int) ≤ (i : Int) ∧ (i : Int) < (p.length : Int))] ?_ (Sq hcx [(1005, .to 700)] [5] [] [700] [((0 : Int) ≤ (p.getD i (0, [])).1 ∧ (p.getD i (0, [])).1 < ((⟨#[32, 111, 108, 100]⟩ : ByteArray).size : Int)), (((Cn.putP (p.take i)).length + [((bytesI (⟨#[32, 111, 108, 100]⟩ : ByteArray)).getD (((p.getD i (0, [])).1).toNat) 0)].length) * 1 ≤ 140737488355328)] ?_ (Zs (Sz hcx [] [28, 29, 30] [7] [607] (Zb (Zn [(700, .to 701)] [5, 15, 16, 17, 28, 29, 30] (Lp (X := Nat) (fun x0 => x0 ≤ (p.getD i (0, [])).2.length) (fun x0 => ([(5, .row 701), (15, .lines p), (16, .int (p.length : Int)), (17, .int (i : Int)), (28, .ints ((p.getD i (0, [])).2)), (29, .int (((p.getD i (0, [])).2).length : Int)), (30, .int (x0 : Int))], [(701, .row 5 (.bytes ((Cn.putP (p.take i) ++ [Cn.letW (p.getD i (0, [])).1]) ++ Cn.litsW ((p.getD i (0, [])).2.take x0))))])) (fun x0 => (p.getD i (0, [])).2.length - x0) (0) ?_ (Ex 30 (congrArg AV.int (show 0 = (0 : Int) from (by first | rfl | omega | (simp; done)))) Eb) (Hx 701 (congrArg (fun x => AObj.row 5 (.bytes x)) (show ((Cn.putP (p.take i)) ++ [((bytesI (⟨#[32, 111, 108, 100]⟩ : ByteArray)).getD (((p.getD i (0, [])).1).toNat) 0)]) = ((Cn.putP (p.take i) ++ [Cn.letW (p.getD i (0, [])).1]) ++ Cn.litsW ((p.getD i (0, [])).2.take 0)) from (by (exact (List.append_nil _).symm)))) Hb) fun k hI => ?_))))))))))
     ·
      refine ap ?_ az
      first | omega | exact id | exact vcNot | exact vcG | exact vcH | (intro _; omega) | exact (fun _ h => h) | (intro h; simp at h; omega) | (simp only [List.length_cons, List.length_nil, List.length_append, List.length_map, List.length_set, List.length_replicate]; omega) | (intro h; simp [h]; done) | (constructor <;> omega) | exact hfr | exact Cn.let_in (hq2 _ (hxm (by omega))) | (have h8 := hlit (by omega); exact ⟨⟨by omega, by omega⟩, rfl, by simp only [List.length_append, List.length_cons, List.length_nil]; omega⟩) | (have h9 : (⟨#[32, 48, 10]⟩ : ByteArray).size = 3 := rfl; rw [h9]; simp only [List.length_append, List.length_cons, List.length_nil]; omega) | done
     ·
      refine ap ?_ (ap ?_ az) <;>
       first | omega | exact id | exact vcNot | exact vcG | exact vcH | (intro _; omega) | exact (fun _ h => h) | (intro h; simp at h; omega) | (simp only [List.length_cons, List.length_nil, List.length_append, List.length_map, List.length_set, List.length_replicate]; omega) | (intro h; simp [h]; done) | (constructor <;> omega) | exact hfr | exact Cn.let_in (hq2 _ (hxm (by omega))) | (have h8 := hlit (by omega); exact ⟨⟨by omega, by omega⟩, rfl, by simp only [List.length_append, List.length_cons, List.length_nil]; omega⟩) | (have h9 : (⟨#[32, 48, 10]⟩ : ByteArray).size = 3 := rfl; rw [h9]; simp only [List.length_append, List.length_cons, List.length_nil]; omega) | done
     ·
      show 0 ≤ (p.getD i (0, [])).2.length
      omega
     ·
      try dsimp only at hI
      have hk2 := hbi (by omega) k
      have hxl := hml _ (hxm (by omega))
      have hlit := fun (hk : k < (p.getD i (0, [])).2.length) => hq3 _ (hxm (by omega)) _ (Cn.getD_memI hk)
      refine Sz hcx [] [31] [] [] (Zs (Zj (p := ((k : Int) < (((p.getD i (0, [])).2).length : Int))) (fun h2 => ?_) fun h2 => ?_))
      ·
       refine Zk (Ft (Zs (Zb (Sq hcx [] [9] [31] [] [((0 : Int) ≤ (k : Int) ∧ (k : Int) < (((p.getD i (0, [])).2).length : Int))] ?_ (Tq hcx [(1004, .to 701)] [5] [9] [701] [((((Cn.putP (p.take i) ++ [Cn.letW (p.getD i (0, [])).1]) ++ Cn.litsW ((p.getD i (0, [])).2.take k)).length + [32].length) * 1 ≤ 140737488355328), (Fit (((p.getD i (0, [])).2).getD k 0) ∧ (10 : Int) = 10 ∧ (((Cn.putP (p.take i) ++ [Cn.letW (p.getD i (0, [])).1]) ++ Cn.litsW ((p.getD i (0, [])).2.take k)) ++ [32]).length + 21 ≤ 1000000000000)] ?_ (Fb (Ft (Tq hcx [] [30] [] [] [Fit ((k : Int) + 1)] ?_ (Lr (k + 1) ?_ ?_ (Ex 30 (congrArg AV.int (show ((k : Int) + 1) = ((k + 1) : Int) from (by first | rfl | omega | (simp; done)))) Eb) (Hx 701 (congrArg (fun x => AObj.row 5 (.bytes x)) (show ((((Cn.putP (p.take i) ++ [Cn.letW (p.getD i (0, [])).1]) ++ Cn.litsW ((p.getD i (0, [])).2.take k)) ++ [32]) ++ Cn.itoaI (((p.getD i (0, [])).2).getD k 0)) = ((Cn.putP (p.take i) ++ [Cn.letW (p.getD i (0, [])).1]) ++ Cn.litsW ((p.getD i (0, [])).2.take (k + 1))) from (by exact Cn.litsW_next (by omega) _))) Hb))))))))))
       ·
        refine ap ?_ az
        first | omega | exact id | exact vcNot | exact vcG | exact vcH | (intro _; omega) | exact (fun _ h => h) | (intro h; simp at h; omega) | (simp only [List.length_cons, List.length_nil, List.length_append, List.length_map, List.length_set, List.length_replicate]; omega) | (intro h; simp [h]; done) | (constructor <;> omega) | exact hfr | exact Cn.let_in (hq2 _ (hxm (by omega))) | (have h8 := hlit (by omega); exact ⟨⟨by omega, by omega⟩, rfl, by simp only [List.length_append, List.length_cons, List.length_nil]; omega⟩) | (have h9 : (⟨#[32, 48, 10]⟩ : ByteArray).size = 3 := rfl; rw [h9]; simp only [List.length_append, List.length_cons, List.length_nil]; omega) | done
       ·
        refine ap ?_ (ap ?_ az) <;>
         first | omega | exact id | exact vcNot | exact vcG | exact vcH | (intro _; omega) | exact (fun _ h => h) | (intro h; simp at h; omega) | (simp only [List.length_cons, List.length_nil, List.length_append, List.length_map, List.length_set, List.length_replicate]; omega) | (intro h; simp [h]; done) | (constructor <;> omega) | exact hfr | exact Cn.let_in (hq2 _ (hxm (by omega))) | (have h8 := hlit (by omega); exact ⟨⟨by omega, by omega⟩, rfl, by simp only [List.length_append, List.length_cons, List.length_nil]; omega⟩) | (have h9 : (⟨#[32, 48, 10]⟩ : ByteArray).size = 3 := rfl; rw [h9]; simp only [List.length_append, List.length_cons, List.length_nil]; omega) | done
       ·
        refine ap ?_ az
        first | omega | exact id | exact vcNot | exact vcG | exact vcH | (intro _; omega) | exact (fun _ h => h) | (intro h; simp at h; omega) | (simp only [List.length_cons, List.length_nil, List.length_append, List.length_map, List.length_set, List.length_replicate]; omega) | (intro h; simp [h]; done) | (constructor <;> omega) | exact hfr | exact Cn.let_in (hq2 _ (hxm (by omega))) | (have h8 := hlit (by omega); exact ⟨⟨by omega, by omega⟩, rfl, by simp only [List.length_append, List.length_cons, List.length_nil]; omega⟩) | (have h9 : (⟨#[32, 48, 10]⟩ : ByteArray).size = 3 := rfl; rw [h9]; simp only [List.length_append, List.length_cons, List.length_nil]; omega) | done
       ·
        show (k + 1) ≤ (p.getD i (0, [])).2.length
        omega
       ·
        try dsimp only
        omega
      ·
       refine Ze (Fe (Fe (Fs (Ft (Tq hcx [(1001, .to 701)] [5] [31, 28, 29, 30] [701] [((((Cn.putP (p.take i) ++ [Cn.letW (p.getD i (0, [])).1]) ++ Cn.litsW ((p.getD i (0, [])).2.take k)).length + (⟨#[32, 48, 10]⟩ : ByteArray).size) * 1 ≤ 140737488355328)] ?_ (Fb (Ft (Tq hcx [] [17] [] [] [Fit ((i : Int) + 1)] ?_ (Fn [(701, .to 700)] [5, 15, 16, 17] (Lr (i + 1) ?_ ?_ (Ex 17 (congrArg AV.int (show ((i : Int) + 1) = ((i + 1) : Int) from (by first | rfl | omega | (simp; done)))) Eb) (Hx 700 (congrArg (fun x => AObj.row 5 (.bytes x)) (show (((Cn.putP (p.take i) ++ [Cn.letW (p.getD i (0, [])).1]) ++ Cn.litsW ((p.getD i (0, [])).2.take k)) ++ (bytesI (⟨#[32, 48, 10]⟩ : ByteArray))) = (Cn.putP (p.take (i + 1))) from (by exact Cn.putP_step (by omega) (by omega)))) Hb)))))))))))
       ·
        refine ap ?_ az
        first | omega | exact id | exact vcNot | exact vcG | exact vcH | (intro _; omega) | exact (fun _ h => h) | (intro h; simp at h; omega) | (simp only [List.length_cons, List.length_nil, List.length_append, List.length_map, List.length_set, List.length_replicate]; omega) | (intro h; simp [h]; done) | (constructor <;> omega) | exact hfr | exact Cn.let_in (hq2 _ (hxm (by omega))) | (have h8 := hlit (by omega); exact ⟨⟨by omega, by omega⟩, rfl, by simp only [List.length_append, List.length_cons, List.length_nil]; omega⟩) | (have h9 : (⟨#[32, 48, 10]⟩ : ByteArray).size = 3 := rfl; rw [h9]; simp only [List.length_append, List.length_cons, List.length_nil]; omega) | done
       ·
        refine ap ?_ az
        first | omega | exact id | exact vcNot | exact vcG | exact vcH | (intro _; omega) | exact (fun _ h => h) | (intro h; simp at h; omega) | (simp only [List.length_cons, List.length_nil, List.length_append, List.length_map, List.length_set, List.length_replicate]; omega) | (intro h; simp [h]; done) | (constructor <;> omega) | exact hfr | exact Cn.let_in (hq2 _ (hxm (by omega))) | (have h8 := hlit (by omega); exact ⟨⟨by omega, by omega⟩, rfl, by simp only [List.length_append, List.length_cons, List.length_nil]; omega⟩) | (have h9 : (⟨#[32, 48, 10]⟩ : ByteArray).size = 3 := rfl; rw [h9]; simp only [List.length_append, List.length_cons, List.length_nil]; omega) | done
       ·
        show (i + 1) ≤ p.length
        omega
       ·
        show p.length - (i + 1) < p.length - i
        omega
    ·
     exact Ze (Fe (Fe (Fs (Ft (Sz hcx [(700, .frz)] [2, 3] [18, 5, 15, 16, 17] [] (Zr (Rv hcx (congrArg AV.tup (consE (congrArg AV.bytes (show (Cn.putP (p.take i)) = (Cn.putV p) from (by first | exact Cn.putV_yes he (by omega) | exact Cn.putV_no hne | exact he.symm | rfl | done))) (consE (congrArg AV.int (show 0 = (Cn.frmV p) from (by first | exact Cn.putV_yes he (by omega) | exact Cn.putV_no hne | exact he.symm | rfl | done))) rfl))) [] rfl)))))))
 ·
  cases hσ
def cx_pLine : Cx := ⟨tyTxt, [(87, sSplit), (88, sIndexS), (89, sAtoi), (90, sItoa), (36, pLit_σ)], true⟩
theorem cx_pLine_ok : CxOk Tryz.prog cx_pLine := cx_ok tyTxt_ok ⟨sSplit_sound, sIndexS_sound, sAtoi_sound, sItoa_sound, pLit_sound, trivial⟩
def pLine_σ : CtF
  | [.im (.val (.string s))], [] => some (s.size ≤ 1000000, .tup [.agg [.int (Cn.lnK (bytesI s)), .ints (Cn.lnL (bytesI s))], .bool (Cn.lnOk (bytesI s))], [])
  | _, _ => none
theorem pLine_sound : Sound Tryz.prog 58 pLine_σ := by
 refine Sw (cx := cx_pLine) Tryz.f58 Tryz.func58 ?_
 intro wW wO wβ G0 args os p r outs hσ hp
 have hcx := cx_pLine_ok
 unfold pLine_σ at hσ
 split at hσ
 ·
  rename_i s
  cases hσ
  refine ⟨by kernel_rfl, ?_⟩
  have hm1 := hp
  have hK := Cn.lnK_is s
  obtain ⟨hl1, hl2, hl3⟩ := Cn.ws_facts s
  have hml := Cn.mid_lenS s
  refine Sz hcx [(1000, .to 602)] [2] [] [] (Sq hcx [(1001, .to 211)] [4] [0] [] [(s.size ≤ 1000000 ∧ (⟨#[32]⟩ : ByteArray) = ⟨#[32]⟩)] ?_ (Zs (Zn [(602, .to 602), (211, .frz)] [4, 2] (Tq hcx [] [5] [] [] [Fit (((Cn.wsS s).length : Int) - 1)] ?_ (Ft (Sq hcx [(602, .to 602)] [] [] [] [((0 : Int) ≤ 0 ∧ 0 < ((Cn.wsS s).length : Int)), ((⟨#[32, 111, 108, 100]⟩ : ByteArray).size ≤ 4294967280)] ?_ (Zs (Sq hcx [] [40] [] [] [((0 : Int) ≤ 0 ∧ 0 < ((Cn.wsS s).length : Int)), ((!((((Cn.wsS s).getD 0 ByteArray.empty).size : Int) != 1)) = true → ((!((((Cn.wsS s).getD 0 ByteArray.empty).size : Int) != 1)) = true)), ((!((((Cn.wsS s).getD 0 ByteArray.empty).size : Int) != 1)) = true → ((!((((Cn.wsS s).getD 0 ByteArray.empty).size : Int) != 1)) = true)), (((((Cn.wsS s).getD 0 ByteArray.empty).size : Int) != 1) = false → (!((((Cn.wsS s).getD 0 ByteArray.empty).size : Int) != 1)) = true), ((!(((((Cn.wsS s).getD 0 ByteArray.empty).size : Int) != 1) || (decide ((Lib.index (⟨#[32, 111, 108, 100]⟩ : ByteArray).data.toList ((Cn.wsS s).getD 0 ByteArray.empty).data.toList) < 1)))) = true → ((!(((((Cn.wsS s).getD 0 ByteArray.empty).size : Int) != 1) || (decide ((Lib.index (⟨#[32, 111, 108, 100]⟩ : ByteArray).data.toList ((Cn.wsS s).getD 0 ByteArray.empty).data.toList) < 1)))) = true)), ((((((Cn.wsS s).getD 0 ByteArray.empty).size : Int) != 1) || (decide ((Lib.index (⟨#[32, 111, 108, 100]⟩ : ByteArray).data.toList ((Cn.wsS s).getD 0 ByteArray.empty).data.toList) < 1))) = false → (!(((((Cn.wsS s).getD 0 ByteArray.empty).size : Int) != 1) || (decide ((Lib.index (⟨#[32, 111, 108, 100]⟩ : ByteArray).data.toList ((Cn.wsS s).getD 0 ByteArray.empty).data.toList) < 1)))) = true), ((!((((((Cn.wsS s).getD 0 ByteArray.empty).size : Int) != 1) || (decide ((Lib.index (⟨#[32, 111, 108, 100]⟩ : ByteArray).data.toList ((Cn.wsS s).getD 0 ByteArray.empty).data.toList) < 1))) || (decide ((((Cn.wsS s).length : Int) - 1) < 1)))) = true → ((!((((((Cn.wsS s).getD 0 ByteArray.empty).size : Int) != 1) || (decide ((Lib.index (⟨#[32, 111, 108, 100]⟩ : ByteArray).data.toList ((Cn.wsS s).getD 0 ByteArray.empty).data.toList) < 1))) || (decide ((((Cn.wsS s).length : Int) - 1) < 1)))) = true)), ((!((((((Cn.wsS s).getD 0 ByteArray.empty).size : Int) != 1) || (decide ((Lib.index (⟨#[32, 111, 108, 100]⟩ : ByteArray).data.toList ((Cn.wsS s).getD 0 ByteArray.empty).data.toList) < 1))) || (decide ((((Cn.wsS s).length : Int) - 1) < 1)))) = true → ((!((((((Cn.wsS s).getD 0 ByteArray.empty).size : Int) != 1) || (decide ((Lib.index (⟨#[32, 111, 108, 100]⟩ : ByteArray).data.toList ((Cn.wsS s).getD 0 ByteArray.empty).data.toList) < 1))) || (decide ((((Cn.wsS s).length : Int) - 1) < 1)))) = true)), ((!((((((Cn.wsS s).getD 0 ByteArray.empty).size : Int) != 1) || (decide ((Lib.index (⟨#[32, 111, 108, 100]⟩ : ByteArray).data.toList ((Cn.wsS s).getD 0 ByteArray.empty).data.toList) < 1))) || (decide ((((Cn.wsS s).length : Int) - 1) < 1)))) = true → ((0 : Int) ≤ (((Cn.wsS s).length : Int) - 1) ∧ (((Cn.wsS s).length : Int) - 1) < ((Cn.wsS s).length : Int))), ((!((((((Cn.wsS s).getD 0 ByteArray.empty).size : Int) != 1) || (decide ((Lib.index (⟨#[32, 111, 108, 100]⟩ : ByteArray).data.toList ((Cn.wsS s).getD 0 ByteArray.empty).data.toList) < 1))) || (decide ((((Cn.wsS s).length : Int) - 1) < 1)))) = true → ((!((((((Cn.wsS s).getD 0 ByteArray.empty).size : Int) != 1) || (decide ((Lib.index (⟨#[32, 111, 108, 100]⟩ : ByteArray).data.toList ((Cn.wsS s).getD 0 ByteArray.empty).data.toList) < 1))) || (decide ((((Cn.wsS s).length : Int) - 1) < 1)))) = true)), ((!((((((Cn.wsS s).getD 0 ByteArray.empty).size : Int) != 1) || (decide ((Lib.index (⟨#[32, 111, 108, 100]⟩ : ByteArray).data.toList ((Cn.wsS s).getD 0 ByteArray.empty).data.toList) < 1))) || (decide ((((Cn.wsS s).length : Int) - 1) < 1)))) = true → ((!((((((Cn.wsS s).getD 0 ByteArray.empty).size : Int) != 1) || (decide ((Lib.index (⟨#[32, 111, 108, 100]⟩ : ByteArray).data.toList ((Cn.wsS s).getD 0 ByteArray.empty).data.toList) < 1))) || (decide ((((Cn.wsS s).length : Int) - 1) < 1)))) = true)), (((((((Cn.wsS s).getD 0 ByteArray.empty).size : Int) != 1) || (decide ((Lib.index (⟨#[32, 111, 108, 100]⟩ : ByteArray).data.toList ((Cn.wsS s).getD 0 ByteArray.empty).data.toList) < 1))) || (decide ((((Cn.wsS s).length : Int) - 1) < 1))) = false → (!((((((Cn.wsS s).getD 0 ByteArray.empty).size : Int) != 1) || (decide ((Lib.index (⟨#[32, 111, 108, 100]⟩ : ByteArray).data.toList ((Cn.wsS s).getD 0 ByteArray.empty).data.toList) < 1))) || (decide ((((Cn.wsS s).length : Int) - 1) < 1)))) = true)] ?_ (Zi (b := ((((((Cn.wsS s).getD 0 ByteArray.empty).size : Int) != 1) || (decide ((Lib.index (⟨#[32, 111, 108, 100]⟩ : ByteArray).data.toList ((Cn.wsS s).getD 0 ByteArray.empty).data.toList) < 1))) || (decide ((((Cn.wsS s).length : Int) - 1) < 1))) || (!(((Cn.wsS s).getD ((((Cn.wsS s).length : Int) - 1).toNat) ByteArray.empty).toList == (⟨#[48]⟩ : ByteArray).toList))) (fun h0 => ?_) fun h0 => ?_)))))))))
  ·
   refine ap ?_ az
   first | omega | exact id | exact vcNot | exact vcG | exact vcH | (intro _; omega) | exact (fun _ h => h) | (intro h; simp at h; omega) | (simp only [List.length_cons, List.length_nil, List.length_append, List.length_map, List.length_set, List.length_replicate]; omega) | (intro h; simp [h]; done) | exact ⟨hm1, rfl⟩ | (constructor <;> omega) | exact (show (4 : Nat) ≤ _ by omega) | (intro h; exact Cn.ws_in h) | (have h8 := hl3 _ (Cn.getD_memS (d := ByteArray.empty) (by omega)); omega) | (have h8 := hwz (by omega); omega) | exact True.intro | (intro _; exact True.intro) | (intro h; exact Cn.fit_may h) | (rw [htk]; simp only [List.length_cons, List.length_nil]; omega) | exact ⟨by omega, by omega, by omega⟩ | done
  ·
   refine ap ?_ az
   first | omega | exact id | exact vcNot | exact vcG | exact vcH | (intro _; omega) | exact (fun _ h => h) | (intro h; simp at h; omega) | (simp only [List.length_cons, List.length_nil, List.length_append, List.length_map, List.length_set, List.length_replicate]; omega) | (intro h; simp [h]; done) | exact ⟨hm1, rfl⟩ | (constructor <;> omega) | exact (show (4 : Nat) ≤ _ by omega) | (intro h; exact Cn.ws_in h) | (have h8 := hl3 _ (Cn.getD_memS (d := ByteArray.empty) (by omega)); omega) | (have h8 := hwz (by omega); omega) | exact True.intro | (intro _; exact True.intro) | (intro h; exact Cn.fit_may h) | (rw [htk]; simp only [List.length_cons, List.length_nil]; omega) | exact ⟨by omega, by omega, by omega⟩ | done
  ·
   refine ap ?_ (ap ?_ az) <;>
    first | omega | exact id | exact vcNot | exact vcG | exact vcH | (intro _; omega) | exact (fun _ h => h) | (intro h; simp at h; omega) | (simp only [List.length_cons, List.length_nil, List.length_append, List.length_map, List.length_set, List.length_replicate]; omega) | (intro h; simp [h]; done) | exact ⟨hm1, rfl⟩ | (constructor <;> omega) | exact (show (4 : Nat) ≤ _ by omega) | (intro h; exact Cn.ws_in h) | (have h8 := hl3 _ (Cn.getD_memS (d := ByteArray.empty) (by omega)); omega) | (have h8 := hwz (by omega); omega) | exact True.intro | (intro _; exact True.intro) | (intro h; exact Cn.fit_may h) | (rw [htk]; simp only [List.length_cons, List.length_nil]; omega) | exact ⟨by omega, by omega, by omega⟩ | done
  ·
   refine ap ?_ (ap ?_ (ap ?_ (ap (by exact vcNot) (ap ?_ (ap (by exact vcNot) (ap ?_ (ap ?_ (ap ?_ (ap ?_ (ap ?_ (ap (by exact vcNot) az))))))))))) <;>
    first | omega | exact id | exact vcNot | exact vcG | exact vcH | (intro _; omega) | exact (fun _ h => h) | (intro h; simp at h; omega) | (simp only [List.length_cons, List.length_nil, List.length_append, List.length_map, List.length_set, List.length_replicate]; omega) | (intro h; simp [h]; done) | exact ⟨hm1, rfl⟩ | (constructor <;> omega) | exact (show (4 : Nat) ≤ _ by omega) | (intro h; exact Cn.ws_in h) | (have h8 := hl3 _ (Cn.getD_memS (d := ByteArray.empty) (by omega)); omega) | (have h8 := hwz (by omega); omega) | exact True.intro | (intro _; exact True.intro) | (intro h; exact Cn.fit_may h) | (rw [htk]; simp only [List.length_cons, List.length_nil]; omega) | exact ⟨by omega, by omega, by omega⟩ | done
  ·
   have hH := Cn.headS_no (Cn.head_is s) h0
   exact Sz hcx [(602, .to 602)] [3] [40, 5, 4] [] (Zr (Fr (Fv 602 1 700 0 (.ints []) (Fn [(602, .to 990), (700, .frz)] [2, 3] (Rv hcx (congrArg AV.tup (consE (congrArg AV.agg (consE (congrArg AV.int (show (Lib.index (⟨#[32, 111, 108, 100]⟩ : ByteArray).data.toList ((Cn.wsS s).getD 0 ByteArray.empty).data.toList) = (Cn.lnK (bytesI s)) from (by first | exact hK | exact Cn.ln_head hH | exact Cn.lnOk_head hH | exact Cn.ln_stop hH (by omega) hok hq | exact Cn.lnOk_stop (by omega) hok hq | exact Cn.ln_all hH (by omega) hok | exact Cn.lnOk_all hH (by omega) hok | done))) (consE (congrArg AV.ints (show [] = (Cn.lnL (bytesI s)) from (by first | exact hK | exact Cn.ln_head hH | exact Cn.lnOk_head hH | exact Cn.ln_stop hH (by omega) hok hq | exact Cn.lnOk_stop (by omega) hok hq | exact Cn.ln_all hH (by omega) hok | exact Cn.lnOk_all hH (by omega) hok | done))) rfl))) (consE (congrArg AV.bool (show false = (Cn.lnOk (bytesI s)) from (by first | exact hK | exact Cn.ln_head hH | exact Cn.lnOk_head hH | exact Cn.ln_stop hH (by omega) hok hq | exact Cn.lnOk_stop (by omega) hok hq | exact Cn.ln_all hH (by omega) hok | exact Cn.lnOk_all hH (by omega) hok | done))) rfl))) [] rfl)))))
  ·
   have hH := Cn.headS_yes (Cn.head_is s) h0
   have hH2 := Cn.headS_two hH
   refine Zk (Ft (Zs (Zs (Zv 602 1 701 3 (.ints []) (Tq hcx [] [44, 45, 46] [40, 5, 4] [] [((0 : Int) ≤ 1 ∧ 1 ≤ (((Cn.wsS s).length : Int) - 1) ∧ (((Cn.wsS s).length : Int) - 1) ≤ ((Cn.wsS s).length : Int))] ?_ (Ft (Zb (Zn [(602, .to 602), (701, .to 701)] [2, 44, 45, 46] (Lp (X := Nat) (fun x0 => x0 ≤ (Cn.mdS s).length ∧ ∀ j, j < x0 → Cn.litW ((Cn.midW (Cn.splitI 32 (bytesI s))).getD j []) = true) (fun x0 => ([(2, .loc 602 0), (44, .strs (Cn.mdS s)), (45, .int ((Cn.mdS s).length : Int)), (46, .int (x0 : Int))], [(602, .box [.int (Lib.index (⟨#[32, 111, 108, 100]⟩ : ByteArray).data.toList ((Cn.wsS s).getD 0 ByteArray.empty).data.toList), .row 701]), (701, .row 3 (.ints (((Cn.midW (Cn.splitI 32 (bytesI s))).take x0).map Cn.numN)))])) (fun x0 => (Cn.mdS s).length - x0) (0) ?_ (Ex 46 (congrArg AV.int (show 0 = (0 : Int) from (by first | rfl | omega | (simp; done)))) Eb) Hb fun i hI => ?_)))))))))
   ·
    refine ap ?_ az
    first | omega | exact id | exact vcNot | exact vcG | exact vcH | (intro _; omega) | exact (fun _ h => h) | (intro h; simp at h; omega) | (simp only [List.length_cons, List.length_nil, List.length_append, List.length_map, List.length_set, List.length_replicate]; omega) | (intro h; simp [h]; done) | exact ⟨hm1, rfl⟩ | (constructor <;> omega) | exact (show (4 : Nat) ≤ _ by omega) | (intro h; exact Cn.ws_in h) | (have h8 := hl3 _ (Cn.getD_memS (d := ByteArray.empty) (by omega)); omega) | (have h8 := hwz (by omega); omega) | exact True.intro | (intro _; exact True.intro) | (intro h; exact Cn.fit_may h) | (rw [htk]; simp only [List.length_cons, List.length_nil]; omega) | exact ⟨by omega, by omega, by omega⟩ | done
   ·
    exact ⟨Nat.zero_le _, fun j hj => by omega⟩
   ·
    try dsimp only at hI
    obtain ⟨hk, hok⟩ := hI
    have hwz := Cn.mid_size (s := s) (i := i)
    have htk := Cn.md_take (s := s) (i := i) (by omega)
    refine Sz hcx [] [47] [] [] (Zs (Zj (p := ((i : Int) < ((Cn.mdS s).length : Int))) (fun h1 => ?_) fun h1 => ?_))
    ·
     refine Zk (Ft (Zs (Zb (Sq hcx [] [7] [47] [] [((0 : Int) ≤ (i : Int) ∧ (i : Int) < ((Cn.mdS s).length : Int))] ?_ (Sq hcx [] [8, 9] [] [] [(((Cn.mdS s).getD i ByteArray.empty).size ≤ 281474976710656)] ?_ (Zs (Sq hcx [] [67] [9, 7] [] [((!((Cn.atoiV ((Cn.mdS s).getD i ByteArray.empty).data.toList).2)) = true → ((!((Cn.atoiV ((Cn.mdS s).getD i ByteArray.empty).data.toList).2)) = true)), ((!((Cn.atoiV ((Cn.mdS s).getD i ByteArray.empty).data.toList).2)) = true → (True)), ((!((Cn.atoiV ((Cn.mdS s).getD i ByteArray.empty).data.toList).2)) = true → ((!((Cn.atoiV ((Cn.mdS s).getD i ByteArray.empty).data.toList).2)) = true)), ((Cn.atoiV ((Cn.mdS s).getD i ByteArray.empty).data.toList).2 = false → (!((Cn.atoiV ((Cn.mdS s).getD i ByteArray.empty).data.toList).2)) = true), ((!(((Cn.atoiV ((Cn.mdS s).getD i ByteArray.empty).data.toList).2) || (!(Cn.mayP ((Cn.atoiV ((Cn.mdS s).getD i ByteArray.empty).data.toList).1) 65536)))) = true → ((!(((Cn.atoiV ((Cn.mdS s).getD i ByteArray.empty).data.toList).2) || (!(Cn.mayP ((Cn.atoiV ((Cn.mdS s).getD i ByteArray.empty).data.toList).1) 65536)))) = true)), ((!(((Cn.atoiV ((Cn.mdS s).getD i ByteArray.empty).data.toList).2) || (!(Cn.mayP ((Cn.atoiV ((Cn.mdS s).getD i ByteArray.empty).data.toList).1) 65536)))) = true → (Fit ((Cn.atoiV ((Cn.mdS s).getD i ByteArray.empty).data.toList).1))), ((!(((Cn.atoiV ((Cn.mdS s).getD i ByteArray.empty).data.toList).2) || (!(Cn.mayP ((Cn.atoiV ((Cn.mdS s).getD i ByteArray.empty).data.toList).1) 65536)))) = true → ((!(((Cn.atoiV ((Cn.mdS s).getD i ByteArray.empty).data.toList).2) || (!(Cn.mayP ((Cn.atoiV ((Cn.mdS s).getD i ByteArray.empty).data.toList).1) 65536)))) = true)), ((!(((Cn.atoiV ((Cn.mdS s).getD i ByteArray.empty).data.toList).2) || (!(Cn.mayP ((Cn.atoiV ((Cn.mdS s).getD i ByteArray.empty).data.toList).1) 65536)))) = true → ((!(((Cn.atoiV ((Cn.mdS s).getD i ByteArray.empty).data.toList).2) || (!(Cn.mayP ((Cn.atoiV ((Cn.mdS s).getD i ByteArray.empty).data.toList).1) 65536)))) = true)), ((((Cn.atoiV ((Cn.mdS s).getD i ByteArray.empty).data.toList).2) || (!(Cn.mayP ((Cn.atoiV ((Cn.mdS s).getD i ByteArray.empty).data.toList).1) 65536))) = false → (!(((Cn.atoiV ((Cn.mdS s).getD i ByteArray.empty).data.toList).2) || (!(Cn.mayP ((Cn.atoiV ((Cn.mdS s).getD i ByteArray.empty).data.toList).1) 65536)))) = true)] ?_ (Zi (b := (((Cn.atoiV ((Cn.mdS s).getD i ByteArray.empty).data.toList).2) || (!(Cn.mayP ((Cn.atoiV ((Cn.mdS s).getD i ByteArray.empty).data.toList).1) 65536))) || (!((strOfNums (Cn.itoaI ((Cn.atoiV ((Cn.mdS s).getD i ByteArray.empty).data.toList).1))).toList == ((Cn.mdS s).getD i ByteArray.empty).toList))) (fun h2 => ?_) fun h2 => ?_))))))))
     ·
      refine ap ?_ az
      first | omega | exact id | exact vcNot | exact vcG | exact vcH | (intro _; omega) | exact (fun _ h => h) | (intro h; simp at h; omega) | (simp only [List.length_cons, List.length_nil, List.length_append, List.length_map, List.length_set, List.length_replicate]; omega) | (intro h; simp [h]; done) | exact ⟨hm1, rfl⟩ | (constructor <;> omega) | exact (show (4 : Nat) ≤ _ by omega) | (intro h; exact Cn.ws_in h) | (have h8 := hl3 _ (Cn.getD_memS (d := ByteArray.empty) (by omega)); omega) | (have h8 := hwz (by omega); omega) | exact True.intro | (intro _; exact True.intro) | (intro h; exact Cn.fit_may h) | (rw [htk]; simp only [List.length_cons, List.length_nil]; omega) | exact ⟨by omega, by omega, by omega⟩ | done
     ·
      refine ap ?_ az
      first | omega | exact id | exact vcNot | exact vcG | exact vcH | (intro _; omega) | exact (fun _ h => h) | (intro h; simp at h; omega) | (simp only [List.length_cons, List.length_nil, List.length_append, List.length_map, List.length_set, List.length_replicate]; omega) | (intro h; simp [h]; done) | exact ⟨hm1, rfl⟩ | (constructor <;> omega) | exact (show (4 : Nat) ≤ _ by omega) | (intro h; exact Cn.ws_in h) | (have h8 := hl3 _ (Cn.getD_memS (d := ByteArray.empty) (by omega)); omega) | (have h8 := hwz (by omega); omega) | exact True.intro | (intro _; exact True.intro) | (intro h; exact Cn.fit_may h) | (rw [htk]; simp only [List.length_cons, List.length_nil]; omega) | exact ⟨by omega, by omega, by omega⟩ | done
     ·
      refine ap ?_ (ap ?_ (ap ?_ (ap (by exact vcNot) (ap ?_ (ap ?_ (ap ?_ (ap ?_ (ap (by exact vcNot) az)))))))) <;>
       first | omega | exact id | exact vcNot | exact vcG | exact vcH | (intro _; omega) | exact (fun _ h => h) | (intro h; simp at h; omega) | (simp only [List.length_cons, List.length_nil, List.length_append, List.length_map, List.length_set, List.length_replicate]; omega) | (intro h; simp [h]; done) | exact ⟨hm1, rfl⟩ | (constructor <;> omega) | exact (show (4 : Nat) ≤ _ by omega) | (intro h; exact Cn.ws_in h) | (have h8 := hl3 _ (Cn.getD_memS (d := ByteArray.empty) (by omega)); omega) | (have h8 := hwz (by omega); omega) | exact True.intro | (intro _; exact True.intro) | (intro h; exact Cn.fit_may h) | (rw [htk]; simp only [List.length_cons, List.length_nil]; omega) | exact ⟨by omega, by omega, by omega⟩ | done
     ·
      have hq := Cn.lit_no h2
      exact Zs (Zn [(602, .to 602), (701, .frz)] [67, 8, 2, 44, 45, 46] (Tz hcx [(602, .to 602)] [3] [67, 8, 44, 45, 46] [] (Ft (Zr (Fr (Fk (Fr (Fr (Fk (Fr (Rv hcx (congrArg AV.tup (consE (congrArg AV.agg (consE (congrArg AV.int (show (Lib.index (⟨#[32, 111, 108, 100]⟩ : ByteArray).data.toList ((Cn.wsS s).getD 0 ByteArray.empty).data.toList) = (Cn.lnK (bytesI s)) from (by first | exact hK | exact Cn.ln_head hH | exact Cn.lnOk_head hH | exact Cn.ln_stop hH (by omega) hok hq | exact Cn.lnOk_stop (by omega) hok hq | exact Cn.ln_all hH (by omega) hok | exact Cn.lnOk_all hH (by omega) hok | done))) (consE (congrArg AV.ints (show (((Cn.midW (Cn.splitI 32 (bytesI s))).take i).map Cn.numN) = (Cn.lnL (bytesI s)) from (by first | exact hK | exact Cn.ln_head hH | exact Cn.lnOk_head hH | exact Cn.ln_stop hH (by omega) hok hq | exact Cn.lnOk_stop (by omega) hok hq | exact Cn.ln_all hH (by omega) hok | exact Cn.lnOk_all hH (by omega) hok | done))) rfl))) (consE (congrArg AV.bool (show false = (Cn.lnOk (bytesI s)) from (by first | exact hK | exact Cn.ln_head hH | exact Cn.lnOk_head hH | exact Cn.ln_stop hH (by omega) hok hq | exact Cn.lnOk_stop (by omega) hok hq | exact Cn.ln_all hH (by omega) hok | exact Cn.lnOk_all hH (by omega) hok | done))) rfl))) [] rfl)))))))))))
     ·
      obtain ⟨hq, hqv⟩ := Cn.lit_yes h2
      refine Zk (Ft (Tq hcx [(602, .to 602), (1004, .to 701)] [] [67, 8] [701] [(((((Cn.midW (Cn.splitI 32 (bytesI s))).take i).map Cn.numN).length + [(Cn.atoiV ((Cn.mdS s).getD i ByteArray.empty).data.toList).1].length) * 8 ≤ 140737488355328)] ?_ (Fb (Ft (Tq hcx [] [46] [] [] [Fit ((i : Int) + 1)] ?_ (Lr (i + 1) ?_ ?_ (Ex 46 (congrArg AV.int (show ((i : Int) + 1) = ((i + 1) : Int) from (by first | rfl | omega | (simp; done)))) Eb) (Hx 701 (congrArg (fun x => AObj.row 3 (.ints x)) (show ((((Cn.midW (Cn.splitI 32 (bytesI s))).take i).map Cn.numN) ++ [(Cn.atoiV ((Cn.mdS s).getD i ByteArray.empty).data.toList).1]) = (((Cn.midW (Cn.splitI 32 (bytesI s))).take (i + 1)).map Cn.numN) from (by exact Cn.mid_next (by omega) hqv))) Hb)))))))
      ·
       refine ap ?_ az
       first | omega | exact id | exact vcNot | exact vcG | exact vcH | (intro _; omega) | exact (fun _ h => h) | (intro h; simp at h; omega) | (simp only [List.length_cons, List.length_nil, List.length_append, List.length_map, List.length_set, List.length_replicate]; omega) | (intro h; simp [h]; done) | exact ⟨hm1, rfl⟩ | (constructor <;> omega) | exact (show (4 : Nat) ≤ _ by omega) | (intro h; exact Cn.ws_in h) | (have h8 := hl3 _ (Cn.getD_memS (d := ByteArray.empty) (by omega)); omega) | (have h8 := hwz (by omega); omega) | exact True.intro | (intro _; exact True.intro) | (intro h; exact Cn.fit_may h) | (rw [htk]; simp only [List.length_cons, List.length_nil]; omega) | exact ⟨by omega, by omega, by omega⟩ | done
      ·
       refine ap ?_ az
       first | omega | exact id | exact vcNot | exact vcG | exact vcH | (intro _; omega) | exact (fun _ h => h) | (intro h; simp at h; omega) | (simp only [List.length_cons, List.length_nil, List.length_append, List.length_map, List.length_set, List.length_replicate]; omega) | (intro h; simp [h]; done) | exact ⟨hm1, rfl⟩ | (constructor <;> omega) | exact (show (4 : Nat) ≤ _ by omega) | (intro h; exact Cn.ws_in h) | (have h8 := hl3 _ (Cn.getD_memS (d := ByteArray.empty) (by omega)); omega) | (have h8 := hwz (by omega); omega) | exact True.intro | (intro _; exact True.intro) | (intro h; exact Cn.fit_may h) | (rw [htk]; simp only [List.length_cons, List.length_nil]; omega) | exact ⟨by omega, by omega, by omega⟩ | done
      ·
       exact ⟨by omega, fun j hj => by rcases (by omega : j < i ∨ j = i) with h | rfl; exact hok j h; exact hq⟩
      ·
       try dsimp only
       omega
    ·
     exact Ze (Fe (Fe (Fs (Ft (Zs (Zn [(602, .to 602), (701, .frz)] [47, 2, 44, 45, 46] (Tz hcx [(602, .to 602)] [3] [47, 44, 45, 46] [] (Ft (Zr (Rv hcx (congrArg AV.tup (consE (congrArg AV.agg (consE (congrArg AV.int (show (Lib.index (⟨#[32, 111, 108, 100]⟩ : ByteArray).data.toList ((Cn.wsS s).getD 0 ByteArray.empty).data.toList) = (Cn.lnK (bytesI s)) from (by first | exact hK | exact Cn.ln_head hH | exact Cn.lnOk_head hH | exact Cn.ln_stop hH (by omega) hok hq | exact Cn.lnOk_stop (by omega) hok hq | exact Cn.ln_all hH (by omega) hok | exact Cn.lnOk_all hH (by omega) hok | done))) (consE (congrArg AV.ints (show (((Cn.midW (Cn.splitI 32 (bytesI s))).take i).map Cn.numN) = (Cn.lnL (bytesI s)) from (by first | exact hK | exact Cn.ln_head hH | exact Cn.lnOk_head hH | exact Cn.ln_stop hH (by omega) hok hq | exact Cn.lnOk_stop (by omega) hok hq | exact Cn.ln_all hH (by omega) hok | exact Cn.lnOk_all hH (by omega) hok | done))) rfl))) (consE (congrArg AV.bool (show true = (Cn.lnOk (bytesI s)) from (by first | exact hK | exact Cn.ln_head hH | exact Cn.lnOk_head hH | exact Cn.ln_stop hH (by omega) hok hq | exact Cn.lnOk_stop (by omega) hok hq | exact Cn.ln_all hH (by omega) hok | exact Cn.lnOk_all hH (by omega) hok | done))) rfl))) [] rfl))))))))))
 ·
  cases hσ
def cx_pGet : Cx := ⟨tyTxt, [(58, pLine_σ), (57, sCut)], true⟩
theorem cx_pGet_ok : CxOk Tryz.prog cx_pGet := cx_ok tyTxt_ok ⟨pLine_sound, sCut_sound, trivial⟩
def pGet_σ : CtF
  | [.im (.ls (.bytes b))], [] => some (b.length ≤ 1000000 ∧ Cn.isBytes b, .tup [.lines ((Cn.getV24 b).1), .int ((Cn.getV24 b).2)], [])
  | _, _ => none
theorem pGet_sound : Sound Tryz.prog 21 pGet_σ := by
 refine Sw (cx := cx_pGet) Tryz.f21 Tryz.func21 ?_
 intro wW wO wβ G0 args os p r outs hσ hp
 have hcx := cx_pGet_ok
 unfold pGet_σ at hσ
 split at hσ
 ·
  rename_i b
  cases hσ
  refine ⟨by kernel_rfl, ?_⟩
  obtain ⟨hm1, hm2⟩ := hp
  refine Sz hcx [] [] [] [] (Zs (Sz hcx [] [12] [] [] (Zj (p := ((b.length : Int) > 4194304)) (fun h0 => ?_) fun h0 => ?_)))
  ·
   omega
  ·
   refine Zk (Ft (Sz hcx [] [4] [12] [] (Zs (Zb (Zw 4 700 43 (.lines []) (Lp (X := List Int × List (Int × List Int)) (fun x0 => x0.1.length + x0.2.length ≤ b.length ∧ Cn.isBytes x0.1 ∧ Cn.getI b x0.2 x0.1) (fun x0 => ([(0, .bytes x0.1), (4, .row 700)], [(700, .row 43 (.lines x0.2))])) (fun x0 => x0.1.length) (b, ([] : List (Int × List Int))) ?_ Eb Hb fun ⟨r, o⟩ hI => ?_))))))
   ·
    try dsimp only
    exact ⟨Nat.le_refl _, hm2, Cn.getI_0 b⟩
   ·
    try dsimp only at hI
    obtain ⟨hl, hb, hG⟩ := hI
    refine Zs (Sz hcx [] [15] [] [] (Zj (p := ((r.length : Int) > 0)) (fun h1 => ?_) fun h1 => ?_))
    ·
     have h15 := h1
     obtain ⟨hc1, hc2, hc3⟩ := Cn.cut_le r
     have hcb := Cn.cut_bytes hb
     have hsz := Cn.str_size (Cn.cutN r).1
     have hbi : (bytesI (strOfNums (Cn.cutN r).1)) = (Cn.cutN r).1 := Cn.bytesI_str hcb.1
     refine Zk (Ft (Zb (Sq hcx [] [5, 6, 7] [15, 0] [] [(0 < r.length ∧ r.length ≤ 1000000 ∧ Cn.isBytes r ∧ [10] = [(10 : Int)])] ?_ (Sq hcx [(1006, .to 608)] [8, 9] [5] [] [((strOfNums ((Cn.cutN r).1)).size ≤ 1000000)] ?_ (Zs (Sq hcx [] [34] [9, 7] [] [((!(!((Cn.cutN r).2.2))) = true → ((!(!((Cn.cutN r).2.2))) = true)), ((!((Cn.cutN r).2.2)) = false → (!(!((Cn.cutN r).2.2))) = true)] ?_ (Zi (b := (!((Cn.cutN r).2.2)) || (!(Cn.lnOk (bytesI (strOfNums ((Cn.cutN r).1)))))) (fun h2 => ?_) fun h2 => ?_)))))))
     ·
      refine ap ?_ az
      first | omega | exact id | exact vcNot | exact vcG | exact vcH | (intro _; omega) | exact (fun _ h => h) | (intro h; simp at h; omega) | (simp only [List.length_cons, List.length_nil, List.length_append, List.length_map, List.length_set, List.length_replicate]; omega) | (intro h; simp [h]; done) | (constructor <;> omega) | exact ⟨by omega, by omega, hb, rfl⟩ | (rw [hsz]; omega) | (simp only [List.length_cons, List.length_nil]; omega) | done
     ·
      refine ap ?_ az
      first | omega | exact id | exact vcNot | exact vcG | exact vcH | (intro _; omega) | exact (fun _ h => h) | (intro h; simp at h; omega) | (simp only [List.length_cons, List.length_nil, List.length_append, List.length_map, List.length_set, List.length_replicate]; omega) | (intro h; simp [h]; done) | (constructor <;> omega) | exact ⟨by omega, by omega, hb, rfl⟩ | (rw [hsz]; omega) | (simp only [List.length_cons, List.length_nil]; omega) | done
     ·
      refine ap ?_ (ap (by exact vcNot) az)
      first | omega | exact id | exact vcNot | exact vcG | exact vcH | (intro _; omega) | exact (fun _ h => h) | (intro h; simp at h; omega) | (simp only [List.length_cons, List.length_nil, List.length_append, List.length_map, List.length_set, List.length_replicate]; omega) | (intro h; simp [h]; done) | (constructor <;> omega) | exact ⟨by omega, by omega, hb, rfl⟩ | (rw [hsz]; omega) | (simp only [List.length_cons, List.length_nil]; omega) | done
     ·
      have h34 := Cn.cg_no h2
      rw [hbi] at h34
      have hg := Cn.getI_no hG (by omega) h34
      exact Sz hcx [] [2, 3] [34, 8, 6, 4] [608, 700] (Zr (Fr (Fk (Fr (Fk (Fr (Fp 2 (.lines []) (Rv hcx (congrArg AV.tup (consE (congrArg AV.lines (show [] = (Cn.getV24 b).1 from (by first | (rw [hg]; done) | (rw [hge]; done) | done))) (consE (congrArg AV.int (show 11 = (Cn.getV24 b).2 from (by first | (rw [hg]; done) | (rw [hge]; done) | done))) rfl))) [] rfl))))))))
     ·
      have h34 := Cn.cg_yes h2
      rw [hbi] at h34
      have hlt := (Cn.cut_lt (Cn.cg_1 h34)).1
      refine Zk (Ft (Tq hcx [(1003, .to 700)] [0, 4] [34, 8, 6] [608, 700] [((o.length + [((Cn.lnK (bytesI (strOfNums ((Cn.cutN r).1)))), (Cn.lnL (bytesI (strOfNums ((Cn.cutN r).1)))))].length) * 32 ≤ 140737488355328)] ?_ (Fb (Lr ((Cn.cutN r).2.1, (o ++ [(Cn.lnK (bytesI (strOfNums (Cn.cutN r).1)), Cn.lnL (bytesI (strOfNums (Cn.cutN r).1)))])) ?_ ?_ Eb Hb))))
      ·
       refine ap ?_ az
       first | omega | exact id | exact vcNot | exact vcG | exact vcH | (intro _; omega) | exact (fun _ h => h) | (intro h; simp at h; omega) | (simp only [List.length_cons, List.length_nil, List.length_append, List.length_map, List.length_set, List.length_replicate]; omega) | (intro h; simp [h]; done) | (constructor <;> omega) | exact ⟨by omega, by omega, hb, rfl⟩ | (rw [hsz]; omega) | (simp only [List.length_cons, List.length_nil]; omega) | done
      ·
       try dsimp only
       exact ⟨by simp only [List.length_append, List.length_cons, List.length_nil]; omega, hcb.2, by rw [hbi]; exact Cn.getI_next hG (by omega) h34⟩
      ·
       show ((Cn.cutN r).2.1).length < r.length
       omega
    ·
     have h15 := h1
     have hge := Cn.getI_end hG (by omega)
     refine Ze (Fe (Fe (Fs (Ft (Zs (Sz hcx [] [42] [15, 0] [] (Zj (p := ((o.length : Int) > 65536)) (fun h3 => ?_) fun h3 => ?_)))))))
     ·
      rw [if_pos (by omega)] at hge
      exact Sz hcx [] [2, 3] [42, 4] [700] (Zr (Fr (Fp 2 (.lines []) (Rv hcx (congrArg AV.tup (consE (congrArg AV.lines (show [] = (Cn.getV24 b).1 from (by first | (rw [hg]; done) | (rw [hge]; done) | done))) (consE (congrArg AV.int (show 2 = (Cn.getV24 b).2 from (by first | (rw [hg]; done) | (rw [hge]; done) | done))) rfl))) [] rfl))))
     ·
      rw [if_neg (by omega)] at hge
      exact Zk (Ft (Zs (Zn [(700, .frz)] [42, 4] (Tz hcx [] [2, 3] [42, 4] [] (Ft (Zr (Rv hcx (congrArg AV.tup (consE (congrArg AV.lines (show o = (Cn.getV24 b).1 from (by first | (rw [hg]; done) | (rw [hge]; done) | done))) (consE (congrArg AV.int (show 0 = (Cn.getV24 b).2 from (by first | (rw [hg]; done) | (rw [hge]; done) | done))) rfl))) [] rfl)))))))
 ·
  cases hσ
end Go.Proofs.YtbpbndlgfiammaaGreatDoor.En
namespace Go.Proofs.YtbpbndlgfiammaaGreatDoor.En
open Go Go.RowKit
def tyLv24 : List (Nat × TD) := [(3, ⟨1, false, [.int .i64 0], [], none, 8, false, 1, 1⟩),
  (4, ⟨1, false, [.bool false], [], none, 1, true, 0, 2⟩),
  (5, ⟨1, false, [.int .u8 0], [], none, 1, false, 2, 8⟩),
  (9, ⟨1, false, [.string ⟨#[]⟩], [], none, 16, false, 9, 9⟩),
  (22, ⟨1, false, [.slice none 0 0], [], some 23, 24, false, 0, 50⟩),
  (23, ⟨1, false, [.slice none 0 0], [], some 3, 24, false, 0, 3⟩),
  (28, ⟨2, true, [.int .i64 0, .slice none 0 0], [(0, 3), (1, 22)], none, 32, false, 0, 6⟩),
  (29, ⟨1, false, [.slice none 0 0], [], some 43, 24, false, 0, 0⟩),
  (31, ⟨1, false, [.int .i64 0], [], none, 8, false, 1, 1⟩),
  (34, ⟨1, false, [.slice none 0 0], [], some 5, 24, false, 0, 0⟩),
  (43, ⟨2, true, [.int .i64 0, .slice none 0 0], [(0, 3), (1, 23)], none, 32, false, 0, 7⟩),
  (45, ⟨1, false, [.slice none 0 0], [], some 4, 24, false, 0, 0⟩)]
theorem tyLv24_ok : AllTy Tryz.prog tyLv24 := ⟨⟨by kernel_rfl, by kernel_rfl, by kernel_rfl⟩, ⟨by kernel_rfl, by kernel_rfl, by kernel_rfl⟩, ⟨by kernel_rfl, by kernel_rfl, by kernel_rfl⟩, ⟨by kernel_rfl, by kernel_rfl, by kernel_rfl⟩, ⟨by kernel_rfl, by kernel_rfl, by kernel_rfl⟩, ⟨by kernel_rfl, by kernel_rfl, by kernel_rfl⟩, ⟨by kernel_rfl, by kernel_rfl, by kernel_rfl⟩, ⟨by kernel_rfl, by kernel_rfl, by kernel_rfl⟩, ⟨by kernel_rfl, by kernel_rfl, by kernel_rfl⟩, ⟨by kernel_rfl, by kernel_rfl, by kernel_rfl⟩, ⟨by kernel_rfl, by kernel_rfl, by kernel_rfl⟩, ⟨by kernel_rfl, by kernel_rfl, by kernel_rfl⟩, trivial⟩
def cx_lFour : Cx := ⟨tyLv24, [], true⟩
theorem cx_lFour_ok : CxOk Tryz.prog cx_lFour := cx_ok tyLv24_ok trivial
def lFour_σ : CtF
  | [], [] => some (True, .row 0, [some (.row 23 (.intss Cn.four4))])
  | _, _ => none
theorem lFour_sound : Sound Tryz.prog 34 lFour_σ := by
 refine Sw (cx := cx_lFour) Tryz.f34 Tryz.func34 ?_
 intro wW wO wβ G0 args os p r outs hσ hp
 have hcx := cx_lFour_ok
 unfold lFour_σ at hσ
 split at hσ
 ·
  cases hσ
  refine ⟨by kernel_rfl, ?_⟩
  exact Sz hcx [] [] [] [] (Sz hcx [(1004, .to 205)] [0] [] [] (Zr (Fn [(205, .to 0)] [0] (Rv hcx rfl [true] (consO (congrArg some (congrArg (fun x => AObj.row 23 (.intss x)) (show [[1, 2], [(-1), 2], [1, (-2)], [(-1), (-2)]] = Cn.four4 from (by rfl)))) rfl)))))
 ·
  cases hσ
def cx_lGiven : Cx := ⟨tyLv24, [], true⟩
theorem cx_lGiven_ok : CxOk Tryz.prog cx_lGiven := cx_ok tyLv24_ok trivial
def lGiven_σ : CtF
  | [.row 0], [.row 23 (.intss c)] => some (c.length ≤ 1000000, .row 1, [some (.row 23 (.intss c)), some (.row 43 (.lines (c.map fun l => ((1 : Int), l))))])
  | _, _ => none
theorem lGiven_sound : Sound Tryz.prog 35 lGiven_σ := by
 refine Sw (cx := cx_lGiven) Tryz.f35 Tryz.func35 ?_
 intro wW wO wβ G0 args os p r outs hσ hp
 have hcx := cx_lGiven_ok
 unfold lGiven_σ at hσ
 split at hσ
 ·
  rename_i c
  cases hσ
  refine ⟨by kernel_rfl, ?_⟩
  have hm1 := hp
  refine Sz hcx [] [] [] [] (Sz hcx [] [3] [] [] (Zs (Sz hcx [] [6, 7, 8] [0] [] (Zb (Zw 3 700 43 (.lines []) (Zn [(0, .to 0), (700, .to 700)] [3, 6, 7, 8] (Lp (X := Nat) (fun x0 => x0 ≤ c.length) (fun x0 => ([(3, .row 700), (6, .row 0), (7, .int (c.length : Int)), (8, .int (x0 : Int))], [(0, .row 23 (.intss c)), (700, .row 43 (.lines ((c.take x0).map fun l => ((1 : Int), l))))])) (fun x0 => c.length - x0) (0) ?_ (Ex 8 (congrArg AV.int (show 0 = (0 : Int) from (by first | rfl | omega | (simp; done)))) Eb) Hb fun i hI => ?_)))))))
  ·
   show 0 ≤ c.length
   omega
  ·
   replace hI : i ≤ c.length := hI
   refine Sz hcx [] [9] [] [] (Zs (Zj (p := ((i : Int) < (c.length : Int))) (fun h0 => ?_) fun h0 => ?_))
   ·
    refine Zk (Ft (Zs (Zb (Sq hcx [] [5] [9] [] [((0 : Int) ≤ (i : Int) ∧ (i : Int) < (c.length : Int)), (i < c.length)] ?_ (Tq hcx [(1004, .to 700)] [3] [5] [700] [((((c.take i).map fun l => ((1 : Int), l)).length + [(1, (c.getD i []))].length) * 32 ≤ 140737488355328)] ?_ (Fb (Ft (Tq hcx [] [8] [] [] [Fit ((i : Int) + 1)] ?_ (Fn [(0, .to 0), (700, .to 700)] [3, 6, 7, 8] (Lr (i + 1) ?_ ?_ (Ex 8 (congrArg AV.int (show ((i : Int) + 1) = ((i + 1) : Int) from (by first | rfl | omega | (simp; done)))) Eb) (Hx 700 (congrArg (fun x => AObj.row 43 (.lines x)) (show (((c.take i).map fun l => ((1 : Int), l)) ++ [(1, (c.getD i []))]) = ((c.take (i + 1)).map fun l => ((1 : Int), l)) from (by exact Cn.given_next (by omega)))) Hb)))))))))))
    ·
     refine ap ?_ (ap ?_ az) <;>
      first | omega | exact id | exact vcNot | exact vcG | exact vcH | (intro _; omega) | exact (fun _ h => h) | (intro h; simp at h; omega) | (simp only [List.length_cons, List.length_nil, List.length_append, List.length_map, List.length_set, List.length_replicate]; omega) | (intro h; simp [h]; done) | (simp only [List.length_cons, List.length_nil, List.length_map, List.length_take]; omega) | done
    ·
     refine ap ?_ az
     first | omega | exact id | exact vcNot | exact vcG | exact vcH | (intro _; omega) | exact (fun _ h => h) | (intro h; simp at h; omega) | (simp only [List.length_cons, List.length_nil, List.length_append, List.length_map, List.length_set, List.length_replicate]; omega) | (intro h; simp [h]; done) | (simp only [List.length_cons, List.length_nil, List.length_map, List.length_take]; omega) | done
    ·
     refine ap ?_ az
     first | omega | exact id | exact vcNot | exact vcG | exact vcH | (intro _; omega) | exact (fun _ h => h) | (intro h; simp at h; omega) | (simp only [List.length_cons, List.length_nil, List.length_append, List.length_map, List.length_set, List.length_replicate]; omega) | (intro h; simp [h]; done) | (simp only [List.length_cons, List.length_nil, List.length_map, List.length_take]; omega) | done
    ·
     show (i + 1) ≤ c.length
     omega
    ·
     show c.length - (i + 1) < c.length - i
     omega
   ·
    exact Ze (Fe (Fe (Fs (Ft (Sz hcx [] [2] [9, 3, 6, 7, 8] [] (Zr (Fn [(0, .to 0), (700, .to 1)] [2] (Rv hcx rfl [true, true] (consO rfl (consO (congrArg some (congrArg (fun x => AObj.row 43 (.lines x)) (show ((c.take i).map fun l => ((1 : Int), l)) = (c.map fun l => ((1 : Int), l)) from (by (rw [show i = c.length by omega, List.take_length]))))) rfl))))))))))
 ·
  cases hσ
attribute [local irreducible] Cn.flwV Cn.chkC Cn.putV Cn.getV24 Cn.frmV
abbrev lvC1 : Bool := ((Cn.flwV ((Cn.four4.take 2).drop 0) [2]) && (!(Cn.flwV Cn.four4 ([] : List (Int)))))
abbrev lvC2 : Bool := (lvC1 && (Cn.flwV (Cn.four4 ++ [[2]]) ([] : List (Int))))
abbrev lvC3 : Bool := (lvC2 && ((Cn.chkC (2 : Int) Cn.four4 ((Cn.four4.map fun l => ((1 : Int), l)) ++ [(2, [2])]) ([] : List (Int))) == 0))
abbrev lvC4 : Bool := (lvC3 && ((Cn.chkC (2 : Int) Cn.four4 ((((Cn.four4.map fun l => ((1 : Int), l)) ++ [(2, [2])]).take 4).drop 0) ([] : List (Int))) == 250))
abbrev lvC5 : Bool := (lvC4 && ((strOfNums (Cn.putV [(1, [1, (-2)])])).toList == (⟨#[111, 32, 49, 32, 45, 50, 32, 48, 10]⟩ : ByteArray).toList))
abbrev lvC6 : Bool := (lvC5 && ((Cn.frmV [(1, [1, (-2)])]) == 0))
abbrev lvC7 : Bool := (lvC6 && ((((Cn.getV24 (Cn.putV [(1, [1, (-2)])])).1).length : Int) == 1))
def cx_live24 : Cx := ⟨tyLv24, [(14, (coeF [.ld (.intss []), .ld (.ints [])] pFlw_σ)), (17, (coeF [.agg [.id, .ld (.intss [])], .ld (.lines []), .ld (.ints [])] pCheck_σ)), (19, (coeF [.ld (.lines [])] pPut_σ)), (21, (coeF [.ld (.bytes [])] pGet_σ)), (34, lFour_σ), (35, lGiven_σ)], true⟩
theorem cx_live24_ok : CxOk Tryz.prog cx_live24 := cx_ok tyLv24_ok ⟨(pFlw_sound.coe [.ld (.intss []), .ld (.ints [])] rfl), (pCheck_sound.coe [.agg [.id, .ld (.intss [])], .ld (.lines []), .ld (.ints [])] rfl), (pPut_sound.coe [.ld (.lines [])] rfl), (pGet_sound.coe [.ld (.bytes [])] rfl), lFour_sound, lGiven_sound, trivial⟩
def live24_σ : CtF
  | [], [] => some (True, .bool true, [])
  | _, _ => none
theorem live24_sound : Sound Tryz.prog 12 live24_σ := by
 refine Sw (cx := cx_live24) Tryz.f12 Tryz.func12 ?_
 intro wW wO wβ G0 args os p r outs hσ hp
 have hcx := cx_live24_ok
 have hmx : Tryz.prog.follows .mixedOrders = true := by kernel_rfl
 unfold live24_σ at hσ
 split at hσ
 ·
  cases hσ
  refine ⟨by kernel_rfl, ?_⟩
  have h1 := Cn.lv24_1
  have h2 := Cn.lv24_2
  have h3 := Cn.lv24_3
  have h4 := Cn.lv24_4
  have h5 := Cn.lv24_5
  have h6 := Cn.lv24_6
  have h7 := Cn.lv24_7
  have h8 := Cn.lv24_8
  refine Sz hcx [] [] [] [] (Sq hcx [(1000, .to 207), (1002, .to 601)] [1] [] [] [(True)] ?_ (Sq hcx [(1005, .to 214)] [2] [] [] [(True), (Cn.four4.length ≤ 1000000), (((Cn.four4.map fun l => ((1 : Int), l)).length + [(2, [2])].length) * 32 ≤ 140737488355328)] ?_ (Zs (Zn [(601, .to 601), (207, .frz), (214, .frz)] [2, 1] (Tq hcx [] [3, 4] [] [] [(Cn.szP [(1, [1, (-2)])] ≤ 1000000000)] ?_ (Ft (Sq hcx [] [5, 6] [] [] [((Cn.putV [(1, [1, (-2)])]).length ≤ 1000000 ∧ Cn.isBytes (Cn.putV [(1, [1, (-2)])]))] ?_ (Sd hcx hmx [0, 1, 0, 7, 15, 31, 63, 127, 255, 511, 1023, 1023, 3071, 8191, 16383, 32767, 65535, 131071, 131071, 524287, 1048575, 2097151, 4194303, 8388607, 8388607, 25165823, 67108863, 134217727, 268435455, 536870911, 1073741823, 2147483647, 4294967295, 8589934591, 17179869183, 34359738367, 68719476735, 137438953471, 274877906943, 549755813887, 1099511627775, 2199023255551, 4398046511103, 8796093022207, 17592186044415, 35184372088831, 70368744177663, 140737488355327] [] [0] [5, 6, 3, 4, 2, 1] [601] [(True), ((0 : Int) ≤ 2 ∧ 2 ≤ (Cn.four4.length : Int)), (((Cn.four4.take 2).drop 0).length ≤ 1000000000 ∧ (∀ x ∈ ((Cn.four4.take 2).drop 0), x.length ≤ maxLen) ∧ [2].length ≤ maxLen), ((Cn.flwV ((Cn.four4.take 2).drop 0) [2]) = true), (True), ((Cn.flwV ((Cn.four4.take 2).drop 0) [2]) = true → (Cn.four4.length ≤ 1000000000 ∧ (∀ x ∈ Cn.four4, x.length ≤ maxLen) ∧ ([] : List (Int)).length ≤ maxLen)), ((Cn.flwV ((Cn.four4.take 2).drop 0) [2]) = true → ((Cn.flwV ((Cn.four4.take 2).drop 0) [2]) = true)), ((Cn.flwV ((Cn.four4.take 2).drop 0) [2]) = true → (Cn.flwV ((Cn.four4.take 2).drop 0) [2]) = true), (lvC1 = true), (True), (lvC1 = true), (lvC1 = true), (lvC1 = true), ((Cn.four4.length + [[2]].length) * 24 ≤ 140737488355328), (lvC1 = true → ((Cn.four4 ++ [[2]]).length ≤ 1000000000 ∧ (∀ x ∈ (Cn.four4 ++ [[2]]), x.length ≤ maxLen) ∧ ([] : List (Int)).length ≤ maxLen)), (lvC1 = true → lvC1 = true), (lvC2 = true → (lvC2 = true)), (lvC2 = true → (lvC2 = true)), (lvC2 = true → (Cn.four4.length ≤ maxLen ∧ (∀ x ∈ Cn.four4, x.length ≤ 1000000000000) ∧ ((Cn.four4.map fun l => ((1 : Int), l)) ++ [(2, [2])]).length ≤ maxLen ∧ (∀ x ∈ ((Cn.four4.map fun l => ((1 : Int), l)) ++ [(2, [2])]), x.2.length ≤ 1000000000000) ∧ ([] : List (Int)).length ≤ 1000000000000)), (lvC2 = true → (lvC2 = true)), (lvC2 = true → lvC2 = true), (lvC3 = true → (lvC3 = true)), (lvC3 = true → ((0 : Int) ≤ 4 ∧ 4 ≤ (((Cn.four4.map fun l => ((1 : Int), l)) ++ [(2, [2])]).length : Int))), (lvC3 = true → (lvC3 = true)), (lvC3 = true → (lvC3 = true)), (lvC3 = true → (Cn.four4.length ≤ maxLen ∧ (∀ x ∈ Cn.four4, x.length ≤ 1000000000000) ∧ ((((Cn.four4.map fun l => ((1 : Int), l)) ++ [(2, [2])]).take 4).drop 0).length ≤ maxLen ∧ (∀ x ∈ ((((Cn.four4.map fun l => ((1 : Int), l)) ++ [(2, [2])]).take 4).drop 0), x.2.length ≤ 1000000000000) ∧ ([] : List (Int)).length ≤ 1000000000000)), (lvC3 = true → (lvC3 = true)), (lvC3 = true → lvC3 = true), (lvC4 = true → (lvC4 = true)), (lvC4 = true → (lvC4 = true)), (lvC4 = true → lvC4 = true), (lvC5 = true → (lvC5 = true)), (lvC5 = true → lvC5 = true), (lvC6 = true → (lvC6 = true)), (lvC6 = true → (lvC6 = true)), (lvC6 = true → lvC6 = true), (lvC7 = true → (lvC7 = true)), (lvC7 = true → lvC7 = true)] ?_ (Zr (Rv hcx (congrArg AV.bool (show (lvC7 && (((Cn.getV24 (Cn.putV [(1, [1, (-2)])])).2) == 0)) = true from (by (simp only [lvC1, lvC2, lvC3, lvC4, lvC5, lvC6, lvC7, h1, h2, h3, h4, h5, h6, h7, h8, Cn.str24]; decide)))) [] rfl))))))))))
  ·
   refine ap ?_ az
   first | exact True.intro | exact (fun h => h) | exact (fun h => (Bool.and_eq_true_iff.1 h).1) | (rw [h7]; exact ⟨by decide, by unfold Cn.isBytes; decide⟩) | (simp only [h1]; done) | (simp only [lvC1, lvC2, lvC3, lvC4, lvC5, lvC6, lvC7, h1, h2, h3, h4, h5, h6]; decide) | decide | (intro _; exact True.intro) | (intro _; rw [h7]; decide) | (intro _; decide) | done
  ·
   refine ap ?_ (ap ?_ (ap ?_ az)) <;>
    first | exact True.intro | exact (fun h => h) | exact (fun h => (Bool.and_eq_true_iff.1 h).1) | (rw [h7]; exact ⟨by decide, by unfold Cn.isBytes; decide⟩) | (simp only [h1]; done) | (simp only [lvC1, lvC2, lvC3, lvC4, lvC5, lvC6, lvC7, h1, h2, h3, h4, h5, h6]; decide) | decide | (intro _; exact True.intro) | (intro _; rw [h7]; decide) | (intro _; decide) | done
  ·
   refine ap ?_ az
   first | exact True.intro | exact (fun h => h) | exact (fun h => (Bool.and_eq_true_iff.1 h).1) | (rw [h7]; exact ⟨by decide, by unfold Cn.isBytes; decide⟩) | (simp only [h1]; done) | (simp only [lvC1, lvC2, lvC3, lvC4, lvC5, lvC6, lvC7, h1, h2, h3, h4, h5, h6]; decide) | decide | (intro _; exact True.intro) | (intro _; rw [h7]; decide) | (intro _; decide) | done
  ·
   refine ap ?_ az
   first | exact True.intro | exact (fun h => h) | exact (fun h => (Bool.and_eq_true_iff.1 h).1) | (rw [h7]; exact ⟨by decide, by unfold Cn.isBytes; decide⟩) | (simp only [h1]; done) | (simp only [lvC1, lvC2, lvC3, lvC4, lvC5, lvC6, lvC7, h1, h2, h3, h4, h5, h6]; decide) | decide | (intro _; exact True.intro) | (intro _; rw [h7]; decide) | (intro _; decide) | done
  ·
   refine ap ?_ (ap ?_ (ap ?_ (ap ?_ (ap ?_ (ap ?_ (ap ?_ (ap (by exact id) (ap ?_ (ap ?_ (ap ?_ (ap ?_ (ap ?_ (ap ?_ (ap ?_ (ap (by exact id) (ap ?_ (ap ?_ (ap ?_ (ap ?_ (ap (by exact id) (ap ?_ (ap ?_ (ap ?_ (ap ?_ (ap ?_ (ap ?_ (ap (by exact id) (ap ?_ (ap ?_ (ap (by exact id) (ap ?_ (ap (by exact id) (ap ?_ (ap ?_ (ap (by exact id) (ap ?_ (ap (by exact id) az))))))))))))))))))))))))))))))))))))) <;>
    first | exact True.intro | exact (fun h => h) | exact (fun h => (Bool.and_eq_true_iff.1 h).1) | (rw [h7]; exact ⟨by decide, by unfold Cn.isBytes; decide⟩) | (simp only [h1]; done) | (simp only [lvC1, lvC2, lvC3, lvC4, lvC5, lvC6, lvC7, h1, h2, h3, h4, h5, h6]; decide) | decide | (intro _; exact True.intro) | (intro _; rw [h7]; decide) | (intro _; decide) | done
 ·
  cases hσ
end Go.Proofs.YtbpbndlgfiammaaGreatDoor.En
