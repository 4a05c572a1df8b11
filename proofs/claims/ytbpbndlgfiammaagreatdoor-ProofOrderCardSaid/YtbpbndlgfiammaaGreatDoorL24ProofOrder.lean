/- The law ProofOrder. -/
import Derived.Test.YtbpbndlgfiammaaGreatDoorLive24S
import Derived.Test.YtbpbndlgfiammaaGreatDoorRef24A
import Derived.Test.YtbpbndlgfiammaaGreatDoorLaw24P
namespace Go.Proofs.YtbpbndlgfiammaaGreatDoor.En
open Go Go.RowKit
set_option linter.unusedVariables false
set_option linter.unusedSimpArgs false
set_option linter.unnecessarySimpa false
def tyL24ProofOrder : List (Nat × TD) := [(3, ⟨1, false, [.int .i64 0], [], none, 8, false, 1, 1⟩),
  (22, ⟨1, false, [.slice none 0 0], [], some 23, 24, false, 0, 0⟩),
  (23, ⟨1, false, [.slice none 0 0], [], some 3, 24, false, 0, 3⟩),
  (28, ⟨2, true, [.int .i64 0, .slice none 0 0], [(0, 3), (1, 22)], none, 32, false, 0, 6⟩),
  (29, ⟨1, false, [.slice none 0 0], [], some 43, 24, false, 0, 0⟩),
  (31, ⟨1, false, [.int .i64 0], [], none, 8, false, 1, 1⟩),
  (43, ⟨2, true, [.int .i64 0, .slice none 0 0], [(0, 3), (1, 23)], none, 32, false, 0, 7⟩)]
theorem tyL24ProofOrder_ok : AllTy Tryz.prog tyL24ProofOrder := ⟨⟨by kernel_rfl, by kernel_rfl, by kernel_rfl⟩, ⟨by kernel_rfl, by kernel_rfl, by kernel_rfl⟩, ⟨by kernel_rfl, by kernel_rfl, by kernel_rfl⟩, ⟨by kernel_rfl, by kernel_rfl, by kernel_rfl⟩, ⟨by kernel_rfl, by kernel_rfl, by kernel_rfl⟩, ⟨by kernel_rfl, by kernel_rfl, by kernel_rfl⟩, ⟨by kernel_rfl, by kernel_rfl, by kernel_rfl⟩, trivial⟩
def cx_lProofOrder : Cx := ⟨tyL24ProofOrder, [(13, (coeF [.ld (.intss []), .id] rFewC_σ)), (16, (coeF [.ld (.lines []), .id] rFewL_σ)), (17, (coeF [.agg [.id, .ld (.intss [])], .ld (.lines []), .ld (.ints [])] pCheck_σ)), (12, live24_σ)], true⟩
theorem cx_lProofOrder_ok : CxOk Tryz.prog cx_lProofOrder := cx_ok tyL24ProofOrder_ok ⟨(rFewC_sound.coe [.ld (.intss []), .id] rfl), (rFewL_sound.coe [.ld (.lines []), .id] rfl), (pCheck_sound.coe [.agg [.id, .ld (.intss [])], .ld (.lines []), .ld (.ints [])] rfl), live24_sound, trivial⟩
def lProofOrder_σ : CtF
  | [.agg [.im (.val (.int .i64 N)), .im (.ls (.intss L))], .im (.ls (.lines p)), .im (.ls (.ints core)), .im (.val (.int .i64 at_)), .im (.val (.int .i64 n))], [] => some ((L.length ≤ maxLen ∧ (∀ x ∈ L, x.length ≤ 17592186043904)) ∧ (p.length ≤ maxLen ∧ (∀ x ∈ p, x.2.length ≤ 17592186043904)) ∧ core.length ≤ maxLen ∧ Fit at_ ∧ Fit n, .bool true, [])
  | _, _ => none
theorem lProofOrder_sound : Sound Tryz.prog 7 lProofOrder_σ := by
 refine sound_mk (cx := cx_lProofOrder) (fn := Tryz.f7) Tryz.func7 (by kernel_rfl) rfl ?_
 intro w0 G0 args os p r outs hσ hp hm0 hd0
 have hcx : CxOk Tryz.prog cx_lProofOrder := cx_lProofOrder_ok
 have hmx : Tryz.prog.follows .mixedOrders = true := by kernel_rfl
 unfold lProofOrder_σ at hσ
 split at hσ
 ·
  rename_i N L p core at_ n
  simp only [Option.some.injEq, Prod.mk.injEq] at hσ
  obtain ⟨rfl, rfl, rfl⟩ := hσ
  obtain ⟨wW, wO, wm, wβ, wd⟩ := w0
  replace hm0 : wm = 0 := hm0
  subst hm0
  replace hd0 : wd = [] := hd0
  subst hd0
  refine ⟨by kernel_rfl, ?_⟩
  change Tri ⟨_, _, _, _, _, _⟩ [(0, .agg [.int N, .intss L]), (1, .lines p), (2, .ints core), (3, .int at_), (4, .int n)] [] _ _
  obtain ⟨⟨hL, hLm⟩, ⟨hP, hPm⟩, hC, hat, hn⟩ := hp
  have hL9 := hL
  have hP9 := hP
  have hC9 := hC
  unfold maxLen at hL9 hP9 hC9
  refine tri_seq ?_
  refine tri_regD hcx [(1000, .frz)] [5] [1, 2, 3, 4] [] [] [(5, .pto [.int N, .ls (.intss L)])] [] (by kernel_rfl) ?_ ?_
  ·
   exact az
  refine fin_then ?_
  refine tri_seq ?_
  refine tri_seq ?_
  refine tri_regD hcx [] [16] [5, 1, 2, 3, 4] [] [(True)] [(16, .bool (!true))] [] (by kernel_rfl) ?_ ?_
  ·
   refine (ap ?_ az)
   exact True.intro
  refine fin_then ?_
  refine tri_cond (b := (!true)) (by kernel_rfl) (fun hb0 => ?_) (fun hb0 => ?_)
  ·
   skip
   have h0 := hb0
   cases h0
  ·
   skip
   have h0 := (notB_f hb0)
   refine tri_skip ?_
   refine fin_then ?_
   refine tri_seq ?_
   refine tri_seq ?_
   refine tri_regD hcx [] [58] [5, 1, 2, 3, 4] [] [(L.length ≤ maxLen ∧ (∀ x ∈ L, x.length ≤ 17592186043904) ∧ 0 ≤ (40 : Int) ∧ (40 : Int) ≤ 1000), ((!(!(Cn.fewC L (40 : Int)))) = true → ((!(!(Cn.fewC L (40 : Int)))) = true)), ((!(!(Cn.fewC L (40 : Int)))) = true → (p.length ≤ maxLen ∧ (∀ x ∈ p, x.2.length ≤ 17592186043904) ∧ 0 ≤ (40 : Int) ∧ (40 : Int) ≤ 1000)), ((!(!(Cn.fewC L (40 : Int)))) = true → ((!(!(Cn.fewC L (40 : Int)))) = true)), ((!(Cn.fewC L (40 : Int))) = false → (!(!(Cn.fewC L (40 : Int)))) = true), ((!((!(Cn.fewC L (40 : Int))) || (!(Cn.fewL p (40 : Int))))) = true → ((!((!(Cn.fewC L (40 : Int))) || (!(Cn.fewL p (40 : Int))))) = true)), ((!((!(Cn.fewC L (40 : Int))) || (!(Cn.fewL p (40 : Int))))) = true → ((!((!(Cn.fewC L (40 : Int))) || (!(Cn.fewL p (40 : Int))))) = true)), (((!(Cn.fewC L (40 : Int))) || (!(Cn.fewL p (40 : Int)))) = false → (!((!(Cn.fewC L (40 : Int))) || (!(Cn.fewL p (40 : Int))))) = true), ((!(((!(Cn.fewC L (40 : Int))) || (!(Cn.fewL p (40 : Int)))) || (decide ((core.length : Int) > 20)))) = true → ((!(((!(Cn.fewC L (40 : Int))) || (!(Cn.fewL p (40 : Int)))) || (decide ((core.length : Int) > 20)))) = true)), ((!(((!(Cn.fewC L (40 : Int))) || (!(Cn.fewL p (40 : Int)))) || (decide ((core.length : Int) > 20)))) = true → ((!(((!(Cn.fewC L (40 : Int))) || (!(Cn.fewL p (40 : Int)))) || (decide ((core.length : Int) > 20)))) = true)), ((!(((!(Cn.fewC L (40 : Int))) || (!(Cn.fewL p (40 : Int)))) || (decide ((core.length : Int) > 20)))) = true → ((!(((!(Cn.fewC L (40 : Int))) || (!(Cn.fewL p (40 : Int)))) || (decide ((core.length : Int) > 20)))) = true)), ((!(((!(Cn.fewC L (40 : Int))) || (!(Cn.fewL p (40 : Int)))) || (decide ((core.length : Int) > 20)))) = true → (L.length ≤ maxLen ∧ (∀ x ∈ L, x.length ≤ 1000000000000) ∧ p.length ≤ maxLen ∧ (∀ x ∈ p, x.2.length ≤ 1000000000000) ∧ core.length ≤ 1000000000000)), ((!(((!(Cn.fewC L (40 : Int))) || (!(Cn.fewL p (40 : Int)))) || (decide ((core.length : Int) > 20)))) = true → ((!(((!(Cn.fewC L (40 : Int))) || (!(Cn.fewL p (40 : Int)))) || (decide ((core.length : Int) > 20)))) = true)), ((((!(Cn.fewC L (40 : Int))) || (!(Cn.fewL p (40 : Int)))) || (decide ((core.length : Int) > 20))) = false → (!(((!(Cn.fewC L (40 : Int))) || (!(Cn.fewL p (40 : Int)))) || (decide ((core.length : Int) > 20)))) = true), ((!((((!(Cn.fewC L (40 : Int))) || (!(Cn.fewL p (40 : Int)))) || (decide ((core.length : Int) > 20))) || ((Cn.chkC N L p core) != 0))) = true → ((!((((!(Cn.fewC L (40 : Int))) || (!(Cn.fewL p (40 : Int)))) || (decide ((core.length : Int) > 20))) || ((Cn.chkC N L p core) != 0))) = true)), (((((!(Cn.fewC L (40 : Int))) || (!(Cn.fewL p (40 : Int)))) || (decide ((core.length : Int) > 20))) || ((Cn.chkC N L p core) != 0)) = false → (!((((!(Cn.fewC L (40 : Int))) || (!(Cn.fewL p (40 : Int)))) || (decide ((core.length : Int) > 20))) || ((Cn.chkC N L p core) != 0))) = true), ((!(((((!(Cn.fewC L (40 : Int))) || (!(Cn.fewL p (40 : Int)))) || (decide ((core.length : Int) > 20))) || ((Cn.chkC N L p core) != 0)) || (decide (at_ < 0)))) = true → ((!(((((!(Cn.fewC L (40 : Int))) || (!(Cn.fewL p (40 : Int)))) || (decide ((core.length : Int) > 20))) || ((Cn.chkC N L p core) != 0)) || (decide (at_ < 0)))) = true)), ((!(((((!(Cn.fewC L (40 : Int))) || (!(Cn.fewL p (40 : Int)))) || (decide ((core.length : Int) > 20))) || ((Cn.chkC N L p core) != 0)) || (decide (at_ < 0)))) = true → ((!(((((!(Cn.fewC L (40 : Int))) || (!(Cn.fewL p (40 : Int)))) || (decide ((core.length : Int) > 20))) || ((Cn.chkC N L p core) != 0)) || (decide (at_ < 0)))) = true)), ((!(((((!(Cn.fewC L (40 : Int))) || (!(Cn.fewL p (40 : Int)))) || (decide ((core.length : Int) > 20))) || ((Cn.chkC N L p core) != 0)) || (decide (at_ < 0)))) = true → ((!(((((!(Cn.fewC L (40 : Int))) || (!(Cn.fewL p (40 : Int)))) || (decide ((core.length : Int) > 20))) || ((Cn.chkC N L p core) != 0)) || (decide (at_ < 0)))) = true)), ((((((!(Cn.fewC L (40 : Int))) || (!(Cn.fewL p (40 : Int)))) || (decide ((core.length : Int) > 20))) || ((Cn.chkC N L p core) != 0)) || (decide (at_ < 0))) = false → (!(((((!(Cn.fewC L (40 : Int))) || (!(Cn.fewL p (40 : Int)))) || (decide ((core.length : Int) > 20))) || ((Cn.chkC N L p core) != 0)) || (decide (at_ < 0)))) = true), ((!((((((!(Cn.fewC L (40 : Int))) || (!(Cn.fewL p (40 : Int)))) || (decide ((core.length : Int) > 20))) || ((Cn.chkC N L p core) != 0)) || (decide (at_ < 0))) || (decide (at_ > (p.length : Int))))) = true → ((!((((((!(Cn.fewC L (40 : Int))) || (!(Cn.fewL p (40 : Int)))) || (decide ((core.length : Int) > 20))) || ((Cn.chkC N L p core) != 0)) || (decide (at_ < 0))) || (decide (at_ > (p.length : Int))))) = true)), (((((((!(Cn.fewC L (40 : Int))) || (!(Cn.fewL p (40 : Int)))) || (decide ((core.length : Int) > 20))) || ((Cn.chkC N L p core) != 0)) || (decide (at_ < 0))) || (decide (at_ > (p.length : Int)))) = false → (!((((((!(Cn.fewC L (40 : Int))) || (!(Cn.fewL p (40 : Int)))) || (decide ((core.length : Int) > 20))) || ((Cn.chkC N L p core) != 0)) || (decide (at_ < 0))) || (decide (at_ > (p.length : Int))))) = true), ((!(((((((!(Cn.fewC L (40 : Int))) || (!(Cn.fewL p (40 : Int)))) || (decide ((core.length : Int) > 20))) || ((Cn.chkC N L p core) != 0)) || (decide (at_ < 0))) || (decide (at_ > (p.length : Int)))) || (decide (n < 0)))) = true → ((!(((((((!(Cn.fewC L (40 : Int))) || (!(Cn.fewL p (40 : Int)))) || (decide ((core.length : Int) > 20))) || ((Cn.chkC N L p core) != 0)) || (decide (at_ < 0))) || (decide (at_ > (p.length : Int)))) || (decide (n < 0)))) = true)), ((!(((((((!(Cn.fewC L (40 : Int))) || (!(Cn.fewL p (40 : Int)))) || (decide ((core.length : Int) > 20))) || ((Cn.chkC N L p core) != 0)) || (decide (at_ < 0))) || (decide (at_ > (p.length : Int)))) || (decide (n < 0)))) = true → ((!(((((((!(Cn.fewC L (40 : Int))) || (!(Cn.fewL p (40 : Int)))) || (decide ((core.length : Int) > 20))) || ((Cn.chkC N L p core) != 0)) || (decide (at_ < 0))) || (decide (at_ > (p.length : Int)))) || (decide (n < 0)))) = true)), ((!(((((((!(Cn.fewC L (40 : Int))) || (!(Cn.fewL p (40 : Int)))) || (decide ((core.length : Int) > 20))) || ((Cn.chkC N L p core) != 0)) || (decide (at_ < 0))) || (decide (at_ > (p.length : Int)))) || (decide (n < 0)))) = true → ((!(((((((!(Cn.fewC L (40 : Int))) || (!(Cn.fewL p (40 : Int)))) || (decide ((core.length : Int) > 20))) || ((Cn.chkC N L p core) != 0)) || (decide (at_ < 0))) || (decide (at_ > (p.length : Int)))) || (decide (n < 0)))) = true)), ((!(((((((!(Cn.fewC L (40 : Int))) || (!(Cn.fewL p (40 : Int)))) || (decide ((core.length : Int) > 20))) || ((Cn.chkC N L p core) != 0)) || (decide (at_ < 0))) || (decide (at_ > (p.length : Int)))) || (decide (n < 0)))) = true → ((!(((((((!(Cn.fewC L (40 : Int))) || (!(Cn.fewL p (40 : Int)))) || (decide ((core.length : Int) > 20))) || ((Cn.chkC N L p core) != 0)) || (decide (at_ < 0))) || (decide (at_ > (p.length : Int)))) || (decide (n < 0)))) = true)), ((((((((!(Cn.fewC L (40 : Int))) || (!(Cn.fewL p (40 : Int)))) || (decide ((core.length : Int) > 20))) || ((Cn.chkC N L p core) != 0)) || (decide (at_ < 0))) || (decide (at_ > (p.length : Int)))) || (decide (n < 0))) = false → (!(((((((!(Cn.fewC L (40 : Int))) || (!(Cn.fewL p (40 : Int)))) || (decide ((core.length : Int) > 20))) || ((Cn.chkC N L p core) != 0)) || (decide (at_ < 0))) || (decide (at_ > (p.length : Int)))) || (decide (n < 0)))) = true)] [(58, .bool ((((((((!(Cn.fewC L (40 : Int))) || (!(Cn.fewL p (40 : Int)))) || (decide ((core.length : Int) > 20))) || ((Cn.chkC N L p core) != 0)) || (decide (at_ < 0))) || (decide (at_ > (p.length : Int)))) || (decide (n < 0))) || (decide (n ≥ (L.length : Int)))))] [] (by kernel_rfl) ?_ ?_
   ·
    refine (ap ?_ (ap ?_ (ap ?_ (ap ?_ (ap (by exact vcNot) (ap ?_ (ap ?_ (ap (by exact vcNot) (ap ?_ (ap ?_ (ap ?_ (ap ?_ (ap ?_ (ap (by exact vcNot) (ap ?_ (ap (by exact vcNot) (ap ?_ (ap ?_ (ap ?_ (ap (by exact vcNot) (ap ?_ (ap (by exact vcNot) (ap ?_ (ap ?_ (ap ?_ (ap ?_ (ap (by exact vcNot) az)))))))))))))))))))))))))))
    all_goals
     first | exact id | exact ⟨hL, hLm, by decide, by decide⟩ | exact (fun _ => ⟨hP, hPm, by decide, by decide⟩) | (intro hg; have hq := Cn.g_order hg; exact Cn.pre_chk (Cn.fewC_iff hq.1) (Cn.fewL_iff hq.2.1) (by have := hq.2.2; omega))
   refine fin_then ?_
   refine tri_cond (b := ((((((((!(Cn.fewC L (40 : Int))) || (!(Cn.fewL p (40 : Int)))) || (decide ((core.length : Int) > 20))) || ((Cn.chkC N L p core) != 0)) || (decide (at_ < 0))) || (decide (at_ > (p.length : Int)))) || (decide (n < 0))) || (decide (n ≥ (L.length : Int))))) (by kernel_rfl) (fun hb1 => ?_) (fun hb1 => ?_)
   ·
    skip
    have h1 := hb1
    skip
    refine tri_seq ?_
    refine tri_regD hcx [] [10] [] [] [] [(10, .bool true)] [] (by kernel_rfl) ?_ ?_
    ·
     exact az
    refine fin_then ?_
    refine tri_ret ?_
    refine fin_then_ret ?_
    exact fin_ret [] rfl rfl trivial hcx (avs := [.bool true]) (by kernel_rfl) rfl [] rfl
   ·
    skip
    have h1 := hb1
    obtain ⟨hf1, hf2, hcl, hck, hb1, hb2, hb3, hb4⟩ := Cn.c_order h1
    have e1 := Cn.fewC_iff hf1
    have e2 := Cn.fewL_iff hf2
    obtain ⟨o1, o2, o3⟩ := Cn.ord_all hck e1 e2 hb1 hb2 hb3 hb4
    obtain ⟨b1, b2, b3⟩ := Cn.ord_bd (at_ := at_) e1 e2 hb3 hb4
    have a1 := e1.1
    have a2 := e2.1
    refine tri_skip ?_
    refine fin_then ?_
    refine tri_seq ?_
    refine tri_regD hcx [] [11] [5, 1, 2, 3, 4] [] [((0 : Int) ≤ n ∧ n < (L.length : Int))] [(11, .lines [(1, (L.getD n.toNat []))])] [] (by kernel_rfl) ?_ ?_
    ·
     refine (ap ?_ az)
     omega
    refine fin_then ?_
    refine tri_seq ?_
    refine tri_drawD [0, 0, 3, 7, 0, 31, 0, 0, 192, 511, 1023] hcx hmx [(1009, .to 275)] [12] [11, 5, 1, 2, 4] [] [((0 : Int) ≤ at_ ∧ at_ ≤ (p.length : Int)), (((p.take at_.toNat).drop 0).length * 32 ≤ 140737488355328), ((((p.take at_.toNat).drop 0).length + [(1, (L.getD n.toNat []))].length) * 32 ≤ 140737488355328), ((0 : Int) ≤ at_ ∧ at_ ≤ (p.length : Int)), (((((p.take at_.toNat).drop 0) ++ [(1, (L.getD n.toNat []))]).length + ((p.take p.length).drop at_.toNat).length) * 32 ≤ 140737488355328)] [(12, .row 275)] [(275, .row 43 (.lines ((((p.take at_.toNat).drop 0) ++ [(1, (L.getD n.toNat []))]) ++ ((p.take p.length).drop at_.toNat))))] (by kernel_rfl) ?_ ?_
    ·
     refine (ap ?_ (ap ?_ (ap ?_ (ap ?_ (ap ?_ az)))))
     all_goals
      first | omega | (simp only [List.length_append, List.length_cons, List.length_nil, List.length_take, List.length_drop]; omega)
    refine fin_then ?_
    refine tri_seq ?_
    refine tri_regD hcx [(1003, .to 279)] [13] [12, 11, 5, 1, 2, 4] [275] [([(1, (L.getD n.toNat []))].length * 32 ≤ 140737488355328), (([(1, (L.getD n.toNat []))].length + p.length) * 32 ≤ 140737488355328)] [(13, .row 279)] [(279, .row 43 (.lines ([(1, (L.getD n.toNat []))] ++ p)))] (by kernel_rfl) ?_ ?_
    ·
     refine (ap ?_ (ap ?_ az))
     all_goals
      (simp only [List.length_append, List.length_cons, List.length_nil, List.length_take, List.length_drop]; omega)
    refine fin_then ?_
    refine tri_seq ?_
    refine tri_drawD [0, 1, 0, 4, 12, 0, 32, 0, 224, 480, 992, 2044, 4095, 8191] hcx hmx [(1012, .to 292)] [14] [13, 12, 5, 2] [279, 275] [(p.length * 32 ≤ 140737488355328), ((0 : Int) ≤ 0 ∧ 0 < ([(1, (L.getD n.toNat []))].length : Int)), ((0 : Int) ≤ n ∧ n < (L.length : Int)), ((p.length + [(([(1, (L.getD n.toNat []))].getD 0 (0, [])).1, ([(1, (L.getD n.toNat []))].getD 0 (0, [])).2), (3, (L.getD n.toNat []))].length) * 32 ≤ 140737488355328)] [(14, .row 292)] [(292, .row 43 (.lines (p ++ [(([(1, (L.getD n.toNat []))].getD 0 (0, [])).1, ([(1, (L.getD n.toNat []))].getD 0 (0, [])).2), (3, (L.getD n.toNat []))])))] (by kernel_rfl) ?_ ?_
    ·
     refine (ap ?_ (ap ?_ (ap ?_ (ap ?_ az))))
     all_goals
      first | omega | (simp only [List.length_append, List.length_cons, List.length_nil, List.length_take, List.length_drop]; omega)
    refine fin_then ?_
    refine tri_seq ?_
    refine tri_regD hcx [] [10] [] [] [(L.length ≤ maxLen ∧ (∀ x ∈ L, x.length ≤ 1000000000000) ∧ ((((p.take at_.toNat).drop 0) ++ [(1, (L.getD n.toNat []))]) ++ ((p.take p.length).drop at_.toNat)).length ≤ maxLen ∧ (∀ x ∈ ((((p.take at_.toNat).drop 0) ++ [(1, (L.getD n.toNat []))]) ++ ((p.take p.length).drop at_.toNat)), x.2.length ≤ 1000000000000) ∧ core.length ≤ 1000000000000), (((Cn.chkC N L ((((p.take at_.toNat).drop 0) ++ [(1, (L.getD n.toNat []))]) ++ ((p.take p.length).drop at_.toNat)) core) == 0) = true → (((Cn.chkC N L ((((p.take at_.toNat).drop 0) ++ [(1, (L.getD n.toNat []))]) ++ ((p.take p.length).drop at_.toNat)) core) == 0) = true)), (((Cn.chkC N L ((((p.take at_.toNat).drop 0) ++ [(1, (L.getD n.toNat []))]) ++ ((p.take p.length).drop at_.toNat)) core) == 0) = true → (((Cn.chkC N L ((((p.take at_.toNat).drop 0) ++ [(1, (L.getD n.toNat []))]) ++ ((p.take p.length).drop at_.toNat)) core) == 0) = true)), (((Cn.chkC N L ((((p.take at_.toNat).drop 0) ++ [(1, (L.getD n.toNat []))]) ++ ((p.take p.length).drop at_.toNat)) core) == 0) = true → (((Cn.chkC N L ((((p.take at_.toNat).drop 0) ++ [(1, (L.getD n.toNat []))]) ++ ((p.take p.length).drop at_.toNat)) core) == 0) = true)), (((Cn.chkC N L ((((p.take at_.toNat).drop 0) ++ [(1, (L.getD n.toNat []))]) ++ ((p.take p.length).drop at_.toNat)) core) == 0) = true → (L.length ≤ maxLen ∧ (∀ x ∈ L, x.length ≤ 1000000000000) ∧ ([(1, (L.getD n.toNat []))] ++ p).length ≤ maxLen ∧ (∀ x ∈ ([(1, (L.getD n.toNat []))] ++ p), x.2.length ≤ 1000000000000) ∧ core.length ≤ 1000000000000)), (((Cn.chkC N L ((((p.take at_.toNat).drop 0) ++ [(1, (L.getD n.toNat []))]) ++ ((p.take p.length).drop at_.toNat)) core) == 0) = true → (((Cn.chkC N L ((((p.take at_.toNat).drop 0) ++ [(1, (L.getD n.toNat []))]) ++ ((p.take p.length).drop at_.toNat)) core) == 0) = true)), (((Cn.chkC N L ((((p.take at_.toNat).drop 0) ++ [(1, (L.getD n.toNat []))]) ++ ((p.take p.length).drop at_.toNat)) core) == 0) = true → ((Cn.chkC N L ((((p.take at_.toNat).drop 0) ++ [(1, (L.getD n.toNat []))]) ++ ((p.take p.length).drop at_.toNat)) core) == 0) = true), ((((Cn.chkC N L ((((p.take at_.toNat).drop 0) ++ [(1, (L.getD n.toNat []))]) ++ ((p.take p.length).drop at_.toNat)) core) == 0) && ((Cn.chkC N L ([(1, (L.getD n.toNat []))] ++ p) core) == 0)) = true → ((((Cn.chkC N L ((((p.take at_.toNat).drop 0) ++ [(1, (L.getD n.toNat []))]) ++ ((p.take p.length).drop at_.toNat)) core) == 0) && ((Cn.chkC N L ([(1, (L.getD n.toNat []))] ++ p) core) == 0)) = true)), ((((Cn.chkC N L ((((p.take at_.toNat).drop 0) ++ [(1, (L.getD n.toNat []))]) ++ ((p.take p.length).drop at_.toNat)) core) == 0) && ((Cn.chkC N L ([(1, (L.getD n.toNat []))] ++ p) core) == 0)) = true → ((((Cn.chkC N L ((((p.take at_.toNat).drop 0) ++ [(1, (L.getD n.toNat []))]) ++ ((p.take p.length).drop at_.toNat)) core) == 0) && ((Cn.chkC N L ([(1, (L.getD n.toNat []))] ++ p) core) == 0)) = true)), ((((Cn.chkC N L ((((p.take at_.toNat).drop 0) ++ [(1, (L.getD n.toNat []))]) ++ ((p.take p.length).drop at_.toNat)) core) == 0) && ((Cn.chkC N L ([(1, (L.getD n.toNat []))] ++ p) core) == 0)) = true → ((((Cn.chkC N L ((((p.take at_.toNat).drop 0) ++ [(1, (L.getD n.toNat []))]) ++ ((p.take p.length).drop at_.toNat)) core) == 0) && ((Cn.chkC N L ([(1, (L.getD n.toNat []))] ++ p) core) == 0)) = true)), ((((Cn.chkC N L ((((p.take at_.toNat).drop 0) ++ [(1, (L.getD n.toNat []))]) ++ ((p.take p.length).drop at_.toNat)) core) == 0) && ((Cn.chkC N L ([(1, (L.getD n.toNat []))] ++ p) core) == 0)) = true → (L.length ≤ maxLen ∧ (∀ x ∈ L, x.length ≤ 1000000000000) ∧ (p ++ [(([(1, (L.getD n.toNat []))].getD 0 (0, [])).1, ([(1, (L.getD n.toNat []))].getD 0 (0, [])).2), (3, (L.getD n.toNat []))]).length ≤ maxLen ∧ (∀ x ∈ (p ++ [(([(1, (L.getD n.toNat []))].getD 0 (0, [])).1, ([(1, (L.getD n.toNat []))].getD 0 (0, [])).2), (3, (L.getD n.toNat []))]), x.2.length ≤ 1000000000000) ∧ core.length ≤ 1000000000000)), ((((Cn.chkC N L ((((p.take at_.toNat).drop 0) ++ [(1, (L.getD n.toNat []))]) ++ ((p.take p.length).drop at_.toNat)) core) == 0) && ((Cn.chkC N L ([(1, (L.getD n.toNat []))] ++ p) core) == 0)) = true → ((((Cn.chkC N L ((((p.take at_.toNat).drop 0) ++ [(1, (L.getD n.toNat []))]) ++ ((p.take p.length).drop at_.toNat)) core) == 0) && ((Cn.chkC N L ([(1, (L.getD n.toNat []))] ++ p) core) == 0)) = true)), ((((Cn.chkC N L ((((p.take at_.toNat).drop 0) ++ [(1, (L.getD n.toNat []))]) ++ ((p.take p.length).drop at_.toNat)) core) == 0) && ((Cn.chkC N L ([(1, (L.getD n.toNat []))] ++ p) core) == 0)) = true → (((Cn.chkC N L ((((p.take at_.toNat).drop 0) ++ [(1, (L.getD n.toNat []))]) ++ ((p.take p.length).drop at_.toNat)) core) == 0) && ((Cn.chkC N L ([(1, (L.getD n.toNat []))] ++ p) core) == 0)) = true)] [(10, .bool ((((Cn.chkC N L ((((p.take at_.toNat).drop 0) ++ [(1, (L.getD n.toNat []))]) ++ ((p.take p.length).drop at_.toNat)) core) == 0) && ((Cn.chkC N L ([(1, (L.getD n.toNat []))] ++ p) core) == 0)) && ((Cn.chkC N L (p ++ [(([(1, (L.getD n.toNat []))].getD 0 (0, [])).1, ([(1, (L.getD n.toNat []))].getD 0 (0, [])).2), (3, (L.getD n.toNat []))]) core) == 0)))] [] (by kernel_rfl) ?_ ?_
    ·
     refine (ap ?_ (ap ?_ (ap ?_ (ap ?_ (ap ?_ (ap ?_ (ap (by exact id) (ap ?_ (ap ?_ (ap ?_ (ap ?_ (ap ?_ (ap (by exact id) az)))))))))))))
     all_goals
      first | exact id | exact Cn.pre_chk2 e1 b1 (by omega) | exact (fun _ => Cn.pre_chk2 e1 b2 (by omega)) | exact (fun _ => Cn.pre_chk2 e1 b3 (by omega))
    refine fin_then ?_
    refine tri_ret ?_
    exact fin_ret [] rfl rfl trivial hcx (avs := [.bool ((((Cn.chkC N L ((((p.take at_.toNat).drop 0) ++ [(1, (L.getD n.toNat []))]) ++ ((p.take p.length).drop at_.toNat)) core) == 0) && ((Cn.chkC N L ([(1, (L.getD n.toNat []))] ++ p) core) == 0)) && ((Cn.chkC N L (p ++ [(([(1, (L.getD n.toNat []))].getD 0 (0, [])).1, ([(1, (L.getD n.toNat []))].getD 0 (0, [])).2), (3, (L.getD n.toNat []))]) core) == 0))]) (by kernel_rfl) (congrArg AV.bool (show ((((Cn.chkC N L ((((p.take at_.toNat).drop 0) ++ [(1, (L.getD n.toNat []))]) ++ ((p.take p.length).drop at_.toNat)) core) == 0) && ((Cn.chkC N L ([(1, (L.getD n.toNat []))] ++ p) core) == 0)) && ((Cn.chkC N L (p ++ [(([(1, (L.getD n.toNat []))].getD 0 (0, [])).1, ([(1, (L.getD n.toNat []))].getD 0 (0, [])).2), (3, (L.getD n.toNat []))]) core) == 0)) = true from (by first | exact Cn.ord_fin o1 o2 o3 | rfl | done))) [] rfl
 ·
  cases hσ
end Go.Proofs.YtbpbndlgfiammaaGreatDoor.En
