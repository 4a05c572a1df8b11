/- The reference of layer 24: a proof's text; in the reader's words. -/
import Derived.Test.YtbpbndlgfiammaaGreatDoorEngG
import Derived.Test.YtbpbndlgfiammaaGreatDoorEngRec
import Derived.Test.YtbpbndlgfiammaaGreatDoorProg
import Derived.Test.YtbpbndlgfiammaaGreatDoorTxtC
namespace Go.Proofs.YtbpbndlgfiammaaGreatDoor.En
open Go Go.RowKit
set_option linter.unusedVariables false
set_option linter.unusedSimpArgs false
set_option linter.unnecessarySimpa false
def tyR24C : List (Nat × TD) := [(3, ⟨1, false, [.int .i64 0], [], none, 8, false, 1, 1⟩),
  (5, ⟨1, false, [.int .u8 0], [], none, 1, false, 2, 8⟩),
  (9, ⟨1, false, [.string ⟨#[]⟩], [], none, 16, false, 9, 9⟩),
  (23, ⟨1, false, [.slice none 0 0], [], some 3, 24, false, 0, 3⟩),
  (29, ⟨1, false, [.slice none 0 0], [], some 43, 24, false, 0, 0⟩),
  (34, ⟨1, false, [.slice none 0 0], [], some 5, 24, false, 0, 0⟩),
  (43, ⟨2, true, [.int .i64 0, .slice none 0 0], [(0, 3), (1, 23)], none, 32, false, 0, 7⟩)]
theorem tyR24C_ok : AllTy Tryz.prog tyR24C := ⟨⟨by kernel_rfl, by kernel_rfl, by kernel_rfl⟩, ⟨by kernel_rfl, by kernel_rfl, by kernel_rfl⟩, ⟨by kernel_rfl, by kernel_rfl, by kernel_rfl⟩, ⟨by kernel_rfl, by kernel_rfl, by kernel_rfl⟩, ⟨by kernel_rfl, by kernel_rfl, by kernel_rfl⟩, ⟨by kernel_rfl, by kernel_rfl, by kernel_rfl⟩, ⟨by kernel_rfl, by kernel_rfl, by kernel_rfl⟩, trivial⟩
def rDec_σ (nn : Nat) : CtF
  | [.im (.val (.int .i64 x))], [] => some (-1000000000 ≤ x ∧ x ≤ 1000000000 ∧ Cn.txM x < nn, .im (.val (.string (strOfNums (Cn.itoaI x)))), [])
  | _, _ => none
def cx_rDec (nn : Nat) : Cx := ⟨tyR24C, [(85, (rDec_σ nn))], true⟩
theorem cx_rDec_ok (nn : Nat) (hR : Sound Tryz.prog 85 (rDec_σ nn)) : CxOk Tryz.prog (cx_rDec nn) := cx_ok tyR24C_ok ⟨hR, trivial⟩
theorem rDec_step (nn : Nat) (hR : Sound Tryz.prog 85 (rDec_σ nn)) : Sound Tryz.prog 85 (rDec_σ (nn + 1)) := by
 refine sound_mk (cx := (cx_rDec nn)) (fn := Tryz.f85) Tryz.func85 (by kernel_rfl) rfl ?_
 intro w0 G0 args os p r outs hσ hp hm0 hd0
 have hcx : CxOk Tryz.prog (cx_rDec nn) := cx_rDec_ok nn hR
 unfold rDec_σ at hσ
 split at hσ
 ·
  rename_i x
  simp only [Option.some.injEq, Prod.mk.injEq] at hσ
  obtain ⟨rfl, rfl, rfl⟩ := hσ
  obtain ⟨wW, wO, wm, wβ, wd⟩ := w0
  replace hm0 : wm = 0 := hm0
  subst hm0
  replace hd0 : wd = [] := hd0
  subst hd0
  refine ⟨by kernel_rfl, ?_⟩
  change Tri ⟨_, _, _, _, _, _⟩ [(0, .int x)] [] _ _
  obtain ⟨hm1, hm2, hsz⟩ := hp
  refine tri_seq ?_
  refine tri_regD hcx [] [] [0] [] [] [] [] (by kernel_rfl) ?_ ?_
  ·
   exact az
  refine fin_then ?_
  refine tri_seq ?_
  refine tri_seq ?_
  refine tri_regD hcx [] [4] [0] [] [] [(4, .bool (decide (x < 0)))] [] (by kernel_rfl) ?_ ?_
  ·
   exact az
  refine fin_then ?_
  refine tri_cond (b := (decide (x < 0))) (by kernel_rfl) (fun hb0 => ?_) (fun hb0 => ?_)
  ·
   skip
   have h0 := of_decide_eq_true hb0
   have hn : x < 0 := h0
   have ht := Cn.txM_neg2 hn
   have hl := Cn.txt_len (n := -x) (by omega) (by omega)
   refine tri_seq ?_
   refine tri_regD hcx [] [2] [] [] [Fit (-x), (-1000000000 ≤ (-x) ∧ (-x) ≤ 1000000000 ∧ Cn.txM (-x) < nn), ((⟨#[45]⟩ : ByteArray).size + (strOfNums (Cn.itoaI (-x))).size ≤ maxLen)] [(2, .im (.val (.string ((⟨#[45]⟩ : ByteArray) ++ (strOfNums (Cn.itoaI (-x)))))))] [] (by kernel_rfl) ?_ ?_
   ·
    refine (ap ?_ (ap ?_ (ap ?_ az)))
    all_goals
     first | omega | (show 1 + _ ≤ _; unfold maxLen; omega)
   refine fin_then ?_
   refine tri_ret ?_
   refine fin_then_ret ?_
   exact fin_ret [] rfl rfl trivial hcx (avs := [.im (.val (.string ((⟨#[45]⟩ : ByteArray) ++ (strOfNums (Cn.itoaI (-x))))))]) (by kernel_rfl) (congrArg (fun x => AV.im (.val (.string x))) (show ((⟨#[45]⟩ : ByteArray) ++ (strOfNums (Cn.itoaI (-x)))) = (strOfNums (Cn.itoaI x)) from (by first | exact Cn.dec_neg hn | exact Cn.dec_one hn hk | exact Cn.dec_more hn hk | done))) [] rfl
  ·
   skip
   have h0 := of_decide_eq_false hb0
   have hn : ¬ x < 0 := by omega
   have htd := Cn.tdiv10 (n := x) (by omega)
   refine tri_skip ?_
   refine fin_then ?_
   refine tri_seq ?_
   refine tri_seq ?_
   refine tri_regD hcx [] [10] [0] [] [] [(10, .bool (decide (x < 10)))] [] (by kernel_rfl) ?_ ?_
   ·
    exact az
   refine fin_then ?_
   refine tri_cond (b := (decide (x < 10))) (by kernel_rfl) (fun hb1 => ?_) (fun hb1 => ?_)
   ·
    skip
    have h1 := of_decide_eq_true hb1
    have hk : x < 10 := h1
    refine tri_seq ?_
    refine tri_regD hcx [] [2] [] [] [inK .u8 x, inK .u8 (48 + x)] [(2, .im (.val (.string (strOfNums [(48 + x)]))))] [] (by kernel_rfl) ?_ ?_
    ·
     refine (ap ?_ (ap ?_ az))
     all_goals
      (unfold inK; omega)
    refine fin_then ?_
    refine tri_ret ?_
    refine fin_then_ret ?_
    exact fin_ret [] rfl rfl trivial hcx (avs := [.im (.val (.string (strOfNums [(48 + x)])))]) (by kernel_rfl) (congrArg (fun x => AV.im (.val (.string x))) (show (strOfNums [(48 + x)]) = (strOfNums (Cn.itoaI x)) from (by first | exact Cn.dec_neg hn | exact Cn.dec_one hn hk | exact Cn.dec_more hn hk | done))) [] rfl
   ·
    skip
    have h1 := of_decide_eq_false hb1
    have hk : ¬ x < 10 := by omega
    have ht := Cn.txM_div hn hk
    have ht2 := Cn.txM_mod hn hk
    have hl := Cn.txt_len (n := x.tdiv 10) (by omega) (by omega)
    have hl2 := Cn.txt_len (n := x.tmod 10) (by omega) (by omega)
    refine tri_skip ?_
    refine fin_then ?_
    refine tri_seq ?_
    refine tri_regD hcx [] [2] [] [] [((10 : Int) ≠ 0 ∧ Fit (x.tdiv 10)), (-1000000000 ≤ (x.tdiv 10) ∧ (x.tdiv 10) ≤ 1000000000 ∧ Cn.txM (x.tdiv 10) < nn), ((10 : Int) ≠ 0), (-1000000000 ≤ (x.tmod 10) ∧ (x.tmod 10) ≤ 1000000000 ∧ Cn.txM (x.tmod 10) < nn), ((strOfNums (Cn.itoaI (x.tdiv 10))).size + (strOfNums (Cn.itoaI (x.tmod 10))).size ≤ maxLen)] [(2, .im (.val (.string ((strOfNums (Cn.itoaI (x.tdiv 10))) ++ (strOfNums (Cn.itoaI (x.tmod 10)))))))] [] (by kernel_rfl) ?_ ?_
    ·
     refine (ap ?_ (ap ?_ (ap ?_ (ap ?_ (ap ?_ az)))))
     all_goals
      first | omega | (unfold maxLen; omega)
    refine fin_then ?_
    refine tri_ret ?_
    exact fin_ret [] rfl rfl trivial hcx (avs := [.im (.val (.string ((strOfNums (Cn.itoaI (x.tdiv 10))) ++ (strOfNums (Cn.itoaI (x.tmod 10))))))]) (by kernel_rfl) (congrArg (fun x => AV.im (.val (.string x))) (show ((strOfNums (Cn.itoaI (x.tdiv 10))) ++ (strOfNums (Cn.itoaI (x.tmod 10)))) = (strOfNums (Cn.itoaI x)) from (by first | exact Cn.dec_neg hn | exact Cn.dec_one hn hk | exact Cn.dec_more hn hk | done))) [] rfl
 ·
  cases hσ
theorem rDec_all : ∀ nn, Sound Tryz.prog 85 (rDec_σ nn) := sound_rec (sound_none (fn := Tryz.f85) Tryz.func85 (by kernel_rfl) rfl (fun args os p r outs hσ hp => by
  unfold rDec_σ at hσ
  split at hσ
  · simp only [Option.some.injEq, Prod.mk.injEq] at hσ
    obtain ⟨rfl, rfl, rfl⟩ := hσ
    exact absurd hp.2.2 (Nat.not_lt_zero _)
  · cases hσ)) rDec_step
def rDec_τ : CtF
  | [.im (.val (.int .i64 x))], [] => some (-1000000000 ≤ x ∧ x ≤ 1000000000, .im (.val (.string (strOfNums (Cn.itoaI x)))), [])
  | _, _ => none
theorem rDec_sound : Sound Tryz.prog 85 rDec_τ := sound_all rDec_all (fun args os p r outs hσ hp => by
  unfold rDec_τ at hσ
  split at hσ
  · rename_i x
    simp only [Option.some.injEq, Prod.mk.injEq] at hσ
    obtain ⟨rfl, rfl, rfl⟩ := hσ
    exact ⟨Cn.txM x + 1, _, rfl, ⟨hp.1, hp.2, Nat.lt_succ_self _⟩⟩
  · cases hσ)
def cx_rLit : Cx := ⟨tyR24C, [], true⟩
theorem cx_rLit_ok : CxOk Tryz.prog cx_rLit := cx_ok tyR24C_ok trivial
def rLit_σ : CtF
  | [.im (.val (.int .i64 x))], [] => some (True, .bool (Cn.mayP x 65536), [])
  | _, _ => none
theorem rLit_sound : Sound Tryz.prog 40 rLit_σ := by
 refine sound_mk (cx := cx_rLit) (fn := Tryz.f40) Tryz.func40 (by kernel_rfl) rfl ?_
 intro w0 G0 args os p r outs hσ hp hm0 hd0
 have hcx : CxOk Tryz.prog cx_rLit := cx_rLit_ok
 unfold rLit_σ at hσ
 split at hσ
 ·
  rename_i x
  simp only [Option.some.injEq, Prod.mk.injEq] at hσ
  obtain ⟨rfl, rfl, rfl⟩ := hσ
  obtain ⟨wW, wO, wm, wβ, wd⟩ := w0
  replace hm0 : wm = 0 := hm0
  subst hm0
  replace hd0 : wd = [] := hd0
  subst hd0
  refine ⟨by kernel_rfl, ?_⟩
  change Tri ⟨_, _, _, _, _, _⟩ [(0, .int x)] [] _ _
  refine tri_seq ?_
  refine tri_regD hcx [] [] [0] [] [] [] [] (by kernel_rfl) ?_ ?_
  ·
   exact az
  refine fin_then ?_
  refine tri_seq ?_
  refine tri_regD hcx [] [2] [] [] [((decide (x ≥ 1)) = true → ((decide (x ≥ 1)) = true)), ((decide (x ≥ 1)) = true → (decide (x ≥ 1)) = true), ((!((decide (x ≥ 1)) && (decide (x ≤ 65536)))) = true → ((!((decide (x ≥ 1)) && (decide (x ≤ 65536)))) = true)), ((!((decide (x ≥ 1)) && (decide (x ≤ 65536)))) = true → ((!((decide (x ≥ 1)) && (decide (x ≤ 65536)))) = true)), (((!((decide (x ≥ 1)) && (decide (x ≤ 65536)))) && (decide (x ≤ (-1)))) = true → (((!((decide (x ≥ 1)) && (decide (x ≤ 65536)))) && (decide (x ≤ (-1)))) = true)), ((!((decide (x ≥ 1)) && (decide (x ≤ 65536)))) = true → ((!((decide (x ≥ 1)) && (decide (x ≤ 65536)))) = true)), ((!((decide (x ≥ 1)) && (decide (x ≤ 65536)))) = true → ((decide (x ≤ (-1))) = true → ((!((decide (x ≥ 1)) && (decide (x ≤ 65536)))) && (decide (x ≤ (-1)))) = true)), (((decide (x ≥ 1)) && (decide (x ≤ 65536))) = false → (!((decide (x ≥ 1)) && (decide (x ≤ 65536)))) = true)] [(2, .bool (((decide (x ≥ 1)) && (decide (x ≤ 65536))) || ((decide (x ≤ (-1))) && (decide (x ≥ (-65536))))))] [] (by kernel_rfl) ?_ ?_
  ·
   refine (ap ?_ (ap (by exact id) (ap ?_ (ap ?_ (ap ?_ (ap ?_ (ap ?_ (ap (by exact vcNot) az))))))))
   all_goals
    first | exact id | exact vcH
  refine fin_then ?_
  refine tri_ret ?_
  exact fin_ret [] rfl rfl trivial hcx (avs := [.bool (((decide (x ≥ 1)) && (decide (x ≤ 65536))) || ((decide (x ≤ (-1))) && (decide (x ≥ (-65536)))))]) (by kernel_rfl) (congrArg AV.bool (show (((decide (x ≥ 1)) && (decide (x ≤ 65536))) || ((decide (x ≤ (-1))) && (decide (x ≥ (-65536))))) = (Cn.mayP x 65536) from (by exact (Cn.lit24 x).symm))) [] rfl
 ·
  cases hσ
def cx_rForm : Cx := ⟨tyR24C, [(40, rLit_σ)], true⟩
theorem cx_rForm_ok : CxOk Tryz.prog cx_rForm := cx_ok tyR24C_ok ⟨rLit_sound, trivial⟩
def rForm_σ : CtF
  | [.agg [.im (.val (.int .i64 k)), .im (.ls (.ints l))]], [] => some (l.length ≤ maxLen, .bool (Cn.lineOk (k, l)), [])
  | _, _ => none
theorem rForm_sound : Sound Tryz.prog 53 rForm_σ := by
 refine sound_mk (cx := cx_rForm) (fn := Tryz.f53) Tryz.func53 (by kernel_rfl) rfl ?_
 intro w0 G0 args os p r outs hσ hp hm0 hd0
 have hcx : CxOk Tryz.prog cx_rForm := cx_rForm_ok
 unfold rForm_σ at hσ
 split at hσ
 ·
  rename_i k l
  simp only [Option.some.injEq, Prod.mk.injEq] at hσ
  obtain ⟨rfl, rfl, rfl⟩ := hσ
  obtain ⟨wW, wO, wm, wβ, wd⟩ := w0
  replace hm0 : wm = 0 := hm0
  subst hm0
  replace hd0 : wd = [] := hd0
  subst hd0
  refine ⟨by kernel_rfl, ?_⟩
  change Tri ⟨_, _, _, _, _, _⟩ [(0, .agg [.int k, .ints l])] [] _ _
  have hm1 := hp
  unfold maxLen at hm1
  refine tri_seq ?_
  refine tri_regD hcx [(1000, .frz)] [1] [] [] [] [(1, .pto [.int k, .ls (.ints l)])] [] (by kernel_rfl) ?_ ?_
  ·
   exact az
  refine fin_then ?_
  refine tri_seq ?_
  refine tri_seq ?_
  refine tri_regD hcx [] [6, 7, 8] [1] [] [] [(6, .ints l), (7, .int (l.length : Int)), (8, .int 0)] [] (by kernel_rfl) ?_ ?_
  ·
   exact az
  refine fin_then ?_
  refine tri_block ?_
  refine tri_loop (X := Nat) (fun x0 => x0 ≤ l.length ∧ ∀ j, j < x0 → Cn.mayP (l.getD j 0) 65536 = true) (fun x0 => [(1, .pto [.int k, .ls (.ints l)]), (6, .ints l), (7, .int (l.length : Int)), (8, .int (x0 : Int))]) (fun x0 => []) (fun x0 => l.length - x0) (0) ?_ ?_ ?_ ?_
  ·
   show 0 ≤ l.length ∧ ∀ j, j < 0 → Cn.mayP (l.getD j 0) 65536 = true
   exact ⟨Nat.zero_le _, fun j hj => by omega⟩
  ·
   exact subE_mk (l := [.pto [.int k, .ls (.ints l)], .ints l, .int (l.length : Int), .int 0]) (m := [.pto [.int k, .ls (.ints l)], .ints l, .int (l.length : Int), .int (0 : Int)]) (by kernel_rfl) (by kernel_rfl) (consE rfl (consE rfl (consE rfl (consE (congrArg AV.int (show 0 = (0 : Int) from (by first | rfl | omega | (simp; done)))) rfl))))
  ·
   kernel_rfl
  ·
   intro i hI
   replace hI : i ≤ l.length ∧ ∀ j, j < i → Cn.mayP (l.getD j 0) 65536 = true := hI
   change Tri _ [(1, .pto [.int k, .ls (.ints l)]), (6, .ints l), (7, .int (l.length : Int)), (8, .int (i : Int))] [] _ _
   obtain ⟨hk, hok⟩ := hI
   refine tri_seq ?_
   refine tri_regD hcx [] [9] [1, 6, 7, 8] [] [] [(9, .bool (decide ((i : Int) < (l.length : Int))))] [] (by kernel_rfl) ?_ ?_
   ·
    exact az
   refine fin_then ?_
   refine tri_seq ?_
   refine tri_cond (b := (decide ((i : Int) < (l.length : Int)))) (by kernel_rfl) (fun hb0 => ?_) (fun hb0 => ?_)
   ·
    skip
    have h0 := of_decide_eq_true hb0
    refine tri_skip ?_
    refine fin_then ?_
    refine tri_seq ?_
    refine tri_block ?_
    refine tri_seq ?_
    refine tri_regD hcx [] [4] [1, 6, 7, 8] [] [((0 : Int) ≤ (i : Int) ∧ (i : Int) < (l.length : Int))] [(4, .int (l.getD i 0))] [] (by kernel_rfl) ?_ ?_
    ·
     refine (ap ?_ az)
     omega
    refine fin_then ?_
    refine tri_seq ?_
    refine tri_regD hcx [] [14] [1, 6, 7, 8] [] [(True)] [(14, .bool (!(Cn.mayP (l.getD i 0) 65536)))] [] (by kernel_rfl) ?_ ?_
    ·
     refine (ap ?_ az)
     exact True.intro
    refine fin_then ?_
    refine tri_cond (b := (!(Cn.mayP (l.getD i 0) 65536))) (by kernel_rfl) (fun hb1 => ?_) (fun hb1 => ?_)
    ·
     skip
     have h1 := hb1
     have hq := Cn.ntT h1
     refine tri_seq ?_
     refine tri_regD hcx [] [2] [] [] [] [(2, .bool false)] [] (by kernel_rfl) ?_ ?_
     ·
      exact az
     refine fin_then ?_
     refine tri_ret ?_
     refine fin_block_ret ?_
     refine fin_then_ret ?_
     refine fin_then_ret ?_
     refine fin_block_ret ?_
     refine fin_then_ret ?_
     exact fin_ret [] rfl rfl trivial hcx (avs := [.bool false]) (by kernel_rfl) (congrArg AV.bool (show false = (Cn.lineOk (k, l)) from (by first | exact Cn.form_no (by omega) hq | exact Cn.form_yes (by omega) hok | done))) [] rfl
    ·
     skip
     have h1 := hb1
     have hq := Cn.ntF h1
     refine tri_skip ?_
     refine fin_block ?_
     refine fin_then ?_
     refine tri_regD hcx [] [8] [1, 6, 7] [] [Fit ((i : Int) + 1)] [(8, .int ((i : Int) + 1))] [] (by kernel_rfl) ?_ ?_
     ·
      refine (ap ?_ az)
      omega
     refine fin_round (i + 1) ?_ ?_ ?_ ?_
     ·
      show (i + 1) ≤ l.length ∧ ∀ j, j < (i + 1) → Cn.mayP (l.getD j 0) 65536 = true
      exact ⟨by omega, fun j hj => by rcases (by omega : j < i ∨ j = i) with h | rfl; exact hok j h; exact hq⟩
     ·
      show l.length - (i + 1) < l.length - i
      omega
     ·
      exact subE_mk (l := [.pto [.int k, .ls (.ints l)], .ints l, .int (l.length : Int), .int ((i : Int) + 1)]) (m := [.pto [.int k, .ls (.ints l)], .ints l, .int (l.length : Int), .int ((i + 1) : Int)]) (by kernel_rfl) (by kernel_rfl) (consE rfl (consE rfl (consE rfl (consE (congrArg AV.int (show ((i : Int) + 1) = ((i + 1) : Int) from (by first | rfl | omega | (simp; done)))) rfl))))
     ·
      kernel_rfl
   ·
    skip
    have h0 := of_decide_eq_false hb0
    refine tri_exit ?_
    refine fin_then_exit ?_
    refine fin_then_exit ?_
    refine fin_block_same ?_
    refine fin_then ?_
    refine tri_seq ?_
    refine tri_regD hcx [] [2] [] [] [((decide (k ≥ 1)) = true → ((decide (k ≥ 1)) = true)), ((decide (k ≥ 1)) = true → ((decide (k ≥ 1)) = true)), ((decide (k ≥ 1)) = true → (decide (k ≥ 1)) = true)] [(2, .bool ((decide (k ≥ 1)) && (decide (k ≤ 3))))] [] (by kernel_rfl) ?_ ?_
    ·
     refine (ap ?_ (ap ?_ (ap (by exact id) az)))
     all_goals
      exact id
    refine fin_then ?_
    refine tri_ret ?_
    exact fin_ret [] rfl rfl trivial hcx (avs := [.bool ((decide (k ≥ 1)) && (decide (k ≤ 3)))]) (by kernel_rfl) (congrArg AV.bool (show ((decide (k ≥ 1)) && (decide (k ≤ 3))) = (Cn.lineOk (k, l)) from (by first | exact Cn.form_no (by omega) hq | exact Cn.form_yes (by omega) hok | done))) [] rfl
 ·
  cases hσ
def cx_rTxt : Cx := ⟨tyR24C, [(85, rDec_τ)], true⟩
theorem cx_rTxt_ok : CxOk Tryz.prog cx_rTxt := cx_ok tyR24C_ok ⟨rDec_sound, trivial⟩
def rTxt_σ : CtF
  | [.agg [.im (.val (.int .i64 k)), .im (.ls (.ints l))]], [] => some (1 ≤ k ∧ k ≤ 3 ∧ l.length ≤ 1000000000 ∧ ∀ y ∈ l, -65536 ≤ y ∧ y ≤ 65536, .im (.val (.string (strOfNums (Cn.lineB (k, l))))), [])
  | _, _ => none
theorem rTxt_sound : Sound Tryz.prog 56 rTxt_σ := by
 refine sound_mk (cx := cx_rTxt) (fn := Tryz.f56) Tryz.func56 (by kernel_rfl) rfl ?_
 intro w0 G0 args os p r outs hσ hp hm0 hd0
 have hcx : CxOk Tryz.prog cx_rTxt := cx_rTxt_ok
 unfold rTxt_σ at hσ
 split at hσ
 ·
  rename_i k l
  simp only [Option.some.injEq, Prod.mk.injEq] at hσ
  obtain ⟨rfl, rfl, rfl⟩ := hσ
  obtain ⟨wW, wO, wm, wβ, wd⟩ := w0
  replace hm0 : wm = 0 := hm0
  subst hm0
  replace hd0 : wd = [] := hd0
  subst hd0
  refine ⟨by kernel_rfl, ?_⟩
  change Tri ⟨_, _, _, _, _, _⟩ [(0, .agg [.int k, .ints l])] [] _ _
  obtain ⟨hk1, hk3, hm1, hm2⟩ := hp
  refine tri_seq ?_
  refine tri_regD hcx [(1000, .frz)] [1] [] [] [] [(1, .pto [.int k, .ls (.ints l)])] [] (by kernel_rfl) ?_ ?_
  ·
   exact az
  refine fin_then ?_
  refine tri_seq ?_
  refine tri_regD hcx [] [3] [1] [] [Fit (k - 1), ((0 : Int) ≤ (k - 1) ∧ (k - 1) ≤ k ∧ k ≤ ((⟨#[111, 108, 100]⟩ : ByteArray).size : Int))] [(3, .im (.val (.string ((⟨#[111, 108, 100]⟩ : ByteArray).extract (k - 1).toNat k.toNat))))] [] (by kernel_rfl) ?_ ?_
  ·
   refine (ap ?_ (ap ?_ az))
   all_goals
    first | omega | exact ⟨by omega, by omega, Cn.old_le hk3⟩
  refine fin_then ?_
  refine tri_seq ?_
  refine tri_seq ?_
  refine tri_regD hcx [] [13, 14, 15] [3] [] [] [(13, .ints l), (14, .int (l.length : Int)), (15, .int 0)] [] (by kernel_rfl) ?_ ?_
  ·
   exact az
  refine fin_then ?_
  refine tri_block ?_
  refine tri_loop (X := Nat) (fun x0 => x0 ≤ l.length) (fun x0 => [(3, .im (.val (.string (strOfNums (Cn.headT k ++ Cn.litsW (l.take x0)))))), (13, .ints l), (14, .int (l.length : Int)), (15, .int (x0 : Int))]) (fun x0 => []) (fun x0 => l.length - x0) (0) ?_ ?_ ?_ ?_
  ·
   show 0 ≤ l.length
   omega
  ·
   exact subE_mk (l := [.im (.val (.string ((⟨#[111, 108, 100]⟩ : ByteArray).extract (k - 1).toNat k.toNat))), .ints l, .int (l.length : Int), .int 0]) (m := [.im (.val (.string (strOfNums (Cn.headT k ++ Cn.litsW (l.take 0))))), .ints l, .int (l.length : Int), .int (0 : Int)]) (by kernel_rfl) (by kernel_rfl) (consE (congrArg (fun x => AV.im (.val (.string x))) (show ((⟨#[111, 108, 100]⟩ : ByteArray).extract (k - 1).toNat k.toNat) = (strOfNums (Cn.headT k ++ Cn.litsW (l.take 0))) from (by exact Cn.head_0 ⟨hk1, hk3⟩))) (consE rfl (consE rfl (consE (congrArg AV.int (show 0 = (0 : Int) from (by first | rfl | omega | (simp; done)))) rfl))))
  ·
   kernel_rfl
  ·
   intro i hI
   replace hI : i ≤ l.length := hI
   change Tri _ [(3, .im (.val (.string (strOfNums (Cn.headT k ++ Cn.litsW (l.take i)))))), (13, .ints l), (14, .int (l.length : Int)), (15, .int (i : Int))] [] _ _
   have hyi := fun (h : i < l.length) => hm2 _ (Cn.getD_memI h)
   have hxl := Cn.head_fit (k := k) (l := l) (i := i) hm1 hm2
   have hsz := Cn.str_size (Cn.headT k ++ Cn.litsW (l.take i))
   refine tri_seq ?_
   refine tri_regD hcx [] [16] [3, 13, 14, 15] [] [] [(16, .bool (decide ((i : Int) < (l.length : Int))))] [] (by kernel_rfl) ?_ ?_
   ·
    exact az
   refine fin_then ?_
   refine tri_seq ?_
   refine tri_cond (b := (decide ((i : Int) < (l.length : Int)))) (by kernel_rfl) (fun hb0 => ?_) (fun hb0 => ?_)
   ·
    skip
    have h0 := of_decide_eq_true hb0
    have h16 := h0
    have hy9 := hyi (by omega)
    have hl9 := Cn.txt_len (n := l.getD i 0) (by omega) (by omega)
    refine tri_skip ?_
    refine fin_then ?_
    refine tri_seq ?_
    refine tri_block ?_
    refine tri_seq ?_
    refine tri_regD hcx [] [5] [3, 13, 14, 15] [] [((0 : Int) ≤ (i : Int) ∧ (i : Int) < (l.length : Int))] [(5, .int (l.getD i 0))] [] (by kernel_rfl) ?_ ?_
    ·
     refine (ap ?_ az)
     omega
    refine fin_then ?_
    refine tri_regD hcx [] [3] [13, 14, 15] [] [(-1000000000 ≤ (l.getD i 0) ∧ (l.getD i 0) ≤ 1000000000), ((⟨#[32]⟩ : ByteArray).size + (strOfNums (Cn.itoaI (l.getD i 0))).size ≤ maxLen), ((strOfNums (Cn.headT k ++ Cn.litsW (l.take i))).size + ((⟨#[32]⟩ : ByteArray) ++ (strOfNums (Cn.itoaI (l.getD i 0)))).size ≤ maxLen)] [(3, .im (.val (.string ((strOfNums (Cn.headT k ++ Cn.litsW (l.take i))) ++ ((⟨#[32]⟩ : ByteArray) ++ (strOfNums (Cn.itoaI (l.getD i 0))))))))] [] (by kernel_rfl) ?_ ?_
    ·
     refine (ap ?_ (ap ?_ (ap ?_ az)))
     all_goals
      first | omega | (have h8 : (⟨#[32]⟩ : ByteArray).size = 1 := rfl; have h7 : (⟨#[32, 48, 10]⟩ : ByteArray).size = 3 := rfl; simp only [ByteArray.size_append, h8, h7, hsz]; unfold maxLen; omega)
    refine fin_block ?_
    refine fin_then ?_
    refine tri_regD hcx [] [15] [3, 13, 14] [] [Fit ((i : Int) + 1)] [(15, .int ((i : Int) + 1))] [] (by kernel_rfl) ?_ ?_
    ·
     refine (ap ?_ az)
     omega
    refine fin_round (i + 1) ?_ ?_ ?_ ?_
    ·
     show (i + 1) ≤ l.length
     omega
    ·
     show l.length - (i + 1) < l.length - i
     omega
    ·
     exact subE_mk (l := [.im (.val (.string ((strOfNums (Cn.headT k ++ Cn.litsW (l.take i))) ++ ((⟨#[32]⟩ : ByteArray) ++ (strOfNums (Cn.itoaI (l.getD i 0))))))), .ints l, .int (l.length : Int), .int ((i : Int) + 1)]) (m := [.im (.val (.string (strOfNums (Cn.headT k ++ Cn.litsW (l.take (i + 1)))))), .ints l, .int (l.length : Int), .int ((i + 1) : Int)]) (by kernel_rfl) (by kernel_rfl) (consE (congrArg (fun x => AV.im (.val (.string x))) (show ((strOfNums (Cn.headT k ++ Cn.litsW (l.take i))) ++ ((⟨#[32]⟩ : ByteArray) ++ (strOfNums (Cn.itoaI (l.getD i 0))))) = (strOfNums (Cn.headT k ++ Cn.litsW (l.take (i + 1)))) from (by exact Cn.head_next (by omega)))) (consE rfl (consE rfl (consE (congrArg AV.int (show ((i : Int) + 1) = ((i + 1) : Int) from (by first | rfl | omega | (simp; done)))) rfl))))
    ·
     kernel_rfl
   ·
    skip
    have h0 := of_decide_eq_false hb0
    have h16 := h0
    refine tri_exit ?_
    refine fin_then_exit ?_
    refine fin_then_exit ?_
    refine fin_block_same ?_
    refine fin_then ?_
    refine tri_seq ?_
    refine tri_regD hcx [] [2] [] [] [((strOfNums (Cn.headT k ++ Cn.litsW (l.take i))).size + (⟨#[32, 48, 10]⟩ : ByteArray).size ≤ maxLen)] [(2, .im (.val (.string ((strOfNums (Cn.headT k ++ Cn.litsW (l.take i))) ++ (⟨#[32, 48, 10]⟩ : ByteArray)))))] [] (by kernel_rfl) ?_ ?_
    ·
     refine (ap ?_ az)
     (have h8 : (⟨#[32]⟩ : ByteArray).size = 1 := rfl; have h7 : (⟨#[32, 48, 10]⟩ : ByteArray).size = 3 := rfl; simp only [ByteArray.size_append, h8, h7, hsz]; unfold maxLen; omega)
    refine fin_then ?_
    refine tri_ret ?_
    exact fin_ret [] rfl rfl trivial hcx (avs := [.im (.val (.string ((strOfNums (Cn.headT k ++ Cn.litsW (l.take i))) ++ (⟨#[32, 48, 10]⟩ : ByteArray))))]) (by kernel_rfl) (congrArg (fun x => AV.im (.val (.string x))) (show ((strOfNums (Cn.headT k ++ Cn.litsW (l.take i))) ++ (⟨#[32, 48, 10]⟩ : ByteArray)) = (strOfNums (Cn.lineB (k, l))) from (by first | exact Cn.text_end (by omega) | done))) [] rfl
 ·
  cases hσ
def cx_rPut24 : Cx := ⟨tyR24C, [(53, (coeF [.agg [.id, .ld (.ints [])]] rForm_σ)), (56, (coeF [.agg [.id, .ld (.ints [])]] rTxt_σ))], true⟩
theorem cx_rPut24_ok : CxOk Tryz.prog cx_rPut24 := cx_ok tyR24C_ok ⟨(rForm_sound.coe [.agg [.id, .ld (.ints [])]] rfl), (rTxt_sound.coe [.agg [.id, .ld (.ints [])]] rfl), trivial⟩
def rPut24_σ : CtF
  | [.im (.ls (.lines p))], [] => some (Cn.szP p ≤ 1000000000, .tup [.bytes (Cn.putV p), .int (Cn.frmV p)], [])
  | _, _ => none
theorem rPut24_sound : Sound Tryz.prog 20 rPut24_σ := by
 refine sound_mk (cx := cx_rPut24) (fn := Tryz.f20) Tryz.func20 (by kernel_rfl) rfl ?_
 intro w0 G0 args os p r outs hσ hp hm0 hd0
 have hcx : CxOk Tryz.prog cx_rPut24 := cx_rPut24_ok
 unfold rPut24_σ at hσ
 split at hσ
 ·
  rename_i p
  simp only [Option.some.injEq, Prod.mk.injEq] at hσ
  obtain ⟨rfl, rfl, rfl⟩ := hσ
  obtain ⟨wW, wO, wm, wβ, wd⟩ := w0
  replace hm0 : wm = 0 := hm0
  subst hm0
  replace hd0 : wd = [] := hd0
  subst hd0
  refine ⟨by kernel_rfl, ?_⟩
  change Tri ⟨_, _, _, _, _, _⟩ [(0, .lines p)] [] _ _
  have hm1 := hp
  have hpl := Cn.len_szP p
  have hml := fun x (hx : x ∈ p) => Cn.mem_szP hx
  refine tri_seq ?_
  refine tri_regD hcx [] [] [0] [] [] [] [] (by kernel_rfl) ?_ ?_
  ·
   exact az
  refine fin_then ?_
  refine tri_seq ?_
  refine tri_seq ?_
  refine tri_regD hcx [] [11] [0] [] [] [(11, .bool (decide ((p.length : Int) > 65536)))] [] (by kernel_rfl) ?_ ?_
  ·
   exact az
  refine fin_then ?_
  refine tri_cond (b := (decide ((p.length : Int) > 65536))) (by kernel_rfl) (fun hb0 => ?_) (fun hb0 => ?_)
  ·
   skip
   have h0 := of_decide_eq_true hb0
   have hfr := Cn.frm_big h0
   have hne : ¬ Cn.frmV p = 0 := by rw [hfr]; decide
   refine tri_seq ?_
   refine tri_regD hcx [] [2, 3] [] [] [] [(2, .im (.val (.slice none 0 0))), (3, .int 2)] [] (by kernel_rfl) ?_ ?_
   ·
    exact az
   refine fin_then ?_
   refine tri_ret ?_
   refine fin_then_ret ?_
   refine fin_nil 2 (.bytes []) (by kernel_rfl) (E' := [(2, .bytes []), (3, .int 2)]) (by kernel_rfl) ?_
   exact fin_ret [] rfl rfl trivial hcx (avs := [.bytes [], .int 2]) (by kernel_rfl) (congrArg AV.tup (consE (congrArg AV.bytes (show [] = (Cn.putV p) from (by first | exact Cn.putV_no hne | exact hfr.symm | exact Cn.putV_yes hfr (by omega) | done))) (consE (congrArg AV.int (show 2 = (Cn.frmV p) from (by first | exact Cn.putV_no hne | exact hfr.symm | exact Cn.putV_yes hfr (by omega) | done))) rfl))) [] rfl
  ·
   skip
   have h0 := of_decide_eq_false hb0
   have h11 := h0
   refine tri_skip ?_
   refine fin_then ?_
   refine tri_seq ?_
   refine tri_seq ?_
   refine tri_regD hcx [] [12, 13, 14] [0] [] [] [(12, .lines p), (13, .int (p.length : Int)), (14, .int 0)] [] (by kernel_rfl) ?_ ?_
   ·
    exact az
   refine fin_then ?_
   refine tri_block ?_
   refine tri_loop (X := Nat) (fun x0 => x0 ≤ p.length ∧ ∀ j, j < x0 → Cn.lineOk (p.getD j (0, [])) = true) (fun x0 => [(0, .lines p), (12, .lines p), (13, .int (p.length : Int)), (14, .int (x0 : Int))]) (fun x0 => []) (fun x0 => p.length - x0) (0) ?_ ?_ ?_ ?_
   ·
    show 0 ≤ p.length ∧ ∀ j, j < 0 → Cn.lineOk (p.getD j (0, [])) = true
    exact ⟨Nat.zero_le _, fun j hj => by omega⟩
   ·
    exact subE_mk (l := [.lines p, .lines p, .int (p.length : Int), .int 0]) (m := [.lines p, .lines p, .int (p.length : Int), .int (0 : Int)]) (by kernel_rfl) (by kernel_rfl) (consE rfl (consE rfl (consE rfl (consE (congrArg AV.int (show 0 = (0 : Int) from (by first | rfl | omega | (simp; done)))) rfl))))
   ·
    kernel_rfl
   ·
    intro i hI
    replace hI : i ≤ p.length ∧ ∀ j, j < i → Cn.lineOk (p.getD j (0, [])) = true := hI
    change Tri _ [(0, .lines p), (12, .lines p), (13, .int (p.length : Int)), (14, .int (i : Int))] [] _ _
    obtain ⟨hk, hok⟩ := hI
    have hxm := fun (hi : i < p.length) => hml _ (Cn.getD_memL (d := (0, [])) hi)
    refine tri_seq ?_
    refine tri_regD hcx [] [15] [0, 12, 13, 14] [] [] [(15, .bool (decide ((i : Int) < (p.length : Int))))] [] (by kernel_rfl) ?_ ?_
    ·
     exact az
    refine fin_then ?_
    refine tri_seq ?_
    refine tri_cond (b := (decide ((i : Int) < (p.length : Int)))) (by kernel_rfl) (fun hb1 => ?_) (fun hb1 => ?_)
    ·
     skip
     have h1 := of_decide_eq_true hb1
     refine tri_skip ?_
     refine fin_then ?_
     refine tri_seq ?_
     refine tri_block ?_
     refine tri_seq ?_
     refine tri_regD hcx [(1002, .to 605)] [5] [0, 12, 13, 14] [] [((0 : Int) ≤ (i : Int) ∧ (i : Int) < (p.length : Int))] [(5, .loc 605 0)] [(605, .box [.int ((p.getD i (0, [])).1), .ints ((p.getD i (0, [])).2)])] (by kernel_rfl) ?_ ?_
     ·
      refine (ap ?_ az)
      omega
     refine fin_then ?_
     refine tri_seq ?_
     refine tri_regD hcx [] [20] [0, 12, 13, 14] [] [(((p.getD i (0, [])).2).length ≤ maxLen)] [(20, .bool (!(Cn.lineOk (((p.getD i (0, [])).1), ((p.getD i (0, [])).2)))))] [] (by kernel_rfl) ?_ ?_
     ·
      refine (ap ?_ az)
      (have h8 := hxm (by omega); unfold maxLen; omega)
     refine fin_then ?_
     refine tri_cond (b := (!(Cn.lineOk (((p.getD i (0, [])).1), ((p.getD i (0, [])).2))))) (by kernel_rfl) (fun hb2 => ?_) (fun hb2 => ?_)
     ·
      skip
      have h2 := hb2
      have hq := Cn.ntT h2
      have hfr := Cn.frm_bad (by omega) (by omega) hq
      have hne : ¬ Cn.frmV p = 0 := by rw [hfr]; decide
      refine tri_seq ?_
      refine tri_regD hcx [] [2, 3] [] [] [] [(2, .im (.val (.slice none 0 0))), (3, .int 1)] [] (by kernel_rfl) ?_ ?_
      ·
       exact az
      refine fin_then ?_
      refine tri_ret ?_
      refine fin_block_ret ?_
      refine fin_then_ret ?_
      refine fin_then_ret ?_
      refine fin_block_ret ?_
      refine fin_then_ret ?_
      refine fin_nil 2 (.bytes []) (by kernel_rfl) (E' := [(2, .bytes []), (3, .int 1)]) (by kernel_rfl) ?_
      exact fin_ret [] rfl rfl trivial hcx (avs := [.bytes [], .int 1]) (by kernel_rfl) (congrArg AV.tup (consE (congrArg AV.bytes (show [] = (Cn.putV p) from (by first | exact Cn.putV_no hne | exact hfr.symm | exact Cn.putV_yes hfr (by omega) | done))) (consE (congrArg AV.int (show 1 = (Cn.frmV p) from (by first | exact Cn.putV_no hne | exact hfr.symm | exact Cn.putV_yes hfr (by omega) | done))) rfl))) [] rfl
     ·
      skip
      have h2 := hb2
      have hq := Cn.ntF h2
      refine tri_skip ?_
      refine fin_block ?_
      refine fin_then ?_
      refine tri_regD hcx [] [14] [0, 12, 13] [] [Fit ((i : Int) + 1)] [(14, .int ((i : Int) + 1))] [] (by kernel_rfl) ?_ ?_
      ·
       refine (ap ?_ az)
       omega
      refine fin_round (i + 1) ?_ ?_ ?_ ?_
      ·
       show (i + 1) ≤ p.length ∧ ∀ j, j < (i + 1) → Cn.lineOk (p.getD j (0, [])) = true
       exact ⟨by omega, fun j hj => by rcases (by omega : j < i ∨ j = i) with h | rfl; exact hok j h; exact hq⟩
      ·
       show p.length - (i + 1) < p.length - i
       omega
      ·
       exact subE_mk (l := [.lines p, .lines p, .int (p.length : Int), .int ((i : Int) + 1)]) (m := [.lines p, .lines p, .int (p.length : Int), .int ((i + 1) : Int)]) (by kernel_rfl) (by kernel_rfl) (consE rfl (consE rfl (consE rfl (consE (congrArg AV.int (show ((i : Int) + 1) = ((i + 1) : Int) from (by first | rfl | omega | (simp; done)))) rfl))))
      ·
       kernel_rfl
    ·
     skip
     have h1 := of_decide_eq_false hb1
     have hfr := Cn.frm_good (by omega) (by omega) hok
     obtain ⟨hq1, hq2, hq3⟩ := Cn.frm_lits hfr
     refine tri_exit ?_
     refine fin_then_exit ?_
     refine fin_then_exit ?_
     refine fin_block_same ?_
     refine fin_then ?_
     refine tri_seq ?_
     refine tri_regD hcx [] [6] [0] [] [] [(6, .im (.val (.slice none 0 0)))] [] (by kernel_rfl) ?_ ?_
     ·
      exact az
     refine fin_then ?_
     refine tri_seq ?_
     refine tri_seq ?_
     refine tri_regD hcx [] [22, 23, 24] [6] [] [] [(22, .lines p), (23, .int (p.length : Int)), (24, .int 0)] [] (by kernel_rfl) ?_ ?_
     ·
      exact az
     refine fin_then ?_
     refine tri_block ?_
     refine tri_row 6 700 5 (.bytes []) (by kernel_rfl) (by kernel_rfl) (by kernel_rfl) (by kernel_rfl) (E' := [(22, .lines p), (23, .int (p.length : Int)), (24, .int 0), (6, .row 700)]) (by kernel_rfl) ?_
     refine tri_loop (X := Nat) (fun x0 => x0 ≤ p.length) (fun x0 => [(6, .row 700), (22, .lines p), (23, .int (p.length : Int)), (24, .int (x0 : Int))]) (fun x0 => [(700, .row 5 (.bytes (Cn.putP (p.take x0))))]) (fun x0 => p.length - x0) (0) ?_ ?_ ?_ ?_
     ·
      show 0 ≤ p.length
      omega
     ·
      exact subE_mk (l := [.row 700, .lines p, .int (p.length : Int), .int 0]) (m := [.row 700, .lines p, .int (p.length : Int), .int (0 : Int)]) (by kernel_rfl) (by kernel_rfl) (consE rfl (consE rfl (consE rfl (consE (congrArg AV.int (show 0 = (0 : Int) from (by first | rfl | omega | (simp; done)))) rfl))))
     ·
      exact Eq.trans (show _ = [(700, .row 5 (.bytes []))] from by kernel_rfl) (consH (congrArg (fun x => ((700 : Nat), x)) (congrArg (fun x => AObj.row 5 (.bytes x)) (show [] = (Cn.putP (p.take 0)) from (by rfl)))) rfl)
     ·
      intro j hI
      replace hI : j ≤ p.length := hI
      change Tri _ [(6, .row 700), (22, .lines p), (23, .int (p.length : Int)), (24, .int (j : Int))] [(700, .row 5 (.bytes (Cn.putP (p.take j))))] _ _
      have hbd := Cn.put_le hq3 j
      have hbd2 := Cn.put_le hq3 (j + 1)
      have hxm2 := fun (hi : j < p.length) => Cn.getD_memL (d := (0, [])) hi
      have hlb := fun (hi : j < p.length) => Cn.put_size hi
      refine tri_seq ?_
      refine tri_regD hcx [] [25] [6, 22, 23, 24] [700] [] [(25, .bool (decide ((j : Int) < (p.length : Int))))] [] (by kernel_rfl) ?_ ?_
      ·
       exact az
      refine fin_then ?_
      refine tri_seq ?_
      refine tri_cond (b := (decide ((j : Int) < (p.length : Int)))) (by kernel_rfl) (fun hb3 => ?_) (fun hb3 => ?_)
      ·
       skip
       have h3 := of_decide_eq_true hb3
       refine tri_skip ?_
       refine fin_then ?_
       refine tri_seq ?_
       refine tri_block ?_
       refine tri_seq ?_
       refine tri_regD hcx [(1002, .to 608)] [8] [6, 22, 23, 24] [700] [((0 : Int) ≤ (j : Int) ∧ (j : Int) < (p.length : Int))] [(8, .loc 608 0)] [(608, .box [.int ((p.getD j (0, [])).1), .ints ((p.getD j (0, [])).2)])] (by kernel_rfl) ?_ ?_
       ·
        refine (ap ?_ az)
        omega
       refine fin_then ?_
       refine tri_regD hcx [(1003, .to 700)] [6] [22, 23, 24] [] [(1 ≤ ((p.getD j (0, [])).1) ∧ ((p.getD j (0, [])).1) ≤ 3 ∧ ((p.getD j (0, [])).2).length ≤ 1000000000 ∧ ∀ y ∈ ((p.getD j (0, [])).2), -65536 ≤ y ∧ y ≤ 65536), (((Cn.putP (p.take j)).length + (strOfNums (Cn.lineB (((p.getD j (0, [])).1), ((p.getD j (0, [])).2)))).size) * 1 ≤ 140737488355328)] [(6, .row 700)] [(700, .row 5 (.bytes ((Cn.putP (p.take j)) ++ (bytesI (strOfNums (Cn.lineB (((p.getD j (0, [])).1), ((p.getD j (0, [])).2))))))))] (by kernel_rfl) ?_ ?_
       ·
        refine (ap ?_ (ap ?_ az))
        all_goals
         first | omega | (have h8 := hxm2 (by omega); have h7 := hml _ h8; exact ⟨(hq2 _ h8).1, (hq2 _ h8).2, by omega, hq3 _ h8⟩)
       refine fin_block ?_
       refine fin_then ?_
       refine tri_regD hcx [] [24] [6, 22, 23] [700] [Fit ((j : Int) + 1)] [(24, .int ((j : Int) + 1))] [] (by kernel_rfl) ?_ ?_
       ·
        refine (ap ?_ az)
        omega
       refine fin_round (j + 1) ?_ ?_ ?_ ?_
       ·
        show (j + 1) ≤ p.length
        omega
       ·
        show p.length - (j + 1) < p.length - j
        omega
       ·
        exact subE_mk (l := [.row 700, .lines p, .int (p.length : Int), .int ((j : Int) + 1)]) (m := [.row 700, .lines p, .int (p.length : Int), .int ((j + 1) : Int)]) (by kernel_rfl) (by kernel_rfl) (consE rfl (consE rfl (consE rfl (consE (congrArg AV.int (show ((j : Int) + 1) = ((j + 1) : Int) from (by first | rfl | omega | (simp; done)))) rfl))))
       ·
        exact Eq.trans (show _ = [(700, .row 5 (.bytes ((Cn.putP (p.take j)) ++ (bytesI (strOfNums (Cn.lineB (((p.getD j (0, [])).1), ((p.getD j (0, [])).2))))))))] from by kernel_rfl) (consH (congrArg (fun x => ((700 : Nat), x)) (congrArg (fun x => AObj.row 5 (.bytes x)) (show ((Cn.putP (p.take j)) ++ (bytesI (strOfNums (Cn.lineB (((p.getD j (0, [])).1), ((p.getD j (0, [])).2)))))) = (Cn.putP (p.take (j + 1))) from (by exact Cn.put_text (by omega) (hok _ (by omega)))))) rfl)
      ·
       skip
       have h3 := of_decide_eq_false hb3
       refine tri_exit ?_
       refine fin_then_exit ?_
       refine fin_then_exit ?_
       refine fin_block_same ?_
       refine fin_then ?_
       refine tri_seq ?_
       refine tri_regD hcx [(700, .frz)] [2, 3] [] [] [] [(2, .bytes (Cn.putP (p.take j))), (3, .int 0)] [] (by kernel_rfl) ?_ ?_
       ·
        exact az
       refine fin_then ?_
       refine tri_ret ?_
       exact fin_ret [] rfl rfl trivial hcx (avs := [.bytes (Cn.putP (p.take j)), .int 0]) (by kernel_rfl) (congrArg AV.tup (consE (congrArg AV.bytes (show (Cn.putP (p.take j)) = (Cn.putV p) from (by first | exact Cn.putV_no hne | exact hfr.symm | exact Cn.putV_yes hfr (by omega) | done))) (consE (congrArg AV.int (show 0 = (Cn.frmV p) from (by first | exact Cn.putV_no hne | exact hfr.symm | exact Cn.putV_yes hfr (by omega) | done))) rfl))) [] rfl
 ·
  cases hσ
end Go.Proofs.YtbpbndlgfiammaaGreatDoor.En
