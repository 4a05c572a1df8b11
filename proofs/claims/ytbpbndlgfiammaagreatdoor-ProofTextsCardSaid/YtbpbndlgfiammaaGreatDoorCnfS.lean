/- Layer 14's functions, in the reader's words: each function's contract holds. -/
import Derived.Test.YtbpbndlgfiammaaGreatDoorEngR
import Derived.Test.YtbpbndlgfiammaaGreatDoorCnfP
import Derived.Test.YtbpbndlgfiammaaGreatDoorProg
namespace Go.Proofs.YtbpbndlgfiammaaGreatDoor.En
open Go Go.RowKit
set_option linter.unusedVariables false
set_option linter.unusedSimpArgs false
set_option linter.unnecessarySimpa false
def tyCnf : List (Nat × TD) := [(3, ⟨1, false, [.int .i64 0], [], none, 8, false, 1, 1⟩),
  (4, ⟨1, false, [.bool false], [], none, 1, true, 0, 2⟩),
  (22, ⟨1, false, [.slice none 0 0], [], some 23, 24, false, 0, 0⟩),
  (23, ⟨1, false, [.slice none 0 0], [], some 3, 24, false, 0, 3⟩),
  (28, ⟨2, true, [.int .i64 0, .slice none 0 0], [(0, 3), (1, 22)], none, 32, false, 0, 6⟩),
  (31, ⟨1, false, [.int .i64 0], [], none, 8, false, 1, 1⟩),
  (45, ⟨1, false, [.slice none 0 0], [], some 4, 24, false, 0, 0⟩),
  (66, ⟨1, false, [.nilFunc], [], none, 8, false, 0, 0⟩),
  (75, ⟨1, false, [.nilFunc], [], none, 8, false, 0, 0⟩),
  (88, ⟨1, false, [.int .i64 0], [], none, 8, false, 1, 1⟩)]
theorem tyCnf_ok : AllTy Tryz.prog tyCnf := ⟨⟨by kernel_rfl, by kernel_rfl, by kernel_rfl⟩, ⟨by kernel_rfl, by kernel_rfl, by kernel_rfl⟩, ⟨by kernel_rfl, by kernel_rfl, by kernel_rfl⟩, ⟨by kernel_rfl, by kernel_rfl, by kernel_rfl⟩, ⟨by kernel_rfl, by kernel_rfl, by kernel_rfl⟩, ⟨by kernel_rfl, by kernel_rfl, by kernel_rfl⟩, ⟨by kernel_rfl, by kernel_rfl, by kernel_rfl⟩, ⟨by kernel_rfl, by kernel_rfl, by kernel_rfl⟩, ⟨by kernel_rfl, by kernel_rfl, by kernel_rfl⟩, ⟨by kernel_rfl, by kernel_rfl, by kernel_rfl⟩, trivial⟩
def cx_cMay : Cx := ⟨tyCnf, [], false⟩
theorem cx_cMay_ok : CxOk Tryz.prog cx_cMay := cx_ok tyCnf_ok trivial
def cMay_σ : CtF
  | [.im (.val (.int .i64 l)), .im (.val (.int .i64 n))], [] => some (0 ≤ n ∧ n ≤ 65536, .bool (Cn.mayP l n), [])
  | _, _ => none
theorem cMay_sound : Sound Tryz.prog 63 cMay_σ := by
 refine sound_mk (cx := cx_cMay) (fn := Tryz.f63) Tryz.func63 (by kernel_rfl) rfl ?_
 intro w0 G0 args os p r outs hσ hp hm0 hd0
 have hcx : CxOk Tryz.prog cx_cMay := cx_cMay_ok
 unfold cMay_σ at hσ
 split at hσ
 ·
  rename_i l n
  simp only [Option.some.injEq, Prod.mk.injEq] at hσ
  obtain ⟨rfl, rfl, rfl⟩ := hσ
  obtain ⟨wW, wO, wm, wβ, wd⟩ := w0
  replace hm0 : wm = 0 := hm0
  subst hm0
  replace hd0 : wd = [] := hd0
  subst hd0
  refine ⟨by kernel_rfl, ?_⟩
  change Tri ⟨_, _, _, _, _, _⟩ [(0, .int l), (1, .int n)] [] _ _
  obtain ⟨hn0, hn1⟩ := hp
  refine tri_seq ?_
  refine tri_regD hcx [] [] [0, 1] [] [] [] [] (by kernel_rfl) ?_ ?_
  ·
   exact az
  refine fin_then ?_
  refine tri_seq ?_
  refine tri_regD hcx [] [4] [] [] [((l != 0) = true → ((l != 0) = true)), ((l != 0) = true → Fit (-n)), ((l != 0) = true → ((l != 0) = true)), ((l != 0) = true → ((l != 0) = true)), ((l != 0) = true → (l != 0) = true), (((l != 0) && (decide ((-n) ≤ l))) = true → (((l != 0) && (decide ((-n) ≤ l))) = true)), (((l != 0) && (decide ((-n) ≤ l))) = true → (((l != 0) && (decide ((-n) ≤ l))) = true)), (((l != 0) && (decide ((-n) ≤ l))) = true → ((l != 0) && (decide ((-n) ≤ l))) = true)] [(4, .bool (((l != 0) && (decide ((-n) ≤ l))) && (decide (l ≤ n))))] [] (by kernel_rfl) ?_ ?_
  ·
   refine (ap ?_ (ap ?_ (ap ?_ (ap ?_ (ap (by exact id) (ap ?_ (ap ?_ (ap (by exact id) az))))))))
   all_goals
    first | omega | exact id
  refine fin_then ?_
  refine tri_ret ?_
  exact fin_ret [] rfl rfl trivial hcx (avs := [.bool (((l != 0) && (decide ((-n) ≤ l))) && (decide (l ≤ n)))]) (by kernel_rfl) (congrArg AV.bool (show (((l != 0) && (decide ((-n) ≤ l))) && (decide (l ≤ n))) = Cn.mayP l n from (by rfl))) [] rfl
 ·
  cases hσ
def cx_cOf : Cx := ⟨tyCnf, [], false⟩
theorem cx_cOf_ok : CxOk Tryz.prog cx_cOf := cx_ok tyCnf_ok trivial
def cOf_σ : CtF
  | [.im (.val (.int .i64 l))], [] => some (-9223372036854775807 ≤ l ∧ l ≤ 9223372036854775807, .int (l.natAbs : Int), [])
  | _, _ => none
theorem cOf_sound : Sound Tryz.prog 93 cOf_σ := by
 refine sound_mk (cx := cx_cOf) (fn := Tryz.f93) Tryz.func93 (by kernel_rfl) rfl ?_
 intro w0 G0 args os p r outs hσ hp hm0 hd0
 have hcx : CxOk Tryz.prog cx_cOf := cx_cOf_ok
 unfold cOf_σ at hσ
 split at hσ
 ·
  rename_i l
  simp only [Option.some.injEq, Prod.mk.injEq] at hσ
  obtain ⟨rfl, rfl, rfl⟩ := hσ
  obtain ⟨wW, wO, wm, wβ, wd⟩ := w0
  replace hm0 : wm = 0 := hm0
  subst hm0
  replace hd0 : wd = [] := hd0
  subst hd0
  refine ⟨by kernel_rfl, ?_⟩
  change Tri ⟨_, _, _, _, _, _⟩ [(0, .int l)] [] _ _
  obtain ⟨hn0, hn1⟩ := hp
  refine tri_seq ?_
  refine tri_regD hcx [] [] [0] [] [] [] [] (by kernel_rfl) ?_ ?_
  ·
   exact az
  refine fin_then ?_
  refine tri_seq ?_
  refine tri_regD hcx [] [2] [] [] [Fit (-l)] [(2, .int (max l (-l)))] [] (by kernel_rfl) ?_ ?_
  ·
   refine (ap ?_ az)
   omega
  refine fin_then ?_
  refine tri_ret ?_
  exact fin_ret [] rfl rfl trivial hcx (avs := [.int (max l (-l))]) (by kernel_rfl) (congrArg AV.int (show (max l (-l)) = (l.natAbs : Int) from (by omega))) [] rfl
 ·
  cases hσ
def cx_cTrue : Cx := ⟨tyCnf, [(63, cMay_σ), (93, cOf_σ)], false⟩
theorem cx_cTrue_ok : CxOk Tryz.prog cx_cTrue := cx_ok tyCnf_ok ⟨cMay_sound, cOf_sound, trivial⟩
def cTrue_σ : CtF
  | [.im (.val (.int .i64 l)), .im (.ls (.bools a))], [] => some (a.length ≤ maxLen, .bool (Cn.litV a l), [])
  | _, _ => none
theorem cTrue_sound : Sound Tryz.prog 65 cTrue_σ := by
 refine sound_mk (cx := cx_cTrue) (fn := Tryz.f65) Tryz.func65 (by kernel_rfl) rfl ?_
 intro w0 G0 args os p r outs hσ hp hm0 hd0
 have hcx : CxOk Tryz.prog cx_cTrue := cx_cTrue_ok
 unfold cTrue_σ at hσ
 split at hσ
 ·
  rename_i l a
  simp only [Option.some.injEq, Prod.mk.injEq] at hσ
  obtain ⟨rfl, rfl, rfl⟩ := hσ
  obtain ⟨wW, wO, wm, wβ, wd⟩ := w0
  replace hm0 : wm = 0 := hm0
  subst hm0
  replace hd0 : wd = [] := hd0
  subst hd0
  refine ⟨by kernel_rfl, ?_⟩
  change Tri ⟨_, _, _, _, _, _⟩ [(0, .int l), (1, .bools a)] [] _ _
  unfold maxLen at hp
  refine tri_seq ?_
  refine tri_regD hcx [] [] [0, 1] [] [] [] [] (by kernel_rfl) ?_ ?_
  ·
   exact az
  refine fin_then ?_
  refine tri_seq ?_
  refine tri_seq ?_
  refine tri_regD hcx [] [8] [0, 1] [] [(0 ≤ (65536 : Int) ∧ (65536 : Int) ≤ 65536)] [(8, .bool (!(Cn.mayP l (65536 : Int))))] [] (by kernel_rfl) ?_ ?_
  ·
   refine (ap ?_ az)
   omega
  refine fin_then ?_
  refine tri_cond (b := (!(Cn.mayP l (65536 : Int)))) (by kernel_rfl) (fun hb0 => ?_) (fun hb0 => ?_)
  ·
   skip
   have h0 := (notB_t hb0)
   refine tri_seq ?_
   refine tri_regD hcx [] [4] [] [] [] [(4, .bool false)] [] (by kernel_rfl) ?_ ?_
   ·
    exact az
   refine fin_then ?_
   refine tri_ret ?_
   refine fin_then_ret ?_
   exact fin_ret [] rfl rfl trivial hcx (avs := [.bool false]) (by kernel_rfl) (congrArg AV.bool (show false = (Cn.litV a l) from (by exact (Cn.litV_no h0).symm))) [] rfl
  ·
   skip
   have h0 := (notB_f hb0)
   have hmb := Cn.mayP_iff.1 h0
   refine tri_skip ?_
   refine fin_then ?_
   refine tri_seq ?_
   refine tri_regD hcx [] [5] [0, 1] [] [(-9223372036854775807 ≤ l ∧ l ≤ 9223372036854775807)] [(5, .int (l.natAbs : Int))] [] (by kernel_rfl) ?_ ?_
   ·
    refine (ap ?_ az)
    omega
   refine fin_then ?_
   refine tri_seq ?_
   refine tri_regD hcx [] [4] [] [] [((decide ((l.natAbs : Int) < (a.length : Int))) = true → ((decide ((l.natAbs : Int) < (a.length : Int))) = true)), ((decide ((l.natAbs : Int) < (a.length : Int))) = true → ((decide ((l.natAbs : Int) < (a.length : Int))) = true)), ((decide ((l.natAbs : Int) < (a.length : Int))) = true → ((0 : Int) ≤ (l.natAbs : Int) ∧ (l.natAbs : Int) < (a.length : Int))), ((decide ((l.natAbs : Int) < (a.length : Int))) = true → ((decide ((l.natAbs : Int) < (a.length : Int))) = true)), ((decide ((l.natAbs : Int) < (a.length : Int))) = true → (decide ((l.natAbs : Int) < (a.length : Int))) = true)] [(4, .bool (((decide ((l.natAbs : Int) < (a.length : Int))) && (a.getD ((l.natAbs : Int).toNat) false)) == (decide (l > 0))))] [] (by kernel_rfl) ?_ ?_
   ·
    refine (ap ?_ (ap ?_ (ap ?_ (ap ?_ (ap (by exact id) az)))))
    all_goals
     first | exact id | (intro h; simp at h; omega)
   refine fin_then ?_
   refine tri_ret ?_
   exact fin_ret [] rfl rfl trivial hcx (avs := [.bool (((decide ((l.natAbs : Int) < (a.length : Int))) && (a.getD ((l.natAbs : Int).toNat) false)) == (decide (l > 0)))]) (by kernel_rfl) (congrArg AV.bool (show (((decide ((l.natAbs : Int) < (a.length : Int))) && (a.getD ((l.natAbs : Int).toNat) false)) == (decide (l > 0))) = (Cn.litV a l) from (by exact (Cn.litV_yes h0).symm))) [] rfl
 ·
  cases hσ
def cx_cHolds1 : Cx := ⟨tyCnf, [(65, (coeF [.id, .ld (.bools [])] cTrue_σ))], false⟩
theorem cx_cHolds1_ok : CxOk Tryz.prog cx_cHolds1 := cx_ok tyCnf_ok ⟨(cTrue_sound.coe [.id, .ld (.bools [])] rfl), trivial⟩
def cHolds1_σ : CtF
  | [.im (.val (.int .i64 x)), .pto [.ls (.bools a)]], [] => some (a.length ≤ maxLen, .bool (Cn.litV a x), [])
  | _, _ => none
theorem cHolds1_sound : Sound Tryz.prog 64 cHolds1_σ := by
 refine sound_mk (cx := cx_cHolds1) (fn := Tryz.f64) Tryz.func64 (by kernel_rfl) rfl ?_
 intro w0 G0 args os p r outs hσ hp hm0 hd0
 have hcx : CxOk Tryz.prog cx_cHolds1 := cx_cHolds1_ok
 unfold cHolds1_σ at hσ
 split at hσ
 ·
  rename_i x a
  simp only [Option.some.injEq, Prod.mk.injEq] at hσ
  obtain ⟨rfl, rfl, rfl⟩ := hσ
  obtain ⟨wW, wO, wm, wβ, wd⟩ := w0
  replace hm0 : wm = 0 := hm0
  subst hm0
  replace hd0 : wd = [] := hd0
  subst hd0
  refine ⟨by kernel_rfl, ?_⟩
  change Tri ⟨_, _, _, _, _, _⟩ [(0, .int x), (1, .pto [.ls (.bools a)])] [] _ _
  refine tri_seq ?_
  refine tri_regD hcx [] [] [0, 1] [] [] [] [] (by kernel_rfl) ?_ ?_
  ·
   exact az
  refine fin_then ?_
  refine tri_seq ?_
  refine tri_regD hcx [] [3] [] [] [(a.length ≤ maxLen)] [(3, .bool (Cn.litV a x))] [] (by kernel_rfl) ?_ ?_
  ·
   refine (ap ?_ az)
   exact hp
  refine fin_then ?_
  refine tri_ret ?_
  exact fin_ret [] rfl rfl trivial hcx (avs := [.bool (Cn.litV a x)]) (by kernel_rfl) rfl [] rfl
 ·
  cases hσ
def cx_ixHolds : Cx := ⟨tyCnf, [(64, cHolds1_σ)], false⟩
theorem cx_ixHolds_ok : CxOk Tryz.prog cx_ixHolds := cx_ok tyCnf_ok ⟨cHolds1_sound, trivial⟩
def ixHolds_σ : CtF
  | [.im (.ls (.ints s)), .clo 64 [.pto [.ls (.bools a)]]], [] => some (s.length ≤ maxLen ∧ a.length ≤ maxLen, .int (Cn.idxF (fun x => Cn.litV a x) s), [])
  | _, _ => none
theorem ixHolds_sound : Sound Tryz.prog 92 ixHolds_σ := by
 refine sound_mk (cx := cx_ixHolds) (fn := Tryz.f92) Tryz.func92 (by kernel_rfl) rfl ?_
 intro w0 G0 args os p r outs hσ hp hm0 hd0
 have hcx : CxOk Tryz.prog cx_ixHolds := cx_ixHolds_ok
 unfold ixHolds_σ at hσ
 split at hσ
 ·
  rename_i s a
  simp only [Option.some.injEq, Prod.mk.injEq] at hσ
  obtain ⟨rfl, rfl, rfl⟩ := hσ
  obtain ⟨wW, wO, wm, wβ, wd⟩ := w0
  replace hm0 : wm = 0 := hm0
  subst hm0
  replace hd0 : wd = [] := hd0
  subst hd0
  refine ⟨by kernel_rfl, ?_⟩
  change Tri ⟨_, _, _, _, _, _⟩ [(0, .ints s), (1, .clo 64 [.pto [.ls (.bools a)]])] [] _ _
  obtain ⟨hm1, hpr⟩ := hp
  unfold maxLen at hm1
  refine tri_seq ?_
  refine tri_regD hcx [] [] [0, 1] [] [] [] [] (by kernel_rfl) ?_ ?_
  ·
   exact az
  refine fin_then ?_
  refine tri_seq ?_
  refine tri_seq ?_
  refine tri_regD hcx [] [7, 8] [0, 1] [] [] [(7, .int (s.length : Int)), (8, .int 0)] [] (by kernel_rfl) ?_ ?_
  ·
   exact az
  refine fin_then ?_
  refine tri_block ?_
  refine tri_loop (X := Nat) (fun x0 => x0 ≤ s.length ∧ ∀ j, j < x0 → (Cn.litV a (s.getD j 0)) = false) (fun x0 => [(0, .ints s), (1, .clo 64 [.pto [.ls (.bools a)]]), (7, .int (s.length : Int)), (8, .int (x0 : Int))]) (fun x0 => []) (fun x0 => s.length - x0) (0) ?_ ?_ ?_ ?_
  ·
   show 0 ≤ s.length ∧ ∀ j, j < 0 → (Cn.litV a (s.getD j 0)) = false
   exact ⟨Nat.zero_le _, fun j hj => by omega⟩
  ·
   exact subE_mk (l := [.ints s, .clo 64 [.pto [.ls (.bools a)]], .int (s.length : Int), .int 0]) (m := [.ints s, .clo 64 [.pto [.ls (.bools a)]], .int (s.length : Int), .int (0 : Int)]) (by kernel_rfl) (by kernel_rfl) (consE rfl (consE rfl (consE rfl (consE (congrArg AV.int (show 0 = (0 : Int) from (by first | rfl | omega | (simp; done)))) rfl))))
  ·
   kernel_rfl
  ·
   intro k hI
   replace hI : k ≤ s.length ∧ ∀ j, j < k → (Cn.litV a (s.getD j 0)) = false := hI
   change Tri _ [(0, .ints s), (1, .clo 64 [.pto [.ls (.bools a)]]), (7, .int (s.length : Int)), (8, .int (k : Int))] [] _ _
   obtain ⟨hk, hok⟩ := hI
   refine tri_seq ?_
   refine tri_regD hcx [] [9] [0, 1, 7, 8] [] [] [(9, .bool (decide ((k : Int) < (s.length : Int))))] [] (by kernel_rfl) ?_ ?_
   ·
    exact az
   refine fin_then ?_
   refine tri_seq ?_
   refine tri_cond (b := (decide ((k : Int) < (s.length : Int)))) (by kernel_rfl) (fun hb0 => ?_) (fun hb0 => ?_)
   ·
    skip
    have h0 := of_decide_eq_true hb0
    refine tri_skip ?_
    refine fin_then ?_
    refine tri_seq ?_
    refine tri_block ?_
    refine tri_seq ?_
    refine tri_regD hcx [] [5] [0, 1, 7, 8] [] [] [(5, .int (k : Int))] [] (by kernel_rfl) ?_ ?_
    ·
     exact az
    refine fin_then ?_
    refine tri_seq ?_
    refine tri_regD hcx [] [16] [5, 0, 1, 7, 8] [] [((0 : Int) ≤ (k : Int) ∧ (k : Int) < (s.length : Int)), (a.length ≤ maxLen)] [(16, .bool (Cn.litV a (s.getD k 0)))] [] (by kernel_rfl) ?_ ?_
    ·
     refine (ap ?_ (ap ?_ az))
     all_goals
      omega
    refine fin_then ?_
    refine tri_cond (b := (Cn.litV a (s.getD k 0))) (by kernel_rfl) (fun hb1 => ?_) (fun hb1 => ?_)
    ·
     skip
     have h1 := hb1
     have hq := h1
     refine tri_seq ?_
     refine tri_regD hcx [] [4] [] [] [] [(4, .int (k : Int))] [] (by kernel_rfl) ?_ ?_
     ·
      exact az
     refine fin_then ?_
     refine tri_ret ?_
     refine fin_block_ret ?_
     refine fin_then_ret ?_
     refine fin_then_ret ?_
     refine fin_block_ret ?_
     refine fin_then_ret ?_
     exact fin_ret [] rfl rfl trivial hcx (avs := [.int (k : Int)]) (by kernel_rfl) (congrArg AV.int (show (k : Int) = (Cn.idxF (fun x => Cn.litV a x) s) from (by exact (Cn.idxF_yes (p := (fun x => Cn.litV a x)) (by omega) hok hq).symm))) [] rfl
    ·
     skip
     have h1 := hb1
     have hq := h1
     refine tri_skip ?_
     refine fin_block ?_
     refine fin_then ?_
     refine tri_regD hcx [] [8] [0, 1, 7] [] [Fit ((k : Int) + 1)] [(8, .int ((k : Int) + 1))] [] (by kernel_rfl) ?_ ?_
     ·
      refine (ap ?_ az)
      omega
     refine fin_round (k + 1) ?_ ?_ ?_ ?_
     ·
      show (k + 1) ≤ s.length ∧ ∀ j, j < (k + 1) → (Cn.litV a (s.getD j 0)) = false
      exact ⟨by omega, Cn.falseSucc hok hq⟩
     ·
      show s.length - (k + 1) < s.length - k
      omega
     ·
      exact subE_mk (l := [.ints s, .clo 64 [.pto [.ls (.bools a)]], .int (s.length : Int), .int ((k : Int) + 1)]) (m := [.ints s, .clo 64 [.pto [.ls (.bools a)]], .int (s.length : Int), .int ((k + 1) : Int)]) (by kernel_rfl) (by kernel_rfl) (consE rfl (consE rfl (consE rfl (consE (congrArg AV.int (show ((k : Int) + 1) = ((k + 1) : Int) from (by first | rfl | omega | (simp; done)))) rfl))))
     ·
      kernel_rfl
   ·
    skip
    have h0 := of_decide_eq_false hb0
    refine tri_exit ?_
    refine fin_then_exit ?_
    refine fin_then_exit ?_
    refine fin_block_same ?_
    refine fin_then ?_
    refine tri_seq ?_
    refine tri_regD hcx [] [4] [] [] [] [(4, .int (-1))] [] (by kernel_rfl) ?_ ?_
    ·
     exact az
    refine fin_then ?_
    refine tri_ret ?_
    exact fin_ret [] rfl rfl trivial hcx (avs := [.int (-1)]) (by kernel_rfl) (congrArg AV.int (show (-1) = (Cn.idxF (fun x => Cn.litV a x) s) from (by exact (Cn.idxF_no (p := (fun x => Cn.litV a x)) (Cn.all_mem (d := 0) (fun j hj => hok j (by omega)))).symm))) [] rfl
 ·
  cases hσ
def cx_ctHolds : Cx := ⟨tyCnf, [(92, (coeF [.ld (.ints []), .id] ixHolds_σ))], false⟩
theorem cx_ctHolds_ok : CxOk Tryz.prog cx_ctHolds := cx_ok tyCnf_ok ⟨(ixHolds_sound.coe [.ld (.ints []), .id] rfl), trivial⟩
def ctHolds_σ : CtF
  | [.im (.ls (.ints s)), .clo 64 [.pto [.ls (.bools a)]]], [] => some (s.length ≤ maxLen ∧ a.length ≤ maxLen, .bool (s.any (fun x => Cn.litV a x)), [])
  | _, _ => none
theorem ctHolds_sound : Sound Tryz.prog 61 ctHolds_σ := by
 refine sound_mk (cx := cx_ctHolds) (fn := Tryz.f61) Tryz.func61 (by kernel_rfl) rfl ?_
 intro w0 G0 args os p r outs hσ hp hm0 hd0
 have hcx : CxOk Tryz.prog cx_ctHolds := cx_ctHolds_ok
 unfold ctHolds_σ at hσ
 split at hσ
 ·
  rename_i s a
  simp only [Option.some.injEq, Prod.mk.injEq] at hσ
  obtain ⟨rfl, rfl, rfl⟩ := hσ
  obtain ⟨wW, wO, wm, wβ, wd⟩ := w0
  replace hm0 : wm = 0 := hm0
  subst hm0
  replace hd0 : wd = [] := hd0
  subst hd0
  refine ⟨by kernel_rfl, ?_⟩
  change Tri ⟨_, _, _, _, _, _⟩ [(0, .ints s), (1, .clo 64 [.pto [.ls (.bools a)]])] [] _ _
  refine tri_seq ?_
  refine tri_regD hcx [] [] [0, 1] [] [] [] [] (by kernel_rfl) ?_ ?_
  ·
   exact az
  refine fin_then ?_
  refine tri_seq ?_
  refine tri_regD hcx [] [4] [] [] [(s.length ≤ maxLen ∧ a.length ≤ maxLen)] [(4, .bool (decide ((Cn.idxF (fun x => Cn.litV a x) s) ≥ 0)))] [] (by kernel_rfl) ?_ ?_
  ·
   refine (ap ?_ az)
   exact hp
  refine fin_then ?_
  refine tri_ret ?_
  exact fin_ret [] rfl rfl trivial hcx (avs := [.bool (decide ((Cn.idxF (fun x => Cn.litV a x) s) ≥ 0))]) (by kernel_rfl) (congrArg AV.bool (show (decide ((Cn.idxF (fun x => Cn.litV a x) s) ≥ 0)) = (s.any (fun x => Cn.litV a x)) from (by exact Cn.idxF_any (p := (fun x => Cn.litV a x)) s))) [] rfl
 ·
  cases hσ
def cx_cHolds : Cx := ⟨tyCnf, [(61, (coeF [.ld (.ints []), .id] ctHolds_σ))], false⟩
theorem cx_cHolds_ok : CxOk Tryz.prog cx_cHolds := cx_ok tyCnf_ok ⟨(ctHolds_sound.coe [.ld (.ints []), .id] rfl), trivial⟩
def cHolds_σ : CtF
  | [.im (.ls (.ints l)), .im (.ls (.bools a))], [] => some (l.length ≤ maxLen ∧ a.length ≤ maxLen, .bool (Cn.holdsV a l), [])
  | _, _ => none
theorem cHolds_sound : Sound Tryz.prog 28 cHolds_σ := by
 refine sound_mk (cx := cx_cHolds) (fn := Tryz.f28) Tryz.func28 (by kernel_rfl) rfl ?_
 intro w0 G0 args os p r outs hσ hp hm0 hd0
 have hcx : CxOk Tryz.prog cx_cHolds := cx_cHolds_ok
 unfold cHolds_σ at hσ
 split at hσ
 ·
  rename_i l a
  simp only [Option.some.injEq, Prod.mk.injEq] at hσ
  obtain ⟨rfl, rfl, rfl⟩ := hσ
  obtain ⟨wW, wO, wm, wβ, wd⟩ := w0
  replace hm0 : wm = 0 := hm0
  subst hm0
  replace hd0 : wd = [] := hd0
  subst hd0
  refine ⟨by kernel_rfl, ?_⟩
  change Tri ⟨_, _, _, _, _, _⟩ [(0, .ints l), (1, .bools a)] [] _ _
  refine tri_seq ?_
  refine tri_regD hcx [(1000, .frz)] [3] [0] [] [] [(3, .pto [.ls (.bools a)])] [] (by kernel_rfl) ?_ ?_
  ·
   exact az
  refine fin_then ?_
  refine tri_seq ?_
  refine tri_regD hcx [] [4] [] [] [(l.length ≤ maxLen ∧ a.length ≤ maxLen)] [(4, .bool (l.any (fun x => Cn.litV a x)))] [] (by kernel_rfl) ?_ ?_
  ·
   refine (ap ?_ az)
   exact hp
  refine fin_then ?_
  refine tri_ret ?_
  exact fin_ret [] rfl rfl trivial hcx (avs := [.bool (l.any (fun x => Cn.litV a x))]) (by kernel_rfl) (congrArg AV.bool (show (l.any (fun x => Cn.litV a x)) = (Cn.holdsV a l) from (by rfl))) [] rfl
 ·
  cases hσ
def cx_cCheck1 : Cx := ⟨tyCnf, [(63, cMay_σ)], false⟩
theorem cx_cCheck1_ok : CxOk Tryz.prog cx_cCheck1 := cx_ok tyCnf_ok ⟨cMay_sound, trivial⟩
def cCheck1_σ : CtF
  | [.im (.val (.int .i64 x)), .pto [.val (.int .i64 N), .ls (.intss L)]], [] => some (0 ≤ N ∧ N ≤ 65536, .bool (!(Cn.mayP x N)), [])
  | _, _ => none
theorem cCheck1_sound : Sound Tryz.prog 62 cCheck1_σ := by
 refine sound_mk (cx := cx_cCheck1) (fn := Tryz.f62) Tryz.func62 (by kernel_rfl) rfl ?_
 intro w0 G0 args os p r outs hσ hp hm0 hd0
 have hcx : CxOk Tryz.prog cx_cCheck1 := cx_cCheck1_ok
 unfold cCheck1_σ at hσ
 split at hσ
 ·
  rename_i x N L
  simp only [Option.some.injEq, Prod.mk.injEq] at hσ
  obtain ⟨rfl, rfl, rfl⟩ := hσ
  obtain ⟨wW, wO, wm, wβ, wd⟩ := w0
  replace hm0 : wm = 0 := hm0
  subst hm0
  replace hd0 : wd = [] := hd0
  subst hd0
  refine ⟨by kernel_rfl, ?_⟩
  change Tri ⟨_, _, _, _, _, _⟩ [(0, .int x), (1, .pto [.int N, .ls (.intss L)])] [] _ _
  refine tri_seq ?_
  refine tri_regD hcx [] [] [0, 1] [] [] [] [] (by kernel_rfl) ?_ ?_
  ·
   exact az
  refine fin_then ?_
  refine tri_seq ?_
  refine tri_regD hcx [] [3] [] [] [(0 ≤ N ∧ N ≤ 65536)] [(3, .bool (!(Cn.mayP x N)))] [] (by kernel_rfl) ?_ ?_
  ·
   refine (ap ?_ az)
   exact hp
  refine fin_then ?_
  refine tri_ret ?_
  exact fin_ret [] rfl rfl trivial hcx (avs := [.bool (!(Cn.mayP x N))]) (by kernel_rfl) rfl [] rfl
 ·
  cases hσ
def cx_ixCheck : Cx := ⟨tyCnf, [(62, cCheck1_σ)], false⟩
theorem cx_ixCheck_ok : CxOk Tryz.prog cx_ixCheck := cx_ok tyCnf_ok ⟨cCheck1_sound, trivial⟩
def ixCheck_σ : CtF
  | [.im (.ls (.ints s)), .clo 62 [.pto [.val (.int .i64 N), .ls (.intss L)]]], [] => some (s.length ≤ maxLen ∧ 0 ≤ N ∧ N ≤ 65536, .int (Cn.idxF (fun x => !(Cn.mayP x N)) s), [])
  | _, _ => none
theorem ixCheck_sound : Sound Tryz.prog 92 ixCheck_σ := by
 refine sound_mk (cx := cx_ixCheck) (fn := Tryz.f92) Tryz.func92 (by kernel_rfl) rfl ?_
 intro w0 G0 args os p r outs hσ hp hm0 hd0
 have hcx : CxOk Tryz.prog cx_ixCheck := cx_ixCheck_ok
 unfold ixCheck_σ at hσ
 split at hσ
 ·
  rename_i s N L
  simp only [Option.some.injEq, Prod.mk.injEq] at hσ
  obtain ⟨rfl, rfl, rfl⟩ := hσ
  obtain ⟨wW, wO, wm, wβ, wd⟩ := w0
  replace hm0 : wm = 0 := hm0
  subst hm0
  replace hd0 : wd = [] := hd0
  subst hd0
  refine ⟨by kernel_rfl, ?_⟩
  change Tri ⟨_, _, _, _, _, _⟩ [(0, .ints s), (1, .clo 62 [.pto [.int N, .ls (.intss L)]])] [] _ _
  obtain ⟨hm1, hpr⟩ := hp
  unfold maxLen at hm1
  refine tri_seq ?_
  refine tri_regD hcx [] [] [0, 1] [] [] [] [] (by kernel_rfl) ?_ ?_
  ·
   exact az
  refine fin_then ?_
  refine tri_seq ?_
  refine tri_seq ?_
  refine tri_regD hcx [] [7, 8] [0, 1] [] [] [(7, .int (s.length : Int)), (8, .int 0)] [] (by kernel_rfl) ?_ ?_
  ·
   exact az
  refine fin_then ?_
  refine tri_block ?_
  refine tri_loop (X := Nat) (fun x0 => x0 ≤ s.length ∧ ∀ j, j < x0 → (!(Cn.mayP (s.getD j 0) N)) = false) (fun x0 => [(0, .ints s), (1, .clo 62 [.pto [.int N, .ls (.intss L)]]), (7, .int (s.length : Int)), (8, .int (x0 : Int))]) (fun x0 => []) (fun x0 => s.length - x0) (0) ?_ ?_ ?_ ?_
  ·
   show 0 ≤ s.length ∧ ∀ j, j < 0 → (!(Cn.mayP (s.getD j 0) N)) = false
   exact ⟨Nat.zero_le _, fun j hj => by omega⟩
  ·
   exact subE_mk (l := [.ints s, .clo 62 [.pto [.int N, .ls (.intss L)]], .int (s.length : Int), .int 0]) (m := [.ints s, .clo 62 [.pto [.int N, .ls (.intss L)]], .int (s.length : Int), .int (0 : Int)]) (by kernel_rfl) (by kernel_rfl) (consE rfl (consE rfl (consE rfl (consE (congrArg AV.int (show 0 = (0 : Int) from (by first | rfl | omega | (simp; done)))) rfl))))
  ·
   kernel_rfl
  ·
   intro k hI
   replace hI : k ≤ s.length ∧ ∀ j, j < k → (!(Cn.mayP (s.getD j 0) N)) = false := hI
   change Tri _ [(0, .ints s), (1, .clo 62 [.pto [.int N, .ls (.intss L)]]), (7, .int (s.length : Int)), (8, .int (k : Int))] [] _ _
   obtain ⟨hk, hok⟩ := hI
   refine tri_seq ?_
   refine tri_regD hcx [] [9] [0, 1, 7, 8] [] [] [(9, .bool (decide ((k : Int) < (s.length : Int))))] [] (by kernel_rfl) ?_ ?_
   ·
    exact az
   refine fin_then ?_
   refine tri_seq ?_
   refine tri_cond (b := (decide ((k : Int) < (s.length : Int)))) (by kernel_rfl) (fun hb0 => ?_) (fun hb0 => ?_)
   ·
    skip
    have h0 := of_decide_eq_true hb0
    refine tri_skip ?_
    refine fin_then ?_
    refine tri_seq ?_
    refine tri_block ?_
    refine tri_seq ?_
    refine tri_regD hcx [] [5] [0, 1, 7, 8] [] [] [(5, .int (k : Int))] [] (by kernel_rfl) ?_ ?_
    ·
     exact az
    refine fin_then ?_
    refine tri_seq ?_
    refine tri_regD hcx [] [16] [5, 0, 1, 7, 8] [] [((0 : Int) ≤ (k : Int) ∧ (k : Int) < (s.length : Int)), (0 ≤ N ∧ N ≤ 65536)] [(16, .bool (!(Cn.mayP (s.getD k 0) N)))] [] (by kernel_rfl) ?_ ?_
    ·
     refine (ap ?_ (ap ?_ az))
     all_goals
      omega
    refine fin_then ?_
    refine tri_cond (b := (!(Cn.mayP (s.getD k 0) N))) (by kernel_rfl) (fun hb1 => ?_) (fun hb1 => ?_)
    ·
     skip
     have h1 := hb1
     have hq := h1
     refine tri_seq ?_
     refine tri_regD hcx [] [4] [] [] [] [(4, .int (k : Int))] [] (by kernel_rfl) ?_ ?_
     ·
      exact az
     refine fin_then ?_
     refine tri_ret ?_
     refine fin_block_ret ?_
     refine fin_then_ret ?_
     refine fin_then_ret ?_
     refine fin_block_ret ?_
     refine fin_then_ret ?_
     exact fin_ret [] rfl rfl trivial hcx (avs := [.int (k : Int)]) (by kernel_rfl) (congrArg AV.int (show (k : Int) = (Cn.idxF (fun x => !(Cn.mayP x N)) s) from (by exact (Cn.idxF_yes (p := (fun x => !(Cn.mayP x N))) (by omega) hok hq).symm))) [] rfl
    ·
     skip
     have h1 := hb1
     have hq := h1
     refine tri_skip ?_
     refine fin_block ?_
     refine fin_then ?_
     refine tri_regD hcx [] [8] [0, 1, 7] [] [Fit ((k : Int) + 1)] [(8, .int ((k : Int) + 1))] [] (by kernel_rfl) ?_ ?_
     ·
      refine (ap ?_ az)
      omega
     refine fin_round (k + 1) ?_ ?_ ?_ ?_
     ·
      show (k + 1) ≤ s.length ∧ ∀ j, j < (k + 1) → (!(Cn.mayP (s.getD j 0) N)) = false
      exact ⟨by omega, Cn.falseSucc hok hq⟩
     ·
      show s.length - (k + 1) < s.length - k
      omega
     ·
      exact subE_mk (l := [.ints s, .clo 62 [.pto [.int N, .ls (.intss L)]], .int (s.length : Int), .int ((k : Int) + 1)]) (m := [.ints s, .clo 62 [.pto [.int N, .ls (.intss L)]], .int (s.length : Int), .int ((k + 1) : Int)]) (by kernel_rfl) (by kernel_rfl) (consE rfl (consE rfl (consE rfl (consE (congrArg AV.int (show ((k : Int) + 1) = ((k + 1) : Int) from (by first | rfl | omega | (simp; done)))) rfl))))
     ·
      kernel_rfl
   ·
    skip
    have h0 := of_decide_eq_false hb0
    refine tri_exit ?_
    refine fin_then_exit ?_
    refine fin_then_exit ?_
    refine fin_block_same ?_
    refine fin_then ?_
    refine tri_seq ?_
    refine tri_regD hcx [] [4] [] [] [] [(4, .int (-1))] [] (by kernel_rfl) ?_ ?_
    ·
     exact az
    refine fin_then ?_
    refine tri_ret ?_
    exact fin_ret [] rfl rfl trivial hcx (avs := [.int (-1)]) (by kernel_rfl) (congrArg AV.int (show (-1) = (Cn.idxF (fun x => !(Cn.mayP x N)) s) from (by exact (Cn.idxF_no (p := (fun x => !(Cn.mayP x N))) (Cn.all_mem (d := 0) (fun j hj => hok j (by omega)))).symm))) [] rfl
 ·
  cases hσ
def cx_ctCheck : Cx := ⟨tyCnf, [(92, (orF (coeF [.ld (.ints []), .id] ixHolds_σ) (coeF [.ld (.ints []), .id] ixCheck_σ)))], false⟩
theorem cx_ctCheck_ok : CxOk Tryz.prog cx_ctCheck := cx_ok tyCnf_ok ⟨((ixHolds_sound.coe [.ld (.ints []), .id] rfl).or (ixCheck_sound.coe [.ld (.ints []), .id] rfl)), trivial⟩
def ctCheck_σ : CtF
  | [.im (.ls (.ints s)), .clo 62 [.pto [.val (.int .i64 N), .ls (.intss L)]]], [] => some (s.length ≤ maxLen ∧ 0 ≤ N ∧ N ≤ 65536, .bool (s.any (fun x => !(Cn.mayP x N))), [])
  | _, _ => none
theorem ctCheck_sound : Sound Tryz.prog 61 ctCheck_σ := by
 refine sound_mk (cx := cx_ctCheck) (fn := Tryz.f61) Tryz.func61 (by kernel_rfl) rfl ?_
 intro w0 G0 args os p r outs hσ hp hm0 hd0
 have hcx : CxOk Tryz.prog cx_ctCheck := cx_ctCheck_ok
 unfold ctCheck_σ at hσ
 split at hσ
 ·
  rename_i s N L
  simp only [Option.some.injEq, Prod.mk.injEq] at hσ
  obtain ⟨rfl, rfl, rfl⟩ := hσ
  obtain ⟨wW, wO, wm, wβ, wd⟩ := w0
  replace hm0 : wm = 0 := hm0
  subst hm0
  replace hd0 : wd = [] := hd0
  subst hd0
  refine ⟨by kernel_rfl, ?_⟩
  change Tri ⟨_, _, _, _, _, _⟩ [(0, .ints s), (1, .clo 62 [.pto [.int N, .ls (.intss L)]])] [] _ _
  refine tri_seq ?_
  refine tri_regD hcx [] [] [0, 1] [] [] [] [] (by kernel_rfl) ?_ ?_
  ·
   exact az
  refine fin_then ?_
  refine tri_seq ?_
  refine tri_regD hcx [] [4] [] [] [(s.length ≤ maxLen ∧ 0 ≤ N ∧ N ≤ 65536)] [(4, .bool (decide ((Cn.idxF (fun x => !(Cn.mayP x N)) s) ≥ 0)))] [] (by kernel_rfl) ?_ ?_
  ·
   refine (ap ?_ az)
   exact hp
  refine fin_then ?_
  refine tri_ret ?_
  exact fin_ret [] rfl rfl trivial hcx (avs := [.bool (decide ((Cn.idxF (fun x => !(Cn.mayP x N)) s) ≥ 0))]) (by kernel_rfl) (congrArg AV.bool (show (decide ((Cn.idxF (fun x => !(Cn.mayP x N)) s) ≥ 0)) = (s.any (fun x => !(Cn.mayP x N))) from (by exact Cn.idxF_any (p := (fun x => !(Cn.mayP x N))) s))) [] rfl
 ·
  cases hσ
def cx_cCheck : Cx := ⟨tyCnf, [(61, (orF (coeF [.ld (.ints []), .id] ctHolds_σ) (coeF [.ld (.ints []), .id] ctCheck_σ)))], false⟩
theorem cx_cCheck_ok : CxOk Tryz.prog cx_cCheck := cx_ok tyCnf_ok ⟨((ctHolds_sound.coe [.ld (.ints []), .id] rfl).or (ctCheck_sound.coe [.ld (.ints []), .id] rfl)), trivial⟩
def cCheck_σ : CtF
  | [.agg [.im (.val (.int .i64 N)), .im (.ls (.intss L))]], [] => some (L.length ≤ maxLen ∧ ∀ l ∈ L, l.length ≤ maxLen, .int (Cn.chkV N L), [])
  | _, _ => none
theorem cCheck_sound : Sound Tryz.prog 27 cCheck_σ := by
 refine sound_mk (cx := cx_cCheck) (fn := Tryz.f27) Tryz.func27 (by kernel_rfl) rfl ?_
 intro w0 G0 args os p r outs hσ hp hm0 hd0
 have hcx : CxOk Tryz.prog cx_cCheck := cx_cCheck_ok
 unfold cCheck_σ at hσ
 split at hσ
 ·
  rename_i N L
  simp only [Option.some.injEq, Prod.mk.injEq] at hσ
  obtain ⟨rfl, rfl, rfl⟩ := hσ
  obtain ⟨wW, wO, wm, wβ, wd⟩ := w0
  replace hm0 : wm = 0 := hm0
  subst hm0
  replace hd0 : wd = [] := hd0
  subst hd0
  refine ⟨by kernel_rfl, ?_⟩
  change Tri ⟨_, _, _, _, _, _⟩ [(0, .agg [.int N, .intss L])] [] _ _
  obtain ⟨hm1, hm2⟩ := hp
  unfold maxLen at hm1
  refine tri_seq ?_
  refine tri_regD hcx [(1000, .frz)] [1] [] [] [] [(1, .pto [.int N, .ls (.intss L)])] [] (by kernel_rfl) ?_ ?_
  ·
   exact az
  refine fin_then ?_
  refine tri_seq ?_
  refine tri_seq ?_
  refine tri_regD hcx [] [12] [1] [] [((!(decide (N < 0))) = true → ((!(decide (N < 0))) = true)), ((!(decide (N < 0))) = true → ((!(decide (N < 0))) = true)), ((decide (N < 0)) = false → (!(decide (N < 0))) = true)] [(12, .bool ((decide (N < 0)) || (decide (N > 65536))))] [] (by kernel_rfl) ?_ ?_
  ·
   refine (ap ?_ (ap ?_ (ap (by exact vcNot) az)))
   all_goals
    exact id
  refine fin_then ?_
  refine tri_cond (b := ((decide (N < 0)) || (decide (N > 65536)))) (by kernel_rfl) (fun hb0 => ?_) (fun hb0 => ?_)
  ·
   skip
   have h0 := hb0
   try simp only [Bool.or_eq_true, Bool.or_eq_false_iff, Bool.and_eq_true, Bool.and_eq_false_iff, Bool.not_eq_true', Bool.not_eq_false', decide_eq_true_eq, decide_eq_false_iff_not, bne_iff_ne, bne_eq_false_iff_eq, beq_iff_eq, beq_eq_false_iff_ne] at h0
   refine tri_seq ?_
   refine tri_regD hcx [] [2] [] [] [] [(2, .int 1)] [] (by kernel_rfl) ?_ ?_
   ·
    exact az
   refine fin_then ?_
   refine tri_ret ?_
   refine fin_then_ret ?_
   exact fin_ret [] rfl rfl trivial hcx (avs := [.int 1]) (by kernel_rfl) (congrArg AV.int (show 1 = (Cn.chkV N L) from (by exact (Cn.chk_arg (by omega)).symm))) [] rfl
  ·
   skip
   have h0 := hb0
   try simp only [Bool.or_eq_true, Bool.or_eq_false_iff, Bool.and_eq_true, Bool.and_eq_false_iff, Bool.not_eq_true', Bool.not_eq_false', decide_eq_true_eq, decide_eq_false_iff_not, bne_iff_ne, bne_eq_false_iff_eq, beq_iff_eq, beq_eq_false_iff_ne] at h0
   have hN : ¬ (N < 0 ∨ 65536 < N) := by omega
   refine tri_skip ?_
   refine fin_then ?_
   refine tri_seq ?_
   refine tri_seq ?_
   refine tri_regD hcx [] [14, 15, 16] [1] [] [] [(14, .intss L), (15, .int (L.length : Int)), (16, .int 0)] [] (by kernel_rfl) ?_ ?_
   ·
    exact az
   refine fin_then ?_
   refine tri_block ?_
   refine tri_loop (X := Nat) (fun x0 => x0 ≤ L.length ∧ ∀ j, j < x0 → Cn.badL N (L.getD j []) = false) (fun x0 => [(1, .pto [.int N, .ls (.intss L)]), (14, .intss L), (15, .int (L.length : Int)), (16, .int (x0 : Int))]) (fun x0 => []) (fun x0 => L.length - x0) (0) ?_ ?_ ?_ ?_
   ·
    show 0 ≤ L.length ∧ ∀ j, j < 0 → Cn.badL N (L.getD j []) = false
    exact ⟨Nat.zero_le _, fun j hj => by omega⟩
   ·
    exact subE_mk (l := [.pto [.int N, .ls (.intss L)], .intss L, .int (L.length : Int), .int 0]) (m := [.pto [.int N, .ls (.intss L)], .intss L, .int (L.length : Int), .int (0 : Int)]) (by kernel_rfl) (by kernel_rfl) (consE rfl (consE rfl (consE rfl (consE (congrArg AV.int (show 0 = (0 : Int) from (by first | rfl | omega | (simp; done)))) rfl))))
   ·
    kernel_rfl
   ·
    intro k hI
    replace hI : k ≤ L.length ∧ ∀ j, j < k → Cn.badL N (L.getD j []) = false := hI
    change Tri _ [(1, .pto [.int N, .ls (.intss L)]), (14, .intss L), (15, .int (L.length : Int)), (16, .int (k : Int))] [] _ _
    obtain ⟨hk, hok⟩ := hI
    refine tri_seq ?_
    refine tri_regD hcx [] [17] [1, 14, 15, 16] [] [] [(17, .bool (decide ((k : Int) < (L.length : Int))))] [] (by kernel_rfl) ?_ ?_
    ·
     exact az
    refine fin_then ?_
    refine tri_seq ?_
    refine tri_cond (b := (decide ((k : Int) < (L.length : Int)))) (by kernel_rfl) (fun hb1 => ?_) (fun hb1 => ?_)
    ·
     skip
     have h1 := of_decide_eq_true hb1
     refine tri_skip ?_
     refine fin_then ?_
     refine tri_seq ?_
     refine tri_block ?_
     refine tri_seq ?_
     refine tri_regD hcx [] [4] [1, 14, 15, 16] [] [((0 : Int) ≤ (k : Int) ∧ (k : Int) < (L.length : Int))] [(4, .ints (L.getD k []))] [] (by kernel_rfl) ?_ ?_
     ·
      refine (ap ?_ az)
      omega
     refine fin_then ?_
     refine tri_seq ?_
     refine tri_regD hcx [] [22] [1, 14, 15, 16] [] [((L.getD k []).length ≤ maxLen ∧ 0 ≤ N ∧ N ≤ 65536)] [(22, .bool ((L.getD k []).any (fun x => !(Cn.mayP x N))))] [] (by kernel_rfl) ?_ ?_
     ·
      refine (ap ?_ az)
      exact ⟨hm2 _ (Cn.getD_memL (by omega)), by omega, by omega⟩
     refine fin_then ?_
     refine tri_cond (b := ((L.getD k []).any (fun x => !(Cn.mayP x N)))) (by kernel_rfl) (fun hb2 => ?_) (fun hb2 => ?_)
     ·
      skip
      have h2 := hb2
      have hq := h2
      refine tri_seq ?_
      refine tri_regD hcx [] [2] [] [] [] [(2, .int 1)] [] (by kernel_rfl) ?_ ?_
      ·
       exact az
      refine fin_then ?_
      refine tri_ret ?_
      refine fin_block_ret ?_
      refine fin_then_ret ?_
      refine fin_then_ret ?_
      refine fin_block_ret ?_
      refine fin_then_ret ?_
      exact fin_ret [] rfl rfl trivial hcx (avs := [.int 1]) (by kernel_rfl) (congrArg AV.int (show 1 = (Cn.chkV N L) from (by exact (Cn.chk_bad hN (by omega) hq).symm))) [] rfl
     ·
      skip
      have h2 := hb2
      have hq := h2
      refine tri_skip ?_
      refine fin_block ?_
      refine fin_then ?_
      refine tri_regD hcx [] [16] [1, 14, 15] [] [Fit ((k : Int) + 1)] [(16, .int ((k : Int) + 1))] [] (by kernel_rfl) ?_ ?_
      ·
       refine (ap ?_ az)
       omega
      refine fin_round (k + 1) ?_ ?_ ?_ ?_
      ·
       show (k + 1) ≤ L.length ∧ ∀ j, j < (k + 1) → Cn.badL N (L.getD j []) = false
       exact ⟨by omega, Cn.falseSucc hok hq⟩
      ·
       show L.length - (k + 1) < L.length - k
       omega
      ·
       exact subE_mk (l := [.pto [.int N, .ls (.intss L)], .intss L, .int (L.length : Int), .int ((k : Int) + 1)]) (m := [.pto [.int N, .ls (.intss L)], .intss L, .int (L.length : Int), .int ((k + 1) : Int)]) (by kernel_rfl) (by kernel_rfl) (consE rfl (consE rfl (consE rfl (consE (congrArg AV.int (show ((k : Int) + 1) = ((k + 1) : Int) from (by first | rfl | omega | (simp; done)))) rfl))))
      ·
       kernel_rfl
    ·
     skip
     have h1 := of_decide_eq_false hb1
     refine tri_exit ?_
     refine fin_then_exit ?_
     refine fin_then_exit ?_
     refine fin_block_same ?_
     refine fin_then ?_
     refine tri_seq ?_
     refine tri_seq ?_
     refine tri_regD hcx [] [27] [] [] [] [(27, .bool (decide ((L.length : Int) > 65536)))] [] (by kernel_rfl) ?_ ?_
     ·
      exact az
     refine fin_then ?_
     refine tri_cond (b := (decide ((L.length : Int) > 65536))) (by kernel_rfl) (fun hb3 => ?_) (fun hb3 => ?_)
     ·
      skip
      have h3 := of_decide_eq_true hb3
      have hc := Cn.chk_ok hN (fun j hj => hok j (by omega))
      refine tri_seq ?_
      refine tri_regD hcx [] [2] [] [] [] [(2, .int 2)] [] (by kernel_rfl) ?_ ?_
      ·
       exact az
      refine fin_then ?_
      refine tri_ret ?_
      refine fin_then_ret ?_
      exact fin_ret [] rfl rfl trivial hcx (avs := [.int 2]) (by kernel_rfl) (congrArg AV.int (show 2 = (Cn.chkV N L) from (by rw [hc, if_pos (by omega)]))) [] rfl
     ·
      skip
      have h3 := of_decide_eq_false hb3
      have hc := Cn.chk_ok hN (fun j hj => hok j (by omega))
      refine tri_skip ?_
      refine fin_then ?_
      refine tri_seq ?_
      refine tri_regD hcx [] [2] [] [] [] [(2, .int 0)] [] (by kernel_rfl) ?_ ?_
      ·
       exact az
      refine fin_then ?_
      refine tri_ret ?_
      exact fin_ret [] rfl rfl trivial hcx (avs := [.int 0]) (by kernel_rfl) (congrArg AV.int (show 0 = (Cn.chkV N L) from (by rw [hc, if_neg (by omega)]))) [] rfl
 ·
  cases hσ
def cx_cValue1 : Cx := ⟨tyCnf, [(28, (coeF [.ld (.ints []), .ld (.bools [])] cHolds_σ))], false⟩
theorem cx_cValue1_ok : CxOk Tryz.prog cx_cValue1 := cx_ok tyCnf_ok ⟨(cHolds_sound.coe [.ld (.ints []), .ld (.bools [])] rfl), trivial⟩
def cValue1_σ : CtF
  | [.im (.ls (.ints l)), .pto [.ls (.bools a)]], [] => some (l.length ≤ maxLen ∧ a.length ≤ maxLen, .bool (!(Cn.holdsV a l)), [])
  | _, _ => none
theorem cValue1_sound : Sound Tryz.prog 60 cValue1_σ := by
 refine sound_mk (cx := cx_cValue1) (fn := Tryz.f60) Tryz.func60 (by kernel_rfl) rfl ?_
 intro w0 G0 args os p r outs hσ hp hm0 hd0
 have hcx : CxOk Tryz.prog cx_cValue1 := cx_cValue1_ok
 unfold cValue1_σ at hσ
 split at hσ
 ·
  rename_i l a
  simp only [Option.some.injEq, Prod.mk.injEq] at hσ
  obtain ⟨rfl, rfl, rfl⟩ := hσ
  obtain ⟨wW, wO, wm, wβ, wd⟩ := w0
  replace hm0 : wm = 0 := hm0
  subst hm0
  replace hd0 : wd = [] := hd0
  subst hd0
  refine ⟨by kernel_rfl, ?_⟩
  change Tri ⟨_, _, _, _, _, _⟩ [(0, .ints l), (1, .pto [.ls (.bools a)])] [] _ _
  refine tri_seq ?_
  refine tri_regD hcx [] [] [0, 1] [] [] [] [] (by kernel_rfl) ?_ ?_
  ·
   exact az
  refine fin_then ?_
  refine tri_seq ?_
  refine tri_regD hcx [] [3] [] [] [(l.length ≤ maxLen ∧ a.length ≤ maxLen)] [(3, .bool (!(Cn.holdsV a l)))] [] (by kernel_rfl) ?_ ?_
  ·
   refine (ap ?_ az)
   exact hp
  refine fin_then ?_
  refine tri_ret ?_
  exact fin_ret [] rfl rfl trivial hcx (avs := [.bool (!(Cn.holdsV a l))]) (by kernel_rfl) rfl [] rfl
 ·
  cases hσ
def cx_ixValue : Cx := ⟨tyCnf, [(60, (coeF [.ld (.ints []), .id] cValue1_σ))], false⟩
theorem cx_ixValue_ok : CxOk Tryz.prog cx_ixValue := cx_ok tyCnf_ok ⟨(cValue1_sound.coe [.ld (.ints []), .id] rfl), trivial⟩
def ixValue_σ : CtF
  | [.im (.ls (.intss s)), .clo 60 [.pto [.ls (.bools a)]]], [] => some (s.length ≤ maxLen ∧ (∀ l ∈ s, l.length ≤ maxLen) ∧ a.length ≤ maxLen, .int (Cn.idxF (fun x => !(Cn.holdsV a x)) s), [])
  | _, _ => none
theorem ixValue_sound : Sound Tryz.prog 51 ixValue_σ := by
 refine sound_mk (cx := cx_ixValue) (fn := Tryz.f51) Tryz.func51 (by kernel_rfl) rfl ?_
 intro w0 G0 args os p r outs hσ hp hm0 hd0
 have hcx : CxOk Tryz.prog cx_ixValue := cx_ixValue_ok
 unfold ixValue_σ at hσ
 split at hσ
 ·
  rename_i s a
  simp only [Option.some.injEq, Prod.mk.injEq] at hσ
  obtain ⟨rfl, rfl, rfl⟩ := hσ
  obtain ⟨wW, wO, wm, wβ, wd⟩ := w0
  replace hm0 : wm = 0 := hm0
  subst hm0
  replace hd0 : wd = [] := hd0
  subst hd0
  refine ⟨by kernel_rfl, ?_⟩
  change Tri ⟨_, _, _, _, _, _⟩ [(0, .intss s), (1, .clo 60 [.pto [.ls (.bools a)]])] [] _ _
  obtain ⟨hm1, hpr⟩ := hp
  unfold maxLen at hm1
  refine tri_seq ?_
  refine tri_regD hcx [] [] [0, 1] [] [] [] [] (by kernel_rfl) ?_ ?_
  ·
   exact az
  refine fin_then ?_
  refine tri_seq ?_
  refine tri_seq ?_
  refine tri_regD hcx [] [7, 8] [0, 1] [] [] [(7, .int (s.length : Int)), (8, .int 0)] [] (by kernel_rfl) ?_ ?_
  ·
   exact az
  refine fin_then ?_
  refine tri_block ?_
  refine tri_loop (X := Nat) (fun x0 => x0 ≤ s.length ∧ ∀ j, j < x0 → (!(Cn.holdsV a (s.getD j []))) = false) (fun x0 => [(0, .intss s), (1, .clo 60 [.pto [.ls (.bools a)]]), (7, .int (s.length : Int)), (8, .int (x0 : Int))]) (fun x0 => []) (fun x0 => s.length - x0) (0) ?_ ?_ ?_ ?_
  ·
   show 0 ≤ s.length ∧ ∀ j, j < 0 → (!(Cn.holdsV a (s.getD j []))) = false
   exact ⟨Nat.zero_le _, fun j hj => by omega⟩
  ·
   exact subE_mk (l := [.intss s, .clo 60 [.pto [.ls (.bools a)]], .int (s.length : Int), .int 0]) (m := [.intss s, .clo 60 [.pto [.ls (.bools a)]], .int (s.length : Int), .int (0 : Int)]) (by kernel_rfl) (by kernel_rfl) (consE rfl (consE rfl (consE rfl (consE (congrArg AV.int (show 0 = (0 : Int) from (by first | rfl | omega | (simp; done)))) rfl))))
  ·
   kernel_rfl
  ·
   intro k hI
   replace hI : k ≤ s.length ∧ ∀ j, j < k → (!(Cn.holdsV a (s.getD j []))) = false := hI
   change Tri _ [(0, .intss s), (1, .clo 60 [.pto [.ls (.bools a)]]), (7, .int (s.length : Int)), (8, .int (k : Int))] [] _ _
   obtain ⟨hk, hok⟩ := hI
   refine tri_seq ?_
   refine tri_regD hcx [] [9] [0, 1, 7, 8] [] [] [(9, .bool (decide ((k : Int) < (s.length : Int))))] [] (by kernel_rfl) ?_ ?_
   ·
    exact az
   refine fin_then ?_
   refine tri_seq ?_
   refine tri_cond (b := (decide ((k : Int) < (s.length : Int)))) (by kernel_rfl) (fun hb0 => ?_) (fun hb0 => ?_)
   ·
    skip
    have h0 := of_decide_eq_true hb0
    refine tri_skip ?_
    refine fin_then ?_
    refine tri_seq ?_
    refine tri_block ?_
    refine tri_seq ?_
    refine tri_regD hcx [] [5] [0, 1, 7, 8] [] [] [(5, .int (k : Int))] [] (by kernel_rfl) ?_ ?_
    ·
     exact az
    refine fin_then ?_
    refine tri_seq ?_
    refine tri_regD hcx [] [16] [5, 0, 1, 7, 8] [] [((0 : Int) ≤ (k : Int) ∧ (k : Int) < (s.length : Int)), ((s.getD k []).length ≤ maxLen ∧ a.length ≤ maxLen)] [(16, .bool (!(Cn.holdsV a (s.getD k []))))] [] (by kernel_rfl) ?_ ?_
    ·
     refine (ap ?_ (ap ?_ az))
     all_goals
      first | omega | exact ⟨hpr.1 _ (Cn.getD_memL (by omega)), hpr.2⟩
    refine fin_then ?_
    refine tri_cond (b := (!(Cn.holdsV a (s.getD k [])))) (by kernel_rfl) (fun hb1 => ?_) (fun hb1 => ?_)
    ·
     skip
     have h1 := hb1
     have hq := h1
     refine tri_seq ?_
     refine tri_regD hcx [] [4] [] [] [] [(4, .int (k : Int))] [] (by kernel_rfl) ?_ ?_
     ·
      exact az
     refine fin_then ?_
     refine tri_ret ?_
     refine fin_block_ret ?_
     refine fin_then_ret ?_
     refine fin_then_ret ?_
     refine fin_block_ret ?_
     refine fin_then_ret ?_
     exact fin_ret [] rfl rfl trivial hcx (avs := [.int (k : Int)]) (by kernel_rfl) (congrArg AV.int (show (k : Int) = (Cn.idxF (fun x => !(Cn.holdsV a x)) s) from (by exact (Cn.idxF_yes (p := (fun x => !(Cn.holdsV a x))) (by omega) hok hq).symm))) [] rfl
    ·
     skip
     have h1 := hb1
     have hq := h1
     refine tri_skip ?_
     refine fin_block ?_
     refine fin_then ?_
     refine tri_regD hcx [] [8] [0, 1, 7] [] [Fit ((k : Int) + 1)] [(8, .int ((k : Int) + 1))] [] (by kernel_rfl) ?_ ?_
     ·
      refine (ap ?_ az)
      omega
     refine fin_round (k + 1) ?_ ?_ ?_ ?_
     ·
      show (k + 1) ≤ s.length ∧ ∀ j, j < (k + 1) → (!(Cn.holdsV a (s.getD j []))) = false
      exact ⟨by omega, Cn.falseSucc hok hq⟩
     ·
      show s.length - (k + 1) < s.length - k
      omega
     ·
      exact subE_mk (l := [.intss s, .clo 60 [.pto [.ls (.bools a)]], .int (s.length : Int), .int ((k : Int) + 1)]) (m := [.intss s, .clo 60 [.pto [.ls (.bools a)]], .int (s.length : Int), .int ((k + 1) : Int)]) (by kernel_rfl) (by kernel_rfl) (consE rfl (consE rfl (consE rfl (consE (congrArg AV.int (show ((k : Int) + 1) = ((k + 1) : Int) from (by first | rfl | omega | (simp; done)))) rfl))))
     ·
      kernel_rfl
   ·
    skip
    have h0 := of_decide_eq_false hb0
    refine tri_exit ?_
    refine fin_then_exit ?_
    refine fin_then_exit ?_
    refine fin_block_same ?_
    refine fin_then ?_
    refine tri_seq ?_
    refine tri_regD hcx [] [4] [] [] [] [(4, .int (-1))] [] (by kernel_rfl) ?_ ?_
    ·
     exact az
    refine fin_then ?_
    refine tri_ret ?_
    exact fin_ret [] rfl rfl trivial hcx (avs := [.int (-1)]) (by kernel_rfl) (congrArg AV.int (show (-1) = (Cn.idxF (fun x => !(Cn.holdsV a x)) s) from (by exact (Cn.idxF_no (p := (fun x => !(Cn.holdsV a x))) (Cn.all_mem (d := []) (fun j hj => hok j (by omega)))).symm))) [] rfl
 ·
  cases hσ
def cx_ctValue : Cx := ⟨tyCnf, [(51, (coeF [.ld (.intss []), .id] ixValue_σ))], false⟩
theorem cx_ctValue_ok : CxOk Tryz.prog cx_ctValue := cx_ok tyCnf_ok ⟨(ixValue_sound.coe [.ld (.intss []), .id] rfl), trivial⟩
def ctValue_σ : CtF
  | [.im (.ls (.intss s)), .clo 60 [.pto [.ls (.bools a)]]], [] => some (s.length ≤ maxLen ∧ (∀ l ∈ s, l.length ≤ maxLen) ∧ a.length ≤ maxLen, .bool (s.any (fun x => !(Cn.holdsV a x))), [])
  | _, _ => none
theorem ctValue_sound : Sound Tryz.prog 47 ctValue_σ := by
 refine sound_mk (cx := cx_ctValue) (fn := Tryz.f47) Tryz.func47 (by kernel_rfl) rfl ?_
 intro w0 G0 args os p r outs hσ hp hm0 hd0
 have hcx : CxOk Tryz.prog cx_ctValue := cx_ctValue_ok
 unfold ctValue_σ at hσ
 split at hσ
 ·
  rename_i s a
  simp only [Option.some.injEq, Prod.mk.injEq] at hσ
  obtain ⟨rfl, rfl, rfl⟩ := hσ
  obtain ⟨wW, wO, wm, wβ, wd⟩ := w0
  replace hm0 : wm = 0 := hm0
  subst hm0
  replace hd0 : wd = [] := hd0
  subst hd0
  refine ⟨by kernel_rfl, ?_⟩
  change Tri ⟨_, _, _, _, _, _⟩ [(0, .intss s), (1, .clo 60 [.pto [.ls (.bools a)]])] [] _ _
  refine tri_seq ?_
  refine tri_regD hcx [] [] [0, 1] [] [] [] [] (by kernel_rfl) ?_ ?_
  ·
   exact az
  refine fin_then ?_
  refine tri_seq ?_
  refine tri_regD hcx [] [4] [] [] [(s.length ≤ maxLen ∧ (∀ l ∈ s, l.length ≤ maxLen) ∧ a.length ≤ maxLen)] [(4, .bool (decide ((Cn.idxF (fun x => !(Cn.holdsV a x)) s) ≥ 0)))] [] (by kernel_rfl) ?_ ?_
  ·
   refine (ap ?_ az)
   exact hp
  refine fin_then ?_
  refine tri_ret ?_
  exact fin_ret [] rfl rfl trivial hcx (avs := [.bool (decide ((Cn.idxF (fun x => !(Cn.holdsV a x)) s) ≥ 0))]) (by kernel_rfl) (congrArg AV.bool (show (decide ((Cn.idxF (fun x => !(Cn.holdsV a x)) s) ≥ 0)) = (s.any (fun x => !(Cn.holdsV a x))) from (by exact Cn.idxF_any (p := (fun x => !(Cn.holdsV a x))) s))) [] rfl
 ·
  cases hσ
def cx_cValue : Cx := ⟨tyCnf, [(27, (coeF [.agg [.id, .ld (.intss [])]] cCheck_σ)), (47, (coeF [.ld (.intss []), .id] ctValue_σ))], false⟩
theorem cx_cValue_ok : CxOk Tryz.prog cx_cValue := cx_ok tyCnf_ok ⟨(cCheck_sound.coe [.agg [.id, .ld (.intss [])]] rfl), (ctValue_sound.coe [.ld (.intss []), .id] rfl), trivial⟩
def cValue_σ : CtF
  | [.agg [.im (.val (.int .i64 N)), .im (.ls (.intss L))], .im (.ls (.bools a))], [] => some (L.length ≤ maxLen ∧ (∀ l ∈ L, l.length ≤ maxLen) ∧ a.length ≤ maxLen, .bool (Cn.valV N L a), [])
  | _, _ => none
theorem cValue_sound : Sound Tryz.prog 25 cValue_σ := by
 refine sound_mk (cx := cx_cValue) (fn := Tryz.f25) Tryz.func25 (by kernel_rfl) rfl ?_
 intro w0 G0 args os p r outs hσ hp hm0 hd0
 have hcx : CxOk Tryz.prog cx_cValue := cx_cValue_ok
 unfold cValue_σ at hσ
 split at hσ
 ·
  rename_i N L a
  simp only [Option.some.injEq, Prod.mk.injEq] at hσ
  obtain ⟨rfl, rfl, rfl⟩ := hσ
  obtain ⟨wW, wO, wm, wβ, wd⟩ := w0
  replace hm0 : wm = 0 := hm0
  subst hm0
  replace hd0 : wd = [] := hd0
  subst hd0
  refine ⟨by kernel_rfl, ?_⟩
  change Tri ⟨_, _, _, _, _, _⟩ [(0, .agg [.int N, .intss L]), (1, .bools a)] [] _ _
  refine tri_seq ?_
  refine tri_regD hcx [(1000, .frz), (1001, .frz)] [2, 3] [] [] [] [(2, .pto [.int N, .ls (.intss L)]), (3, .pto [.ls (.bools a)])] [] (by kernel_rfl) ?_ ?_
  ·
   exact az
  refine fin_then ?_
  refine tri_seq ?_
  refine tri_regD hcx [] [5] [2] [] [] [(5, .clo 60 [.pto [.ls (.bools a)]])] [] (by kernel_rfl) ?_ ?_
  ·
   exact az
  refine fin_then ?_
  refine tri_seq ?_
  refine tri_regD hcx [] [4] [] [] [(L.length ≤ maxLen ∧ ∀ l ∈ L, l.length ≤ maxLen), (((Cn.chkV N L) == 0) = true → (((Cn.chkV N L) == 0) = true)), (((Cn.chkV N L) == 0) = true → (((Cn.chkV N L) == 0) = true)), (((Cn.chkV N L) == 0) = true → (((Cn.chkV N L) == 0) = true)), (((Cn.chkV N L) == 0) = true → (L.length ≤ maxLen ∧ (∀ l ∈ L, l.length ≤ maxLen) ∧ a.length ≤ maxLen)), (((Cn.chkV N L) == 0) = true → (((Cn.chkV N L) == 0) = true)), (((Cn.chkV N L) == 0) = true → ((Cn.chkV N L) == 0) = true)] [(4, .bool (((Cn.chkV N L) == 0) && (!(L.any (fun x => !(Cn.holdsV a x))))))] [] (by kernel_rfl) ?_ ?_
  ·
   refine (ap ?_ (ap ?_ (ap ?_ (ap ?_ (ap ?_ (ap ?_ (ap (by exact id) az)))))))
   all_goals
    first | exact ⟨hp.1, hp.2.1⟩ | exact fun _ => hp | (intro h; exact h)
  refine fin_then ?_
  refine tri_ret ?_
  exact fin_ret [] rfl rfl trivial hcx (avs := [.bool (((Cn.chkV N L) == 0) && (!(L.any (fun x => !(Cn.holdsV a x)))))]) (by kernel_rfl) (congrArg AV.bool (show (((Cn.chkV N L) == 0) && (!(L.any (fun x => !(Cn.holdsV a x))))) = (Cn.valV N L a) from (by exact congrArg (fun x => Cn.chkV N L == 0 && x) (Cn.not_any_not L)))) [] rfl
 ·
  cases hσ
def cx_sIndex : Cx := ⟨tyCnf, [], false⟩
theorem cx_sIndex_ok : CxOk Tryz.prog cx_sIndex := cx_ok tyCnf_ok trivial
def sIndex_σ : CtF
  | [.im (.ls (.ints s)), .im (.val (.int .i64 v))], [] => some (s.length ≤ maxLen, .int (Cn.idxF (fun x => v == x) s), [])
  | _, _ => none
theorem sIndex_sound : Sound Tryz.prog 78 sIndex_σ := by
 refine sound_mk (cx := cx_sIndex) (fn := Tryz.f78) Tryz.func78 (by kernel_rfl) rfl ?_
 intro w0 G0 args os p r outs hσ hp hm0 hd0
 have hcx : CxOk Tryz.prog cx_sIndex := cx_sIndex_ok
 unfold sIndex_σ at hσ
 split at hσ
 ·
  rename_i s v
  simp only [Option.some.injEq, Prod.mk.injEq] at hσ
  obtain ⟨rfl, rfl, rfl⟩ := hσ
  obtain ⟨wW, wO, wm, wβ, wd⟩ := w0
  replace hm0 : wm = 0 := hm0
  subst hm0
  replace hd0 : wd = [] := hd0
  subst hd0
  refine ⟨by kernel_rfl, ?_⟩
  change Tri ⟨_, _, _, _, _, _⟩ [(0, .ints s), (1, .int v)] [] _ _
  have hm1 := hp
  unfold maxLen at hm1
  refine tri_seq ?_
  refine tri_regD hcx [] [] [0, 1] [] [] [] [] (by kernel_rfl) ?_ ?_
  ·
   exact az
  refine fin_then ?_
  refine tri_seq ?_
  refine tri_seq ?_
  refine tri_regD hcx [] [7, 8] [0, 1] [] [] [(7, .int (s.length : Int)), (8, .int 0)] [] (by kernel_rfl) ?_ ?_
  ·
   exact az
  refine fin_then ?_
  refine tri_block ?_
  refine tri_loop (X := Nat) (fun x0 => x0 ≤ s.length ∧ ∀ j, j < x0 → ((v == (s.getD j 0))) = false) (fun x0 => [(0, .ints s), (1, .int v), (7, .int (s.length : Int)), (8, .int (x0 : Int))]) (fun x0 => []) (fun x0 => s.length - x0) (0) ?_ ?_ ?_ ?_
  ·
   show 0 ≤ s.length ∧ ∀ j, j < 0 → ((v == (s.getD j 0))) = false
   exact ⟨Nat.zero_le _, fun j hj => by omega⟩
  ·
   exact subE_mk (l := [.ints s, .int v, .int (s.length : Int), .int 0]) (m := [.ints s, .int v, .int (s.length : Int), .int (0 : Int)]) (by kernel_rfl) (by kernel_rfl) (consE rfl (consE rfl (consE rfl (consE (congrArg AV.int (show 0 = (0 : Int) from (by first | rfl | omega | (simp; done)))) rfl))))
  ·
   kernel_rfl
  ·
   intro k hI
   replace hI : k ≤ s.length ∧ ∀ j, j < k → ((v == (s.getD j 0))) = false := hI
   change Tri _ [(0, .ints s), (1, .int v), (7, .int (s.length : Int)), (8, .int (k : Int))] [] _ _
   obtain ⟨hk, hok⟩ := hI
   refine tri_seq ?_
   refine tri_regD hcx [] [9] [0, 1, 7, 8] [] [] [(9, .bool (decide ((k : Int) < (s.length : Int))))] [] (by kernel_rfl) ?_ ?_
   ·
    exact az
   refine fin_then ?_
   refine tri_seq ?_
   refine tri_cond (b := (decide ((k : Int) < (s.length : Int)))) (by kernel_rfl) (fun hb0 => ?_) (fun hb0 => ?_)
   ·
    skip
    have h0 := of_decide_eq_true hb0
    refine tri_skip ?_
    refine fin_then ?_
    refine tri_seq ?_
    refine tri_block ?_
    refine tri_seq ?_
    refine tri_regD hcx [] [5] [0, 1, 7, 8] [] [] [(5, .int (k : Int))] [] (by kernel_rfl) ?_ ?_
    ·
     exact az
    refine fin_then ?_
    refine tri_seq ?_
    refine tri_regD hcx [] [16] [5, 0, 1, 7, 8] [] [((0 : Int) ≤ (k : Int) ∧ (k : Int) < (s.length : Int))] [(16, .bool (v == (s.getD k 0)))] [] (by kernel_rfl) ?_ ?_
    ·
     refine (ap ?_ az)
     omega
    refine fin_then ?_
    refine tri_cond (b := (v == (s.getD k 0))) (by kernel_rfl) (fun hb1 => ?_) (fun hb1 => ?_)
    ·
     skip
     have h1 := hb1
     have hq := h1
     refine tri_seq ?_
     refine tri_regD hcx [] [4] [] [] [] [(4, .int (k : Int))] [] (by kernel_rfl) ?_ ?_
     ·
      exact az
     refine fin_then ?_
     refine tri_ret ?_
     refine fin_block_ret ?_
     refine fin_then_ret ?_
     refine fin_then_ret ?_
     refine fin_block_ret ?_
     refine fin_then_ret ?_
     exact fin_ret [] rfl rfl trivial hcx (avs := [.int (k : Int)]) (by kernel_rfl) (congrArg AV.int (show (k : Int) = (Cn.idxF (fun x => v == x) s) from (by exact (Cn.idxF_yes (p := fun x => v == x) (by omega) hok hq).symm))) [] rfl
    ·
     skip
     have h1 := hb1
     have hq := h1
     refine tri_skip ?_
     refine fin_block ?_
     refine fin_then ?_
     refine tri_regD hcx [] [8] [0, 1, 7] [] [Fit ((k : Int) + 1)] [(8, .int ((k : Int) + 1))] [] (by kernel_rfl) ?_ ?_
     ·
      refine (ap ?_ az)
      omega
     refine fin_round (k + 1) ?_ ?_ ?_ ?_
     ·
      show (k + 1) ≤ s.length ∧ ∀ j, j < (k + 1) → ((v == (s.getD j 0))) = false
      exact ⟨by omega, Cn.falseSucc hok hq⟩
     ·
      show s.length - (k + 1) < s.length - k
      omega
     ·
      exact subE_mk (l := [.ints s, .int v, .int (s.length : Int), .int ((k : Int) + 1)]) (m := [.ints s, .int v, .int (s.length : Int), .int ((k + 1) : Int)]) (by kernel_rfl) (by kernel_rfl) (consE rfl (consE rfl (consE rfl (consE (congrArg AV.int (show ((k : Int) + 1) = ((k + 1) : Int) from (by first | rfl | omega | (simp; done)))) rfl))))
     ·
      kernel_rfl
   ·
    skip
    have h0 := of_decide_eq_false hb0
    refine tri_exit ?_
    refine fin_then_exit ?_
    refine fin_then_exit ?_
    refine fin_block_same ?_
    refine fin_then ?_
    refine tri_seq ?_
    refine tri_regD hcx [] [4] [] [] [] [(4, .int (-1))] [] (by kernel_rfl) ?_ ?_
    ·
     exact az
    refine fin_then ?_
    refine tri_ret ?_
    exact fin_ret [] rfl rfl trivial hcx (avs := [.int (-1)]) (by kernel_rfl) (congrArg AV.int (show (-1) = (Cn.idxF (fun x => v == x) s) from (by exact (Cn.idxF_no (p := fun x => v == x) (Cn.all_mem (d := 0) (fun j hj => hok j (by omega)))).symm))) [] rfl
 ·
  cases hσ
def cx_sContains : Cx := ⟨tyCnf, [(78, (coeF [.ld (.ints []), .id] sIndex_σ))], false⟩
theorem cx_sContains_ok : CxOk Tryz.prog cx_sContains := cx_ok tyCnf_ok ⟨(sIndex_sound.coe [.ld (.ints []), .id] rfl), trivial⟩
def sContains_σ : CtF
  | [.im (.ls (.ints s)), .im (.val (.int .i64 v))], [] => some (s.length ≤ maxLen, .bool (s.contains v), [])
  | _, _ => none
theorem sContains_sound : Sound Tryz.prog 44 sContains_σ := by
 refine sound_mk (cx := cx_sContains) (fn := Tryz.f44) Tryz.func44 (by kernel_rfl) rfl ?_
 intro w0 G0 args os p r outs hσ hp hm0 hd0
 have hcx : CxOk Tryz.prog cx_sContains := cx_sContains_ok
 unfold sContains_σ at hσ
 split at hσ
 ·
  rename_i s v
  simp only [Option.some.injEq, Prod.mk.injEq] at hσ
  obtain ⟨rfl, rfl, rfl⟩ := hσ
  obtain ⟨wW, wO, wm, wβ, wd⟩ := w0
  replace hm0 : wm = 0 := hm0
  subst hm0
  replace hd0 : wd = [] := hd0
  subst hd0
  refine ⟨by kernel_rfl, ?_⟩
  change Tri ⟨_, _, _, _, _, _⟩ [(0, .ints s), (1, .int v)] [] _ _
  refine tri_seq ?_
  refine tri_regD hcx [] [] [0, 1] [] [] [] [] (by kernel_rfl) ?_ ?_
  ·
   exact az
  refine fin_then ?_
  refine tri_seq ?_
  refine tri_regD hcx [] [4] [] [] [(s.length ≤ maxLen)] [(4, .bool (decide ((Cn.idxF (fun x => v == x) s) ≥ 0)))] [] (by kernel_rfl) ?_ ?_
  ·
   refine (ap ?_ az)
   first | exact hp
  refine fin_then ?_
  refine tri_ret ?_
  exact fin_ret [] rfl rfl trivial hcx (avs := [.bool (decide ((Cn.idxF (fun x => v == x) s) ≥ 0))]) (by kernel_rfl) (congrArg AV.bool (show (decide ((Cn.idxF (fun x => v == x) s) ≥ 0)) = (s.contains v) from (by rw [show (decide ((Cn.idxF (fun x => v == x) s) ≥ 0)) = s.any (fun x => v == x) from Cn.idxF_any (p := fun x => v == x) s]; exact List.any_beq))) [] rfl
 ·
  cases hσ
end Go.Proofs.YtbpbndlgfiammaaGreatDoor.En
