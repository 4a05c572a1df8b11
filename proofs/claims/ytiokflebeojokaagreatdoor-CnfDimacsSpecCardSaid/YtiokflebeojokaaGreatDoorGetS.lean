/- cnf.number and cnf.Get, in the reader's words. -/
import Derived.Test.YtiokflebeojokaaGreatDoorCnfS
import Derived.Test.YtiokflebeojokaaGreatDoorShClone
import Derived.Test.YtiokflebeojokaaGreatDoorWordsX
import Derived.Test.YtiokflebeojokaaGreatDoorGetP
namespace Go.Proofs.YtiokflebeojokaaGreatDoor.En
open Go Go.RowKit
set_option linter.unusedVariables false
set_option linter.unusedSimpArgs false
set_option linter.unnecessarySimpa false
def tyGet : List (Nat × TD) := [(3, ⟨1, false, [.int .i64 0], [], none, 8, false, 1, 1⟩),
  (5, ⟨1, false, [.int .u8 0], [], none, 1, false, 2, 8⟩),
  (9, ⟨1, false, [.string ⟨#[]⟩], [], none, 16, false, 9, 9⟩),
  (22, ⟨1, false, [.slice none 0 0], [], some 25, 24, false, 0, 0⟩),
  (24, ⟨2, true, [.int .i64 0, .slice none 0 0], [(0, 3), (1, 22)], none, 32, false, 0, 6⟩),
  (25, ⟨1, false, [.slice none 0 0], [], some 3, 24, false, 0, 3⟩),
  (32, ⟨1, false, [.int .i64 0], [], none, 8, false, 1, 1⟩),
  (41, ⟨1, false, [.slice none 0 0], [], some 5, 24, false, 0, 0⟩)]
theorem tyGet_ok : AllTy Tryz.prog tyGet := ⟨⟨by kernel_rfl, by kernel_rfl⟩, ⟨by kernel_rfl, by kernel_rfl⟩, ⟨by kernel_rfl, by kernel_rfl⟩, ⟨by kernel_rfl, by kernel_rfl⟩, ⟨by kernel_rfl, by kernel_rfl⟩, ⟨by kernel_rfl, by kernel_rfl⟩, ⟨by kernel_rfl, by kernel_rfl⟩, ⟨by kernel_rfl, by kernel_rfl⟩, trivial⟩
def cx_cNumber : Cx := ⟨tyGet, [(38, cMay_σ), (43, cOf_σ), (53, (coeF [.id, .ld (.bools [])] cTrue_σ)), (52, cHolds1_σ), (73, (orF (coeF [.ld (.ints []), .id] ixHolds_σ) (coeF [.ld (.ints []), .id] ixCheck_σ))), (47, (orF (coeF [.ld (.ints []), .id] ctHolds_σ) (coeF [.ld (.ints []), .id] ctCheck_σ))), (21, (coeF [.ld (.ints []), .ld (.bools [])] cHolds_σ)), (48, cCheck1_σ), (17, (coeF [.agg [.id, .ld (.intss [])]] cCheck_σ)), (55, (coeF [.ld (.ints []), .id] cValue1_σ)), (77, (coeF [.ld (.intss []), .id] ixValue_σ)), (56, (coeF [.ld (.intss []), .id] ctValue_σ)), (23, (coeF [.agg [.id, .ld (.intss [])], .ld (.bools [])] cValue_σ)), (70, (coeF [.ld (.ints []), .id] sIndex_σ)), (58, (coeF [.ld (.ints []), .id] sContains_σ))], false⟩
theorem cx_cNumber_ok : CxOk Tryz.prog cx_cNumber := cx_ok tyGet_ok ⟨cMay_sound, cOf_sound, (cTrue_sound.coe [.id, .ld (.bools [])] rfl), cHolds1_sound, ((ixHolds_sound.coe [.ld (.ints []), .id] rfl).or (ixCheck_sound.coe [.ld (.ints []), .id] rfl)), ((ctHolds_sound.coe [.ld (.ints []), .id] rfl).or (ctCheck_sound.coe [.ld (.ints []), .id] rfl)), (cHolds_sound.coe [.ld (.ints []), .ld (.bools [])] rfl), cCheck1_sound, (cCheck_sound.coe [.agg [.id, .ld (.intss [])]] rfl), (cValue1_sound.coe [.ld (.ints []), .id] rfl), (ixValue_sound.coe [.ld (.intss []), .id] rfl), (ctValue_sound.coe [.ld (.intss []), .id] rfl), (cValue_sound.coe [.agg [.id, .ld (.intss [])], .ld (.bools [])] rfl), (sIndex_sound.coe [.ld (.ints []), .id] rfl), (sContains_sound.coe [.ld (.ints []), .id] rfl), trivial⟩
def cNumber_σ : CtF
  | [.im (.ls (.bytes w))], [] => some (w.length ≤ maxLen ∧ Cn.isBytes w, .tup [.int (Cn.numN w), .bool (Cn.numOk w)], [])
  | _, _ => none
theorem cNumber_sound : Sound Tryz.prog 69 cNumber_σ := by
 refine sound_mk (cx := cx_cNumber) (fn := Tryz.f69) Tryz.func69 (by kernel_rfl) rfl ?_
 intro w0 G0 args os p r outs hσ hp hm0 hd0
 have hcx : CxOk Tryz.prog cx_cNumber := cx_cNumber_ok
 unfold cNumber_σ at hσ
 split at hσ
 ·
  rename_i w
  simp only [Option.some.injEq, Prod.mk.injEq] at hσ
  obtain ⟨rfl, rfl, rfl⟩ := hσ
  obtain ⟨wW, wO, wm, wβ, wd⟩ := w0
  replace hm0 : wm = 0 := hm0
  subst hm0
  replace hd0 : wd = [] := hd0
  subst hd0
  refine ⟨by kernel_rfl, ?_⟩
  change Tri ⟨_, _, _, _, _, _⟩ [(0, .bytes w)] [] _ _
  obtain ⟨hm1, hm2⟩ := hp
  unfold maxLen at hm1
  refine tri_seq ?_
  refine tri_regD hcx [] [2] [0] [] [] [(2, .int 0)] [] (by kernel_rfl) ?_ ?_
  ·
   exact az
  refine fin_then ?_
  refine tri_seq ?_
  refine tri_regD hcx [] [4] [2, 0] [] [((decide ((w.length : Int) > 0)) = true → ((decide ((w.length : Int) > 0)) = true)), ((decide ((w.length : Int) > 0)) = true → ((0 : Int) ≤ 0 ∧ 0 < (w.length : Int))), ((decide ((w.length : Int) > 0)) = true → ((decide ((w.length : Int) > 0)) = true)), ((decide ((w.length : Int) > 0)) = true → ((decide ((w.length : Int) > 0)) = true)), ((decide ((w.length : Int) > 0)) = true → (decide ((w.length : Int) > 0)) = true)] [(4, .bool ((decide ((w.length : Int) > 0)) && ((w.getD 0 0) == 45)))] [] (by kernel_rfl) ?_ ?_
  ·
   refine (ap ?_ (ap ?_ (ap ?_ (ap ?_ (ap (by exact id) az)))))
   all_goals
    first | exact id | (intro h; simp at h; omega)
  refine fin_then ?_
  refine tri_seq ?_
  refine tri_seq ?_
  refine tri_regD hcx [] [16] [4, 2, 0] [] [] [(16, .bool ((decide ((w.length : Int) > 0)) && ((w.getD 0 0) == 45)))] [] (by kernel_rfl) ?_ ?_
  ·
   exact az
  refine fin_then ?_
  refine tri_cond (b := ((decide ((w.length : Int) > 0)) && ((w.getD 0 0) == 45))) (by kernel_rfl) (fun hb0 => ?_) (fun hb0 => ?_)
  ·
   skip
   have h0 := hb0
   have hM : Cn.numM w = true := h0
   have hD := Cn.numD_t hM
   have hw1 := Cn.numM_len hM
   refine tri_regD hcx [] [0] [4, 2] [] [((0 : Int) ≤ 1 ∧ 1 ≤ (w.length : Int))] [(0, .bytes ((w.take w.length).drop 1))] [] (by kernel_rfl) ?_ ?_
   ·
    refine (ap ?_ az)
    omega
   refine fin_then ?_
   refine tri_seq ?_
   refine tri_seq ?_
   refine tri_regD hcx [] [40] [0, 4, 2] [] [((!((((w.take w.length).drop 1).length : Int) == 0)) = true → ((!((((w.take w.length).drop 1).length : Int) == 0)) = true)), ((!((((w.take w.length).drop 1).length : Int) == 0)) = true → ((!((((w.take w.length).drop 1).length : Int) == 0)) = true)), (((((w.take w.length).drop 1).length : Int) == 0) = false → (!((((w.take w.length).drop 1).length : Int) == 0)) = true), ((!(((((w.take w.length).drop 1).length : Int) == 0) || (decide ((((w.take w.length).drop 1).length : Int) > 10)))) = true → ((!(((((w.take w.length).drop 1).length : Int) == 0) || (decide ((((w.take w.length).drop 1).length : Int) > 10)))) = true)), ((!(((((w.take w.length).drop 1).length : Int) == 0) || (decide ((((w.take w.length).drop 1).length : Int) > 10)))) = true → ((0 : Int) ≤ 0 ∧ 0 < (((w.take w.length).drop 1).length : Int))), ((!(((((w.take w.length).drop 1).length : Int) == 0) || (decide ((((w.take w.length).drop 1).length : Int) > 10)))) = true → ((!(((((w.take w.length).drop 1).length : Int) == 0) || (decide ((((w.take w.length).drop 1).length : Int) > 10)))) = true)), ((!(((((w.take w.length).drop 1).length : Int) == 0) || (decide ((((w.take w.length).drop 1).length : Int) > 10)))) = true → ((!(((((w.take w.length).drop 1).length : Int) == 0) || (decide ((((w.take w.length).drop 1).length : Int) > 10)))) = true)), ((!(((((w.take w.length).drop 1).length : Int) == 0) || (decide ((((w.take w.length).drop 1).length : Int) > 10)))) = true → ((!(((((w.take w.length).drop 1).length : Int) == 0) || (decide ((((w.take w.length).drop 1).length : Int) > 10)))) = true)), (((!(((((w.take w.length).drop 1).length : Int) == 0) || (decide ((((w.take w.length).drop 1).length : Int) > 10)))) && ((((w.take w.length).drop 1).getD 0 0) == 48)) = true → (((!(((((w.take w.length).drop 1).length : Int) == 0) || (decide ((((w.take w.length).drop 1).length : Int) > 10)))) && ((((w.take w.length).drop 1).getD 0 0) == 48)) = true)), ((((!(((((w.take w.length).drop 1).length : Int) == 0) || (decide ((((w.take w.length).drop 1).length : Int) > 10)))) && ((((w.take w.length).drop 1).getD 0 0) == 48)) && (!((decide ((w.length : Int) > 0)) && ((w.getD 0 0) == 45)))) = true → ((((!(((((w.take w.length).drop 1).length : Int) == 0) || (decide ((((w.take w.length).drop 1).length : Int) > 10)))) && ((((w.take w.length).drop 1).getD 0 0) == 48)) && (!((decide ((w.length : Int) > 0)) && ((w.getD 0 0) == 45)))) = true)), ((((!(((((w.take w.length).drop 1).length : Int) == 0) || (decide ((((w.take w.length).drop 1).length : Int) > 10)))) && ((((w.take w.length).drop 1).getD 0 0) == 48)) && (!((decide ((w.length : Int) > 0)) && ((w.getD 0 0) == 45)))) = true → ((((!(((((w.take w.length).drop 1).length : Int) == 0) || (decide ((((w.take w.length).drop 1).length : Int) > 10)))) && ((((w.take w.length).drop 1).getD 0 0) == 48)) && (!((decide ((w.length : Int) > 0)) && ((w.getD 0 0) == 45)))) = true)), (((!(((((w.take w.length).drop 1).length : Int) == 0) || (decide ((((w.take w.length).drop 1).length : Int) > 10)))) && ((((w.take w.length).drop 1).getD 0 0) == 48)) = true → (((!(((((w.take w.length).drop 1).length : Int) == 0) || (decide ((((w.take w.length).drop 1).length : Int) > 10)))) && ((((w.take w.length).drop 1).getD 0 0) == 48)) = true)), (((!(((((w.take w.length).drop 1).length : Int) == 0) || (decide ((((w.take w.length).drop 1).length : Int) > 10)))) && ((((w.take w.length).drop 1).getD 0 0) == 48)) = true → (((decide ((w.length : Int) > 0)) && ((w.getD 0 0) == 45)) = false → (((!(((((w.take w.length).drop 1).length : Int) == 0) || (decide ((((w.take w.length).drop 1).length : Int) > 10)))) && ((((w.take w.length).drop 1).getD 0 0) == 48)) && (!((decide ((w.length : Int) > 0)) && ((w.getD 0 0) == 45)))) = true)), ((!(((((w.take w.length).drop 1).length : Int) == 0) || (decide ((((w.take w.length).drop 1).length : Int) > 10)))) = true → ((!(((((w.take w.length).drop 1).length : Int) == 0) || (decide ((((w.take w.length).drop 1).length : Int) > 10)))) = true)), ((!(((((w.take w.length).drop 1).length : Int) == 0) || (decide ((((w.take w.length).drop 1).length : Int) > 10)))) = true → (((((w.take w.length).drop 1).getD 0 0) == 48) = true → ((!(((((w.take w.length).drop 1).length : Int) == 0) || (decide ((((w.take w.length).drop 1).length : Int) > 10)))) && ((((w.take w.length).drop 1).getD 0 0) == 48)) = true)), ((((((w.take w.length).drop 1).length : Int) == 0) || (decide ((((w.take w.length).drop 1).length : Int) > 10))) = false → (!(((((w.take w.length).drop 1).length : Int) == 0) || (decide ((((w.take w.length).drop 1).length : Int) > 10)))) = true)] [(40, .bool ((((((w.take w.length).drop 1).length : Int) == 0) || (decide ((((w.take w.length).drop 1).length : Int) > 10))) || (((((w.take w.length).drop 1).getD 0 0) == 48) && (((decide ((w.length : Int) > 0)) && ((w.getD 0 0) == 45)) || (decide ((((w.take w.length).drop 1).length : Int) > 1))))))] [] (by kernel_rfl) ?_ ?_
   ·
    refine (ap ?_ (ap ?_ (ap (by exact vcNot) (ap ?_ (ap ?_ (ap ?_ (ap ?_ (ap ?_ (ap ?_ (ap ?_ (ap ?_ (ap ?_ (ap ?_ (ap ?_ (ap ?_ (ap (by exact vcNot) az))))))))))))))))
    all_goals
     first | exact id | exact vcG | exact vcH | (intro hg7; simp only [Bool.not_eq_true', Bool.or_eq_false_iff, beq_eq_false_iff_ne, ne_eq, decide_eq_false_iff_not] at hg7; constructor <;> omega)
   refine fin_then ?_
   refine tri_cond (b := ((((((w.take w.length).drop 1).length : Int) == 0) || (decide ((((w.take w.length).drop 1).length : Int) > 10))) || (((((w.take w.length).drop 1).getD 0 0) == 48) && (((decide ((w.length : Int) > 0)) && ((w.getD 0 0) == 45)) || (decide ((((w.take w.length).drop 1).length : Int) > 1)))))) (by kernel_rfl) (fun hb1 => ?_) (fun hb1 => ?_)
   ·
    skip
    have h1 := hb1
    have hB := (Cn.bad_of hD).trans h1
    refine tri_seq ?_
    refine tri_regD hcx [] [2, 3] [] [] [] [(2, .int 0), (3, .bool false)] [] (by kernel_rfl) ?_ ?_
    ·
     exact az
    refine fin_then ?_
    refine tri_ret ?_
    refine fin_then_ret ?_
    exact fin_ret [] rfl rfl trivial hcx (avs := [.int 0, .bool false]) (by kernel_rfl) (congrArg AV.tup (consE (congrArg AV.int (show 0 = (Cn.numN w) from (by first | exact (Cn.num_bad hB).1.symm | exact (Cn.num_bad hB).2.symm | exact (Cn.num_no (by omega) hq).1.symm | exact (Cn.num_no (by omega) hq).2.symm | exact (Cn.num_end hB h60 hok (by omega)).1 | exact (Cn.num_end hB h60 hok (by omega)).2))) (consE (congrArg AV.bool (show false = (Cn.numOk w) from (by first | exact (Cn.num_bad hB).1.symm | exact (Cn.num_bad hB).2.symm | exact (Cn.num_no (by omega) hq).1.symm | exact (Cn.num_no (by omega) hq).2.symm | exact (Cn.num_end hB h60 hok (by omega)).1 | exact (Cn.num_end hB h60 hok (by omega)).2))) rfl))) [] rfl
   ·
    skip
    have h1 := hb1
    have hB := (Cn.bad_of hD).trans h1
    have hL := Cn.bad_len hD hB
    have hLD := congrArg List.length hD
    refine tri_skip ?_
    refine fin_then ?_
    refine tri_seq ?_
    refine tri_seq ?_
    refine tri_regD hcx [] [41, 42, 43] [4, 2] [] [] [(41, .bytes ((w.take w.length).drop 1)), (42, .int (((w.take w.length).drop 1).length : Int)), (43, .int 0)] [] (by kernel_rfl) ?_ ?_
    ·
     exact az
    refine fin_then ?_
    refine tri_block ?_
    refine tri_loop (X := Nat) (fun x0 => x0 ≤ (Cn.numD w).length ∧ ∀ j, j < x0 → Cn.isDg ((Cn.numD w).getD j 0) = true) (fun x0 => [(2, .int (Cn.dval ((Cn.numD w).take x0))), (4, .bool ((decide ((w.length : Int) > 0)) && ((w.getD 0 0) == 45))), (41, .bytes ((w.take w.length).drop 1)), (42, .int (((w.take w.length).drop 1).length : Int)), (43, .int (x0 : Int))]) (fun x0 => []) (fun x0 => (Cn.numD w).length - x0) (0) ?_ ?_ ?_ ?_
    ·
     show 0 ≤ (Cn.numD w).length ∧ ∀ j, j < 0 → Cn.isDg ((Cn.numD w).getD j 0) = true
     exact ⟨Nat.zero_le _, fun j hj => by omega⟩
    ·
     exact subE_mk (l := [.int 0, .bool ((decide ((w.length : Int) > 0)) && ((w.getD 0 0) == 45)), .bytes ((w.take w.length).drop 1), .int (((w.take w.length).drop 1).length : Int), .int 0]) (m := [.int (Cn.dval ((Cn.numD w).take 0)), .bool ((decide ((w.length : Int) > 0)) && ((w.getD 0 0) == 45)), .bytes ((w.take w.length).drop 1), .int (((w.take w.length).drop 1).length : Int), .int (0 : Int)]) (by kernel_rfl) (by kernel_rfl) (consE (congrArg AV.int (show 0 = (Cn.dval ((Cn.numD w).take 0)) from (by rfl))) (consE rfl (consE rfl (consE rfl (consE (congrArg AV.int (show 0 = (0 : Int) from (by first | rfl | omega | (simp; done)))) rfl)))))
    ·
     kernel_rfl
    ·
     intro k hI
     replace hI : k ≤ (Cn.numD w).length ∧ ∀ j, j < k → Cn.isDg ((Cn.numD w).getD j 0) = true := hI
     change Tri _ [(2, .int (Cn.dval ((Cn.numD w).take k))), (4, .bool ((decide ((w.length : Int) > 0)) && ((w.getD 0 0) == 45))), (41, .bytes ((w.take w.length).drop 1)), (42, .int (((w.take w.length).drop 1).length : Int)), (43, .int (k : Int))] [] _ _
     obtain ⟨hk, hok⟩ := hI
     have hbd := Cn.dval_lt (k := k) hok hk (by omega)
     refine tri_seq ?_
     refine tri_regD hcx [] [44] [2, 4, 41, 42, 43] [] [] [(44, .bool (decide ((k : Int) < (((w.take w.length).drop 1).length : Int))))] [] (by kernel_rfl) ?_ ?_
     ·
      exact az
     refine fin_then ?_
     refine tri_seq ?_
     refine tri_cond (b := (decide ((k : Int) < (((w.take w.length).drop 1).length : Int)))) (by kernel_rfl) (fun hb2 => ?_) (fun hb2 => ?_)
     ·
      skip
      have h2 := of_decide_eq_true hb2
      refine tri_skip ?_
      refine fin_then ?_
      refine tri_seq ?_
      refine tri_block ?_
      refine tri_seq ?_
      refine tri_regD hcx [] [6] [2, 4, 41, 42, 43] [] [((0 : Int) ≤ (k : Int) ∧ (k : Int) < (((w.take w.length).drop 1).length : Int))] [(6, .im (.val (.int .u8 (((w.take w.length).drop 1).getD k 0))))] [] (by kernel_rfl) ?_ ?_
      ·
       refine (ap ?_ az)
       omega
      refine fin_then ?_
      refine tri_seq ?_
      refine tri_seq ?_
      refine tri_regD hcx [] [52] [6, 2, 4, 41, 42, 43] [] [((!(decide ((((w.take w.length).drop 1).getD k 0) < 48))) = true → ((!(decide ((((w.take w.length).drop 1).getD k 0) < 48))) = true)), ((decide ((((w.take w.length).drop 1).getD k 0) < 48)) = false → (!(decide ((((w.take w.length).drop 1).getD k 0) < 48))) = true)] [(52, .bool ((decide ((((w.take w.length).drop 1).getD k 0) < 48)) || (decide ((((w.take w.length).drop 1).getD k 0) > 57))))] [] (by kernel_rfl) ?_ ?_
      ·
       refine (ap ?_ (ap (by exact vcNot) az))
       exact id
      refine fin_then ?_
      refine tri_cond (b := ((decide ((((w.take w.length).drop 1).getD k 0) < 48)) || (decide ((((w.take w.length).drop 1).getD k 0) > 57)))) (by kernel_rfl) (fun hb3 => ?_) (fun hb3 => ?_)
      ·
       skip
       have h3 := hb3
       have hq : Cn.isDg ((Cn.numD w).getD k 0) = false := by rw [hD]; exact Cn.dig_no h3
       refine tri_seq ?_
       refine tri_regD hcx [] [2, 3] [] [] [] [(2, .int 0), (3, .bool false)] [] (by kernel_rfl) ?_ ?_
       ·
        exact az
       refine fin_then ?_
       refine tri_ret ?_
       refine fin_then_ret ?_
       refine fin_block_ret ?_
       refine fin_then_ret ?_
       refine fin_then_ret ?_
       refine fin_block_ret ?_
       refine fin_then_ret ?_
       exact fin_ret [] rfl rfl trivial hcx (avs := [.int 0, .bool false]) (by kernel_rfl) (congrArg AV.tup (consE (congrArg AV.int (show 0 = (Cn.numN w) from (by first | exact (Cn.num_bad hB).1.symm | exact (Cn.num_bad hB).2.symm | exact (Cn.num_no (by omega) hq).1.symm | exact (Cn.num_no (by omega) hq).2.symm | exact (Cn.num_end hB h60 hok (by omega)).1 | exact (Cn.num_end hB h60 hok (by omega)).2))) (consE (congrArg AV.bool (show false = (Cn.numOk w) from (by first | exact (Cn.num_bad hB).1.symm | exact (Cn.num_bad hB).2.symm | exact (Cn.num_no (by omega) hq).1.symm | exact (Cn.num_no (by omega) hq).2.symm | exact (Cn.num_end hB h60 hok (by omega)).1 | exact (Cn.num_end hB h60 hok (by omega)).2))) rfl))) [] rfl
      ·
       skip
       have h3 := hb3
       have hc := Cn.dig_f (Cn.dig_of h3)
       have hq : Cn.isDg ((Cn.numD w).getD k 0) = true := by rw [hD]; exact Cn.dig_of h3
       refine tri_skip ?_
       refine fin_then ?_
       refine tri_regD hcx [] [2] [4, 41, 42, 43] [] [Fit (10 * (Cn.dval ((Cn.numD w).take k))), inK .u8 ((((w.take w.length).drop 1).getD k 0) - 48), inK .i64 ((((w.take w.length).drop 1).getD k 0) - 48), Fit ((10 * (Cn.dval ((Cn.numD w).take k))) + ((((w.take w.length).drop 1).getD k 0) - 48))] [(2, .int ((10 * (Cn.dval ((Cn.numD w).take k))) + ((((w.take w.length).drop 1).getD k 0) - 48)))] [] (by kernel_rfl) ?_ ?_
       ·
        refine (ap ?_ (ap ?_ (ap ?_ (ap ?_ az))))
        all_goals
         first | omega | (constructor <;> omega)
       refine fin_block ?_
       refine fin_then ?_
       refine tri_regD hcx [] [43] [2, 4, 41, 42] [] [Fit ((k : Int) + 1)] [(43, .int ((k : Int) + 1))] [] (by kernel_rfl) ?_ ?_
       ·
        refine (ap ?_ az)
        omega
       refine fin_round (k + 1) ?_ ?_ ?_ ?_
       ·
        show (k + 1) ≤ (Cn.numD w).length ∧ ∀ j, j < (k + 1) → Cn.isDg ((Cn.numD w).getD j 0) = true
        exact ⟨by omega, fun j hj => by rcases (by omega : j < k ∨ j = k) with h | rfl; exact hok j h; exact hq⟩
       ·
        show (Cn.numD w).length - (k + 1) < (Cn.numD w).length - k
        omega
       ·
        exact subE_mk (l := [.int ((10 * (Cn.dval ((Cn.numD w).take k))) + ((((w.take w.length).drop 1).getD k 0) - 48)), .bool ((decide ((w.length : Int) > 0)) && ((w.getD 0 0) == 45)), .bytes ((w.take w.length).drop 1), .int (((w.take w.length).drop 1).length : Int), .int ((k : Int) + 1)]) (m := [.int (Cn.dval ((Cn.numD w).take (k + 1))), .bool ((decide ((w.length : Int) > 0)) && ((w.getD 0 0) == 45)), .bytes ((w.take w.length).drop 1), .int (((w.take w.length).drop 1).length : Int), .int ((k + 1) : Int)]) (by kernel_rfl) (by kernel_rfl) (consE (congrArg AV.int (show ((10 * (Cn.dval ((Cn.numD w).take k))) + ((((w.take w.length).drop 1).getD k 0) - 48)) = (Cn.dval ((Cn.numD w).take (k + 1))) from (by rw [Cn.dval_take (by omega), hD]))) (consE rfl (consE rfl (consE rfl (consE (congrArg AV.int (show ((k : Int) + 1) = ((k + 1) : Int) from (by first | rfl | omega | (simp; done)))) rfl)))))
       ·
        kernel_rfl
     ·
      skip
      have h2 := of_decide_eq_false hb2
      refine tri_exit ?_
      refine fin_then_exit ?_
      refine fin_then_exit ?_
      refine fin_block_same ?_
      refine fin_then ?_
      refine tri_seq ?_
      refine tri_seq ?_
      refine tri_regD hcx [] [60] [2] [] [] [(60, .bool ((decide ((w.length : Int) > 0)) && ((w.getD 0 0) == 45)))] [] (by kernel_rfl) ?_ ?_
      ·
       exact az
      refine fin_then ?_
      refine tri_cond (b := ((decide ((w.length : Int) > 0)) && ((w.getD 0 0) == 45))) (by kernel_rfl) (fun hb4 => ?_) (fun hb4 => ?_)
      ·
       skip
       have h4 := hb4
       have h60 : Cn.numM w = true := h4
       refine tri_regD hcx [] [2] [] [] [Fit (-(Cn.dval ((Cn.numD w).take k)))] [(2, .int (-(Cn.dval ((Cn.numD w).take k))))] [] (by kernel_rfl) ?_ ?_
       ·
        refine (ap ?_ az)
        omega
       refine fin_then ?_
       refine tri_seq ?_
       refine tri_regD hcx [] [2, 3] [] [] [] [(2, .int (-(Cn.dval ((Cn.numD w).take k)))), (3, .bool true)] [] (by kernel_rfl) ?_ ?_
       ·
        exact az
       refine fin_then ?_
       refine tri_ret ?_
       exact fin_ret [] rfl rfl trivial hcx (avs := [.int (-(Cn.dval ((Cn.numD w).take k))), .bool true]) (by kernel_rfl) (congrArg AV.tup (consE (congrArg AV.int (show (-(Cn.dval ((Cn.numD w).take k))) = (Cn.numN w) from (by first | exact (Cn.num_bad hB).1.symm | exact (Cn.num_bad hB).2.symm | exact (Cn.num_no (by omega) hq).1.symm | exact (Cn.num_no (by omega) hq).2.symm | exact (Cn.num_end hB h60 hok (by omega)).1 | exact (Cn.num_end hB h60 hok (by omega)).2))) (consE (congrArg AV.bool (show true = (Cn.numOk w) from (by first | exact (Cn.num_bad hB).1.symm | exact (Cn.num_bad hB).2.symm | exact (Cn.num_no (by omega) hq).1.symm | exact (Cn.num_no (by omega) hq).2.symm | exact (Cn.num_end hB h60 hok (by omega)).1 | exact (Cn.num_end hB h60 hok (by omega)).2))) rfl))) [] rfl
      ·
       skip
       have h4 := hb4
       have h60 : Cn.numM w = false := h4
       refine tri_skip ?_
       refine fin_then ?_
       refine tri_seq ?_
       refine tri_regD hcx [] [2, 3] [] [] [] [(2, .int (Cn.dval ((Cn.numD w).take k))), (3, .bool true)] [] (by kernel_rfl) ?_ ?_
       ·
        exact az
       refine fin_then ?_
       refine tri_ret ?_
       exact fin_ret [] rfl rfl trivial hcx (avs := [.int (Cn.dval ((Cn.numD w).take k)), .bool true]) (by kernel_rfl) (congrArg AV.tup (consE (congrArg AV.int (show (Cn.dval ((Cn.numD w).take k)) = (Cn.numN w) from (by first | exact (Cn.num_bad hB).1.symm | exact (Cn.num_bad hB).2.symm | exact (Cn.num_no (by omega) hq).1.symm | exact (Cn.num_no (by omega) hq).2.symm | exact (Cn.num_end hB h60 hok (by omega)).1 | exact (Cn.num_end hB h60 hok (by omega)).2))) (consE (congrArg AV.bool (show true = (Cn.numOk w) from (by first | exact (Cn.num_bad hB).1.symm | exact (Cn.num_bad hB).2.symm | exact (Cn.num_no (by omega) hq).1.symm | exact (Cn.num_no (by omega) hq).2.symm | exact (Cn.num_end hB h60 hok (by omega)).1 | exact (Cn.num_end hB h60 hok (by omega)).2))) rfl))) [] rfl
  ·
   skip
   have h0 := hb0
   have hM : Cn.numM w = false := h0
   have hD := Cn.numD_f hM
   refine tri_skip ?_
   refine fin_then ?_
   refine tri_seq ?_
   refine tri_seq ?_
   refine tri_regD hcx [] [40] [4, 2, 0] [] [((!((w.length : Int) == 0)) = true → ((!((w.length : Int) == 0)) = true)), ((!((w.length : Int) == 0)) = true → ((!((w.length : Int) == 0)) = true)), (((w.length : Int) == 0) = false → (!((w.length : Int) == 0)) = true), ((!(((w.length : Int) == 0) || (decide ((w.length : Int) > 10)))) = true → ((!(((w.length : Int) == 0) || (decide ((w.length : Int) > 10)))) = true)), ((!(((w.length : Int) == 0) || (decide ((w.length : Int) > 10)))) = true → ((0 : Int) ≤ 0 ∧ 0 < (w.length : Int))), ((!(((w.length : Int) == 0) || (decide ((w.length : Int) > 10)))) = true → ((!(((w.length : Int) == 0) || (decide ((w.length : Int) > 10)))) = true)), ((!(((w.length : Int) == 0) || (decide ((w.length : Int) > 10)))) = true → ((!(((w.length : Int) == 0) || (decide ((w.length : Int) > 10)))) = true)), ((!(((w.length : Int) == 0) || (decide ((w.length : Int) > 10)))) = true → ((!(((w.length : Int) == 0) || (decide ((w.length : Int) > 10)))) = true)), (((!(((w.length : Int) == 0) || (decide ((w.length : Int) > 10)))) && ((w.getD 0 0) == 48)) = true → (((!(((w.length : Int) == 0) || (decide ((w.length : Int) > 10)))) && ((w.getD 0 0) == 48)) = true)), ((((!(((w.length : Int) == 0) || (decide ((w.length : Int) > 10)))) && ((w.getD 0 0) == 48)) && (!((decide ((w.length : Int) > 0)) && ((w.getD 0 0) == 45)))) = true → ((((!(((w.length : Int) == 0) || (decide ((w.length : Int) > 10)))) && ((w.getD 0 0) == 48)) && (!((decide ((w.length : Int) > 0)) && ((w.getD 0 0) == 45)))) = true)), ((((!(((w.length : Int) == 0) || (decide ((w.length : Int) > 10)))) && ((w.getD 0 0) == 48)) && (!((decide ((w.length : Int) > 0)) && ((w.getD 0 0) == 45)))) = true → ((((!(((w.length : Int) == 0) || (decide ((w.length : Int) > 10)))) && ((w.getD 0 0) == 48)) && (!((decide ((w.length : Int) > 0)) && ((w.getD 0 0) == 45)))) = true)), (((!(((w.length : Int) == 0) || (decide ((w.length : Int) > 10)))) && ((w.getD 0 0) == 48)) = true → (((!(((w.length : Int) == 0) || (decide ((w.length : Int) > 10)))) && ((w.getD 0 0) == 48)) = true)), (((!(((w.length : Int) == 0) || (decide ((w.length : Int) > 10)))) && ((w.getD 0 0) == 48)) = true → (((decide ((w.length : Int) > 0)) && ((w.getD 0 0) == 45)) = false → (((!(((w.length : Int) == 0) || (decide ((w.length : Int) > 10)))) && ((w.getD 0 0) == 48)) && (!((decide ((w.length : Int) > 0)) && ((w.getD 0 0) == 45)))) = true)), ((!(((w.length : Int) == 0) || (decide ((w.length : Int) > 10)))) = true → ((!(((w.length : Int) == 0) || (decide ((w.length : Int) > 10)))) = true)), ((!(((w.length : Int) == 0) || (decide ((w.length : Int) > 10)))) = true → (((w.getD 0 0) == 48) = true → ((!(((w.length : Int) == 0) || (decide ((w.length : Int) > 10)))) && ((w.getD 0 0) == 48)) = true)), ((((w.length : Int) == 0) || (decide ((w.length : Int) > 10))) = false → (!(((w.length : Int) == 0) || (decide ((w.length : Int) > 10)))) = true)] [(40, .bool ((((w.length : Int) == 0) || (decide ((w.length : Int) > 10))) || (((w.getD 0 0) == 48) && (((decide ((w.length : Int) > 0)) && ((w.getD 0 0) == 45)) || (decide ((w.length : Int) > 1))))))] [] (by kernel_rfl) ?_ ?_
   ·
    refine (ap ?_ (ap ?_ (ap (by exact vcNot) (ap ?_ (ap ?_ (ap ?_ (ap ?_ (ap ?_ (ap ?_ (ap ?_ (ap ?_ (ap ?_ (ap ?_ (ap ?_ (ap ?_ (ap (by exact vcNot) az))))))))))))))))
    all_goals
     first | exact id | exact vcG | exact vcH | (intro hg7; simp only [Bool.not_eq_true', Bool.or_eq_false_iff, beq_eq_false_iff_ne, ne_eq, decide_eq_false_iff_not] at hg7; constructor <;> omega)
   refine fin_then ?_
   refine tri_cond (b := ((((w.length : Int) == 0) || (decide ((w.length : Int) > 10))) || (((w.getD 0 0) == 48) && (((decide ((w.length : Int) > 0)) && ((w.getD 0 0) == 45)) || (decide ((w.length : Int) > 1)))))) (by kernel_rfl) (fun hb5 => ?_) (fun hb5 => ?_)
   ·
    skip
    have h5 := hb5
    have hB := (Cn.bad_of hD).trans h5
    refine tri_seq ?_
    refine tri_regD hcx [] [2, 3] [] [] [] [(2, .int 0), (3, .bool false)] [] (by kernel_rfl) ?_ ?_
    ·
     exact az
    refine fin_then ?_
    refine tri_ret ?_
    refine fin_then_ret ?_
    exact fin_ret [] rfl rfl trivial hcx (avs := [.int 0, .bool false]) (by kernel_rfl) (congrArg AV.tup (consE (congrArg AV.int (show 0 = (Cn.numN w) from (by first | exact (Cn.num_bad hB).1.symm | exact (Cn.num_bad hB).2.symm | exact (Cn.num_no (by omega) hq).1.symm | exact (Cn.num_no (by omega) hq).2.symm | exact (Cn.num_end hB h60 hok (by omega)).1 | exact (Cn.num_end hB h60 hok (by omega)).2))) (consE (congrArg AV.bool (show false = (Cn.numOk w) from (by first | exact (Cn.num_bad hB).1.symm | exact (Cn.num_bad hB).2.symm | exact (Cn.num_no (by omega) hq).1.symm | exact (Cn.num_no (by omega) hq).2.symm | exact (Cn.num_end hB h60 hok (by omega)).1 | exact (Cn.num_end hB h60 hok (by omega)).2))) rfl))) [] rfl
   ·
    skip
    have h5 := hb5
    have hB := (Cn.bad_of hD).trans h5
    have hL := Cn.bad_len hD hB
    have hLD := congrArg List.length hD
    refine tri_skip ?_
    refine fin_then ?_
    refine tri_seq ?_
    refine tri_seq ?_
    refine tri_regD hcx [] [41, 42, 43] [4, 2] [] [] [(41, .bytes w), (42, .int (w.length : Int)), (43, .int 0)] [] (by kernel_rfl) ?_ ?_
    ·
     exact az
    refine fin_then ?_
    refine tri_block ?_
    refine tri_loop (X := Nat) (fun x0 => x0 ≤ (Cn.numD w).length ∧ ∀ j, j < x0 → Cn.isDg ((Cn.numD w).getD j 0) = true) (fun x0 => [(2, .int (Cn.dval ((Cn.numD w).take x0))), (4, .bool ((decide ((w.length : Int) > 0)) && ((w.getD 0 0) == 45))), (41, .bytes w), (42, .int (w.length : Int)), (43, .int (x0 : Int))]) (fun x0 => []) (fun x0 => (Cn.numD w).length - x0) (0) ?_ ?_ ?_ ?_
    ·
     show 0 ≤ (Cn.numD w).length ∧ ∀ j, j < 0 → Cn.isDg ((Cn.numD w).getD j 0) = true
     exact ⟨Nat.zero_le _, fun j hj => by omega⟩
    ·
     exact subE_mk (l := [.int 0, .bool ((decide ((w.length : Int) > 0)) && ((w.getD 0 0) == 45)), .bytes w, .int (w.length : Int), .int 0]) (m := [.int (Cn.dval ((Cn.numD w).take 0)), .bool ((decide ((w.length : Int) > 0)) && ((w.getD 0 0) == 45)), .bytes w, .int (w.length : Int), .int (0 : Int)]) (by kernel_rfl) (by kernel_rfl) (consE (congrArg AV.int (show 0 = (Cn.dval ((Cn.numD w).take 0)) from (by rfl))) (consE rfl (consE rfl (consE rfl (consE (congrArg AV.int (show 0 = (0 : Int) from (by first | rfl | omega | (simp; done)))) rfl)))))
    ·
     kernel_rfl
    ·
     intro k hI
     replace hI : k ≤ (Cn.numD w).length ∧ ∀ j, j < k → Cn.isDg ((Cn.numD w).getD j 0) = true := hI
     change Tri _ [(2, .int (Cn.dval ((Cn.numD w).take k))), (4, .bool ((decide ((w.length : Int) > 0)) && ((w.getD 0 0) == 45))), (41, .bytes w), (42, .int (w.length : Int)), (43, .int (k : Int))] [] _ _
     obtain ⟨hk, hok⟩ := hI
     have hbd := Cn.dval_lt (k := k) hok hk (by omega)
     refine tri_seq ?_
     refine tri_regD hcx [] [44] [2, 4, 41, 42, 43] [] [] [(44, .bool (decide ((k : Int) < (w.length : Int))))] [] (by kernel_rfl) ?_ ?_
     ·
      exact az
     refine fin_then ?_
     refine tri_seq ?_
     refine tri_cond (b := (decide ((k : Int) < (w.length : Int)))) (by kernel_rfl) (fun hb6 => ?_) (fun hb6 => ?_)
     ·
      skip
      have h6 := of_decide_eq_true hb6
      refine tri_skip ?_
      refine fin_then ?_
      refine tri_seq ?_
      refine tri_block ?_
      refine tri_seq ?_
      refine tri_regD hcx [] [6] [2, 4, 41, 42, 43] [] [((0 : Int) ≤ (k : Int) ∧ (k : Int) < (w.length : Int))] [(6, .im (.val (.int .u8 (w.getD k 0))))] [] (by kernel_rfl) ?_ ?_
      ·
       refine (ap ?_ az)
       omega
      refine fin_then ?_
      refine tri_seq ?_
      refine tri_seq ?_
      refine tri_regD hcx [] [52] [6, 2, 4, 41, 42, 43] [] [((!(decide ((w.getD k 0) < 48))) = true → ((!(decide ((w.getD k 0) < 48))) = true)), ((decide ((w.getD k 0) < 48)) = false → (!(decide ((w.getD k 0) < 48))) = true)] [(52, .bool ((decide ((w.getD k 0) < 48)) || (decide ((w.getD k 0) > 57))))] [] (by kernel_rfl) ?_ ?_
      ·
       refine (ap ?_ (ap (by exact vcNot) az))
       exact id
      refine fin_then ?_
      refine tri_cond (b := ((decide ((w.getD k 0) < 48)) || (decide ((w.getD k 0) > 57)))) (by kernel_rfl) (fun hb7 => ?_) (fun hb7 => ?_)
      ·
       skip
       have h7 := hb7
       have hq : Cn.isDg ((Cn.numD w).getD k 0) = false := by rw [hD]; exact Cn.dig_no h7
       refine tri_seq ?_
       refine tri_regD hcx [] [2, 3] [] [] [] [(2, .int 0), (3, .bool false)] [] (by kernel_rfl) ?_ ?_
       ·
        exact az
       refine fin_then ?_
       refine tri_ret ?_
       refine fin_then_ret ?_
       refine fin_block_ret ?_
       refine fin_then_ret ?_
       refine fin_then_ret ?_
       refine fin_block_ret ?_
       refine fin_then_ret ?_
       exact fin_ret [] rfl rfl trivial hcx (avs := [.int 0, .bool false]) (by kernel_rfl) (congrArg AV.tup (consE (congrArg AV.int (show 0 = (Cn.numN w) from (by first | exact (Cn.num_bad hB).1.symm | exact (Cn.num_bad hB).2.symm | exact (Cn.num_no (by omega) hq).1.symm | exact (Cn.num_no (by omega) hq).2.symm | exact (Cn.num_end hB h60 hok (by omega)).1 | exact (Cn.num_end hB h60 hok (by omega)).2))) (consE (congrArg AV.bool (show false = (Cn.numOk w) from (by first | exact (Cn.num_bad hB).1.symm | exact (Cn.num_bad hB).2.symm | exact (Cn.num_no (by omega) hq).1.symm | exact (Cn.num_no (by omega) hq).2.symm | exact (Cn.num_end hB h60 hok (by omega)).1 | exact (Cn.num_end hB h60 hok (by omega)).2))) rfl))) [] rfl
      ·
       skip
       have h7 := hb7
       have hc := Cn.dig_f (Cn.dig_of h7)
       have hq : Cn.isDg ((Cn.numD w).getD k 0) = true := by rw [hD]; exact Cn.dig_of h7
       refine tri_skip ?_
       refine fin_then ?_
       refine tri_regD hcx [] [2] [4, 41, 42, 43] [] [Fit (10 * (Cn.dval ((Cn.numD w).take k))), inK .u8 ((w.getD k 0) - 48), inK .i64 ((w.getD k 0) - 48), Fit ((10 * (Cn.dval ((Cn.numD w).take k))) + ((w.getD k 0) - 48))] [(2, .int ((10 * (Cn.dval ((Cn.numD w).take k))) + ((w.getD k 0) - 48)))] [] (by kernel_rfl) ?_ ?_
       ·
        refine (ap ?_ (ap ?_ (ap ?_ (ap ?_ az))))
        all_goals
         first | omega | (constructor <;> omega)
       refine fin_block ?_
       refine fin_then ?_
       refine tri_regD hcx [] [43] [2, 4, 41, 42] [] [Fit ((k : Int) + 1)] [(43, .int ((k : Int) + 1))] [] (by kernel_rfl) ?_ ?_
       ·
        refine (ap ?_ az)
        omega
       refine fin_round (k + 1) ?_ ?_ ?_ ?_
       ·
        show (k + 1) ≤ (Cn.numD w).length ∧ ∀ j, j < (k + 1) → Cn.isDg ((Cn.numD w).getD j 0) = true
        exact ⟨by omega, fun j hj => by rcases (by omega : j < k ∨ j = k) with h | rfl; exact hok j h; exact hq⟩
       ·
        show (Cn.numD w).length - (k + 1) < (Cn.numD w).length - k
        omega
       ·
        exact subE_mk (l := [.int ((10 * (Cn.dval ((Cn.numD w).take k))) + ((w.getD k 0) - 48)), .bool ((decide ((w.length : Int) > 0)) && ((w.getD 0 0) == 45)), .bytes w, .int (w.length : Int), .int ((k : Int) + 1)]) (m := [.int (Cn.dval ((Cn.numD w).take (k + 1))), .bool ((decide ((w.length : Int) > 0)) && ((w.getD 0 0) == 45)), .bytes w, .int (w.length : Int), .int ((k + 1) : Int)]) (by kernel_rfl) (by kernel_rfl) (consE (congrArg AV.int (show ((10 * (Cn.dval ((Cn.numD w).take k))) + ((w.getD k 0) - 48)) = (Cn.dval ((Cn.numD w).take (k + 1))) from (by rw [Cn.dval_take (by omega), hD]))) (consE rfl (consE rfl (consE rfl (consE (congrArg AV.int (show ((k : Int) + 1) = ((k + 1) : Int) from (by first | rfl | omega | (simp; done)))) rfl)))))
       ·
        kernel_rfl
     ·
      skip
      have h6 := of_decide_eq_false hb6
      refine tri_exit ?_
      refine fin_then_exit ?_
      refine fin_then_exit ?_
      refine fin_block_same ?_
      refine fin_then ?_
      refine tri_seq ?_
      refine tri_seq ?_
      refine tri_regD hcx [] [60] [2] [] [] [(60, .bool ((decide ((w.length : Int) > 0)) && ((w.getD 0 0) == 45)))] [] (by kernel_rfl) ?_ ?_
      ·
       exact az
      refine fin_then ?_
      refine tri_cond (b := ((decide ((w.length : Int) > 0)) && ((w.getD 0 0) == 45))) (by kernel_rfl) (fun hb8 => ?_) (fun hb8 => ?_)
      ·
       skip
       have h8 := hb8
       have h60 : Cn.numM w = true := h8
       refine tri_regD hcx [] [2] [] [] [Fit (-(Cn.dval ((Cn.numD w).take k)))] [(2, .int (-(Cn.dval ((Cn.numD w).take k))))] [] (by kernel_rfl) ?_ ?_
       ·
        refine (ap ?_ az)
        omega
       refine fin_then ?_
       refine tri_seq ?_
       refine tri_regD hcx [] [2, 3] [] [] [] [(2, .int (-(Cn.dval ((Cn.numD w).take k)))), (3, .bool true)] [] (by kernel_rfl) ?_ ?_
       ·
        exact az
       refine fin_then ?_
       refine tri_ret ?_
       exact fin_ret [] rfl rfl trivial hcx (avs := [.int (-(Cn.dval ((Cn.numD w).take k))), .bool true]) (by kernel_rfl) (congrArg AV.tup (consE (congrArg AV.int (show (-(Cn.dval ((Cn.numD w).take k))) = (Cn.numN w) from (by first | exact (Cn.num_bad hB).1.symm | exact (Cn.num_bad hB).2.symm | exact (Cn.num_no (by omega) hq).1.symm | exact (Cn.num_no (by omega) hq).2.symm | exact (Cn.num_end hB h60 hok (by omega)).1 | exact (Cn.num_end hB h60 hok (by omega)).2))) (consE (congrArg AV.bool (show true = (Cn.numOk w) from (by first | exact (Cn.num_bad hB).1.symm | exact (Cn.num_bad hB).2.symm | exact (Cn.num_no (by omega) hq).1.symm | exact (Cn.num_no (by omega) hq).2.symm | exact (Cn.num_end hB h60 hok (by omega)).1 | exact (Cn.num_end hB h60 hok (by omega)).2))) rfl))) [] rfl
      ·
       skip
       have h8 := hb8
       have h60 : Cn.numM w = false := h8
       refine tri_skip ?_
       refine fin_then ?_
       refine tri_seq ?_
       refine tri_regD hcx [] [2, 3] [] [] [] [(2, .int (Cn.dval ((Cn.numD w).take k))), (3, .bool true)] [] (by kernel_rfl) ?_ ?_
       ·
        exact az
       refine fin_then ?_
       refine tri_ret ?_
       exact fin_ret [] rfl rfl trivial hcx (avs := [.int (Cn.dval ((Cn.numD w).take k)), .bool true]) (by kernel_rfl) (congrArg AV.tup (consE (congrArg AV.int (show (Cn.dval ((Cn.numD w).take k)) = (Cn.numN w) from (by first | exact (Cn.num_bad hB).1.symm | exact (Cn.num_bad hB).2.symm | exact (Cn.num_no (by omega) hq).1.symm | exact (Cn.num_no (by omega) hq).2.symm | exact (Cn.num_end hB h60 hok (by omega)).1 | exact (Cn.num_end hB h60 hok (by omega)).2))) (consE (congrArg AV.bool (show true = (Cn.numOk w) from (by first | exact (Cn.num_bad hB).1.symm | exact (Cn.num_bad hB).2.symm | exact (Cn.num_no (by omega) hq).1.symm | exact (Cn.num_no (by omega) hq).2.symm | exact (Cn.num_end hB h60 hok (by omega)).1 | exact (Cn.num_end hB h60 hok (by omega)).2))) rfl))) [] rfl
 ·
  cases hσ
def cx_cWords : Cx := ⟨tyGet, [(38, cMay_σ), (43, cOf_σ), (53, (coeF [.id, .ld (.bools [])] cTrue_σ)), (52, cHolds1_σ), (73, (orF (coeF [.ld (.ints []), .id] ixHolds_σ) (coeF [.ld (.ints []), .id] ixCheck_σ))), (47, (orF (coeF [.ld (.ints []), .id] ctHolds_σ) (coeF [.ld (.ints []), .id] ctCheck_σ))), (21, (coeF [.ld (.ints []), .ld (.bools [])] cHolds_σ)), (48, cCheck1_σ), (17, (coeF [.agg [.id, .ld (.intss [])]] cCheck_σ)), (55, (coeF [.ld (.ints []), .id] cValue1_σ)), (77, (coeF [.ld (.intss []), .id] ixValue_σ)), (56, (coeF [.ld (.intss []), .id] ctValue_σ)), (23, (coeF [.agg [.id, .ld (.intss [])], .ld (.bools [])] cValue_σ)), (70, (coeF [.ld (.ints []), .id] sIndex_σ)), (58, (coeF [.ld (.ints []), .id] sContains_σ)), (69, (coeF [.ld (.bytes [])] cNumber_σ)), (36, sClone)], false⟩
theorem cx_cWords_ok : CxOk Tryz.prog cx_cWords := cx_ok tyGet_ok ⟨cMay_sound, cOf_sound, (cTrue_sound.coe [.id, .ld (.bools [])] rfl), cHolds1_sound, ((ixHolds_sound.coe [.ld (.ints []), .id] rfl).or (ixCheck_sound.coe [.ld (.ints []), .id] rfl)), ((ctHolds_sound.coe [.ld (.ints []), .id] rfl).or (ctCheck_sound.coe [.ld (.ints []), .id] rfl)), (cHolds_sound.coe [.ld (.ints []), .ld (.bools [])] rfl), cCheck1_sound, (cCheck_sound.coe [.agg [.id, .ld (.intss [])]] rfl), (cValue1_sound.coe [.ld (.ints []), .id] rfl), (ixValue_sound.coe [.ld (.intss []), .id] rfl), (ctValue_sound.coe [.ld (.intss []), .id] rfl), (cValue_sound.coe [.agg [.id, .ld (.intss [])], .ld (.bools [])] rfl), (sIndex_sound.coe [.ld (.ints []), .id] rfl), (sContains_sound.coe [.ld (.ints []), .id] rfl), (cNumber_sound.coe [.ld (.bytes [])] rfl), sClone_sound, trivial⟩
def cWords_σ : CtF
  | [.im (.ls (.bytes b))], [] => some (True, .clo 82 [.pto [.ls (.bytes b)]], [])
  | _, _ => none
theorem cWords_sound : Sound Tryz.prog 68 cWords_σ := by
 refine sound_mk (cx := cx_cWords) (fn := Tryz.f68) Tryz.func68 (by kernel_rfl) rfl ?_
 intro w0 G0 args os p r outs hσ hp hm0 hd0
 have hcx : CxOk Tryz.prog cx_cWords := cx_cWords_ok
 unfold cWords_σ at hσ
 split at hσ
 ·
  rename_i b
  simp only [Option.some.injEq, Prod.mk.injEq] at hσ
  obtain ⟨rfl, rfl, rfl⟩ := hσ
  obtain ⟨wW, wO, wm, wβ, wd⟩ := w0
  replace hm0 : wm = 0 := hm0
  subst hm0
  replace hd0 : wd = [] := hd0
  subst hd0
  refine ⟨by kernel_rfl, ?_⟩
  change Tri ⟨_, _, _, _, _, _⟩ [(0, .bytes b)] [] _ _
  refine tri_seq ?_
  refine tri_regD hcx [(1000, .frz)] [1] [] [] [] [(1, .pto [.ls (.bytes b)])] [] (by kernel_rfl) ?_ ?_
  ·
   exact az
  refine fin_then ?_
  refine tri_seq ?_
  refine tri_regD hcx [] [2] [] [] [] [(2, .clo 82 [.pto [.ls (.bytes b)]])] [] (by kernel_rfl) ?_ ?_
  ·
   exact az
  refine fin_then ?_
  refine tri_ret ?_
  exact fin_ret [] rfl rfl trivial hcx (avs := [.clo 82 [.pto [.ls (.bytes b)]]]) (by kernel_rfl) rfl [] rfl
 ·
  cases hσ
def cx_cGet : Cx := ⟨tyGet, [(38, cMay_σ), (43, cOf_σ), (53, (coeF [.id, .ld (.bools [])] cTrue_σ)), (52, cHolds1_σ), (73, (orF (coeF [.ld (.ints []), .id] ixHolds_σ) (coeF [.ld (.ints []), .id] ixCheck_σ))), (47, (orF (coeF [.ld (.ints []), .id] ctHolds_σ) (coeF [.ld (.ints []), .id] ctCheck_σ))), (21, (coeF [.ld (.ints []), .ld (.bools [])] cHolds_σ)), (48, cCheck1_σ), (17, (coeF [.agg [.id, .ld (.intss [])]] cCheck_σ)), (55, (coeF [.ld (.ints []), .id] cValue1_σ)), (77, (coeF [.ld (.intss []), .id] ixValue_σ)), (56, (coeF [.ld (.intss []), .id] ctValue_σ)), (23, (coeF [.agg [.id, .ld (.intss [])], .ld (.bools [])] cValue_σ)), (70, (coeF [.ld (.ints []), .id] sIndex_σ)), (58, (coeF [.ld (.ints []), .id] sContains_σ)), (69, (coeF [.ld (.bytes [])] cNumber_σ)), (36, sClone), (68, (coeF [.ld (.bytes [])] cWords_σ))], false⟩
theorem cx_cGet_ok : CxOk Tryz.prog cx_cGet := cx_ok tyGet_ok ⟨cMay_sound, cOf_sound, (cTrue_sound.coe [.id, .ld (.bools [])] rfl), cHolds1_sound, ((ixHolds_sound.coe [.ld (.ints []), .id] rfl).or (ixCheck_sound.coe [.ld (.ints []), .id] rfl)), ((ctHolds_sound.coe [.ld (.ints []), .id] rfl).or (ctCheck_sound.coe [.ld (.ints []), .id] rfl)), (cHolds_sound.coe [.ld (.ints []), .ld (.bools [])] rfl), cCheck1_sound, (cCheck_sound.coe [.agg [.id, .ld (.intss [])]] rfl), (cValue1_sound.coe [.ld (.ints []), .id] rfl), (ixValue_sound.coe [.ld (.intss []), .id] rfl), (ctValue_sound.coe [.ld (.intss []), .id] rfl), (cValue_sound.coe [.agg [.id, .ld (.intss [])], .ld (.bools [])] rfl), (sIndex_sound.coe [.ld (.ints []), .id] rfl), (sContains_sound.coe [.ld (.ints []), .id] rfl), (cNumber_sound.coe [.ld (.bytes [])] rfl), sClone_sound, (cWords_sound.coe [.ld (.bytes [])] rfl), trivial⟩
def cGet_σ : CtF
  | [.im (.ls (.bytes b))], [] => some (b.length ≤ 100000 ∧ Cn.isBytes b, .tup [.agg [.int ((Cn.getV (Cn.wordsV b)).1), .intss ((Cn.getV (Cn.wordsV b)).2.1)], .int ((Cn.getV (Cn.wordsV b)).2.2)], [])
  | _, _ => none
theorem cGet_sound : Sound Tryz.prog 31 cGet_σ := by
 refine sound_mk (cx := cx_cGet) (fn := Tryz.f31) Tryz.func31 (by kernel_rfl) rfl ?_
 intro w0 G0 args os p r outs hσ hp hm0 hd0
 have hcx : CxOk Tryz.prog cx_cGet := cx_cGet_ok
 have hmx : Tryz.prog.follows .mixedOrders = true := by kernel_rfl
 unfold cGet_σ at hσ
 split at hσ
 ·
  rename_i b
  simp only [Option.some.injEq, Prod.mk.injEq] at hσ
  obtain ⟨rfl, rfl, rfl⟩ := hσ
  obtain ⟨wW, wO, wm, wβ, wd⟩ := w0
  replace hm0 : wm = 0 := hm0
  subst hm0
  replace hd0 : wd = [] := hd0
  subst hd0
  refine ⟨by kernel_rfl, ?_⟩
  change Tri ⟨_, _, _, _, _, _⟩ [(0, .bytes b)] [] _ _
  obtain ⟨hm1, hm2⟩ := hp
  have hcn := Cn.words_cnt hm1
  refine tri_seq ?_
  refine tri_regD hcx [(1000, .to 602), (1001, .to 603)] [2, 3] [0] [] [] [(2, .loc 602 0), (3, .loc 603 0)] [(602, .box [.int 0, .im (.val (.slice none 0 0))]), (603, .box [.int 0])] (by kernel_rfl) ?_ ?_
  ·
   exact az
  refine fin_then ?_
  refine tri_seq ?_
  refine tri_seq ?_
  refine tri_regD hcx [] [15] [2, 3, 0] [602, 603] [] [(15, .bool (decide ((b.length : Int) > 4194304)))] [] (by kernel_rfl) ?_ ?_
  ·
   exact az
  refine fin_then ?_
  refine tri_cond (b := (decide ((b.length : Int) > 4194304))) (by kernel_rfl) (fun hb0 => ?_) (fun hb0 => ?_)
  ·
   skip
   have h0 := of_decide_eq_true hb0
   omega
  ·
   skip
   have h0 := of_decide_eq_false hb0
   refine tri_skip ?_
   refine fin_then ?_
   refine tri_seq ?_
   refine tri_regD hcx [(1000, .to 604)] [4] [2, 3, 0] [602, 603] [] [(4, .loc 604 0)] [(604, .box [.im (.val (.slice none 0 0))])] (by kernel_rfl) ?_ ?_
   ·
    exact az
   refine fin_then ?_
   refine tri_seq ?_
   refine tri_regD hcx [(1000, .to 605)] [5] [4, 2, 3, 0] [604, 602, 603] [] [(5, .loc 605 0)] [(605, .box [.int 0])] (by kernel_rfl) ?_ ?_
   ·
    exact az
   refine fin_then ?_
   refine tri_seq ?_
   refine tri_seq ?_
   refine tri_rowB 604 0 10 3 (.ints []) (by kernel_rfl) (by kernel_rfl) (by kernel_rfl) (by kernel_rfl) (H' := [(605, .box [.int 0]), (604, .box [.row 10]), (602, .box [.int 0, .im (.val (.slice none 0 0))]), (603, .box [.int 0])]) (by kernel_rfl) ?_
   refine tri_regD hcx [] [18] [5, 4, 2, 3] [10, 605, 604, 602, 603] [(True)] [(18, .clo 82 [.pto [.ls (.bytes b)]])] [] (by kernel_rfl) ?_ ?_
   ·
    refine (ap ?_ az)
    exact trivial
   refine fin_then ?_
   refine tri_block ?_
   refine tri_ren (ρ := [(605, .to 0), (604, .to 1), (602, .to 2), (603, .to 3), (10, .to 10)]) (keys := [18, 5, 4, 2, 3]) (E' := [(18, .clo 82 [.pto [.ls (.bytes b)]]), (5, .loc 0 0), (4, .loc 1 0), (2, .loc 2 0), (3, .loc 3 0)]) (H' := [(0, .box [.int 0]), (1, .box [.row 10]), (2, .box [.int 0, .im (.val (.slice none 0 0))]), (3, .box [.int 0]), (10, .row 3 (.ints []))]) (by kernel_rfl) ?_
   refine tri_range (X := Unit) rfl words_seq (caps := [.pto [.ls (.bytes b)]]) (by kernel_rfl) (N := (Cn.wordsV b).length) (el := fun p => [.bytes ((Cn.wordsV b).getD p [])]) rfl (by kernel_rfl) ?_ 4 970 989 (by kernel_rfl) (fun p x0 => ∀ j, j < p → Cn.okW j ((Cn.wordsV b).getD j []) = true) (fun p x0 => [(0, .box [.int (p : Int)]), (1, .box [.row 10]), (2, .box [.int 0, .im (.val (.slice none 0 0))]), (3, .box [.int 0]), (10, .row 3 (.ints (Cn.numsW ((Cn.wordsV b).take p))))]) (fun p x0 => [(18, .clo 82 [.pto [.ls (.bytes b)]]), (5, .loc 0 0), (4, .loc 1 0), (2, .loc 2 0), (3, .loc 3 0), (6, .bytes ((Cn.wordsV b).getD p []))]) (fun p x0 => [(0, .box [.int (p : Int)]), (1, .box [.row 10]), (2, .box [.int 0, .im (.val (.slice none 0 0))]), (3, .box [.int 0]), (10, .row 3 (.ints (Cn.numsW ((Cn.wordsV b).take p))))]) (()) ?_ ?_ (fun _ _ => rfl) (fun _ _ _ => by kernel_rfl) (fun _ _ => by kernel_rfl) ?_ ?_ ?_
   ·
    exact ⟨hm2, by unfold maxLen; omega⟩
   ·
    show ∀ j, j < 0 → Cn.okW j ((Cn.wordsV b).getD j []) = true
    exact fun j hj => by omega
   ·
    exact Eq.trans (show _ = [(0, .box [.int 0]), (1, .box [.row 10]), (2, .box [.int 0, .im (.val (.slice none 0 0))]), (3, .box [.int 0]), (10, .row 3 (.ints []))] from by kernel_rfl) (consH (congrArg (fun x => ((0 : Nat), x)) (congrArg AObj.box (consE (congrArg AV.int (show 0 = (0 : Int) from (by first | rfl | omega | (simp; done)))) rfl))) (consH rfl (consH rfl (consH rfl (consH (congrArg (fun x => ((10 : Nat), x)) (congrArg (fun x => AObj.row 3 (.ints x)) (show [] = (Cn.numsW ((Cn.wordsV b).take 0)) from (by rfl)))) rfl)))))
   ·
    intro Wr Or βr Gr l0 r0 p un hi0 hI0
    replace hI0 : ∀ j, j < p → Cn.okW j ((Cn.wordsV b).getD j []) = true := hI0
    obtain ⟨hwb, hwl⟩ := Cn.word_at (p := p) hi0 hm2
    have hnl : (Cn.numsW ((Cn.wordsV b).take p)).length ≤ p := by rw [Cn.nums_len, List.length_take]; omega
    change Tri _ [(19, .bytes ((Cn.wordsV b).getD p [])), (18, .clo 82 [.pto [.ls (.bytes b)]]), (5, .loc 0 0), (4, .loc 1 0), (2, .loc 2 0), (3, .loc 3 0)] [(970, .other l0 (.loop r0)), (0, .box [.int (p : Int)]), (1, .box [.row 10]), (2, .box [.int 0, .im (.val (.slice none 0 0))]), (3, .box [.int 0]), (10, .row 3 (.ints (Cn.numsW ((Cn.wordsV b).take p))))] _ _
    refine tri_regD hcx [] [6] [18, 5, 4, 2, 3] [970, 0, 1, 2, 3, 10] [] [(6, .bytes ((Cn.wordsV b).getD p []))] [] (by kernel_rfl) ?_ ?_
    ·
     exact az
    refine fin_assign ?_ ?_
    ·
     exact subE_mk (l := [.clo 82 [.pto [.ls (.bytes b)]], .loc 0 0, .loc 1 0, .loc 2 0, .loc 3 0, .bytes ((Cn.wordsV b).getD p [])]) (m := [.clo 82 [.pto [.ls (.bytes b)]], .loc 0 0, .loc 1 0, .loc 2 0, .loc 3 0, .bytes ((Cn.wordsV b).getD p [])]) (by kernel_rfl) (by kernel_rfl) rfl
    ·
     kernel_rfl
   ·
    intro Wr Or βr Gr l0 r0 p un hi0 hI0
    replace hI0 : ∀ j, j < p → Cn.okW j ((Cn.wordsV b).getD j []) = true := hI0
    obtain ⟨hwb, hwl⟩ := Cn.word_at (p := p) hi0 hm2
    have hnl : (Cn.numsW ((Cn.wordsV b).take p)).length ≤ p := by rw [Cn.nums_len, List.length_take]; omega
    change Tri _ [(18, .clo 82 [.pto [.ls (.bytes b)]]), (5, .loc 0 0), (4, .loc 1 0), (2, .loc 2 0), (3, .loc 3 0), (6, .bytes ((Cn.wordsV b).getD p []))] [(970, .other l0 (.loop r0)), (0, .box [.int (p : Int)]), (1, .box [.row 10]), (2, .box [.int 0, .im (.val (.slice none 0 0))]), (3, .box [.int 0]), (10, .row 3 (.ints (Cn.numsW ((Cn.wordsV b).take p))))] _ _
    refine tri_block ?_
    refine tri_seq ?_
    refine tri_regD hcx [] [7, 8] [5, 4, 2, 3, 6] [970, 0, 1, 2, 3, 10] [(((Cn.wordsV b).getD p []).length ≤ maxLen ∧ Cn.isBytes ((Cn.wordsV b).getD p []))] [(7, .int (Cn.numN ((Cn.wordsV b).getD p []))), (8, .bool (Cn.numOk ((Cn.wordsV b).getD p [])))] [] (by kernel_rfl) ?_ ?_
    ·
     refine (ap ?_ az)
     exact ⟨by unfold maxLen; omega, hwb⟩
    refine fin_then ?_
    refine tri_seq ?_
    refine tri_block ?_
    refine tri_seq ?_
    refine tri_regD hcx [] [25] [7, 8, 5, 4, 2, 3, 6] [970, 0, 1, 2, 3, 10] [] [(25, .bool ((p : Int) == 0))] [] (by kernel_rfl) ?_ ?_
    ·
     exact az
    refine fin_then ?_
    refine tri_cond (b := ((p : Int) == 0)) (by kernel_rfl) (fun hb1 => ?_) (fun hb1 => ?_)
    ·
     skip
     have h1 := eq_of_beq hb1
     have hE := Cn.okW_0 hwb h1
     refine tri_regD hcx [] [8] [7, 5, 4, 2, 3] [970, 0, 1, 2, 3, 10] [] [(8, .bool ((strOfNums ((Cn.wordsV b).getD p [])).toList == (⟨#[112]⟩ : ByteArray).toList))] [] (by kernel_rfl) ?_ ?_
     ·
      exact az
     refine fin_block ?_
     refine fin_then ?_
     refine tri_seq ?_
     refine tri_seq ?_
     refine tri_regD hcx [] [46] [7, 5, 4, 2, 3] [970, 0, 1, 2, 3, 10] [] [(46, .bool (!((strOfNums ((Cn.wordsV b).getD p [])).toList == (⟨#[112]⟩ : ByteArray).toList)))] [] (by kernel_rfl) ?_ ?_
     ·
      exact az
     refine fin_then ?_
     refine tri_cond (b := (!((strOfNums ((Cn.wordsV b).getD p [])).toList == (⟨#[112]⟩ : ByteArray).toList))) (by kernel_rfl) (fun hb2 => ?_) (fun hb2 => ?_)
     ·
      skip
      have h2 := hb2
      have hG := Cn.get_bad hi0 (hE.trans (Cn.notT h2))
      refine tri_seq ?_
      refine tri_regD hcx [(2, .to 2), (3, .to 3)] [] [2, 3] [970, 0, 1, 10] [] [] [(2, .box [.int 0, .im (.val (.slice none 0 0))]), (3, .box [.int 11])] (by kernel_rfl) ?_ ?_
      ·
       exact az
      refine fin_then ?_
      refine tri_ret ?_
      refine fin_then_ret ?_
      refine fin_block_ret ?_
      refine fin_ren (ρ := [(970, .to 970), (0, .to 0), (1, .to 1), (2, .to 2), (3, .to 3), (10, .to 10)]) (keys := []) (E' := []) (H' := [(970, .other l0 (.loop r0)), (0, .box [.int (p : Int)]), (1, .box [.row 10]), (2, .box [.int 0, .im (.val (.slice none 0 0))]), (3, .box [.int 11]), (10, .row 3 (.ints (Cn.numsW ((Cn.wordsV b).take p))))]) (by kernel_rfl) ?_
      refine fin_rret [(0, .box [.int (p : Int)]), (1, .box [.row 10]), (2, .box [.int 0, .im (.val (.slice none 0 0))]), (3, .box [.int 11]), (10, .row 3 (.ints (Cn.numsW ((Cn.wordsV b).take p))))] rfl (by kernel_rfl) ⟨by kernel_rfl, fun D0 => ?_⟩
      change Fin _ [(18, .clo 82 [.pto [.ls (.bytes b)]]), (5, .loc 0 0), (4, .loc 1 0), (2, .loc 2 0), (3, .loc 3 0)] [(989, .other D0 dfr), (0, .box [.int (p : Int)]), (1, .box [.row 10]), (2, .box [.int 0, .im (.val (.slice none 0 0))]), (3, .box [.int 11]), (10, .row 3 (.ints (Cn.numsW ((Cn.wordsV b).take p))))] _ _
      refine fin_block_ret ?_
      refine fin_then_ret ?_
      refine fin_rowB 2 1 700 0 (.intss []) (by kernel_rfl) (by kernel_rfl) (by kernel_rfl) (by kernel_rfl) (H' := [(989, .other D0 dfr), (0, .box [.int (p : Int)]), (1, .box [.row 10]), (2, .box [.int 0, .row 700]), (3, .box [.int 11]), (10, .row 3 (.ints (Cn.numsW ((Cn.wordsV b).take p))))]) (by kernel_rfl) ?_
      refine fin_ren (ρ := [(989, .to 989), (2, .to 990), (3, .to 991), (700, .frz)]) (keys := [2, 3]) (E' := [(2, .loc 990 0), (3, .loc 991 0)]) (H' := [(989, .other D0 dfr), (990, .box [.int 0, .intss []]), (991, .box [.int 11])]) (by kernel_rfl) ?_
      exact fin_retM _ rfl [(989, D0)] rfl rfl ⟨rfl, trivial⟩ hcx (avs := [.agg [.int 0, .intss []], .int 11]) (by kernel_rfl) (congrArg AV.tup (consE (congrArg AV.agg (consE (congrArg AV.int (show 0 = (Cn.getV (Cn.wordsV b)).1 from (by first | (rw [hG]; done) | (rw [hG, htk]; done) | (rw [hG, htk]; rfl)))) (consE (congrArg AV.intss (show [] = (Cn.getV (Cn.wordsV b)).2.1 from (by first | (rw [hG]; done) | (rw [hG, htk]; done) | (rw [hG, htk]; rfl)))) rfl))) (consE (congrArg AV.int (show 11 = (Cn.getV (Cn.wordsV b)).2.2 from (by first | (rw [hG]; done) | (rw [hG, htk]; done) | (rw [hG, htk]; rfl)))) rfl))) [] rfl
     ·
      skip
      have h2 := hb2
      have hgood := hE.trans (Cn.notF h2)
      refine tri_skip ?_
      refine fin_then ?_
      refine tri_seq ?_
      refine tri_seq ?_
      refine tri_regD hcx [] [49] [7, 5, 4] [970, 0, 1, 2, 3, 10] [] [(49, .bool (decide ((p : Int) > 1)))] [] (by kernel_rfl) ?_ ?_
      ·
       exact az
      refine fin_then ?_
      refine tri_cond (b := (decide ((p : Int) > 1))) (by kernel_rfl) (fun hb3 => ?_) (fun hb3 => ?_)
      ·
       skip
       have h3 := of_decide_eq_true hb3
       refine tri_regD hcx [(1, .to 1), (1003, .to 10)] [] [5] [970, 0, 2, 3] [(((Cn.numsW ((Cn.wordsV b).take p)).length + [(Cn.numN ((Cn.wordsV b).getD p []))].length) * 8 ≤ 140737488355328)] [] [(1, .box [.row 10]), (10, .row 3 (.ints ((Cn.numsW ((Cn.wordsV b).take p)) ++ [(Cn.numN ((Cn.wordsV b).getD p []))])))] (by kernel_rfl) ?_ ?_
       ·
        refine (ap ?_ az)
        (first | omega | exact id | exact vcNot | exact vcG | exact vcH | (intro _; omega) | exact (fun _ h => h) | (intro h; simp at h; omega) | (simp only [List.length_cons, List.length_nil, List.length_append, List.length_map, List.length_set, List.length_replicate]; omega) | (intro h; simp [h]; done))
       refine fin_then ?_
       refine tri_regD hcx [(0, .to 0)] [] [] [1, 10, 970, 2, 3] [Fit ((p : Int) + 1)] [] [(0, .box [.int ((p : Int) + 1)])] (by kernel_rfl) ?_ ?_
       ·
        refine (ap ?_ az)
        (first | omega | exact id | exact vcNot | exact vcG | exact vcH | (intro _; omega) | exact (fun _ h => h) | (intro h; simp at h; omega) | (simp only [List.length_cons, List.length_nil, List.length_append, List.length_map, List.length_set, List.length_replicate]; omega) | (intro h; simp [h]; done))
       refine fin_block ?_
       refine fin_ren (ρ := [(970, .to 970), (0, .to 0), (1, .to 1), (2, .to 2), (3, .to 3), (10, .to 10)]) (keys := []) (E' := []) (H' := [(970, .other l0 (.loop r0)), (0, .box [.int ((p : Int) + 1)]), (1, .box [.row 10]), (2, .box [.int 0, .im (.val (.slice none 0 0))]), (3, .box [.int 0]), (10, .row 3 (.ints ((Cn.numsW ((Cn.wordsV b).take p)) ++ [(Cn.numN ((Cn.wordsV b).getD p []))])))]) (by kernel_rfl) ?_
       refine fin_rnext (()) ?_ ?_
       ·
        show ∀ j, j < (p + 1) → Cn.okW j ((Cn.wordsV b).getD j []) = true
        exact fun j hj => by rcases (by omega : j < p ∨ j = p) with h | rfl; exact hI0 j h; exact hgood
       ·
        exact Eq.trans (show _ = [(970, .other l0 (.loop r0)), (0, .box [.int ((p : Int) + 1)]), (1, .box [.row 10]), (2, .box [.int 0, .im (.val (.slice none 0 0))]), (3, .box [.int 0]), (10, .row 3 (.ints ((Cn.numsW ((Cn.wordsV b).take p)) ++ [(Cn.numN ((Cn.wordsV b).getD p []))])))] from by kernel_rfl) (consH rfl (consH (congrArg (fun x => ((0 : Nat), x)) (congrArg AObj.box (consE (congrArg AV.int (show ((p : Int) + 1) = ((p + 1) : Int) from (by first | rfl | omega | (simp; done)))) rfl))) (consH rfl (consH rfl (consH rfl (consH (congrArg (fun x => ((10 : Nat), x)) (congrArg (fun x => AObj.row 3 (.ints x)) (show ((Cn.numsW ((Cn.wordsV b).take p)) ++ [(Cn.numN ((Cn.wordsV b).getD p []))]) = (Cn.numsW ((Cn.wordsV b).take (p + 1))) from (by first | exact Cn.nums_app (by omega) hi0 | exact Cn.nums_skip (by omega))))) rfl))))))
      ·
       skip
       have h3 := of_decide_eq_false hb3
       refine tri_skip ?_
       refine fin_then ?_
       refine tri_regD hcx [(0, .to 0)] [] [] [970, 1, 2, 3, 10] [Fit ((p : Int) + 1)] [] [(0, .box [.int ((p : Int) + 1)])] (by kernel_rfl) ?_ ?_
       ·
        refine (ap ?_ az)
        (first | omega | exact id | exact vcNot | exact vcG | exact vcH | (intro _; omega) | exact (fun _ h => h) | (intro h; simp at h; omega) | (simp only [List.length_cons, List.length_nil, List.length_append, List.length_map, List.length_set, List.length_replicate]; omega) | (intro h; simp [h]; done))
       refine fin_block ?_
       refine fin_ren (ρ := [(970, .to 970), (0, .to 0), (1, .to 1), (2, .to 2), (3, .to 3), (10, .to 10)]) (keys := []) (E' := []) (H' := [(970, .other l0 (.loop r0)), (0, .box [.int ((p : Int) + 1)]), (1, .box [.row 10]), (2, .box [.int 0, .im (.val (.slice none 0 0))]), (3, .box [.int 0]), (10, .row 3 (.ints (Cn.numsW ((Cn.wordsV b).take p))))]) (by kernel_rfl) ?_
       refine fin_rnext (()) ?_ ?_
       ·
        show ∀ j, j < (p + 1) → Cn.okW j ((Cn.wordsV b).getD j []) = true
        exact fun j hj => by rcases (by omega : j < p ∨ j = p) with h | rfl; exact hI0 j h; exact hgood
       ·
        exact Eq.trans (show _ = [(970, .other l0 (.loop r0)), (0, .box [.int ((p : Int) + 1)]), (1, .box [.row 10]), (2, .box [.int 0, .im (.val (.slice none 0 0))]), (3, .box [.int 0]), (10, .row 3 (.ints (Cn.numsW ((Cn.wordsV b).take p))))] from by kernel_rfl) (consH rfl (consH (congrArg (fun x => ((0 : Nat), x)) (congrArg AObj.box (consE (congrArg AV.int (show ((p : Int) + 1) = ((p + 1) : Int) from (by first | rfl | omega | (simp; done)))) rfl))) (consH rfl (consH rfl (consH rfl (consH (congrArg (fun x => ((10 : Nat), x)) (congrArg (fun x => AObj.row 3 (.ints x)) (show (Cn.numsW ((Cn.wordsV b).take p)) = (Cn.numsW ((Cn.wordsV b).take (p + 1))) from (by first | exact Cn.nums_app (by omega) hi0 | exact Cn.nums_skip (by omega))))) rfl))))))
    ·
     skip
     have h1 := neB hb1
     have h25 := h1
     refine tri_seq ?_
     refine tri_regD hcx [] [31] [7, 8, 5, 4, 2, 3, 6] [970, 0, 1, 2, 3, 10] [] [(31, .bool ((p : Int) == 1))] [] (by kernel_rfl) ?_ ?_
     ·
      exact az
     refine fin_then ?_
     refine tri_cond (b := ((p : Int) == 1)) (by kernel_rfl) (fun hb4 => ?_) (fun hb4 => ?_)
     ·
      skip
      have h4 := eq_of_beq hb4
      have hE := Cn.okW_1 hwb h4
      refine tri_regD hcx [] [8] [7, 5, 4, 2, 3] [970, 0, 1, 2, 3, 10] [] [(8, .bool ((strOfNums ((Cn.wordsV b).getD p [])).toList == (⟨#[99, 110, 102]⟩ : ByteArray).toList))] [] (by kernel_rfl) ?_ ?_
      ·
       exact az
      refine fin_block ?_
      refine fin_then ?_
      refine tri_seq ?_
      refine tri_seq ?_
      refine tri_regD hcx [] [46] [7, 5, 4, 2, 3] [970, 0, 1, 2, 3, 10] [] [(46, .bool (!((strOfNums ((Cn.wordsV b).getD p [])).toList == (⟨#[99, 110, 102]⟩ : ByteArray).toList)))] [] (by kernel_rfl) ?_ ?_
      ·
       exact az
      refine fin_then ?_
      refine tri_cond (b := (!((strOfNums ((Cn.wordsV b).getD p [])).toList == (⟨#[99, 110, 102]⟩ : ByteArray).toList))) (by kernel_rfl) (fun hb5 => ?_) (fun hb5 => ?_)
      ·
       skip
       have h5 := hb5
       have hG := Cn.get_bad hi0 (hE.trans (Cn.notT h5))
       refine tri_seq ?_
       refine tri_regD hcx [(2, .to 2), (3, .to 3)] [] [2, 3] [970, 0, 1, 10] [] [] [(2, .box [.int 0, .im (.val (.slice none 0 0))]), (3, .box [.int 11])] (by kernel_rfl) ?_ ?_
       ·
        exact az
       refine fin_then ?_
       refine tri_ret ?_
       refine fin_then_ret ?_
       refine fin_block_ret ?_
       refine fin_ren (ρ := [(970, .to 970), (0, .to 0), (1, .to 1), (2, .to 2), (3, .to 3), (10, .to 10)]) (keys := []) (E' := []) (H' := [(970, .other l0 (.loop r0)), (0, .box [.int (p : Int)]), (1, .box [.row 10]), (2, .box [.int 0, .im (.val (.slice none 0 0))]), (3, .box [.int 11]), (10, .row 3 (.ints (Cn.numsW ((Cn.wordsV b).take p))))]) (by kernel_rfl) ?_
       refine fin_rret [(0, .box [.int (p : Int)]), (1, .box [.row 10]), (2, .box [.int 0, .im (.val (.slice none 0 0))]), (3, .box [.int 11]), (10, .row 3 (.ints (Cn.numsW ((Cn.wordsV b).take p))))] rfl (by kernel_rfl) ⟨by kernel_rfl, fun D0 => ?_⟩
       change Fin _ [(18, .clo 82 [.pto [.ls (.bytes b)]]), (5, .loc 0 0), (4, .loc 1 0), (2, .loc 2 0), (3, .loc 3 0)] [(989, .other D0 dfr), (0, .box [.int (p : Int)]), (1, .box [.row 10]), (2, .box [.int 0, .im (.val (.slice none 0 0))]), (3, .box [.int 11]), (10, .row 3 (.ints (Cn.numsW ((Cn.wordsV b).take p))))] _ _
       refine fin_block_ret ?_
       refine fin_then_ret ?_
       refine fin_rowB 2 1 700 0 (.intss []) (by kernel_rfl) (by kernel_rfl) (by kernel_rfl) (by kernel_rfl) (H' := [(989, .other D0 dfr), (0, .box [.int (p : Int)]), (1, .box [.row 10]), (2, .box [.int 0, .row 700]), (3, .box [.int 11]), (10, .row 3 (.ints (Cn.numsW ((Cn.wordsV b).take p))))]) (by kernel_rfl) ?_
       refine fin_ren (ρ := [(989, .to 989), (2, .to 990), (3, .to 991), (700, .frz)]) (keys := [2, 3]) (E' := [(2, .loc 990 0), (3, .loc 991 0)]) (H' := [(989, .other D0 dfr), (990, .box [.int 0, .intss []]), (991, .box [.int 11])]) (by kernel_rfl) ?_
       exact fin_retM _ rfl [(989, D0)] rfl rfl ⟨rfl, trivial⟩ hcx (avs := [.agg [.int 0, .intss []], .int 11]) (by kernel_rfl) (congrArg AV.tup (consE (congrArg AV.agg (consE (congrArg AV.int (show 0 = (Cn.getV (Cn.wordsV b)).1 from (by first | (rw [hG]; done) | (rw [hG, htk]; done) | (rw [hG, htk]; rfl)))) (consE (congrArg AV.intss (show [] = (Cn.getV (Cn.wordsV b)).2.1 from (by first | (rw [hG]; done) | (rw [hG, htk]; done) | (rw [hG, htk]; rfl)))) rfl))) (consE (congrArg AV.int (show 11 = (Cn.getV (Cn.wordsV b)).2.2 from (by first | (rw [hG]; done) | (rw [hG, htk]; done) | (rw [hG, htk]; rfl)))) rfl))) [] rfl
      ·
       skip
       have h5 := hb5
       have hgood := hE.trans (Cn.notF h5)
       refine tri_skip ?_
       refine fin_then ?_
       refine tri_seq ?_
       refine tri_seq ?_
       refine tri_regD hcx [] [49] [7, 5, 4] [970, 0, 1, 2, 3, 10] [] [(49, .bool (decide ((p : Int) > 1)))] [] (by kernel_rfl) ?_ ?_
       ·
        exact az
       refine fin_then ?_
       refine tri_cond (b := (decide ((p : Int) > 1))) (by kernel_rfl) (fun hb6 => ?_) (fun hb6 => ?_)
       ·
        skip
        have h6 := of_decide_eq_true hb6
        refine tri_regD hcx [(1, .to 1), (1003, .to 10)] [] [5] [970, 0, 2, 3] [(((Cn.numsW ((Cn.wordsV b).take p)).length + [(Cn.numN ((Cn.wordsV b).getD p []))].length) * 8 ≤ 140737488355328)] [] [(1, .box [.row 10]), (10, .row 3 (.ints ((Cn.numsW ((Cn.wordsV b).take p)) ++ [(Cn.numN ((Cn.wordsV b).getD p []))])))] (by kernel_rfl) ?_ ?_
        ·
         refine (ap ?_ az)
         (first | omega | exact id | exact vcNot | exact vcG | exact vcH | (intro _; omega) | exact (fun _ h => h) | (intro h; simp at h; omega) | (simp only [List.length_cons, List.length_nil, List.length_append, List.length_map, List.length_set, List.length_replicate]; omega) | (intro h; simp [h]; done))
        refine fin_then ?_
        refine tri_regD hcx [(0, .to 0)] [] [] [1, 10, 970, 2, 3] [Fit ((p : Int) + 1)] [] [(0, .box [.int ((p : Int) + 1)])] (by kernel_rfl) ?_ ?_
        ·
         refine (ap ?_ az)
         (first | omega | exact id | exact vcNot | exact vcG | exact vcH | (intro _; omega) | exact (fun _ h => h) | (intro h; simp at h; omega) | (simp only [List.length_cons, List.length_nil, List.length_append, List.length_map, List.length_set, List.length_replicate]; omega) | (intro h; simp [h]; done))
        refine fin_block ?_
        refine fin_ren (ρ := [(970, .to 970), (0, .to 0), (1, .to 1), (2, .to 2), (3, .to 3), (10, .to 10)]) (keys := []) (E' := []) (H' := [(970, .other l0 (.loop r0)), (0, .box [.int ((p : Int) + 1)]), (1, .box [.row 10]), (2, .box [.int 0, .im (.val (.slice none 0 0))]), (3, .box [.int 0]), (10, .row 3 (.ints ((Cn.numsW ((Cn.wordsV b).take p)) ++ [(Cn.numN ((Cn.wordsV b).getD p []))])))]) (by kernel_rfl) ?_
        refine fin_rnext (()) ?_ ?_
        ·
         show ∀ j, j < (p + 1) → Cn.okW j ((Cn.wordsV b).getD j []) = true
         exact fun j hj => by rcases (by omega : j < p ∨ j = p) with h | rfl; exact hI0 j h; exact hgood
        ·
         exact Eq.trans (show _ = [(970, .other l0 (.loop r0)), (0, .box [.int ((p : Int) + 1)]), (1, .box [.row 10]), (2, .box [.int 0, .im (.val (.slice none 0 0))]), (3, .box [.int 0]), (10, .row 3 (.ints ((Cn.numsW ((Cn.wordsV b).take p)) ++ [(Cn.numN ((Cn.wordsV b).getD p []))])))] from by kernel_rfl) (consH rfl (consH (congrArg (fun x => ((0 : Nat), x)) (congrArg AObj.box (consE (congrArg AV.int (show ((p : Int) + 1) = ((p + 1) : Int) from (by first | rfl | omega | (simp; done)))) rfl))) (consH rfl (consH rfl (consH rfl (consH (congrArg (fun x => ((10 : Nat), x)) (congrArg (fun x => AObj.row 3 (.ints x)) (show ((Cn.numsW ((Cn.wordsV b).take p)) ++ [(Cn.numN ((Cn.wordsV b).getD p []))]) = (Cn.numsW ((Cn.wordsV b).take (p + 1))) from (by first | exact Cn.nums_app (by omega) hi0 | exact Cn.nums_skip (by omega))))) rfl))))))
       ·
        skip
        have h6 := of_decide_eq_false hb6
        refine tri_skip ?_
        refine fin_then ?_
        refine tri_regD hcx [(0, .to 0)] [] [] [970, 1, 2, 3, 10] [Fit ((p : Int) + 1)] [] [(0, .box [.int ((p : Int) + 1)])] (by kernel_rfl) ?_ ?_
        ·
         refine (ap ?_ az)
         (first | omega | exact id | exact vcNot | exact vcG | exact vcH | (intro _; omega) | exact (fun _ h => h) | (intro h; simp at h; omega) | (simp only [List.length_cons, List.length_nil, List.length_append, List.length_map, List.length_set, List.length_replicate]; omega) | (intro h; simp [h]; done))
        refine fin_block ?_
        refine fin_ren (ρ := [(970, .to 970), (0, .to 0), (1, .to 1), (2, .to 2), (3, .to 3), (10, .to 10)]) (keys := []) (E' := []) (H' := [(970, .other l0 (.loop r0)), (0, .box [.int ((p : Int) + 1)]), (1, .box [.row 10]), (2, .box [.int 0, .im (.val (.slice none 0 0))]), (3, .box [.int 0]), (10, .row 3 (.ints (Cn.numsW ((Cn.wordsV b).take p))))]) (by kernel_rfl) ?_
        refine fin_rnext (()) ?_ ?_
        ·
         show ∀ j, j < (p + 1) → Cn.okW j ((Cn.wordsV b).getD j []) = true
         exact fun j hj => by rcases (by omega : j < p ∨ j = p) with h | rfl; exact hI0 j h; exact hgood
        ·
         exact Eq.trans (show _ = [(970, .other l0 (.loop r0)), (0, .box [.int ((p : Int) + 1)]), (1, .box [.row 10]), (2, .box [.int 0, .im (.val (.slice none 0 0))]), (3, .box [.int 0]), (10, .row 3 (.ints (Cn.numsW ((Cn.wordsV b).take p))))] from by kernel_rfl) (consH rfl (consH (congrArg (fun x => ((0 : Nat), x)) (congrArg AObj.box (consE (congrArg AV.int (show ((p : Int) + 1) = ((p + 1) : Int) from (by first | rfl | omega | (simp; done)))) rfl))) (consH rfl (consH rfl (consH rfl (consH (congrArg (fun x => ((10 : Nat), x)) (congrArg (fun x => AObj.row 3 (.ints x)) (show (Cn.numsW ((Cn.wordsV b).take p)) = (Cn.numsW ((Cn.wordsV b).take (p + 1))) from (by first | exact Cn.nums_app (by omega) hi0 | exact Cn.nums_skip (by omega))))) rfl))))))
     ·
      skip
      have h4 := neB hb4
      have h31 := h4
      refine tri_seq ?_
      refine tri_regD hcx [] [37] [7, 8, 5, 4, 2, 3] [970, 0, 1, 2, 3, 10] [] [(37, .bool (decide ((p : Int) < 4)))] [] (by kernel_rfl) ?_ ?_
      ·
       exact az
      refine fin_then ?_
      refine tri_cond (b := (decide ((p : Int) < 4))) (by kernel_rfl) (fun hb7 => ?_) (fun hb7 => ?_)
      ·
       skip
       have h7 := of_decide_eq_true hb7
       have hE := Cn.okW_2 (w := ((Cn.wordsV b).getD p [])) h25 h31 h7
       refine tri_regD hcx [] [8] [7, 5, 4, 2, 3] [970, 0, 1, 2, 3, 10] [((Cn.numOk ((Cn.wordsV b).getD p [])) = true → ((Cn.numOk ((Cn.wordsV b).getD p [])) = true)), ((Cn.numOk ((Cn.wordsV b).getD p [])) = true → (Cn.numOk ((Cn.wordsV b).getD p [])) = true)] [(8, .bool ((Cn.numOk ((Cn.wordsV b).getD p [])) && (decide ((Cn.numN ((Cn.wordsV b).getD p [])) ≥ 0))))] [] (by kernel_rfl) ?_ ?_
       ·
        refine (ap ?_ (ap (by exact id) az))
        (first | omega | exact id | exact vcNot | exact vcG | exact vcH | (intro _; omega) | exact (fun _ h => h) | (intro h; simp at h; omega) | (simp only [List.length_cons, List.length_nil, List.length_append, List.length_map, List.length_set, List.length_replicate]; omega) | (intro h; simp [h]; done))
       refine fin_block ?_
       refine fin_then ?_
       refine tri_seq ?_
       refine tri_seq ?_
       refine tri_regD hcx [] [46] [7, 5, 4, 2, 3] [970, 0, 1, 2, 3, 10] [] [(46, .bool (!((Cn.numOk ((Cn.wordsV b).getD p [])) && (decide ((Cn.numN ((Cn.wordsV b).getD p [])) ≥ 0)))))] [] (by kernel_rfl) ?_ ?_
       ·
        exact az
       refine fin_then ?_
       refine tri_cond (b := (!((Cn.numOk ((Cn.wordsV b).getD p [])) && (decide ((Cn.numN ((Cn.wordsV b).getD p [])) ≥ 0))))) (by kernel_rfl) (fun hb8 => ?_) (fun hb8 => ?_)
       ·
        skip
        have h8 := hb8
        have hG := Cn.get_bad hi0 (hE.trans (Cn.notT h8))
        refine tri_seq ?_
        refine tri_regD hcx [(2, .to 2), (3, .to 3)] [] [2, 3] [970, 0, 1, 10] [] [] [(2, .box [.int 0, .im (.val (.slice none 0 0))]), (3, .box [.int 11])] (by kernel_rfl) ?_ ?_
        ·
         exact az
        refine fin_then ?_
        refine tri_ret ?_
        refine fin_then_ret ?_
        refine fin_block_ret ?_
        refine fin_ren (ρ := [(970, .to 970), (0, .to 0), (1, .to 1), (2, .to 2), (3, .to 3), (10, .to 10)]) (keys := []) (E' := []) (H' := [(970, .other l0 (.loop r0)), (0, .box [.int (p : Int)]), (1, .box [.row 10]), (2, .box [.int 0, .im (.val (.slice none 0 0))]), (3, .box [.int 11]), (10, .row 3 (.ints (Cn.numsW ((Cn.wordsV b).take p))))]) (by kernel_rfl) ?_
        refine fin_rret [(0, .box [.int (p : Int)]), (1, .box [.row 10]), (2, .box [.int 0, .im (.val (.slice none 0 0))]), (3, .box [.int 11]), (10, .row 3 (.ints (Cn.numsW ((Cn.wordsV b).take p))))] rfl (by kernel_rfl) ⟨by kernel_rfl, fun D0 => ?_⟩
        change Fin _ [(18, .clo 82 [.pto [.ls (.bytes b)]]), (5, .loc 0 0), (4, .loc 1 0), (2, .loc 2 0), (3, .loc 3 0)] [(989, .other D0 dfr), (0, .box [.int (p : Int)]), (1, .box [.row 10]), (2, .box [.int 0, .im (.val (.slice none 0 0))]), (3, .box [.int 11]), (10, .row 3 (.ints (Cn.numsW ((Cn.wordsV b).take p))))] _ _
        refine fin_block_ret ?_
        refine fin_then_ret ?_
        refine fin_rowB 2 1 700 0 (.intss []) (by kernel_rfl) (by kernel_rfl) (by kernel_rfl) (by kernel_rfl) (H' := [(989, .other D0 dfr), (0, .box [.int (p : Int)]), (1, .box [.row 10]), (2, .box [.int 0, .row 700]), (3, .box [.int 11]), (10, .row 3 (.ints (Cn.numsW ((Cn.wordsV b).take p))))]) (by kernel_rfl) ?_
        refine fin_ren (ρ := [(989, .to 989), (2, .to 990), (3, .to 991), (700, .frz)]) (keys := [2, 3]) (E' := [(2, .loc 990 0), (3, .loc 991 0)]) (H' := [(989, .other D0 dfr), (990, .box [.int 0, .intss []]), (991, .box [.int 11])]) (by kernel_rfl) ?_
        exact fin_retM _ rfl [(989, D0)] rfl rfl ⟨rfl, trivial⟩ hcx (avs := [.agg [.int 0, .intss []], .int 11]) (by kernel_rfl) (congrArg AV.tup (consE (congrArg AV.agg (consE (congrArg AV.int (show 0 = (Cn.getV (Cn.wordsV b)).1 from (by first | (rw [hG]; done) | (rw [hG, htk]; done) | (rw [hG, htk]; rfl)))) (consE (congrArg AV.intss (show [] = (Cn.getV (Cn.wordsV b)).2.1 from (by first | (rw [hG]; done) | (rw [hG, htk]; done) | (rw [hG, htk]; rfl)))) rfl))) (consE (congrArg AV.int (show 11 = (Cn.getV (Cn.wordsV b)).2.2 from (by first | (rw [hG]; done) | (rw [hG, htk]; done) | (rw [hG, htk]; rfl)))) rfl))) [] rfl
       ·
        skip
        have h8 := hb8
        have hgood := hE.trans (Cn.notF h8)
        refine tri_skip ?_
        refine fin_then ?_
        refine tri_seq ?_
        refine tri_seq ?_
        refine tri_regD hcx [] [49] [7, 5, 4] [970, 0, 1, 2, 3, 10] [] [(49, .bool (decide ((p : Int) > 1)))] [] (by kernel_rfl) ?_ ?_
        ·
         exact az
        refine fin_then ?_
        refine tri_cond (b := (decide ((p : Int) > 1))) (by kernel_rfl) (fun hb9 => ?_) (fun hb9 => ?_)
        ·
         skip
         have h9 := of_decide_eq_true hb9
         refine tri_regD hcx [(1, .to 1), (1003, .to 10)] [] [5] [970, 0, 2, 3] [(((Cn.numsW ((Cn.wordsV b).take p)).length + [(Cn.numN ((Cn.wordsV b).getD p []))].length) * 8 ≤ 140737488355328)] [] [(1, .box [.row 10]), (10, .row 3 (.ints ((Cn.numsW ((Cn.wordsV b).take p)) ++ [(Cn.numN ((Cn.wordsV b).getD p []))])))] (by kernel_rfl) ?_ ?_
         ·
          refine (ap ?_ az)
          (first | omega | exact id | exact vcNot | exact vcG | exact vcH | (intro _; omega) | exact (fun _ h => h) | (intro h; simp at h; omega) | (simp only [List.length_cons, List.length_nil, List.length_append, List.length_map, List.length_set, List.length_replicate]; omega) | (intro h; simp [h]; done))
         refine fin_then ?_
         refine tri_regD hcx [(0, .to 0)] [] [] [1, 10, 970, 2, 3] [Fit ((p : Int) + 1)] [] [(0, .box [.int ((p : Int) + 1)])] (by kernel_rfl) ?_ ?_
         ·
          refine (ap ?_ az)
          (first | omega | exact id | exact vcNot | exact vcG | exact vcH | (intro _; omega) | exact (fun _ h => h) | (intro h; simp at h; omega) | (simp only [List.length_cons, List.length_nil, List.length_append, List.length_map, List.length_set, List.length_replicate]; omega) | (intro h; simp [h]; done))
         refine fin_block ?_
         refine fin_ren (ρ := [(970, .to 970), (0, .to 0), (1, .to 1), (2, .to 2), (3, .to 3), (10, .to 10)]) (keys := []) (E' := []) (H' := [(970, .other l0 (.loop r0)), (0, .box [.int ((p : Int) + 1)]), (1, .box [.row 10]), (2, .box [.int 0, .im (.val (.slice none 0 0))]), (3, .box [.int 0]), (10, .row 3 (.ints ((Cn.numsW ((Cn.wordsV b).take p)) ++ [(Cn.numN ((Cn.wordsV b).getD p []))])))]) (by kernel_rfl) ?_
         refine fin_rnext (()) ?_ ?_
         ·
          show ∀ j, j < (p + 1) → Cn.okW j ((Cn.wordsV b).getD j []) = true
          exact fun j hj => by rcases (by omega : j < p ∨ j = p) with h | rfl; exact hI0 j h; exact hgood
         ·
          exact Eq.trans (show _ = [(970, .other l0 (.loop r0)), (0, .box [.int ((p : Int) + 1)]), (1, .box [.row 10]), (2, .box [.int 0, .im (.val (.slice none 0 0))]), (3, .box [.int 0]), (10, .row 3 (.ints ((Cn.numsW ((Cn.wordsV b).take p)) ++ [(Cn.numN ((Cn.wordsV b).getD p []))])))] from by kernel_rfl) (consH rfl (consH (congrArg (fun x => ((0 : Nat), x)) (congrArg AObj.box (consE (congrArg AV.int (show ((p : Int) + 1) = ((p + 1) : Int) from (by first | rfl | omega | (simp; done)))) rfl))) (consH rfl (consH rfl (consH rfl (consH (congrArg (fun x => ((10 : Nat), x)) (congrArg (fun x => AObj.row 3 (.ints x)) (show ((Cn.numsW ((Cn.wordsV b).take p)) ++ [(Cn.numN ((Cn.wordsV b).getD p []))]) = (Cn.numsW ((Cn.wordsV b).take (p + 1))) from (by first | exact Cn.nums_app (by omega) hi0 | exact Cn.nums_skip (by omega))))) rfl))))))
        ·
         skip
         have h9 := of_decide_eq_false hb9
         refine tri_skip ?_
         refine fin_then ?_
         refine tri_regD hcx [(0, .to 0)] [] [] [970, 1, 2, 3, 10] [Fit ((p : Int) + 1)] [] [(0, .box [.int ((p : Int) + 1)])] (by kernel_rfl) ?_ ?_
         ·
          refine (ap ?_ az)
          (first | omega | exact id | exact vcNot | exact vcG | exact vcH | (intro _; omega) | exact (fun _ h => h) | (intro h; simp at h; omega) | (simp only [List.length_cons, List.length_nil, List.length_append, List.length_map, List.length_set, List.length_replicate]; omega) | (intro h; simp [h]; done))
         refine fin_block ?_
         refine fin_ren (ρ := [(970, .to 970), (0, .to 0), (1, .to 1), (2, .to 2), (3, .to 3), (10, .to 10)]) (keys := []) (E' := []) (H' := [(970, .other l0 (.loop r0)), (0, .box [.int ((p : Int) + 1)]), (1, .box [.row 10]), (2, .box [.int 0, .im (.val (.slice none 0 0))]), (3, .box [.int 0]), (10, .row 3 (.ints (Cn.numsW ((Cn.wordsV b).take p))))]) (by kernel_rfl) ?_
         refine fin_rnext (()) ?_ ?_
         ·
          show ∀ j, j < (p + 1) → Cn.okW j ((Cn.wordsV b).getD j []) = true
          exact fun j hj => by rcases (by omega : j < p ∨ j = p) with h | rfl; exact hI0 j h; exact hgood
         ·
          exact Eq.trans (show _ = [(970, .other l0 (.loop r0)), (0, .box [.int ((p : Int) + 1)]), (1, .box [.row 10]), (2, .box [.int 0, .im (.val (.slice none 0 0))]), (3, .box [.int 0]), (10, .row 3 (.ints (Cn.numsW ((Cn.wordsV b).take p))))] from by kernel_rfl) (consH rfl (consH (congrArg (fun x => ((0 : Nat), x)) (congrArg AObj.box (consE (congrArg AV.int (show ((p : Int) + 1) = ((p + 1) : Int) from (by first | rfl | omega | (simp; done)))) rfl))) (consH rfl (consH rfl (consH rfl (consH (congrArg (fun x => ((10 : Nat), x)) (congrArg (fun x => AObj.row 3 (.ints x)) (show (Cn.numsW ((Cn.wordsV b).take p)) = (Cn.numsW ((Cn.wordsV b).take (p + 1))) from (by first | exact Cn.nums_app (by omega) hi0 | exact Cn.nums_skip (by omega))))) rfl))))))
      ·
       skip
       have h7 := of_decide_eq_false hb7
       have hE := Cn.okW_4 (w := ((Cn.wordsV b).getD p [])) h25 h31 (by omega)
       refine tri_skip ?_
       refine fin_block ?_
       refine fin_then ?_
       refine tri_seq ?_
       refine tri_seq ?_
       refine tri_regD hcx [] [46] [7, 5, 4, 2, 3] [970, 0, 1, 2, 3, 10] [] [(46, .bool (!(Cn.numOk ((Cn.wordsV b).getD p []))))] [] (by kernel_rfl) ?_ ?_
       ·
        exact az
       refine fin_then ?_
       refine tri_cond (b := (!(Cn.numOk ((Cn.wordsV b).getD p [])))) (by kernel_rfl) (fun hb10 => ?_) (fun hb10 => ?_)
       ·
        skip
        have h10 := hb10
        have hG := Cn.get_bad hi0 (hE.trans (Cn.notT h10))
        refine tri_seq ?_
        refine tri_regD hcx [(2, .to 2), (3, .to 3)] [] [2, 3] [970, 0, 1, 10] [] [] [(2, .box [.int 0, .im (.val (.slice none 0 0))]), (3, .box [.int 11])] (by kernel_rfl) ?_ ?_
        ·
         exact az
        refine fin_then ?_
        refine tri_ret ?_
        refine fin_then_ret ?_
        refine fin_block_ret ?_
        refine fin_ren (ρ := [(970, .to 970), (0, .to 0), (1, .to 1), (2, .to 2), (3, .to 3), (10, .to 10)]) (keys := []) (E' := []) (H' := [(970, .other l0 (.loop r0)), (0, .box [.int (p : Int)]), (1, .box [.row 10]), (2, .box [.int 0, .im (.val (.slice none 0 0))]), (3, .box [.int 11]), (10, .row 3 (.ints (Cn.numsW ((Cn.wordsV b).take p))))]) (by kernel_rfl) ?_
        refine fin_rret [(0, .box [.int (p : Int)]), (1, .box [.row 10]), (2, .box [.int 0, .im (.val (.slice none 0 0))]), (3, .box [.int 11]), (10, .row 3 (.ints (Cn.numsW ((Cn.wordsV b).take p))))] rfl (by kernel_rfl) ⟨by kernel_rfl, fun D0 => ?_⟩
        change Fin _ [(18, .clo 82 [.pto [.ls (.bytes b)]]), (5, .loc 0 0), (4, .loc 1 0), (2, .loc 2 0), (3, .loc 3 0)] [(989, .other D0 dfr), (0, .box [.int (p : Int)]), (1, .box [.row 10]), (2, .box [.int 0, .im (.val (.slice none 0 0))]), (3, .box [.int 11]), (10, .row 3 (.ints (Cn.numsW ((Cn.wordsV b).take p))))] _ _
        refine fin_block_ret ?_
        refine fin_then_ret ?_
        refine fin_rowB 2 1 700 0 (.intss []) (by kernel_rfl) (by kernel_rfl) (by kernel_rfl) (by kernel_rfl) (H' := [(989, .other D0 dfr), (0, .box [.int (p : Int)]), (1, .box [.row 10]), (2, .box [.int 0, .row 700]), (3, .box [.int 11]), (10, .row 3 (.ints (Cn.numsW ((Cn.wordsV b).take p))))]) (by kernel_rfl) ?_
        refine fin_ren (ρ := [(989, .to 989), (2, .to 990), (3, .to 991), (700, .frz)]) (keys := [2, 3]) (E' := [(2, .loc 990 0), (3, .loc 991 0)]) (H' := [(989, .other D0 dfr), (990, .box [.int 0, .intss []]), (991, .box [.int 11])]) (by kernel_rfl) ?_
        exact fin_retM _ rfl [(989, D0)] rfl rfl ⟨rfl, trivial⟩ hcx (avs := [.agg [.int 0, .intss []], .int 11]) (by kernel_rfl) (congrArg AV.tup (consE (congrArg AV.agg (consE (congrArg AV.int (show 0 = (Cn.getV (Cn.wordsV b)).1 from (by first | (rw [hG]; done) | (rw [hG, htk]; done) | (rw [hG, htk]; rfl)))) (consE (congrArg AV.intss (show [] = (Cn.getV (Cn.wordsV b)).2.1 from (by first | (rw [hG]; done) | (rw [hG, htk]; done) | (rw [hG, htk]; rfl)))) rfl))) (consE (congrArg AV.int (show 11 = (Cn.getV (Cn.wordsV b)).2.2 from (by first | (rw [hG]; done) | (rw [hG, htk]; done) | (rw [hG, htk]; rfl)))) rfl))) [] rfl
       ·
        skip
        have h10 := hb10
        have hgood := hE.trans (Cn.notF h10)
        refine tri_skip ?_
        refine fin_then ?_
        refine tri_seq ?_
        refine tri_seq ?_
        refine tri_regD hcx [] [49] [7, 5, 4] [970, 0, 1, 2, 3, 10] [] [(49, .bool (decide ((p : Int) > 1)))] [] (by kernel_rfl) ?_ ?_
        ·
         exact az
        refine fin_then ?_
        refine tri_cond (b := (decide ((p : Int) > 1))) (by kernel_rfl) (fun hb11 => ?_) (fun hb11 => ?_)
        ·
         skip
         have h11 := of_decide_eq_true hb11
         refine tri_regD hcx [(1, .to 1), (1003, .to 10)] [] [5] [970, 0, 2, 3] [(((Cn.numsW ((Cn.wordsV b).take p)).length + [(Cn.numN ((Cn.wordsV b).getD p []))].length) * 8 ≤ 140737488355328)] [] [(1, .box [.row 10]), (10, .row 3 (.ints ((Cn.numsW ((Cn.wordsV b).take p)) ++ [(Cn.numN ((Cn.wordsV b).getD p []))])))] (by kernel_rfl) ?_ ?_
         ·
          refine (ap ?_ az)
          (first | omega | exact id | exact vcNot | exact vcG | exact vcH | (intro _; omega) | exact (fun _ h => h) | (intro h; simp at h; omega) | (simp only [List.length_cons, List.length_nil, List.length_append, List.length_map, List.length_set, List.length_replicate]; omega) | (intro h; simp [h]; done))
         refine fin_then ?_
         refine tri_regD hcx [(0, .to 0)] [] [] [1, 10, 970, 2, 3] [Fit ((p : Int) + 1)] [] [(0, .box [.int ((p : Int) + 1)])] (by kernel_rfl) ?_ ?_
         ·
          refine (ap ?_ az)
          (first | omega | exact id | exact vcNot | exact vcG | exact vcH | (intro _; omega) | exact (fun _ h => h) | (intro h; simp at h; omega) | (simp only [List.length_cons, List.length_nil, List.length_append, List.length_map, List.length_set, List.length_replicate]; omega) | (intro h; simp [h]; done))
         refine fin_block ?_
         refine fin_ren (ρ := [(970, .to 970), (0, .to 0), (1, .to 1), (2, .to 2), (3, .to 3), (10, .to 10)]) (keys := []) (E' := []) (H' := [(970, .other l0 (.loop r0)), (0, .box [.int ((p : Int) + 1)]), (1, .box [.row 10]), (2, .box [.int 0, .im (.val (.slice none 0 0))]), (3, .box [.int 0]), (10, .row 3 (.ints ((Cn.numsW ((Cn.wordsV b).take p)) ++ [(Cn.numN ((Cn.wordsV b).getD p []))])))]) (by kernel_rfl) ?_
         refine fin_rnext (()) ?_ ?_
         ·
          show ∀ j, j < (p + 1) → Cn.okW j ((Cn.wordsV b).getD j []) = true
          exact fun j hj => by rcases (by omega : j < p ∨ j = p) with h | rfl; exact hI0 j h; exact hgood
         ·
          exact Eq.trans (show _ = [(970, .other l0 (.loop r0)), (0, .box [.int ((p : Int) + 1)]), (1, .box [.row 10]), (2, .box [.int 0, .im (.val (.slice none 0 0))]), (3, .box [.int 0]), (10, .row 3 (.ints ((Cn.numsW ((Cn.wordsV b).take p)) ++ [(Cn.numN ((Cn.wordsV b).getD p []))])))] from by kernel_rfl) (consH rfl (consH (congrArg (fun x => ((0 : Nat), x)) (congrArg AObj.box (consE (congrArg AV.int (show ((p : Int) + 1) = ((p + 1) : Int) from (by first | rfl | omega | (simp; done)))) rfl))) (consH rfl (consH rfl (consH rfl (consH (congrArg (fun x => ((10 : Nat), x)) (congrArg (fun x => AObj.row 3 (.ints x)) (show ((Cn.numsW ((Cn.wordsV b).take p)) ++ [(Cn.numN ((Cn.wordsV b).getD p []))]) = (Cn.numsW ((Cn.wordsV b).take (p + 1))) from (by first | exact Cn.nums_app (by omega) hi0 | exact Cn.nums_skip (by omega))))) rfl))))))
        ·
         skip
         have h11 := of_decide_eq_false hb11
         refine tri_skip ?_
         refine fin_then ?_
         refine tri_regD hcx [(0, .to 0)] [] [] [970, 1, 2, 3, 10] [Fit ((p : Int) + 1)] [] [(0, .box [.int ((p : Int) + 1)])] (by kernel_rfl) ?_ ?_
         ·
          refine (ap ?_ az)
          (first | omega | exact id | exact vcNot | exact vcG | exact vcH | (intro _; omega) | exact (fun _ h => h) | (intro h; simp at h; omega) | (simp only [List.length_cons, List.length_nil, List.length_append, List.length_map, List.length_set, List.length_replicate]; omega) | (intro h; simp [h]; done))
         refine fin_block ?_
         refine fin_ren (ρ := [(970, .to 970), (0, .to 0), (1, .to 1), (2, .to 2), (3, .to 3), (10, .to 10)]) (keys := []) (E' := []) (H' := [(970, .other l0 (.loop r0)), (0, .box [.int ((p : Int) + 1)]), (1, .box [.row 10]), (2, .box [.int 0, .im (.val (.slice none 0 0))]), (3, .box [.int 0]), (10, .row 3 (.ints (Cn.numsW ((Cn.wordsV b).take p))))]) (by kernel_rfl) ?_
         refine fin_rnext (()) ?_ ?_
         ·
          show ∀ j, j < (p + 1) → Cn.okW j ((Cn.wordsV b).getD j []) = true
          exact fun j hj => by rcases (by omega : j < p ∨ j = p) with h | rfl; exact hI0 j h; exact hgood
         ·
          exact Eq.trans (show _ = [(970, .other l0 (.loop r0)), (0, .box [.int ((p : Int) + 1)]), (1, .box [.row 10]), (2, .box [.int 0, .im (.val (.slice none 0 0))]), (3, .box [.int 0]), (10, .row 3 (.ints (Cn.numsW ((Cn.wordsV b).take p))))] from by kernel_rfl) (consH rfl (consH (congrArg (fun x => ((0 : Nat), x)) (congrArg AObj.box (consE (congrArg AV.int (show ((p : Int) + 1) = ((p + 1) : Int) from (by first | rfl | omega | (simp; done)))) rfl))) (consH rfl (consH rfl (consH rfl (consH (congrArg (fun x => ((10 : Nat), x)) (congrArg (fun x => AObj.row 3 (.ints x)) (show (Cn.numsW ((Cn.wordsV b).take p)) = (Cn.numsW ((Cn.wordsV b).take (p + 1))) from (by first | exact Cn.nums_app (by omega) hi0 | exact Cn.nums_skip (by omega))))) rfl))))))
   ·
    intro D0 un hI0
    replace hI0 : ∀ j, j < ((Cn.wordsV b).length) → Cn.okW j ((Cn.wordsV b).getD j []) = true := hI0
    have hbad := Cn.get_ok hI0
    have htk : (Cn.wordsV b).take (Cn.wordsV b).length = (Cn.wordsV b) := List.take_length
    have hnl : (Cn.numsW ((Cn.wordsV b).take (Cn.wordsV b).length)).length = (Cn.wordsV b).length - 2 := by rw [htk, Cn.nums_len]
    change Fin _ [(18, .clo 82 [.pto [.ls (.bytes b)]]), (5, .loc 0 0), (4, .loc 1 0), (2, .loc 2 0), (3, .loc 3 0)] [(989, .other D0 dfr), (0, .box [.int (((Cn.wordsV b).length) : Int)]), (1, .box [.row 10]), (2, .box [.int 0, .im (.val (.slice none 0 0))]), (3, .box [.int 0]), (10, .row 3 (.ints (Cn.numsW ((Cn.wordsV b).take ((Cn.wordsV b).length)))))] _ _
    refine fin_block ?_
    refine fin_then ?_
    refine tri_seq ?_
    refine tri_seq ?_
    refine tri_regD hcx [] [57] [4, 2, 3] [989, 1, 2, 3, 10] [] [(57, .bool (decide ((((Cn.wordsV b).length) : Int) < 4)))] [] (by kernel_rfl) ?_ ?_
    ·
     exact az
    refine fin_then ?_
    refine tri_cond (b := (decide ((((Cn.wordsV b).length) : Int) < 4))) (by kernel_rfl) (fun hb12 => ?_) (fun hb12 => ?_)
    ·
     skip
     have h12 := of_decide_eq_true hb12
     have hG := Cn.get_short (W := (Cn.wordsV b)) (by omega)
     refine tri_seq ?_
     refine tri_regD hcx [(2, .to 2), (3, .to 3)] [] [2, 3] [989] [] [] [(2, .box [.int 0, .im (.val (.slice none 0 0))]), (3, .box [.int 11])] (by kernel_rfl) ?_ ?_
     ·
      exact az
     refine fin_then ?_
     refine tri_ret ?_
     refine fin_then_ret ?_
     refine fin_rowB 2 1 700 0 (.intss []) (by kernel_rfl) (by kernel_rfl) (by kernel_rfl) (by kernel_rfl) (H' := [(2, .box [.int 0, .row 700]), (3, .box [.int 11]), (989, .other D0 dfr)]) (by kernel_rfl) ?_
     refine fin_ren (ρ := [(989, .to 989), (2, .to 990), (3, .to 991), (700, .frz)]) (keys := [2, 3]) (E' := [(2, .loc 990 0), (3, .loc 991 0)]) (H' := [(989, .other D0 dfr), (990, .box [.int 0, .intss []]), (991, .box [.int 11])]) (by kernel_rfl) ?_
     exact fin_retM _ rfl [(989, D0)] rfl rfl ⟨rfl, trivial⟩ hcx (avs := [.agg [.int 0, .intss []], .int 11]) (by kernel_rfl) (congrArg AV.tup (consE (congrArg AV.agg (consE (congrArg AV.int (show 0 = (Cn.getV (Cn.wordsV b)).1 from (by first | (rw [hG]; done) | (rw [hG, htk]; done) | (rw [hG, htk]; rfl)))) (consE (congrArg AV.intss (show [] = (Cn.getV (Cn.wordsV b)).2.1 from (by first | (rw [hG]; done) | (rw [hG, htk]; done) | (rw [hG, htk]; rfl)))) rfl))) (consE (congrArg AV.int (show 11 = (Cn.getV (Cn.wordsV b)).2.2 from (by first | (rw [hG]; done) | (rw [hG, htk]; done) | (rw [hG, htk]; rfl)))) rfl))) [] rfl
    ·
     skip
     have h12 := of_decide_eq_false hb12
     have h4 : ¬ (Cn.wordsV b).length < 4 := by omega
     refine tri_skip ?_
     refine fin_then ?_
     refine tri_seq ?_
     refine tri_drawD [0, 1, 3, 7, 0, 16, 48, 0, 143, 511] hcx hmx [(1007, .to 609)] [9, 10] [4, 2, 3] [989, 1, 2, 3, 10] [((0 : Int) ≤ 0 ∧ 0 < ((Cn.numsW ((Cn.wordsV b).take ((Cn.wordsV b).length))).length : Int)), (0 < (Cn.numsW ((Cn.wordsV b).take ((Cn.wordsV b).length))).length), ((0 : Int) ≤ 1 ∧ 1 < ((Cn.numsW ((Cn.wordsV b).take ((Cn.wordsV b).length))).length : Int)), (1 < (Cn.numsW ((Cn.wordsV b).take ((Cn.wordsV b).length))).length)] [(9, .loc 609 0), (10, .int ((Cn.numsW ((Cn.wordsV b).take ((Cn.wordsV b).length))).getD 1 0))] [(609, .box [.int ((Cn.numsW ((Cn.wordsV b).take ((Cn.wordsV b).length))).getD 0 0), .im (.val (.slice none 0 0))])] (by kernel_rfl) ?_ ?_
     ·
      refine (ap ?_ (ap ?_ (ap ?_ (ap ?_ az))))
      all_goals
       (first | omega | exact id | exact vcNot | exact vcG | exact vcH | (intro _; omega) | exact (fun _ h => h) | (intro h; simp at h; omega) | (simp only [List.length_cons, List.length_nil, List.length_append, List.length_map, List.length_set, List.length_replicate]; omega) | (intro h; simp [h]; done))
     refine fin_then ?_
     refine tri_seq ?_
     refine tri_seq ?_
     refine tri_regD hcx [] [72] [9, 10, 4, 2, 3] [609, 989, 1, 2, 3, 10] [((!(decide (((Cn.numsW ((Cn.wordsV b).take ((Cn.wordsV b).length))).getD 0 0) > 65536))) = true → ((!(decide (((Cn.numsW ((Cn.wordsV b).take ((Cn.wordsV b).length))).getD 0 0) > 65536))) = true)), ((decide (((Cn.numsW ((Cn.wordsV b).take ((Cn.wordsV b).length))).getD 0 0) > 65536)) = false → (!(decide (((Cn.numsW ((Cn.wordsV b).take ((Cn.wordsV b).length))).getD 0 0) > 65536))) = true)] [(72, .bool ((decide (((Cn.numsW ((Cn.wordsV b).take ((Cn.wordsV b).length))).getD 0 0) > 65536)) || (decide (((Cn.numsW ((Cn.wordsV b).take ((Cn.wordsV b).length))).getD 1 0) > 65536))))] [] (by kernel_rfl) ?_ ?_
     ·
      refine (ap ?_ (ap (by exact vcNot) az))
      (first | omega | exact id | exact vcNot | exact vcG | exact vcH | (intro _; omega) | exact (fun _ h => h) | (intro h; simp at h; omega) | (simp only [List.length_cons, List.length_nil, List.length_append, List.length_map, List.length_set, List.length_replicate]; omega) | (intro h; simp [h]; done))
     refine fin_then ?_
     refine tri_cond (b := ((decide (((Cn.numsW ((Cn.wordsV b).take ((Cn.wordsV b).length))).getD 0 0) > 65536)) || (decide (((Cn.numsW ((Cn.wordsV b).take ((Cn.wordsV b).length))).getD 1 0) > 65536)))) (by kernel_rfl) (fun hb13 => ?_) (fun hb13 => ?_)
     ·
      skip
      have h13 := hb13
      try simp only [Bool.or_eq_true, Bool.or_eq_false_iff, Bool.and_eq_true, Bool.and_eq_false_iff, Bool.not_eq_true', Bool.not_eq_false', decide_eq_true_eq, decide_eq_false_iff_not, bne_iff_ne, bne_eq_false_iff_eq, beq_iff_eq, beq_eq_false_iff_ne] at h13
      rw [htk] at h13
      have hG := Cn.get_big hbad h4 (by omega)
      refine tri_seq ?_
      refine tri_regD hcx [(2, .to 2), (3, .to 3)] [] [2, 3] [989] [] [] [(2, .box [.int 0, .im (.val (.slice none 0 0))]), (3, .box [.int 2])] (by kernel_rfl) ?_ ?_
      ·
       exact az
      refine fin_then ?_
      refine tri_ret ?_
      refine fin_then_ret ?_
      refine fin_rowB 2 1 700 0 (.intss []) (by kernel_rfl) (by kernel_rfl) (by kernel_rfl) (by kernel_rfl) (H' := [(2, .box [.int 0, .row 700]), (3, .box [.int 2]), (989, .other D0 dfr)]) (by kernel_rfl) ?_
      refine fin_ren (ρ := [(989, .to 989), (2, .to 990), (3, .to 991), (700, .frz)]) (keys := [2, 3]) (E' := [(2, .loc 990 0), (3, .loc 991 0)]) (H' := [(989, .other D0 dfr), (990, .box [.int 0, .intss []]), (991, .box [.int 2])]) (by kernel_rfl) ?_
      exact fin_retM _ rfl [(989, D0)] rfl rfl ⟨rfl, trivial⟩ hcx (avs := [.agg [.int 0, .intss []], .int 2]) (by kernel_rfl) (congrArg AV.tup (consE (congrArg AV.agg (consE (congrArg AV.int (show 0 = (Cn.getV (Cn.wordsV b)).1 from (by first | (rw [hG]; done) | (rw [hG, htk]; done) | (rw [hG, htk]; rfl)))) (consE (congrArg AV.intss (show [] = (Cn.getV (Cn.wordsV b)).2.1 from (by first | (rw [hG]; done) | (rw [hG, htk]; done) | (rw [hG, htk]; rfl)))) rfl))) (consE (congrArg AV.int (show 2 = (Cn.getV (Cn.wordsV b)).2.2 from (by first | (rw [hG]; done) | (rw [hG, htk]; done) | (rw [hG, htk]; rfl)))) rfl))) [] rfl
     ·
      skip
      have h13 := hb13
      try simp only [Bool.or_eq_true, Bool.or_eq_false_iff, Bool.and_eq_true, Bool.and_eq_false_iff, Bool.not_eq_true', Bool.not_eq_false', decide_eq_true_eq, decide_eq_false_iff_not, bne_iff_ne, bne_eq_false_iff_eq, beq_iff_eq, beq_eq_false_iff_ne] at h13
      rw [htk] at h13
      have h72 : ¬ (65536 < (Cn.numsW (Cn.wordsV b)).getD 0 0 ∨ 65536 < (Cn.numsW (Cn.wordsV b)).getD 1 0) := by omega
      refine tri_skip ?_
      refine fin_then ?_
      refine tri_seq ?_
      refine tri_seq ?_
      refine tri_rowB 609 1 11 25 (.intss []) (by kernel_rfl) (by kernel_rfl) (by kernel_rfl) (by kernel_rfl) (H' := [(609, .box [.int ((Cn.numsW ((Cn.wordsV b).take ((Cn.wordsV b).length))).getD 0 0), .row 11]), (989, .other D0 dfr), (1, .box [.row 10]), (2, .box [.int 0, .im (.val (.slice none 0 0))]), (3, .box [.int 0]), (10, .row 3 (.ints (Cn.numsW ((Cn.wordsV b).take ((Cn.wordsV b).length)))))]) (by kernel_rfl) ?_
      refine tri_ren (ρ := [(1, .to 1), (2, .to 2), (3, .to 3), (11, .to 11), (609, .to 609), (989, .to 989), (10, .frz)]) (keys := [72, 9, 10, 4, 2, 3]) (E' := [(72, .bool ((decide (((Cn.numsW ((Cn.wordsV b).take ((Cn.wordsV b).length))).getD 0 0) > 65536)) || (decide (((Cn.numsW ((Cn.wordsV b).take ((Cn.wordsV b).length))).getD 1 0) > 65536)))), (9, .loc 609 0), (10, .int ((Cn.numsW ((Cn.wordsV b).take ((Cn.wordsV b).length))).getD 1 0)), (4, .loc 1 0), (2, .loc 2 0), (3, .loc 3 0)]) (H' := [(1, .box [.ints (Cn.numsW ((Cn.wordsV b).take ((Cn.wordsV b).length)))]), (2, .box [.int 0, .im (.val (.slice none 0 0))]), (3, .box [.int 0]), (11, .row 25 (.intss [])), (609, .box [.int ((Cn.numsW ((Cn.wordsV b).take ((Cn.wordsV b).length))).getD 0 0), .row 11]), (989, .other D0 dfr)]) (by kernel_rfl) ?_
      refine tri_regD hcx [(1, .to 1)] [] [9, 10, 4, 2, 3] [2, 3, 11, 609, 989] [((0 : Int) ≤ 2 ∧ 2 ≤ ((Cn.numsW ((Cn.wordsV b).take ((Cn.wordsV b).length))).length : Int))] [] [(1, .box [.ints (((Cn.numsW ((Cn.wordsV b).take ((Cn.wordsV b).length))).take ((Cn.numsW ((Cn.wordsV b).take ((Cn.wordsV b).length))).length)).drop 2)])] (by kernel_rfl) ?_ ?_
      ·
       refine (ap ?_ az)
       (first | omega | exact id | exact vcNot | exact vcG | exact vcH | (intro _; omega) | exact (fun _ h => h) | (intro h; simp at h; omega) | (simp only [List.length_cons, List.length_nil, List.length_append, List.length_map, List.length_set, List.length_replicate]; omega) | (intro h; simp [h]; done))
      refine fin_then ?_
      refine tri_block ?_
      refine tri_loop (X := Nat) (fun x0 => ∀ i, i < x0 → 0 ≤ Cn.idx0 (Cn.restZ ((Cn.numsW (Cn.wordsV b)).drop 2) i)) (fun x0 => [(2, .loc 2 0), (3, .loc 3 0), (4, .loc 1 0), (9, .loc 609 0), (10, .int ((Cn.numsW ((Cn.wordsV b).take ((Cn.wordsV b).length))).getD 1 0))]) (fun x0 => [(1, .box [.ints (Cn.restZ ((Cn.numsW (Cn.wordsV b)).drop 2) x0)]), (2, .box [.int 0, .im (.val (.slice none 0 0))]), (3, .box [.int 0]), (11, .row 25 (.intss (Cn.accZ ((Cn.numsW (Cn.wordsV b)).drop 2) x0))), (609, .box [.int ((Cn.numsW ((Cn.wordsV b).take ((Cn.wordsV b).length))).getD 0 0), .row 11]), (989, .other D0 dfr)]) (fun x0 => ((Cn.numsW (Cn.wordsV b)).drop 2).length - x0) (0) ?_ ?_ ?_ ?_
      ·
       show ∀ i, i < 0 → 0 ≤ Cn.idx0 (Cn.restZ ((Cn.numsW (Cn.wordsV b)).drop 2) i)
       exact fun j hj => by omega
      ·
       exact subE_mk (l := [.loc 2 0, .loc 3 0, .loc 1 0, .loc 609 0, .int ((Cn.numsW ((Cn.wordsV b).take ((Cn.wordsV b).length))).getD 1 0)]) (m := [.loc 2 0, .loc 3 0, .loc 1 0, .loc 609 0, .int ((Cn.numsW ((Cn.wordsV b).take ((Cn.wordsV b).length))).getD 1 0)]) (by kernel_rfl) (by kernel_rfl) rfl
      ·
       exact Eq.trans (show _ = [(1, .box [.ints (((Cn.numsW ((Cn.wordsV b).take ((Cn.wordsV b).length))).take ((Cn.numsW ((Cn.wordsV b).take ((Cn.wordsV b).length))).length)).drop 2)]), (2, .box [.int 0, .im (.val (.slice none 0 0))]), (3, .box [.int 0]), (11, .row 25 (.intss [])), (609, .box [.int ((Cn.numsW ((Cn.wordsV b).take ((Cn.wordsV b).length))).getD 0 0), .row 11]), (989, .other D0 dfr)] from by kernel_rfl) (consH (congrArg (fun x => ((1 : Nat), x)) (congrArg AObj.box (consE (congrArg AV.ints (show (((Cn.numsW ((Cn.wordsV b).take ((Cn.wordsV b).length))).take ((Cn.numsW ((Cn.wordsV b).take ((Cn.wordsV b).length))).length)).drop 2) = (Cn.restZ ((Cn.numsW (Cn.wordsV b)).drop 2) 0) from (by rw [htk, List.take_length]; rfl))) rfl))) (consH rfl (consH rfl (consH (congrArg (fun x => ((11 : Nat), x)) (congrArg (fun x => AObj.row 25 (.intss x)) (show [] = (Cn.accZ ((Cn.numsW (Cn.wordsV b)).drop 2) 0) from (by rfl)))) (consH rfl (consH rfl rfl))))))
      ·
       intro j hI
       replace hI : ∀ i, i < j → 0 ≤ Cn.idx0 (Cn.restZ ((Cn.numsW (Cn.wordsV b)).drop 2) i) := hI
       change Tri _ [(2, .loc 2 0), (3, .loc 3 0), (4, .loc 1 0), (9, .loc 609 0), (10, .int ((Cn.numsW ((Cn.wordsV b).take ((Cn.wordsV b).length))).getD 1 0))] [(1, .box [.ints (Cn.restZ ((Cn.numsW (Cn.wordsV b)).drop 2) j)]), (2, .box [.int 0, .im (.val (.slice none 0 0))]), (3, .box [.int 0]), (11, .row 25 (.intss (Cn.accZ ((Cn.numsW (Cn.wordsV b)).drop 2) j))), (609, .box [.int ((Cn.numsW ((Cn.wordsV b).take ((Cn.wordsV b).length))).getD 0 0), .row 11]), (989, .other D0 dfr)] _ _
       have hrc := Cn.rest_cnt ((Cn.numsW (Cn.wordsV b)).drop 2) j hI
       have hrl := Cn.rest_len ((Cn.numsW (Cn.wordsV b)).drop 2) j
       have hzl : ((Cn.numsW (Cn.wordsV b)).drop 2).length ≤ 10000200001 := by rw [List.length_drop, Cn.nums_len]; omega
       refine tri_seq ?_
       refine tri_seq ?_
       refine tri_regD hcx [] [78] [2, 3, 4, 9, 10] [1, 2, 3, 11, 609, 989] [] [(78, .bool (decide (((Cn.restZ ((Cn.numsW (Cn.wordsV b)).drop 2) j).length : Int) > 0)))] [] (by kernel_rfl) ?_ ?_
       ·
        exact az
       refine fin_then ?_
       refine tri_cond (b := (decide (((Cn.restZ ((Cn.numsW (Cn.wordsV b)).drop 2) j).length : Int) > 0))) (by kernel_rfl) (fun hb14 => ?_) (fun hb14 => ?_)
       ·
        skip
        have h14 := of_decide_eq_true hb14
        have h78 := h14
        refine tri_skip ?_
        refine fin_then ?_
        refine tri_block ?_
        refine tri_seq ?_
        refine tri_regD hcx [] [11] [2, 3, 4, 9, 10] [1, 2, 3, 11, 609, 989] [((Cn.restZ ((Cn.numsW (Cn.wordsV b)).drop 2) j).length ≤ maxLen)] [(11, .int (Cn.idxF (fun x => (0 : Int) == x) (Cn.restZ ((Cn.numsW (Cn.wordsV b)).drop 2) j)))] [] (by kernel_rfl) ?_ ?_
        ·
         refine (ap ?_ az)
         (unfold maxLen; omega)
        refine fin_then ?_
        refine tri_seq ?_
        refine tri_seq ?_
        refine tri_regD hcx [] [82] [11, 2, 3, 4, 9, 10] [1, 2, 3, 11, 609, 989] [] [(82, .bool (decide ((Cn.idxF (fun x => (0 : Int) == x) (Cn.restZ ((Cn.numsW (Cn.wordsV b)).drop 2) j)) < 0)))] [] (by kernel_rfl) ?_ ?_
        ·
         exact az
        refine fin_then ?_
        refine tri_cond (b := (decide ((Cn.idxF (fun x => (0 : Int) == x) (Cn.restZ ((Cn.numsW (Cn.wordsV b)).drop 2) j)) < 0))) (by kernel_rfl) (fun hb15 => ?_) (fun hb15 => ?_)
        ·
         skip
         have h15 := of_decide_eq_true hb15
         have hG := Cn.get_open (j := j) hbad h4 h72 hI (by omega) h15
         refine tri_seq ?_
         refine tri_regD hcx [(2, .to 2), (3, .to 3)] [] [2, 3] [989] [] [] [(2, .box [.int 0, .im (.val (.slice none 0 0))]), (3, .box [.int 11])] (by kernel_rfl) ?_ ?_
         ·
          exact az
         refine fin_then ?_
         refine tri_ret ?_
         refine fin_then_ret ?_
         refine fin_block_ret ?_
         refine fin_then_ret ?_
         refine fin_block_ret ?_
         refine fin_then_ret ?_
         refine fin_rowB 2 1 700 0 (.intss []) (by kernel_rfl) (by kernel_rfl) (by kernel_rfl) (by kernel_rfl) (H' := [(2, .box [.int 0, .row 700]), (3, .box [.int 11]), (989, .other D0 dfr)]) (by kernel_rfl) ?_
         refine fin_ren (ρ := [(989, .to 989), (2, .to 990), (3, .to 991), (700, .frz)]) (keys := [2, 3]) (E' := [(2, .loc 990 0), (3, .loc 991 0)]) (H' := [(989, .other D0 dfr), (990, .box [.int 0, .intss []]), (991, .box [.int 11])]) (by kernel_rfl) ?_
         exact fin_retM _ rfl [(989, D0)] rfl rfl ⟨rfl, trivial⟩ hcx (avs := [.agg [.int 0, .intss []], .int 11]) (by kernel_rfl) (congrArg AV.tup (consE (congrArg AV.agg (consE (congrArg AV.int (show 0 = (Cn.getV (Cn.wordsV b)).1 from (by first | (rw [hG]; done) | (rw [hG, htk]; done) | (rw [hG, htk]; rfl)))) (consE (congrArg AV.intss (show [] = (Cn.getV (Cn.wordsV b)).2.1 from (by first | (rw [hG]; done) | (rw [hG, htk]; done) | (rw [hG, htk]; rfl)))) rfl))) (consE (congrArg AV.int (show 11 = (Cn.getV (Cn.wordsV b)).2.2 from (by first | (rw [hG]; done) | (rw [hG, htk]; done) | (rw [hG, htk]; rfl)))) rfl))) [] rfl
        ·
         skip
         have h15 := of_decide_eq_false hb15
         have hix : 0 ≤ Cn.idx0 (Cn.restZ ((Cn.numsW (Cn.wordsV b)).drop 2) j) := Int.not_lt.1 h15
         have hrt := Cn.rest_lt hix
         have hix2 : 0 ≤ Cn.idxF (fun x => 0 == x) (Cn.restZ ((Cn.numsW (Cn.wordsV b)).drop 2) j) := hix
         have hrt2 : (Cn.idxF (fun x => 0 == x) (Cn.restZ ((Cn.numsW (Cn.wordsV b)).drop 2) j)).toNat < (Cn.restZ ((Cn.numsW (Cn.wordsV b)).drop 2) j).length := hrt
         refine tri_skip ?_
         refine fin_then ?_
         refine tri_seq ?_
         refine tri_drawD [0, 1, 0, 0, 12, 28, 60, 127, 255, 511] hcx hmx [(1007, .to 11), (609, .to 609)] [] [11, 2, 3, 4, 9, 10] [1, 2, 3, 989] [((0 : Int) ≤ (Cn.idxF (fun x => (0 : Int) == x) (Cn.restZ ((Cn.numsW (Cn.wordsV b)).drop 2) j)) ∧ (Cn.idxF (fun x => (0 : Int) == x) (Cn.restZ ((Cn.numsW (Cn.wordsV b)).drop 2) j)) ≤ ((Cn.restZ ((Cn.numsW (Cn.wordsV b)).drop 2) j).length : Int)), ((((Cn.restZ ((Cn.numsW (Cn.wordsV b)).drop 2) j).take ((Cn.idxF (fun x => (0 : Int) == x) (Cn.restZ ((Cn.numsW (Cn.wordsV b)).drop 2) j)).toNat)).drop 0).length ≤ 1000000000000), (((Cn.accZ ((Cn.numsW (Cn.wordsV b)).drop 2) j).length + [(((Cn.restZ ((Cn.numsW (Cn.wordsV b)).drop 2) j).take ((Cn.idxF (fun x => (0 : Int) == x) (Cn.restZ ((Cn.numsW (Cn.wordsV b)).drop 2) j)).toNat)).drop 0)].length) * 24 ≤ 140737488355328)] [] [(11, .row 25 (.intss ((Cn.accZ ((Cn.numsW (Cn.wordsV b)).drop 2) j) ++ [(((Cn.restZ ((Cn.numsW (Cn.wordsV b)).drop 2) j).take ((Cn.idxF (fun x => (0 : Int) == x) (Cn.restZ ((Cn.numsW (Cn.wordsV b)).drop 2) j)).toNat)).drop 0)]))), (609, .box [.int ((Cn.numsW ((Cn.wordsV b).take ((Cn.wordsV b).length))).getD 0 0), .row 11])] (by kernel_rfl) ?_ ?_
         ·
          refine (ap ?_ (ap ?_ (ap ?_ az)))
          all_goals
           first | (first | omega | exact id | exact vcNot | exact vcG | exact vcH | (intro _; omega) | exact (fun _ h => h) | (intro h; simp at h; omega) | (simp only [List.length_cons, List.length_nil, List.length_append, List.length_map, List.length_set, List.length_replicate]; omega) | (intro h; simp [h]; done)) | (rw [List.drop_zero, List.length_take]; omega)
         refine fin_then ?_
         refine tri_regD hcx [(1, .to 1)] [] [2, 3, 4, 9, 10] [11, 609, 2, 3, 989] [Fit ((Cn.idxF (fun x => (0 : Int) == x) (Cn.restZ ((Cn.numsW (Cn.wordsV b)).drop 2) j)) + 1), ((0 : Int) ≤ ((Cn.idxF (fun x => (0 : Int) == x) (Cn.restZ ((Cn.numsW (Cn.wordsV b)).drop 2) j)) + 1) ∧ ((Cn.idxF (fun x => (0 : Int) == x) (Cn.restZ ((Cn.numsW (Cn.wordsV b)).drop 2) j)) + 1) ≤ ((Cn.restZ ((Cn.numsW (Cn.wordsV b)).drop 2) j).length : Int))] [] [(1, .box [.ints (((Cn.restZ ((Cn.numsW (Cn.wordsV b)).drop 2) j).take ((Cn.restZ ((Cn.numsW (Cn.wordsV b)).drop 2) j).length)).drop (((Cn.idxF (fun x => (0 : Int) == x) (Cn.restZ ((Cn.numsW (Cn.wordsV b)).drop 2) j)) + 1).toNat))])] (by kernel_rfl) ?_ ?_
         ·
          refine (ap ?_ (ap ?_ az))
          all_goals
           (first | omega | exact id | exact vcNot | exact vcG | exact vcH | (intro _; omega) | exact (fun _ h => h) | (intro h; simp at h; omega) | (simp only [List.length_cons, List.length_nil, List.length_append, List.length_map, List.length_set, List.length_replicate]; omega) | (intro h; simp [h]; done))
         refine fin_block ?_
         refine fin_ren (ρ := [(1, .to 1), (2, .to 2), (3, .to 3), (11, .to 11), (609, .to 609), (989, .to 989)]) (keys := [2, 3, 4, 9, 10]) (E' := [(2, .loc 2 0), (3, .loc 3 0), (4, .loc 1 0), (9, .loc 609 0), (10, .int ((Cn.numsW ((Cn.wordsV b).take ((Cn.wordsV b).length))).getD 1 0))]) (H' := [(1, .box [.ints (((Cn.restZ ((Cn.numsW (Cn.wordsV b)).drop 2) j).take ((Cn.restZ ((Cn.numsW (Cn.wordsV b)).drop 2) j).length)).drop (((Cn.idxF (fun x => (0 : Int) == x) (Cn.restZ ((Cn.numsW (Cn.wordsV b)).drop 2) j)) + 1).toNat))]), (2, .box [.int 0, .im (.val (.slice none 0 0))]), (3, .box [.int 0]), (11, .row 25 (.intss ((Cn.accZ ((Cn.numsW (Cn.wordsV b)).drop 2) j) ++ [(((Cn.restZ ((Cn.numsW (Cn.wordsV b)).drop 2) j).take ((Cn.idxF (fun x => (0 : Int) == x) (Cn.restZ ((Cn.numsW (Cn.wordsV b)).drop 2) j)).toNat)).drop 0)]))), (609, .box [.int ((Cn.numsW ((Cn.wordsV b).take ((Cn.wordsV b).length))).getD 0 0), .row 11]), (989, .other D0 dfr)]) (by kernel_rfl) ?_
         refine fin_round (j + 1) ?_ ?_ ?_ ?_
         ·
          show ∀ i, i < (j + 1) → 0 ≤ Cn.idx0 (Cn.restZ ((Cn.numsW (Cn.wordsV b)).drop 2) i)
          exact fun i hi => by rcases (by omega : i < j ∨ i = j) with h | rfl; exact hI i h; exact hix
         ·
          show ((Cn.numsW (Cn.wordsV b)).drop 2).length - (j + 1) < ((Cn.numsW (Cn.wordsV b)).drop 2).length - j
          omega
         ·
          exact subE_mk (l := [.loc 2 0, .loc 3 0, .loc 1 0, .loc 609 0, .int ((Cn.numsW ((Cn.wordsV b).take ((Cn.wordsV b).length))).getD 1 0)]) (m := [.loc 2 0, .loc 3 0, .loc 1 0, .loc 609 0, .int ((Cn.numsW ((Cn.wordsV b).take ((Cn.wordsV b).length))).getD 1 0)]) (by kernel_rfl) (by kernel_rfl) rfl
         ·
          exact Eq.trans (show _ = [(1, .box [.ints (((Cn.restZ ((Cn.numsW (Cn.wordsV b)).drop 2) j).take ((Cn.restZ ((Cn.numsW (Cn.wordsV b)).drop 2) j).length)).drop (((Cn.idxF (fun x => (0 : Int) == x) (Cn.restZ ((Cn.numsW (Cn.wordsV b)).drop 2) j)) + 1).toNat))]), (2, .box [.int 0, .im (.val (.slice none 0 0))]), (3, .box [.int 0]), (11, .row 25 (.intss ((Cn.accZ ((Cn.numsW (Cn.wordsV b)).drop 2) j) ++ [(((Cn.restZ ((Cn.numsW (Cn.wordsV b)).drop 2) j).take ((Cn.idxF (fun x => (0 : Int) == x) (Cn.restZ ((Cn.numsW (Cn.wordsV b)).drop 2) j)).toNat)).drop 0)]))), (609, .box [.int ((Cn.numsW ((Cn.wordsV b).take ((Cn.wordsV b).length))).getD 0 0), .row 11]), (989, .other D0 dfr)] from by kernel_rfl) (consH (congrArg (fun x => ((1 : Nat), x)) (congrArg AObj.box (consE (congrArg AV.ints (show (((Cn.restZ ((Cn.numsW (Cn.wordsV b)).drop 2) j).take ((Cn.restZ ((Cn.numsW (Cn.wordsV b)).drop 2) j).length)).drop (((Cn.idxF (fun x => (0 : Int) == x) (Cn.restZ ((Cn.numsW (Cn.wordsV b)).drop 2) j)) + 1).toNat)) = (Cn.restZ ((Cn.numsW (Cn.wordsV b)).drop 2) (j + 1)) from (by exact Cn.rest_next hix))) rfl))) (consH rfl (consH rfl (consH (congrArg (fun x => ((11 : Nat), x)) (congrArg (fun x => AObj.row 25 (.intss x)) (show ((Cn.accZ ((Cn.numsW (Cn.wordsV b)).drop 2) j) ++ [(((Cn.restZ ((Cn.numsW (Cn.wordsV b)).drop 2) j).take ((Cn.idxF (fun x => (0 : Int) == x) (Cn.restZ ((Cn.numsW (Cn.wordsV b)).drop 2) j)).toNat)).drop 0)]) = (Cn.accZ ((Cn.numsW (Cn.wordsV b)).drop 2) (j + 1)) from (by rfl)))) (consH rfl (consH rfl rfl))))))
       ·
        skip
        have h14 := of_decide_eq_false hb14
        have hGA := Cn.get_all (j := j) hbad h4 h72 hI (by omega)
        refine tri_exit ?_
        refine fin_then_exit ?_
        refine fin_then_exit ?_
        refine fin_block_same ?_
        refine fin_then ?_
        refine tri_seq ?_
        refine tri_seq ?_
        refine tri_ren (ρ := [(1, .to 1), (2, .to 2), (3, .to 3), (609, .to 609), (989, .to 989), (11, .frz)]) (keys := [78, 2, 3, 4, 9, 10]) (E' := [(78, .bool (decide (((Cn.restZ ((Cn.numsW (Cn.wordsV b)).drop 2) j).length : Int) > 0))), (2, .loc 2 0), (3, .loc 3 0), (4, .loc 1 0), (9, .loc 609 0), (10, .int ((Cn.numsW ((Cn.wordsV b).take ((Cn.wordsV b).length))).getD 1 0))]) (H' := [(1, .box [.ints (Cn.restZ ((Cn.numsW (Cn.wordsV b)).drop 2) j)]), (2, .box [.int 0, .im (.val (.slice none 0 0))]), (3, .box [.int 0]), (609, .box [.int ((Cn.numsW ((Cn.wordsV b).take ((Cn.wordsV b).length))).getD 0 0), .intss (Cn.accZ ((Cn.numsW (Cn.wordsV b)).drop 2) j)]), (989, .other D0 dfr)]) (by kernel_rfl) ?_
        refine tri_regD hcx [] [101] [2, 3, 9] [2, 3, 609, 989] [] [(101, .bool (((Cn.accZ ((Cn.numsW (Cn.wordsV b)).drop 2) j).length : Int) != ((Cn.numsW ((Cn.wordsV b).take ((Cn.wordsV b).length))).getD 1 0)))] [] (by kernel_rfl) ?_ ?_
        ·
         exact az
        refine fin_then ?_
        refine tri_cond (b := (((Cn.accZ ((Cn.numsW (Cn.wordsV b)).drop 2) j).length : Int) != ((Cn.numsW ((Cn.wordsV b).take ((Cn.wordsV b).length))).getD 1 0))) (by kernel_rfl) (fun hb16 => ?_) (fun hb16 => ?_)
        ·
         skip
         have h16 := bne_iff_ne.1 hb16
         rw [htk] at h16
         rw [if_pos h16] at hGA
         have hG := hGA
         refine tri_seq ?_
         refine tri_regD hcx [(2, .to 2), (3, .to 3)] [] [2, 3] [989] [] [] [(2, .box [.int 0, .im (.val (.slice none 0 0))]), (3, .box [.int 11])] (by kernel_rfl) ?_ ?_
         ·
          exact az
         refine fin_then ?_
         refine tri_ret ?_
         refine fin_then_ret ?_
         refine fin_rowB 2 1 700 0 (.intss []) (by kernel_rfl) (by kernel_rfl) (by kernel_rfl) (by kernel_rfl) (H' := [(2, .box [.int 0, .row 700]), (3, .box [.int 11]), (989, .other D0 dfr)]) (by kernel_rfl) ?_
         refine fin_ren (ρ := [(989, .to 989), (2, .to 990), (3, .to 991), (700, .frz)]) (keys := [2, 3]) (E' := [(2, .loc 990 0), (3, .loc 991 0)]) (H' := [(989, .other D0 dfr), (990, .box [.int 0, .intss []]), (991, .box [.int 11])]) (by kernel_rfl) ?_
         exact fin_retM _ rfl [(989, D0)] rfl rfl ⟨rfl, trivial⟩ hcx (avs := [.agg [.int 0, .intss []], .int 11]) (by kernel_rfl) (congrArg AV.tup (consE (congrArg AV.agg (consE (congrArg AV.int (show 0 = (Cn.getV (Cn.wordsV b)).1 from (by first | (rw [hG]; done) | (rw [hG, htk]; done) | (rw [hG, htk]; rfl)))) (consE (congrArg AV.intss (show [] = (Cn.getV (Cn.wordsV b)).2.1 from (by first | (rw [hG]; done) | (rw [hG, htk]; done) | (rw [hG, htk]; rfl)))) rfl))) (consE (congrArg AV.int (show 11 = (Cn.getV (Cn.wordsV b)).2.2 from (by first | (rw [hG]; done) | (rw [hG, htk]; done) | (rw [hG, htk]; rfl)))) rfl))) [] rfl
        ·
         skip
         have h16 := bneF hb16
         rw [htk] at h16
         rw [if_neg (by omega)] at hGA
         refine tri_skip ?_
         refine fin_then ?_
         refine tri_seq ?_
         refine tri_seq ?_
         refine tri_regD hcx [] [12] [2, 3, 9] [2, 3, 609, 989] [((Cn.accZ ((Cn.numsW (Cn.wordsV b)).drop 2) j).length ≤ maxLen ∧ ∀ l ∈ (Cn.accZ ((Cn.numsW (Cn.wordsV b)).drop 2) j), l.length ≤ maxLen)] [(12, .int (Cn.chkV ((Cn.numsW ((Cn.wordsV b).take ((Cn.wordsV b).length))).getD 0 0) (Cn.accZ ((Cn.numsW (Cn.wordsV b)).drop 2) j)))] [] (by kernel_rfl) ?_ ?_
         ·
          refine (ap ?_ az)
          exact ⟨by unfold maxLen; omega, fun l hl => by have := Cn.acc_lens ((Cn.numsW (Cn.wordsV b)).drop 2) j l hl; unfold maxLen; omega⟩ 
         refine fin_then ?_
         refine tri_seq ?_
         refine tri_regD hcx [] [106] [12, 2, 3, 9] [2, 3, 609, 989] [] [(106, .bool ((Cn.chkV ((Cn.numsW ((Cn.wordsV b).take ((Cn.wordsV b).length))).getD 0 0) (Cn.accZ ((Cn.numsW (Cn.wordsV b)).drop 2) j)) != 0))] [] (by kernel_rfl) ?_ ?_
         ·
          exact az
         refine fin_then ?_
         refine tri_cond (b := ((Cn.chkV ((Cn.numsW ((Cn.wordsV b).take ((Cn.wordsV b).length))).getD 0 0) (Cn.accZ ((Cn.numsW (Cn.wordsV b)).drop 2) j)) != 0)) (by kernel_rfl) (fun hb17 => ?_) (fun hb17 => ?_)
         ·
          skip
          have h17 := bne_iff_ne.1 hb17
          rw [htk] at h17
          rw [if_pos h17] at hGA
          have hG := hGA
          refine tri_seq ?_
          refine tri_regD hcx [(2, .to 2), (3, .to 3)] [] [2, 3] [989] [] [] [(2, .box [.int 0, .im (.val (.slice none 0 0))]), (3, .box [.int (Cn.chkV ((Cn.numsW ((Cn.wordsV b).take ((Cn.wordsV b).length))).getD 0 0) (Cn.accZ ((Cn.numsW (Cn.wordsV b)).drop 2) j))])] (by kernel_rfl) ?_ ?_
          ·
           exact az
          refine fin_then ?_
          refine tri_ret ?_
          refine fin_then_ret ?_
          refine fin_rowB 2 1 700 0 (.intss []) (by kernel_rfl) (by kernel_rfl) (by kernel_rfl) (by kernel_rfl) (H' := [(2, .box [.int 0, .row 700]), (3, .box [.int (Cn.chkV ((Cn.numsW ((Cn.wordsV b).take ((Cn.wordsV b).length))).getD 0 0) (Cn.accZ ((Cn.numsW (Cn.wordsV b)).drop 2) j))]), (989, .other D0 dfr)]) (by kernel_rfl) ?_
          refine fin_ren (ρ := [(989, .to 989), (2, .to 990), (3, .to 991), (700, .frz)]) (keys := [2, 3]) (E' := [(2, .loc 990 0), (3, .loc 991 0)]) (H' := [(989, .other D0 dfr), (990, .box [.int 0, .intss []]), (991, .box [.int (Cn.chkV ((Cn.numsW ((Cn.wordsV b).take ((Cn.wordsV b).length))).getD 0 0) (Cn.accZ ((Cn.numsW (Cn.wordsV b)).drop 2) j))])]) (by kernel_rfl) ?_
          exact fin_retM _ rfl [(989, D0)] rfl rfl ⟨rfl, trivial⟩ hcx (avs := [.agg [.int 0, .intss []], .int (Cn.chkV ((Cn.numsW ((Cn.wordsV b).take ((Cn.wordsV b).length))).getD 0 0) (Cn.accZ ((Cn.numsW (Cn.wordsV b)).drop 2) j))]) (by kernel_rfl) (congrArg AV.tup (consE (congrArg AV.agg (consE (congrArg AV.int (show 0 = (Cn.getV (Cn.wordsV b)).1 from (by first | (rw [hG]; done) | (rw [hG, htk]; done) | (rw [hG, htk]; rfl)))) (consE (congrArg AV.intss (show [] = (Cn.getV (Cn.wordsV b)).2.1 from (by first | (rw [hG]; done) | (rw [hG, htk]; done) | (rw [hG, htk]; rfl)))) rfl))) (consE (congrArg AV.int (show (Cn.chkV ((Cn.numsW ((Cn.wordsV b).take ((Cn.wordsV b).length))).getD 0 0) (Cn.accZ ((Cn.numsW (Cn.wordsV b)).drop 2) j)) = (Cn.getV (Cn.wordsV b)).2.2 from (by first | (rw [hG]; done) | (rw [hG, htk]; done) | (rw [hG, htk]; rfl)))) rfl))) [] rfl
         ·
          skip
          have h17 := bneF hb17
          rw [htk] at h17
          rw [if_neg (by omega)] at hGA
          have hG := hGA
          refine tri_skip ?_
          refine fin_then ?_
          refine tri_seq ?_
          refine tri_regD hcx [(2, .to 2), (3, .to 3)] [] [2, 3] [989] [] [] [(2, .box [.int ((Cn.numsW ((Cn.wordsV b).take ((Cn.wordsV b).length))).getD 0 0), .intss (Cn.accZ ((Cn.numsW (Cn.wordsV b)).drop 2) j)]), (3, .box [.int 0])] (by kernel_rfl) ?_ ?_
          ·
           exact az
          refine fin_then ?_
          refine tri_ret ?_
          refine fin_ren (ρ := [(989, .to 989), (2, .to 990), (3, .to 991)]) (keys := [2, 3]) (E' := [(2, .loc 990 0), (3, .loc 991 0)]) (H' := [(989, .other D0 dfr), (990, .box [.int ((Cn.numsW ((Cn.wordsV b).take ((Cn.wordsV b).length))).getD 0 0), .intss (Cn.accZ ((Cn.numsW (Cn.wordsV b)).drop 2) j)]), (991, .box [.int 0])]) (by kernel_rfl) ?_
          exact fin_retM _ rfl [(989, D0)] rfl rfl ⟨rfl, trivial⟩ hcx (avs := [.agg [.int ((Cn.numsW ((Cn.wordsV b).take ((Cn.wordsV b).length))).getD 0 0), .intss (Cn.accZ ((Cn.numsW (Cn.wordsV b)).drop 2) j)], .int 0]) (by kernel_rfl) (congrArg AV.tup (consE (congrArg AV.agg (consE (congrArg AV.int (show ((Cn.numsW ((Cn.wordsV b).take ((Cn.wordsV b).length))).getD 0 0) = (Cn.getV (Cn.wordsV b)).1 from (by first | (rw [hG]; done) | (rw [hG, htk]; done) | (rw [hG, htk]; rfl)))) (consE (congrArg AV.intss (show (Cn.accZ ((Cn.numsW (Cn.wordsV b)).drop 2) j) = (Cn.getV (Cn.wordsV b)).2.1 from (by first | (rw [hG]; done) | (rw [hG, htk]; done) | (rw [hG, htk]; rfl)))) rfl))) (consE (congrArg AV.int (show 0 = (Cn.getV (Cn.wordsV b)).2.2 from (by first | (rw [hG]; done) | (rw [hG, htk]; done) | (rw [hG, htk]; rfl)))) rfl))) [] rfl
 ·
  cases hσ
end Go.Proofs.YtiokflebeojokaaGreatDoor.En
