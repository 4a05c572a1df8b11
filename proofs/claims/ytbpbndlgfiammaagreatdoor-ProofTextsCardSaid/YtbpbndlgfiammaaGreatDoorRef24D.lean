/- The reference of layer 24: reading a proof's text; in the reader's words. -/
import Derived.Test.YtbpbndlgfiammaaGreatDoorEngG
import Derived.Test.YtbpbndlgfiammaaGreatDoorEngRec
import Derived.Test.YtbpbndlgfiammaaGreatDoorProg
import Derived.Test.YtbpbndlgfiammaaGreatDoorTxtC
namespace Go.Proofs.YtbpbndlgfiammaaGreatDoor.En
open Go Go.RowKit
set_option linter.unusedVariables false
set_option linter.unusedSimpArgs false
set_option linter.unnecessarySimpa false
def tyR24D : List (Nat × TD) := [(3, ⟨1, false, [.int .i64 0], [], none, 8, false, 1, 1⟩),
  (5, ⟨1, false, [.int .u8 0], [], none, 1, false, 2, 8⟩),
  (9, ⟨1, false, [.string ⟨#[]⟩], [], none, 16, false, 9, 9⟩),
  (23, ⟨1, false, [.slice none 0 0], [], some 3, 24, false, 0, 3⟩),
  (29, ⟨1, false, [.slice none 0 0], [], some 43, 24, false, 0, 0⟩),
  (34, ⟨1, false, [.slice none 0 0], [], some 5, 24, false, 0, 0⟩),
  (43, ⟨2, true, [.int .i64 0, .slice none 0 0], [(0, 3), (1, 23)], none, 32, false, 0, 7⟩),
  (105, ⟨1, false, [.slice none 0 0], [], some 9, 24, false, 0, 0⟩)]
theorem tyR24D_ok : AllTy Tryz.prog tyR24D := ⟨⟨by kernel_rfl, by kernel_rfl, by kernel_rfl⟩, ⟨by kernel_rfl, by kernel_rfl, by kernel_rfl⟩, ⟨by kernel_rfl, by kernel_rfl, by kernel_rfl⟩, ⟨by kernel_rfl, by kernel_rfl, by kernel_rfl⟩, ⟨by kernel_rfl, by kernel_rfl, by kernel_rfl⟩, ⟨by kernel_rfl, by kernel_rfl, by kernel_rfl⟩, ⟨by kernel_rfl, by kernel_rfl, by kernel_rfl⟩, ⟨by kernel_rfl, by kernel_rfl, by kernel_rfl⟩, trivial⟩
def rNumQ_σ (nn : Nat) : CtF
  | [.im (.val (.string s))], [] => some (s.size ≤ 1000000000 ∧ s.size < nn, .tup [.int ((Cn.rQ (bytesI s)).1), .bool ((Cn.rQ (bytesI s)).2)], [])
  | _, _ => none
def cx_rNumQ (nn : Nat) : Cx := ⟨tyR24D, [(91, (rNumQ_σ nn))], true⟩
theorem cx_rNumQ_ok (nn : Nat) (hR : Sound Tryz.prog 91 (rNumQ_σ nn)) : CxOk Tryz.prog (cx_rNumQ nn) := cx_ok tyR24D_ok ⟨hR, trivial⟩
theorem rNumQ_step (nn : Nat) (hR : Sound Tryz.prog 91 (rNumQ_σ nn)) : Sound Tryz.prog 91 (rNumQ_σ (nn + 1)) := by
 refine sound_mk (cx := (cx_rNumQ nn)) (fn := Tryz.f91) Tryz.func91 (by kernel_rfl) rfl ?_
 intro w0 G0 args os p r outs hσ hp hm0 hd0
 have hcx : CxOk Tryz.prog (cx_rNumQ nn) := cx_rNumQ_ok nn hR
 unfold rNumQ_σ at hσ
 split at hσ
 ·
  rename_i s
  simp only [Option.some.injEq, Prod.mk.injEq] at hσ
  obtain ⟨rfl, rfl, rfl⟩ := hσ
  obtain ⟨wW, wO, wm, wβ, wd⟩ := w0
  replace hm0 : wm = 0 := hm0
  subst hm0
  replace hd0 : wd = [] := hd0
  subst hd0
  refine ⟨by kernel_rfl, ?_⟩
  change Tri ⟨_, _, _, _, _, _⟩ [(0, .im (.val (.string s)))] [] _ _
  obtain ⟨hm1, hsz⟩ := hp
  have hbl : (bytesI s).length = s.size := bytesI_len s
  have hbd := Cn.rQ_bd (bytesI s)
  refine tri_seq ?_
  refine tri_regD hcx [] [] [0] [] [] [] [] (by kernel_rfl) ?_ ?_
  ·
   exact az
  refine fin_then ?_
  refine tri_seq ?_
  refine tri_seq ?_
  refine tri_regD hcx [] [15] [0] [] [((decide ((s.size : Int) > 0)) = true → ((decide ((s.size : Int) > 0)) = true)), ((decide ((s.size : Int) > 0)) = true → ((0 : Int) ≤ 0 ∧ 0 < (s.size : Int))), ((decide ((s.size : Int) > 0)) = true → ((decide ((s.size : Int) > 0)) = true)), ((decide ((s.size : Int) > 0)) = true → (decide ((s.size : Int) > 0)) = true)] [(15, .bool ((decide ((s.size : Int) > 0)) && (((bytesI s).getD 0 0) == 45)))] [] (by kernel_rfl) ?_ ?_
  ·
   refine (ap ?_ (ap ?_ (ap ?_ (ap (by exact id) az))))
   all_goals
    first | exact id | (intro h; simp at h; omega)
  refine fin_then ?_
  refine tri_cond (b := ((decide ((s.size : Int) > 0)) && (((bytesI s).getD 0 0) == 45))) (by kernel_rfl) (fun hb0 => ?_) (fun hb0 => ?_)
  ·
   skip
   have h0 := hb0
   have hM : (decide (((bytesI s).length : Int) > 0) && ((bytesI s).getD 0 0 == 45)) = true := by rw [hbl]; exact h0
   have hr := Cn.rQ_minus hM
   have hd := Cn.bytesI_drop s
   have hpos := Cn.pos_of h0
   have hex := Cn.ext_size hpos
   have hb2 := Cn.rQ_bd (bytesI (s.extract 1 s.size))
   refine tri_seq ?_
   refine tri_regD hcx [] [4, 5] [] [] [((0 : Int) ≤ 1 ∧ 1 ≤ (s.size : Int)), ((s.extract 1 s.size).size ≤ 1000000000 ∧ (s.extract 1 s.size).size < nn)] [(4, .int ((Cn.rQ (bytesI (s.extract 1 s.size))).1)), (5, .bool ((Cn.rQ (bytesI (s.extract 1 s.size))).2))] [] (by kernel_rfl) ?_ ?_
   ·
    refine (ap ?_ (ap ?_ az))
    all_goals
     omega
   refine fin_then ?_
   refine tri_seq ?_
   refine tri_regD hcx [] [2, 3] [] [] [Fit (-((Cn.rQ (bytesI (s.extract 1 s.size))).1)), ((Cn.rQ (bytesI (s.extract 1 s.size))).2 = true → ((Cn.rQ (bytesI (s.extract 1 s.size))).2 = true)), ((Cn.rQ (bytesI (s.extract 1 s.size))).2 = true → (Cn.rQ (bytesI (s.extract 1 s.size))).2 = true)] [(2, .int (-((Cn.rQ (bytesI (s.extract 1 s.size))).1))), (3, .bool (((Cn.rQ (bytesI (s.extract 1 s.size))).2) && (decide ((Cn.rQ (bytesI (s.extract 1 s.size))).1 > 0))))] [] (by kernel_rfl) ?_ ?_
   ·
    refine (ap ?_ (ap ?_ (ap (by exact id) az)))
    all_goals
     first | omega | exact id
   refine fin_then ?_
   refine tri_ret ?_
   refine fin_then_ret ?_
   exact fin_ret [] rfl rfl trivial hcx (avs := [.int (-((Cn.rQ (bytesI (s.extract 1 s.size))).1)), .bool (((Cn.rQ (bytesI (s.extract 1 s.size))).2) && (decide ((Cn.rQ (bytesI (s.extract 1 s.size))).1 > 0)))]) (by kernel_rfl) (congrArg AV.tup (consE (congrArg AV.int (show (-((Cn.rQ (bytesI (s.extract 1 s.size))).1)) = (Cn.rQ (bytesI s)).1 from (by first | (rw [hr, hd]; done) | (rw [Cn.rQ_plain hM, Cn.numQ_bad hB]; done) | (rw [Cn.rQ_plain hM, Cn.numQ_no hB (by omega) hq]; done) | (rw [Cn.rQ_plain hM, Cn.numQ_yes hB (by omega) hok]; done) | done))) (consE (congrArg AV.bool (show (((Cn.rQ (bytesI (s.extract 1 s.size))).2) && (decide ((Cn.rQ (bytesI (s.extract 1 s.size))).1 > 0))) = (Cn.rQ (bytesI s)).2 from (by first | (rw [hr, hd]; done) | (rw [Cn.rQ_plain hM, Cn.numQ_bad hB]; done) | (rw [Cn.rQ_plain hM, Cn.numQ_no hB (by omega) hq]; done) | (rw [Cn.rQ_plain hM, Cn.numQ_yes hB (by omega) hok]; done) | done))) rfl))) [] rfl
  ·
   skip
   have h0 := hb0
   have hM : (decide (((bytesI s).length : Int) > 0) && ((bytesI s).getD 0 0 == 45)) = false := by rw [hbl]; exact h0
   refine tri_skip ?_
   refine fin_then ?_
   refine tri_seq ?_
   refine tri_seq ?_
   refine tri_regD hcx [] [46] [0] [] [((!(decide ((s.size : Int) < 1))) = true → ((!(decide ((s.size : Int) < 1))) = true)), ((!(decide ((s.size : Int) < 1))) = true → ((!(decide ((s.size : Int) < 1))) = true)), ((decide ((s.size : Int) < 1)) = false → (!(decide ((s.size : Int) < 1))) = true), ((!((decide ((s.size : Int) < 1)) || (decide ((s.size : Int) > 5)))) = true → ((!((decide ((s.size : Int) < 1)) || (decide ((s.size : Int) > 5)))) = true)), ((!((decide ((s.size : Int) < 1)) || (decide ((s.size : Int) > 5)))) = true → ((!((decide ((s.size : Int) < 1)) || (decide ((s.size : Int) > 5)))) = true)), ((!((decide ((s.size : Int) < 1)) || (decide ((s.size : Int) > 5)))) = true → ((!((decide ((s.size : Int) < 1)) || (decide ((s.size : Int) > 5)))) = true)), (((!((decide ((s.size : Int) < 1)) || (decide ((s.size : Int) > 5)))) && (decide ((s.size : Int) > 1))) = true → (((!((decide ((s.size : Int) < 1)) || (decide ((s.size : Int) > 5)))) && (decide ((s.size : Int) > 1))) = true)), (((!((decide ((s.size : Int) < 1)) || (decide ((s.size : Int) > 5)))) && (decide ((s.size : Int) > 1))) = true → ((0 : Int) ≤ 0 ∧ 0 < (s.size : Int))), (((!((decide ((s.size : Int) < 1)) || (decide ((s.size : Int) > 5)))) && (decide ((s.size : Int) > 1))) = true → (((!((decide ((s.size : Int) < 1)) || (decide ((s.size : Int) > 5)))) && (decide ((s.size : Int) > 1))) = true)), ((!((decide ((s.size : Int) < 1)) || (decide ((s.size : Int) > 5)))) = true → ((!((decide ((s.size : Int) < 1)) || (decide ((s.size : Int) > 5)))) = true)), ((!((decide ((s.size : Int) < 1)) || (decide ((s.size : Int) > 5)))) = true → ((decide ((s.size : Int) > 1)) = true → ((!((decide ((s.size : Int) < 1)) || (decide ((s.size : Int) > 5)))) && (decide ((s.size : Int) > 1))) = true)), (((decide ((s.size : Int) < 1)) || (decide ((s.size : Int) > 5))) = false → (!((decide ((s.size : Int) < 1)) || (decide ((s.size : Int) > 5)))) = true)] [(46, .bool (((decide ((s.size : Int) < 1)) || (decide ((s.size : Int) > 5))) || ((decide ((s.size : Int) > 1)) && (((bytesI s).getD 0 0) == 48))))] [] (by kernel_rfl) ?_ ?_
   ·
    refine (ap ?_ (ap ?_ (ap (by exact vcNot) (ap ?_ (ap ?_ (ap ?_ (ap ?_ (ap ?_ (ap ?_ (ap ?_ (ap ?_ (ap (by exact vcNot) az))))))))))))
    all_goals
     first | exact id | exact vcH | (intro h; simp at h; omega)
   refine fin_then ?_
   refine tri_cond (b := (((decide ((s.size : Int) < 1)) || (decide ((s.size : Int) > 5))) || ((decide ((s.size : Int) > 1)) && (((bytesI s).getD 0 0) == 48)))) (by kernel_rfl) (fun hb1 => ?_) (fun hb1 => ?_)
   ·
    skip
    have h1 := hb1
    have hB : Cn.badQ (bytesI s) = true := by unfold Cn.badQ; rw [hbl]; exact h1
    refine tri_seq ?_
    refine tri_regD hcx [] [2, 3] [] [] [] [(2, .int 0), (3, .bool false)] [] (by kernel_rfl) ?_ ?_
    ·
     exact az
    refine fin_then ?_
    refine tri_ret ?_
    refine fin_then_ret ?_
    exact fin_ret [] rfl rfl trivial hcx (avs := [.int 0, .bool false]) (by kernel_rfl) (congrArg AV.tup (consE (congrArg AV.int (show 0 = (Cn.rQ (bytesI s)).1 from (by first | (rw [hr, hd]; done) | (rw [Cn.rQ_plain hM, Cn.numQ_bad hB]; done) | (rw [Cn.rQ_plain hM, Cn.numQ_no hB (by omega) hq]; done) | (rw [Cn.rQ_plain hM, Cn.numQ_yes hB (by omega) hok]; done) | done))) (consE (congrArg AV.bool (show false = (Cn.rQ (bytesI s)).2 from (by first | (rw [hr, hd]; done) | (rw [Cn.rQ_plain hM, Cn.numQ_bad hB]; done) | (rw [Cn.rQ_plain hM, Cn.numQ_no hB (by omega) hq]; done) | (rw [Cn.rQ_plain hM, Cn.numQ_yes hB (by omega) hok]; done) | done))) rfl))) [] rfl
   ·
    skip
    have h1 := hb1
    have hB : Cn.badQ (bytesI s) = false := by unfold Cn.badQ; rw [hbl]; exact h1
    have hL := Cn.badQ_len hB
    refine tri_skip ?_
    refine fin_then ?_
    refine tri_seq ?_
    refine tri_regD hcx [] [6] [0] [] [] [(6, .int 0)] [] (by kernel_rfl) ?_ ?_
    ·
     exact az
    refine fin_then ?_
    refine tri_seq ?_
    refine tri_seq ?_
    refine tri_regD hcx [] [48, 49] [6, 0] [] [] [(48, .int (s.size : Int)), (49, .int 0)] [] (by kernel_rfl) ?_ ?_
    ·
     exact az
    refine fin_then ?_
    refine tri_block ?_
    refine tri_loop (X := Nat) (fun x0 => x0 ≤ s.size ∧ ∀ j, j < x0 → Cn.isDg ((bytesI s).getD j 0) = true) (fun x0 => [(0, .im (.val (.string s))), (6, .int (Cn.dval ((bytesI s).take x0))), (48, .int (s.size : Int)), (49, .int (x0 : Int))]) (fun x0 => []) (fun x0 => s.size - x0) (0) ?_ ?_ ?_ ?_
    ·
     show 0 ≤ s.size ∧ ∀ j, j < 0 → Cn.isDg ((bytesI s).getD j 0) = true
     exact ⟨Nat.zero_le _, fun j hj => by omega⟩
    ·
     exact subE_mk (l := [.im (.val (.string s)), .int 0, .int (s.size : Int), .int 0]) (m := [.im (.val (.string s)), .int (Cn.dval ((bytesI s).take 0)), .int (s.size : Int), .int (0 : Int)]) (by kernel_rfl) (by kernel_rfl) (consE rfl (consE (congrArg AV.int (show 0 = (Cn.dval ((bytesI s).take 0)) from (by rfl))) (consE rfl (consE (congrArg AV.int (show 0 = (0 : Int) from (by first | rfl | omega | (simp; done)))) rfl))))
    ·
     kernel_rfl
    ·
     intro k hI
     replace hI : k ≤ s.size ∧ ∀ j, j < k → Cn.isDg ((bytesI s).getD j 0) = true := hI
     change Tri _ [(0, .im (.val (.string s))), (6, .int (Cn.dval ((bytesI s).take k))), (48, .int (s.size : Int)), (49, .int (k : Int))] [] _ _
     obtain ⟨hk, hok⟩ := hI
     have hdb := Cn.dval_lt (k := k) hok (by omega) (by omega)
     refine tri_seq ?_
     refine tri_regD hcx [] [50] [0, 6, 48, 49] [] [] [(50, .bool (decide ((k : Int) < (s.size : Int))))] [] (by kernel_rfl) ?_ ?_
     ·
      exact az
     refine fin_then ?_
     refine tri_seq ?_
     refine tri_cond (b := (decide ((k : Int) < (s.size : Int)))) (by kernel_rfl) (fun hb2 => ?_) (fun hb2 => ?_)
     ·
      skip
      have h2 := of_decide_eq_true hb2
      refine tri_skip ?_
      refine fin_then ?_
      refine tri_seq ?_
      refine tri_block ?_
      refine tri_seq ?_
      refine tri_regD hcx [] [7] [0, 6, 48, 49] [] [] [(7, .int (k : Int))] [] (by kernel_rfl) ?_ ?_
      ·
       exact az
      refine fin_then ?_
      refine tri_seq ?_
      refine tri_seq ?_
      refine tri_regD hcx [] [61] [7, 0, 6, 48, 49] [] [((0 : Int) ≤ (k : Int) ∧ (k : Int) < (s.size : Int)), ((!(decide (((bytesI s).getD k 0) < 48))) = true → ((!(decide (((bytesI s).getD k 0) < 48))) = true)), ((!(decide (((bytesI s).getD k 0) < 48))) = true → ((!(decide (((bytesI s).getD k 0) < 48))) = true)), ((!(decide (((bytesI s).getD k 0) < 48))) = true → ((0 : Int) ≤ (k : Int) ∧ (k : Int) < (s.size : Int))), ((!(decide (((bytesI s).getD k 0) < 48))) = true → ((!(decide (((bytesI s).getD k 0) < 48))) = true)), ((decide (((bytesI s).getD k 0) < 48)) = false → (!(decide (((bytesI s).getD k 0) < 48))) = true)] [(61, .bool ((decide (((bytesI s).getD k 0) < 48)) || (decide (((bytesI s).getD k 0) > 57))))] [] (by kernel_rfl) ?_ ?_
      ·
       refine (ap ?_ (ap ?_ (ap ?_ (ap ?_ (ap ?_ (ap (by exact vcNot) az))))))
       all_goals
        first | omega | exact id
      refine fin_then ?_
      refine tri_cond (b := ((decide (((bytesI s).getD k 0) < 48)) || (decide (((bytesI s).getD k 0) > 57)))) (by kernel_rfl) (fun hb3 => ?_) (fun hb3 => ?_)
      ·
       skip
       have h3 := hb3
       have hq : Cn.isDg ((bytesI s).getD k 0) = false := Cn.dig_no h3
       refine tri_seq ?_
       refine tri_regD hcx [] [2, 3] [] [] [] [(2, .int 0), (3, .bool false)] [] (by kernel_rfl) ?_ ?_
       ·
        exact az
       refine fin_then ?_
       refine tri_ret ?_
       refine fin_then_ret ?_
       refine fin_block_ret ?_
       refine fin_then_ret ?_
       refine fin_then_ret ?_
       refine fin_block_ret ?_
       refine fin_then_ret ?_
       exact fin_ret [] rfl rfl trivial hcx (avs := [.int 0, .bool false]) (by kernel_rfl) (congrArg AV.tup (consE (congrArg AV.int (show 0 = (Cn.rQ (bytesI s)).1 from (by first | (rw [hr, hd]; done) | (rw [Cn.rQ_plain hM, Cn.numQ_bad hB]; done) | (rw [Cn.rQ_plain hM, Cn.numQ_no hB (by omega) hq]; done) | (rw [Cn.rQ_plain hM, Cn.numQ_yes hB (by omega) hok]; done) | done))) (consE (congrArg AV.bool (show false = (Cn.rQ (bytesI s)).2 from (by first | (rw [hr, hd]; done) | (rw [Cn.rQ_plain hM, Cn.numQ_bad hB]; done) | (rw [Cn.rQ_plain hM, Cn.numQ_no hB (by omega) hq]; done) | (rw [Cn.rQ_plain hM, Cn.numQ_yes hB (by omega) hok]; done) | done))) rfl))) [] rfl
      ·
       skip
       have h3 := hb3
       have hq : Cn.isDg ((bytesI s).getD k 0) = true := Cn.dig_of h3
       have hc := Cn.dig_f hq
       refine tri_skip ?_
       refine fin_then ?_
       refine tri_regD hcx [] [6] [0, 48, 49] [] [Fit (10 * (Cn.dval ((bytesI s).take k))), ((0 : Int) ≤ (k : Int) ∧ (k : Int) < (s.size : Int)), inK .u8 (((bytesI s).getD k 0) - 48), inK .i64 (((bytesI s).getD k 0) - 48), Fit ((10 * (Cn.dval ((bytesI s).take k))) + (((bytesI s).getD k 0) - 48))] [(6, .int ((10 * (Cn.dval ((bytesI s).take k))) + (((bytesI s).getD k 0) - 48)))] [] (by kernel_rfl) ?_ ?_
       ·
        refine (ap ?_ (ap ?_ (ap ?_ (ap ?_ (ap ?_ az)))))
        all_goals
         first | omega | (constructor <;> omega)
       refine fin_block ?_
       refine fin_then ?_
       refine tri_regD hcx [] [49] [6, 0, 48] [] [Fit ((k : Int) + 1)] [(49, .int ((k : Int) + 1))] [] (by kernel_rfl) ?_ ?_
       ·
        refine (ap ?_ az)
        omega
       refine fin_round (k + 1) ?_ ?_ ?_ ?_
       ·
        show (k + 1) ≤ s.size ∧ ∀ j, j < (k + 1) → Cn.isDg ((bytesI s).getD j 0) = true
        exact ⟨by omega, fun j hj => by rcases (by omega : j < k ∨ j = k) with h | rfl; exact hok j h; exact hq⟩
       ·
        show s.size - (k + 1) < s.size - k
        omega
       ·
        exact subE_mk (l := [.im (.val (.string s)), .int ((10 * (Cn.dval ((bytesI s).take k))) + (((bytesI s).getD k 0) - 48)), .int (s.size : Int), .int ((k : Int) + 1)]) (m := [.im (.val (.string s)), .int (Cn.dval ((bytesI s).take (k + 1))), .int (s.size : Int), .int ((k + 1) : Int)]) (by kernel_rfl) (by kernel_rfl) (consE rfl (consE (congrArg AV.int (show ((10 * (Cn.dval ((bytesI s).take k))) + (((bytesI s).getD k 0) - 48)) = (Cn.dval ((bytesI s).take (k + 1))) from (by (rw [Cn.dval_take (by omega)]; done)))) (consE rfl (consE (congrArg AV.int (show ((k : Int) + 1) = ((k + 1) : Int) from (by first | rfl | omega | (simp; done)))) rfl))))
       ·
        kernel_rfl
     ·
      skip
      have h2 := of_decide_eq_false hb2
      refine tri_exit ?_
      refine fin_then_exit ?_
      refine fin_then_exit ?_
      refine fin_block_same ?_
      refine fin_then ?_
      refine tri_seq ?_
      refine tri_regD hcx [] [2, 3] [] [] [] [(2, .int (Cn.dval ((bytesI s).take k))), (3, .bool (decide ((Cn.dval ((bytesI s).take k)) ≤ 65536)))] [] (by kernel_rfl) ?_ ?_
      ·
       exact az
      refine fin_then ?_
      refine tri_ret ?_
      exact fin_ret [] rfl rfl trivial hcx (avs := [.int (Cn.dval ((bytesI s).take k)), .bool (decide ((Cn.dval ((bytesI s).take k)) ≤ 65536))]) (by kernel_rfl) (congrArg AV.tup (consE (congrArg AV.int (show (Cn.dval ((bytesI s).take k)) = (Cn.rQ (bytesI s)).1 from (by first | (rw [hr, hd]; done) | (rw [Cn.rQ_plain hM, Cn.numQ_bad hB]; done) | (rw [Cn.rQ_plain hM, Cn.numQ_no hB (by omega) hq]; done) | (rw [Cn.rQ_plain hM, Cn.numQ_yes hB (by omega) hok]; done) | done))) (consE (congrArg AV.bool (show (decide ((Cn.dval ((bytesI s).take k)) ≤ 65536)) = (Cn.rQ (bytesI s)).2 from (by first | (rw [hr, hd]; done) | (rw [Cn.rQ_plain hM, Cn.numQ_bad hB]; done) | (rw [Cn.rQ_plain hM, Cn.numQ_no hB (by omega) hq]; done) | (rw [Cn.rQ_plain hM, Cn.numQ_yes hB (by omega) hok]; done) | done))) rfl))) [] rfl
 ·
  cases hσ
theorem rNumQ_all : ∀ nn, Sound Tryz.prog 91 (rNumQ_σ nn) := sound_rec (sound_none (fn := Tryz.f91) Tryz.func91 (by kernel_rfl) rfl (fun args os p r outs hσ hp => by
  unfold rNumQ_σ at hσ
  split at hσ
  · simp only [Option.some.injEq, Prod.mk.injEq] at hσ
    obtain ⟨rfl, rfl, rfl⟩ := hσ
    exact absurd hp.2 (Nat.not_lt_zero _)
  · cases hσ)) rNumQ_step
def rNumQ_τ : CtF
  | [.im (.val (.string s))], [] => some (s.size ≤ 1000000000, .tup [.int ((Cn.rQ (bytesI s)).1), .bool ((Cn.rQ (bytesI s)).2)], [])
  | _, _ => none
theorem rNumQ_sound : Sound Tryz.prog 91 rNumQ_τ := sound_all rNumQ_all (fun args os p r outs hσ hp => by
  unfold rNumQ_τ at hσ
  split at hσ
  · rename_i s
    simp only [Option.some.injEq, Prod.mk.injEq] at hσ
    obtain ⟨rfl, rfl, rfl⟩ := hσ
    exact ⟨s.size + 1, _, rfl, ⟨hp, Nat.lt_succ_self _⟩⟩
  · cases hσ)
def cx_rLineQ : Cx := ⟨tyR24D, [(91, rNumQ_τ)], true⟩
theorem cx_rLineQ_ok : CxOk Tryz.prog cx_rLineQ := cx_ok tyR24D_ok ⟨rNumQ_sound, trivial⟩
def rLineQ_σ : CtF
  | [.im (.val (.string s))], [] => some (s.size ≤ 1000000, .tup [.agg [.int (Cn.rfK (bytesI s)), .ints (Cn.lnL (bytesI s))], .bool (Cn.lnOk (bytesI s))], [])
  | _, _ => none
set_option maxRecDepth 20000 in
theorem rLineQ_sound : Sound Tryz.prog 59 rLineQ_σ := by
 refine sound_mk (cx := cx_rLineQ) (fn := Tryz.f59) Tryz.func59 (by kernel_rfl) rfl ?_
 intro w0 G0 args os p r outs hσ hp hm0 hd0
 have hcx : CxOk Tryz.prog cx_rLineQ := cx_rLineQ_ok
 unfold rLineQ_σ at hσ
 split at hσ
 ·
  rename_i s
  simp only [Option.some.injEq, Prod.mk.injEq] at hσ
  obtain ⟨rfl, rfl, rfl⟩ := hσ
  obtain ⟨wW, wO, wm, wβ, wd⟩ := w0
  replace hm0 : wm = 0 := hm0
  subst hm0
  replace hd0 : wd = [] := hd0
  subst hd0
  refine ⟨by kernel_rfl, ?_⟩
  change Tri ⟨_, _, _, _, _, _⟩ [(0, .im (.val (.string s)))] [] _ _
  have hm1 := hp
  have hbl : (bytesI s).length = s.size := bytesI_len s
  obtain ⟨hl1, hl2, hl3⟩ := Cn.ws_facts s
  have hml := Cn.mid_lenS s
  refine tri_seq ?_
  refine tri_regD hcx [(1000, .to 602)] [2] [0] [] [] [(2, .loc 602 0)] [(602, .box [.int 0, .im (.val (.slice none 0 0))])] (by kernel_rfl) ?_ ?_
  ·
   exact az
  refine fin_then ?_
  refine tri_seq ?_
  refine tri_regD hcx [] [4] [2, 0] [602] [] [(4, .im (.val (.slice none 0 0)))] [] (by kernel_rfl) ?_ ?_
  ·
   exact az
  refine fin_then ?_
  refine tri_seq ?_
  refine tri_regD hcx [] [5] [4, 2, 0] [602] [] [(5, .im (.val (.string (⟨#[]⟩ : ByteArray))))] [] (by kernel_rfl) ?_ ?_
  ·
   exact az
  refine fin_then ?_
  refine tri_seq ?_
  refine tri_seq ?_
  refine tri_regD hcx [] [6] [5, 4, 2, 0] [602] [] [(6, .int 0)] [] (by kernel_rfl) ?_ ?_
  ·
   exact az
  refine fin_then ?_
  refine tri_block ?_
  refine tri_row 4 700 9 (.strs []) (by kernel_rfl) (by kernel_rfl) (by kernel_rfl) (by kernel_rfl) (E' := [(6, .int 0), (5, .im (.val (.string (⟨#[]⟩ : ByteArray)))), (4, .row 700), (2, .loc 602 0), (0, .im (.val (.string s)))]) (by kernel_rfl) ?_
  refine tri_ren (ρ := [(602, .to 602), (700, .to 700)]) (keys := [0, 2, 4, 5, 6]) (E' := [(0, .im (.val (.string s))), (2, .loc 602 0), (4, .row 700), (5, .im (.val (.string (⟨#[]⟩ : ByteArray)))), (6, .int 0)]) (H' := [(602, .box [.int 0, .im (.val (.slice none 0 0))]), (700, .row 9 (.strs []))]) (by kernel_rfl) ?_
  refine tri_loop (X := Nat) (fun x0 => x0 ≤ s.size + 1) (fun x0 => [(0, .im (.val (.string s))), (2, .loc 602 0), (4, .row 700), (5, .im (.val (.string (strOfNums (Cn.spS (bytesI s) x0).2)))), (6, .int (x0 : Int))]) (fun x0 => [(602, .box [.int 0, .im (.val (.slice none 0 0))]), (700, .row 9 (.strs ((Cn.spS (bytesI s) x0).1.map strOfNums)))]) (fun x0 => s.size + 1 - x0) (0) ?_ ?_ ?_ ?_
  ·
   show 0 ≤ s.size + 1
   omega
  ·
   exact subE_mk (l := [.im (.val (.string s)), .loc 602 0, .row 700, .im (.val (.string (⟨#[]⟩ : ByteArray))), .int 0]) (m := [.im (.val (.string s)), .loc 602 0, .row 700, .im (.val (.string (strOfNums (Cn.spS (bytesI s) 0).2))), .int (0 : Int)]) (by kernel_rfl) (by kernel_rfl) (consE rfl (consE rfl (consE rfl (consE (congrArg (fun x => AV.im (.val (.string x))) (show (⟨#[]⟩ : ByteArray) = (strOfNums (Cn.spS (bytesI s) 0).2) from (by rfl))) (consE (congrArg AV.int (show 0 = (0 : Int) from (by first | rfl | omega | (simp; done)))) rfl)))))
  ·
   exact Eq.trans (show _ = [(602, .box [.int 0, .im (.val (.slice none 0 0))]), (700, .row 9 (.strs []))] from by kernel_rfl) (consH rfl (consH (congrArg (fun x => ((700 : Nat), x)) (congrArg (fun x => AObj.row 9 (.strs x)) (show [] = ((Cn.spS (bytesI s) 0).1.map strOfNums) from (by rfl)))) rfl))
  ·
   intro i hI
   replace hI : i ≤ s.size + 1 := hI
   change Tri _ [(0, .im (.val (.string s))), (2, .loc 602 0), (4, .row 700), (5, .im (.val (.string (strOfNums (Cn.spS (bytesI s) i).2)))), (6, .int (i : Int))] [(602, .box [.int 0, .im (.val (.slice none 0 0))]), (700, .row 9 (.strs ((Cn.spS (bytesI s) i).1.map strOfNums)))] _ _
   have hwl := Cn.sp_len (bytesI s) i
   have hsz := Cn.str_size (Cn.spS (bytesI s) i).2
   have hml2 : ((Cn.spS (bytesI s) i).1.map strOfNums).length = (Cn.spS (bytesI s) i).1.length := List.length_map ..
   refine tri_seq ?_
   refine tri_seq ?_
   refine tri_regD hcx [] [15] [0, 2, 4, 5, 6] [602, 700] [] [(15, .bool (decide ((i : Int) ≤ (s.size : Int))))] [] (by kernel_rfl) ?_ ?_
   ·
    exact az
   refine fin_then ?_
   refine tri_cond (b := (decide ((i : Int) ≤ (s.size : Int)))) (by kernel_rfl) (fun hb0 => ?_) (fun hb0 => ?_)
   ·
    skip
    have h0 := of_decide_eq_true hb0
    refine tri_skip ?_
    refine fin_then ?_
    refine tri_seq ?_
    refine tri_block ?_
    refine tri_seq ?_
    refine tri_seq ?_
    refine tri_regD hcx [] [27] [0, 2, 4, 5, 6] [602, 700] [((decide ((i : Int) < (s.size : Int))) = true → ((decide ((i : Int) < (s.size : Int))) = true)), ((decide ((i : Int) < (s.size : Int))) = true → ((decide ((i : Int) < (s.size : Int))) = true)), ((decide ((i : Int) < (s.size : Int))) = true → ((0 : Int) ≤ (i : Int) ∧ (i : Int) < (s.size : Int))), ((decide ((i : Int) < (s.size : Int))) = true → ((decide ((i : Int) < (s.size : Int))) = true)), ((decide ((i : Int) < (s.size : Int))) = true → (decide ((i : Int) < (s.size : Int))) = true)] [(27, .bool ((decide ((i : Int) < (s.size : Int))) && (((bytesI s).getD i 0) != 32)))] [] (by kernel_rfl) ?_ ?_
    ·
     refine (ap ?_ (ap ?_ (ap ?_ (ap ?_ (ap (by exact id) az)))))
     all_goals
      first | exact id | (intro h; simp at h; omega)
    refine fin_then ?_
    refine tri_cond (b := ((decide ((i : Int) < (s.size : Int))) && (((bytesI s).getD i 0) != 32))) (by kernel_rfl) (fun hb1 => ?_) (fun hb1 => ?_)
    ·
     skip
     have h1 := hb1
     have hs : (decide ((i : Int) < ((bytesI s).length : Int)) && ((bytesI s).getD i 0 != 32)) = true := by rw [hbl]; exact h1
     have hlt := Cn.lt_of_and h1
     have hex := Cn.ext_one hlt
     refine tri_seq ?_
     refine tri_regD hcx [] [5] [0, 2, 4, 6] [602, 700] [Fit ((i : Int) + 1), ((0 : Int) ≤ (i : Int) ∧ (i : Int) ≤ ((i : Int) + 1) ∧ ((i : Int) + 1) ≤ (s.size : Int)), ((strOfNums (Cn.spS (bytesI s) i).2).size + (s.extract i (i + 1)).size ≤ maxLen)] [(5, .im (.val (.string ((strOfNums (Cn.spS (bytesI s) i).2) ++ (s.extract i (i + 1))))))] [] (by kernel_rfl) ?_ ?_
     ·
      refine (ap ?_ (ap ?_ (ap ?_ az)))
      all_goals
       first | omega | (rw [hex, hsz]; unfold maxLen; omega)
     refine fin_then ?_
     refine tri_exit ?_
     refine fin_then_exit ?_
     refine fin_block_same ?_
     refine fin_then ?_
     refine tri_regD hcx [] [6] [5, 0, 2, 4] [602, 700] [Fit ((i : Int) + 1)] [(6, .int ((i : Int) + 1))] [] (by kernel_rfl) ?_ ?_
     ·
      refine (ap ?_ az)
      omega
     refine fin_round (i + 1) ?_ ?_ ?_ ?_
     ·
      show (i + 1) ≤ s.size + 1
      omega
     ·
      show s.size + 1 - (i + 1) < s.size + 1 - i
      omega
     ·
      exact subE_mk (l := [.im (.val (.string s)), .loc 602 0, .row 700, .im (.val (.string ((strOfNums (Cn.spS (bytesI s) i).2) ++ (s.extract i (i + 1))))), .int ((i : Int) + 1)]) (m := [.im (.val (.string s)), .loc 602 0, .row 700, .im (.val (.string (strOfNums (Cn.spS (bytesI s) (i + 1)).2))), .int ((i + 1) : Int)]) (by kernel_rfl) (by kernel_rfl) (consE rfl (consE rfl (consE rfl (consE (congrArg (fun x => AV.im (.val (.string x))) (show ((strOfNums (Cn.spS (bytesI s) i).2) ++ (s.extract i (i + 1))) = (strOfNums (Cn.spS (bytesI s) (i + 1)).2) from (by first | (rw [Cn.spS_1 hs]; exact Cn.sp_str hlt) | (rw [Cn.spS_0 hs]; rfl)))) (consE (congrArg AV.int (show ((i : Int) + 1) = ((i + 1) : Int) from (by first | rfl | omega | (simp; done)))) rfl)))))
     ·
      exact Eq.trans (show _ = [(602, .box [.int 0, .im (.val (.slice none 0 0))]), (700, .row 9 (.strs ((Cn.spS (bytesI s) i).1.map strOfNums)))] from by kernel_rfl) (consH rfl (consH (congrArg (fun x => ((700 : Nat), x)) (congrArg (fun x => AObj.row 9 (.strs x)) (show ((Cn.spS (bytesI s) i).1.map strOfNums) = ((Cn.spS (bytesI s) (i + 1)).1.map strOfNums) from (by first | (rw [Cn.spS_1 hs]; done) | (rw [Cn.spS_0 hs]; simp))))) rfl))
    ·
     skip
     have h1 := hb1
     have hs : (decide ((i : Int) < ((bytesI s).length : Int)) && ((bytesI s).getD i 0 != 32)) = false := by rw [hbl]; exact h1
     refine tri_skip ?_
     refine fin_then ?_
     refine tri_seq ?_
     refine tri_regD hcx [(1003, .to 700)] [4] [0, 2, 6] [602] [((((Cn.spS (bytesI s) i).1.map strOfNums).length + [(strOfNums (Cn.spS (bytesI s) i).2)].length) * 16 ≤ 140737488355328)] [(4, .row 700)] [(700, .row 9 (.strs (((Cn.spS (bytesI s) i).1.map strOfNums) ++ [(strOfNums (Cn.spS (bytesI s) i).2)])))] (by kernel_rfl) ?_ ?_
     ·
      refine (ap ?_ az)
      (simp only [List.length_cons, List.length_nil, List.length_append, List.length_map, List.length_set, List.length_replicate]; omega)
     refine fin_then ?_
     refine tri_regD hcx [] [5] [4, 0, 2, 6] [700, 602] [] [(5, .im (.val (.string (⟨#[]⟩ : ByteArray))))] [] (by kernel_rfl) ?_ ?_
     ·
      exact az
     refine fin_block ?_
     refine fin_then ?_
     refine tri_regD hcx [] [6] [5, 4, 0, 2] [700, 602] [Fit ((i : Int) + 1)] [(6, .int ((i : Int) + 1))] [] (by kernel_rfl) ?_ ?_
     ·
      refine (ap ?_ az)
      omega
     refine fin_ren (ρ := [(602, .to 602), (700, .to 700)]) (keys := [0, 2, 4, 5, 6]) (E' := [(0, .im (.val (.string s))), (2, .loc 602 0), (4, .row 700), (5, .im (.val (.string (⟨#[]⟩ : ByteArray)))), (6, .int ((i : Int) + 1))]) (H' := [(602, .box [.int 0, .im (.val (.slice none 0 0))]), (700, .row 9 (.strs (((Cn.spS (bytesI s) i).1.map strOfNums) ++ [(strOfNums (Cn.spS (bytesI s) i).2)])))]) (by kernel_rfl) ?_
     refine fin_round (i + 1) ?_ ?_ ?_ ?_
     ·
      show (i + 1) ≤ s.size + 1
      omega
     ·
      show s.size + 1 - (i + 1) < s.size + 1 - i
      omega
     ·
      exact subE_mk (l := [.im (.val (.string s)), .loc 602 0, .row 700, .im (.val (.string (⟨#[]⟩ : ByteArray))), .int ((i : Int) + 1)]) (m := [.im (.val (.string s)), .loc 602 0, .row 700, .im (.val (.string (strOfNums (Cn.spS (bytesI s) (i + 1)).2))), .int ((i + 1) : Int)]) (by kernel_rfl) (by kernel_rfl) (consE rfl (consE rfl (consE rfl (consE (congrArg (fun x => AV.im (.val (.string x))) (show (⟨#[]⟩ : ByteArray) = (strOfNums (Cn.spS (bytesI s) (i + 1)).2) from (by first | (rw [Cn.spS_1 hs]; exact Cn.sp_str hlt) | (rw [Cn.spS_0 hs]; rfl)))) (consE (congrArg AV.int (show ((i : Int) + 1) = ((i + 1) : Int) from (by first | rfl | omega | (simp; done)))) rfl)))))
     ·
      exact Eq.trans (show _ = [(602, .box [.int 0, .im (.val (.slice none 0 0))]), (700, .row 9 (.strs (((Cn.spS (bytesI s) i).1.map strOfNums) ++ [(strOfNums (Cn.spS (bytesI s) i).2)])))] from by kernel_rfl) (consH rfl (consH (congrArg (fun x => ((700 : Nat), x)) (congrArg (fun x => AObj.row 9 (.strs x)) (show (((Cn.spS (bytesI s) i).1.map strOfNums) ++ [(strOfNums (Cn.spS (bytesI s) i).2)]) = ((Cn.spS (bytesI s) (i + 1)).1.map strOfNums) from (by first | (rw [Cn.spS_1 hs]; done) | (rw [Cn.spS_0 hs]; simp))))) rfl))
   ·
    skip
    have h0 := of_decide_eq_false hb0
    have h15 := h0
    have hsp := Cn.sp_ws (s := s) (i := i) (by omega)
    have hWl := congrArg List.length hsp
    refine tri_exit ?_
    refine fin_then_exit ?_
    refine fin_then_exit ?_
    refine fin_block_same ?_
    refine fin_then ?_
    refine tri_seq ?_
    refine tri_regD hcx [(1000, .to 607)] [7] [2, 4] [602, 700] [] [(7, .loc 607 0)] [(607, .box [.int 0, .im (.val (.slice none 0 0))])] (by kernel_rfl) ?_ ?_
    ·
     exact az
    refine fin_then ?_
    refine tri_seq ?_
    refine tri_seq ?_
    refine tri_regD hcx [] [41] [7, 2, 4] [607, 602, 700] [((0 : Int) ≤ 0 ∧ 0 < (((Cn.spS (bytesI s) i).1.map strOfNums).length : Int)), (0 < ((Cn.spS (bytesI s) i).1.map strOfNums).length)] [(41, .im (.val (.string (((Cn.spS (bytesI s) i).1.map strOfNums).getD 0 ByteArray.empty))))] [] (by kernel_rfl) ?_ ?_
    ·
     refine (ap ?_ (ap ?_ az))
     all_goals
      omega
    refine fin_then ?_
    refine tri_block ?_
    refine tri_seq ?_
    refine tri_regD hcx [] [43] [41, 7, 2, 4] [607, 602, 700] [] [(43, .bool ((((Cn.spS (bytesI s) i).1.map strOfNums).getD 0 ByteArray.empty).toList == (⟨#[111]⟩ : ByteArray).toList))] [] (by kernel_rfl) ?_ ?_
    ·
     exact az
    refine fin_then ?_
    refine tri_cond (b := ((((Cn.spS (bytesI s) i).1.map strOfNums).getD 0 ByteArray.empty).toList == (⟨#[111]⟩ : ByteArray).toList)) (by kernel_rfl) (fun hb2 => ?_) (fun hb2 => ?_)
    ·
     skip
     have h2 := hb2
     have hw0 := by have hz := h2; rw [hsp, show (⟨#[111]⟩ : ByteArray) = strOfNums [111] by decide] at hz; exact Cn.w0_t (by omega) hz
     obtain ⟨r1, r2, r3⟩ := Cn.rf_1 hw0
     refine tri_regD hcx [(607, .to 607)] [] [7, 2, 4] [602, 700] [] [] [(607, .box [.int 1, .im (.val (.slice none 0 0))])] (by kernel_rfl) ?_ ?_
     ·
      exact az
     refine fin_block ?_
     refine fin_then ?_
     refine tri_seq ?_
     refine tri_seq ?_
     refine tri_regD hcx [] [63] [7, 2, 4] [607, 602, 700] [((!(decide ((((Cn.spS (bytesI s) i).1.map strOfNums).length : Int) < 2))) = true → ((!(decide ((((Cn.spS (bytesI s) i).1.map strOfNums).length : Int) < 2))) = true)), ((!(decide ((((Cn.spS (bytesI s) i).1.map strOfNums).length : Int) < 2))) = true → ((!(decide ((((Cn.spS (bytesI s) i).1.map strOfNums).length : Int) < 2))) = true)), ((!(decide ((((Cn.spS (bytesI s) i).1.map strOfNums).length : Int) < 2))) = true → Fit ((((Cn.spS (bytesI s) i).1.map strOfNums).length : Int) - 1)), ((!(decide ((((Cn.spS (bytesI s) i).1.map strOfNums).length : Int) < 2))) = true → ((!(decide ((((Cn.spS (bytesI s) i).1.map strOfNums).length : Int) < 2))) = true)), ((!(decide ((((Cn.spS (bytesI s) i).1.map strOfNums).length : Int) < 2))) = true → ((!(decide ((((Cn.spS (bytesI s) i).1.map strOfNums).length : Int) < 2))) = true)), ((!(decide ((((Cn.spS (bytesI s) i).1.map strOfNums).length : Int) < 2))) = true → ((0 : Int) ≤ ((((Cn.spS (bytesI s) i).1.map strOfNums).length : Int) - 1) ∧ ((((Cn.spS (bytesI s) i).1.map strOfNums).length : Int) - 1) < (((Cn.spS (bytesI s) i).1.map strOfNums).length : Int))), ((!(decide ((((Cn.spS (bytesI s) i).1.map strOfNums).length : Int) < 2))) = true → ((!(decide ((((Cn.spS (bytesI s) i).1.map strOfNums).length : Int) < 2))) = true)), ((!(decide ((((Cn.spS (bytesI s) i).1.map strOfNums).length : Int) < 2))) = true → ((((((Cn.spS (bytesI s) i).1.map strOfNums).length : Int) - 1).toNat) < ((Cn.spS (bytesI s) i).1.map strOfNums).length)), ((!(decide ((((Cn.spS (bytesI s) i).1.map strOfNums).length : Int) < 2))) = true → ((!(decide ((((Cn.spS (bytesI s) i).1.map strOfNums).length : Int) < 2))) = true)), ((decide ((((Cn.spS (bytesI s) i).1.map strOfNums).length : Int) < 2)) = false → (!(decide ((((Cn.spS (bytesI s) i).1.map strOfNums).length : Int) < 2))) = true)] [(63, .bool ((decide ((((Cn.spS (bytesI s) i).1.map strOfNums).length : Int) < 2)) || (!((((Cn.spS (bytesI s) i).1.map strOfNums).getD (((((Cn.spS (bytesI s) i).1.map strOfNums).length : Int) - 1).toNat) ByteArray.empty).toList == (⟨#[48]⟩ : ByteArray).toList))))] [] (by kernel_rfl) ?_ ?_
     ·
      refine (ap ?_ (ap ?_ (ap ?_ (ap ?_ (ap ?_ (ap ?_ (ap ?_ (ap ?_ (ap ?_ (ap (by exact vcNot) az))))))))))
      all_goals
       first | omega | exact id
     refine fin_then ?_
     refine tri_cond (b := ((decide ((((Cn.spS (bytesI s) i).1.map strOfNums).length : Int) < 2)) || (!((((Cn.spS (bytesI s) i).1.map strOfNums).getD (((((Cn.spS (bytesI s) i).1.map strOfNums).length : Int) - 1).toNat) ByteArray.empty).toList == (⟨#[48]⟩ : ByteArray).toList)))) (by kernel_rfl) (fun hb3 => ?_) (fun hb3 => ?_)
     ·
      skip
      have h3 := hb3
      have hH : Cn.headW (Cn.splitI 32 (bytesI s)) = false := by have hz := h3; rw [hsp] at hz; exact Cn.headS_no (Cn.tail_is (by omega) r3) hz
      refine tri_seq ?_
      refine tri_regD hcx [(602, .to 602)] [3] [2] [] [] [(3, .bool false)] [(602, .box [.int 1, .im (.val (.slice none 0 0))])] (by kernel_rfl) ?_ ?_
      ·
       exact az
      refine fin_then ?_
      refine tri_ret ?_
      refine fin_then_ret ?_
      refine fin_rowB 602 1 700 0 (.ints []) (by kernel_rfl) (by kernel_rfl) (by kernel_rfl) (by kernel_rfl) (H' := [(602, .box [.int 1, .row 700])]) (by kernel_rfl) ?_
      refine fin_ren (ρ := [(602, .to 990), (700, .frz)]) (keys := [2, 3]) (E' := [(2, .loc 990 0), (3, .bool false)]) (H' := [(990, .box [.int 1, .ints []])]) (by kernel_rfl) ?_
      exact fin_ret [] rfl rfl trivial hcx (avs := [.agg [.int 1, .ints []], .bool false]) (by kernel_rfl) (congrArg AV.tup (consE (congrArg AV.agg (consE (congrArg AV.int (show 1 = (Cn.rfK (bytesI s)) from (by first | exact r1.symm | exact Cn.ln_head hH | exact Cn.lnOk_head hH | exact Cn.ln_stop hH (by omega) hok hq | exact Cn.lnOk_stop (by omega) hok hq | exact Cn.ln_all hH (by omega) hok | exact Cn.lnOk_all hH (by omega) hok | done))) (consE (congrArg AV.ints (show [] = (Cn.lnL (bytesI s)) from (by first | exact r1.symm | exact Cn.ln_head hH | exact Cn.lnOk_head hH | exact Cn.ln_stop hH (by omega) hok hq | exact Cn.lnOk_stop (by omega) hok hq | exact Cn.ln_all hH (by omega) hok | exact Cn.lnOk_all hH (by omega) hok | done))) rfl))) (consE (congrArg AV.bool (show false = (Cn.lnOk (bytesI s)) from (by first | exact r1.symm | exact Cn.ln_head hH | exact Cn.lnOk_head hH | exact Cn.ln_stop hH (by omega) hok hq | exact Cn.lnOk_stop (by omega) hok hq | exact Cn.ln_all hH (by omega) hok | exact Cn.lnOk_all hH (by omega) hok | done))) rfl))) [] rfl
     ·
      skip
      have h3 := hb3
      have hH : Cn.headW (Cn.splitI 32 (bytesI s)) = true := by have hz := h3; rw [hsp] at hz; exact Cn.headS_yes (Cn.tail_is (by omega) r3) hz
      have hH2 := Cn.headS_two hH
      refine tri_skip ?_
      refine fin_then ?_
      refine tri_seq ?_
      refine tri_seq ?_
      refine tri_rowB 607 1 701 3 (.ints []) (by kernel_rfl) (by kernel_rfl) (by kernel_rfl) (by kernel_rfl) (H' := [(607, .box [.int 1, .row 701]), (602, .box [.int 0, .im (.val (.slice none 0 0))]), (700, .row 9 (.strs ((Cn.spS (bytesI s) i).1.map strOfNums)))]) (by kernel_rfl) ?_
      refine tri_regD hcx [] [69, 70, 71] [7, 2] [701, 607, 602] [Fit ((((Cn.spS (bytesI s) i).1.map strOfNums).length : Int) - 1), ((0 : Int) ≤ 1 ∧ 1 ≤ ((((Cn.spS (bytesI s) i).1.map strOfNums).length : Int) - 1) ∧ ((((Cn.spS (bytesI s) i).1.map strOfNums).length : Int) - 1) ≤ (((Cn.spS (bytesI s) i).1.map strOfNums).length : Int))] [(69, .strs ((((Cn.spS (bytesI s) i).1.map strOfNums).take (((((Cn.spS (bytesI s) i).1.map strOfNums).length : Int) - 1).toNat)).drop 1)), (70, .int (((((Cn.spS (bytesI s) i).1.map strOfNums).take (((((Cn.spS (bytesI s) i).1.map strOfNums).length : Int) - 1).toNat)).drop 1).length : Int)), (71, .int 0)] [] (by kernel_rfl) ?_ ?_
      ·
       refine (ap ?_ (ap ?_ az))
       all_goals
        omega
      refine fin_then ?_
      refine tri_block ?_
      refine tri_ren (ρ := [(602, .to 602), (607, .to 607), (701, .to 701)]) (keys := [2, 7, 69, 70, 71]) (E' := [(2, .loc 602 0), (7, .loc 607 0), (69, .strs ((((Cn.spS (bytesI s) i).1.map strOfNums).take (((((Cn.spS (bytesI s) i).1.map strOfNums).length : Int) - 1).toNat)).drop 1)), (70, .int (((((Cn.spS (bytesI s) i).1.map strOfNums).take (((((Cn.spS (bytesI s) i).1.map strOfNums).length : Int) - 1).toNat)).drop 1).length : Int)), (71, .int 0)]) (H' := [(602, .box [.int 0, .im (.val (.slice none 0 0))]), (607, .box [.int 1, .row 701]), (701, .row 3 (.ints []))]) (by kernel_rfl) ?_
      refine tri_loop (X := Nat) (fun x0 => x0 ≤ (Cn.mdS s).length ∧ ∀ j, j < x0 → Cn.litW ((Cn.midW (Cn.splitI 32 (bytesI s))).getD j []) = true) (fun x0 => [(2, .loc 602 0), (7, .loc 607 0), (69, .strs ((((Cn.spS (bytesI s) i).1.map strOfNums).take (((((Cn.spS (bytesI s) i).1.map strOfNums).length : Int) - 1).toNat)).drop 1)), (70, .int (((((Cn.spS (bytesI s) i).1.map strOfNums).take (((((Cn.spS (bytesI s) i).1.map strOfNums).length : Int) - 1).toNat)).drop 1).length : Int)), (71, .int (x0 : Int))]) (fun x0 => [(602, .box [.int 0, .im (.val (.slice none 0 0))]), (607, .box [.int (Cn.rfK (bytesI s)), .row 701]), (701, .row 3 (.ints (((Cn.midW (Cn.splitI 32 (bytesI s))).take x0).map Cn.numN)))]) (fun x0 => (Cn.mdS s).length - x0) (0) ?_ ?_ ?_ ?_
      ·
       show 0 ≤ (Cn.mdS s).length ∧ ∀ j, j < 0 → Cn.litW ((Cn.midW (Cn.splitI 32 (bytesI s))).getD j []) = true
       exact ⟨Nat.zero_le _, fun j hj => by omega⟩
      ·
       exact subE_mk (l := [.loc 602 0, .loc 607 0, .strs ((((Cn.spS (bytesI s) i).1.map strOfNums).take (((((Cn.spS (bytesI s) i).1.map strOfNums).length : Int) - 1).toNat)).drop 1), .int (((((Cn.spS (bytesI s) i).1.map strOfNums).take (((((Cn.spS (bytesI s) i).1.map strOfNums).length : Int) - 1).toNat)).drop 1).length : Int), .int 0]) (m := [.loc 602 0, .loc 607 0, .strs ((((Cn.spS (bytesI s) i).1.map strOfNums).take (((((Cn.spS (bytesI s) i).1.map strOfNums).length : Int) - 1).toNat)).drop 1), .int (((((Cn.spS (bytesI s) i).1.map strOfNums).take (((((Cn.spS (bytesI s) i).1.map strOfNums).length : Int) - 1).toNat)).drop 1).length : Int), .int (0 : Int)]) (by kernel_rfl) (by kernel_rfl) (consE rfl (consE rfl (consE rfl (consE rfl (consE (congrArg AV.int (show 0 = (0 : Int) from (by first | rfl | omega | (simp; done)))) rfl)))))
      ·
       exact Eq.trans (show _ = [(602, .box [.int 0, .im (.val (.slice none 0 0))]), (607, .box [.int 1, .row 701]), (701, .row 3 (.ints []))] from by kernel_rfl) (consH rfl (consH (congrArg (fun x => ((607 : Nat), x)) (congrArg AObj.box (consE (congrArg AV.int (show 1 = (Cn.rfK (bytesI s)) from (by exact r1.symm))) rfl))) (consH (congrArg (fun x => ((701 : Nat), x)) (congrArg (fun x => AObj.row 3 (.ints x)) (show [] = (((Cn.midW (Cn.splitI 32 (bytesI s))).take 0).map Cn.numN) from (by rfl)))) rfl)))
      ·
       intro q hI
       replace hI : q ≤ (Cn.mdS s).length ∧ ∀ j, j < q → Cn.litW ((Cn.midW (Cn.splitI 32 (bytesI s))).getD j []) = true := hI
       change Tri _ [(2, .loc 602 0), (7, .loc 607 0), (69, .strs ((((Cn.spS (bytesI s) i).1.map strOfNums).take (((((Cn.spS (bytesI s) i).1.map strOfNums).length : Int) - 1).toNat)).drop 1)), (70, .int (((((Cn.spS (bytesI s) i).1.map strOfNums).take (((((Cn.spS (bytesI s) i).1.map strOfNums).length : Int) - 1).toNat)).drop 1).length : Int)), (71, .int (q : Int))] [(602, .box [.int 0, .im (.val (.slice none 0 0))]), (607, .box [.int (Cn.rfK (bytesI s)), .row 701]), (701, .row 3 (.ints (((Cn.midW (Cn.splitI 32 (bytesI s))).take q).map Cn.numN)))] _ _
       obtain ⟨hk, hok⟩ := hI
       have hMd : ((((Cn.spS (bytesI s) i).1.map strOfNums).take ((((((Cn.spS (bytesI s) i).1.map strOfNums).length : Int) - 1)).toNat)).drop 1) = Cn.mdS s := by rw [hsp]
       have hMl := congrArg List.length hMd
       have hat : ((((Cn.spS (bytesI s) i).1.map strOfNums).take ((((((Cn.spS (bytesI s) i).1.map strOfNums).length : Int) - 1)).toNat)).drop 1).getD q ByteArray.empty = strOfNums ((Cn.midW (Cn.splitI 32 (bytesI s))).getD q []) := by rw [hMd]; exact Cn.mid_at s q
       have hwz : q < (Cn.mdS s).length → (((((Cn.spS (bytesI s) i).1.map strOfNums).take ((((((Cn.spS (bytesI s) i).1.map strOfNums).length : Int) - 1)).toNat)).drop 1).getD q ByteArray.empty).size ≤ s.size := by rw [hMd]; exact Cn.mid_size
       have htk := Cn.md_take (s := s) (i := q) (by omega)
       refine tri_seq ?_
       refine tri_regD hcx [] [72] [2, 7, 69, 70, 71] [602, 607, 701] [] [(72, .bool (decide ((q : Int) < (((((Cn.spS (bytesI s) i).1.map strOfNums).take (((((Cn.spS (bytesI s) i).1.map strOfNums).length : Int) - 1).toNat)).drop 1).length : Int))))] [] (by kernel_rfl) ?_ ?_
       ·
        exact az
       refine fin_then ?_
       refine tri_seq ?_
       refine tri_cond (b := (decide ((q : Int) < (((((Cn.spS (bytesI s) i).1.map strOfNums).take (((((Cn.spS (bytesI s) i).1.map strOfNums).length : Int) - 1).toNat)).drop 1).length : Int)))) (by kernel_rfl) (fun hb4 => ?_) (fun hb4 => ?_)
       ·
        skip
        have h4 := of_decide_eq_true hb4
        refine tri_skip ?_
        refine fin_then ?_
        refine tri_seq ?_
        refine tri_block ?_
        refine tri_seq ?_
        refine tri_regD hcx [] [9] [2, 7, 69, 70, 71] [602, 607, 701] [((0 : Int) ≤ (q : Int) ∧ (q : Int) < (((((Cn.spS (bytesI s) i).1.map strOfNums).take (((((Cn.spS (bytesI s) i).1.map strOfNums).length : Int) - 1).toNat)).drop 1).length : Int))] [(9, .im (.val (.string (((((Cn.spS (bytesI s) i).1.map strOfNums).take (((((Cn.spS (bytesI s) i).1.map strOfNums).length : Int) - 1).toNat)).drop 1).getD q ByteArray.empty))))] [] (by kernel_rfl) ?_ ?_
        ·
         refine (ap ?_ az)
         omega
        refine fin_then ?_
        refine tri_seq ?_
        refine tri_regD hcx [] [10, 11] [2, 7, 69, 70, 71] [602, 607, 701] [((((((Cn.spS (bytesI s) i).1.map strOfNums).take (((((Cn.spS (bytesI s) i).1.map strOfNums).length : Int) - 1).toNat)).drop 1).getD q ByteArray.empty).size ≤ 1000000000)] [(10, .int ((Cn.rQ (bytesI (((((Cn.spS (bytesI s) i).1.map strOfNums).take (((((Cn.spS (bytesI s) i).1.map strOfNums).length : Int) - 1).toNat)).drop 1).getD q ByteArray.empty))).1)), (11, .bool ((Cn.rQ (bytesI (((((Cn.spS (bytesI s) i).1.map strOfNums).take (((((Cn.spS (bytesI s) i).1.map strOfNums).length : Int) - 1).toNat)).drop 1).getD q ByteArray.empty))).2))] [] (by kernel_rfl) ?_ ?_
        ·
         refine (ap ?_ az)
         omega
        refine fin_then ?_
        refine tri_seq ?_
        refine tri_seq ?_
        refine tri_regD hcx [] [85] [10, 2, 7, 69, 70, 71] [602, 607, 701] [((!(!((Cn.rQ (bytesI (((((Cn.spS (bytesI s) i).1.map strOfNums).take (((((Cn.spS (bytesI s) i).1.map strOfNums).length : Int) - 1).toNat)).drop 1).getD q ByteArray.empty))).2))) = true → ((!(!((Cn.rQ (bytesI (((((Cn.spS (bytesI s) i).1.map strOfNums).take (((((Cn.spS (bytesI s) i).1.map strOfNums).length : Int) - 1).toNat)).drop 1).getD q ByteArray.empty))).2))) = true)), ((!((Cn.rQ (bytesI (((((Cn.spS (bytesI s) i).1.map strOfNums).take (((((Cn.spS (bytesI s) i).1.map strOfNums).length : Int) - 1).toNat)).drop 1).getD q ByteArray.empty))).2)) = false → (!(!((Cn.rQ (bytesI (((((Cn.spS (bytesI s) i).1.map strOfNums).take (((((Cn.spS (bytesI s) i).1.map strOfNums).length : Int) - 1).toNat)).drop 1).getD q ByteArray.empty))).2))) = true)] [(85, .bool ((!((Cn.rQ (bytesI (((((Cn.spS (bytesI s) i).1.map strOfNums).take (((((Cn.spS (bytesI s) i).1.map strOfNums).length : Int) - 1).toNat)).drop 1).getD q ByteArray.empty))).2)) || (((Cn.rQ (bytesI (((((Cn.spS (bytesI s) i).1.map strOfNums).take (((((Cn.spS (bytesI s) i).1.map strOfNums).length : Int) - 1).toNat)).drop 1).getD q ByteArray.empty))).1) == 0)))] [] (by kernel_rfl) ?_ ?_
        ·
         refine (ap ?_ (ap (by exact vcNot) az))
         exact id
        refine fin_then ?_
        refine tri_cond (b := ((!((Cn.rQ (bytesI (((((Cn.spS (bytesI s) i).1.map strOfNums).take (((((Cn.spS (bytesI s) i).1.map strOfNums).length : Int) - 1).toNat)).drop 1).getD q ByteArray.empty))).2)) || (((Cn.rQ (bytesI (((((Cn.spS (bytesI s) i).1.map strOfNums).take (((((Cn.spS (bytesI s) i).1.map strOfNums).length : Int) - 1).toNat)).drop 1).getD q ByteArray.empty))).1) == 0))) (by kernel_rfl) (fun hb5 => ?_) (fun hb5 => ?_)
        ·
         skip
         have h5 := hb5
         have hq := Cn.nq_no hat Cn.mid_bytes h5
         refine tri_seq ?_
         refine tri_ren (ρ := [(602, .to 602), (607, .to 607), (701, .frz)]) (keys := [85, 10, 2, 7, 69, 70, 71]) (E' := [(85, .bool ((!((Cn.rQ (bytesI (((((Cn.spS (bytesI s) i).1.map strOfNums).take (((((Cn.spS (bytesI s) i).1.map strOfNums).length : Int) - 1).toNat)).drop 1).getD q ByteArray.empty))).2)) || (((Cn.rQ (bytesI (((((Cn.spS (bytesI s) i).1.map strOfNums).take (((((Cn.spS (bytesI s) i).1.map strOfNums).length : Int) - 1).toNat)).drop 1).getD q ByteArray.empty))).1) == 0))), (10, .int ((Cn.rQ (bytesI (((((Cn.spS (bytesI s) i).1.map strOfNums).take (((((Cn.spS (bytesI s) i).1.map strOfNums).length : Int) - 1).toNat)).drop 1).getD q ByteArray.empty))).1)), (2, .loc 602 0), (7, .loc 607 0), (69, .strs ((((Cn.spS (bytesI s) i).1.map strOfNums).take (((((Cn.spS (bytesI s) i).1.map strOfNums).length : Int) - 1).toNat)).drop 1)), (70, .int (((((Cn.spS (bytesI s) i).1.map strOfNums).take (((((Cn.spS (bytesI s) i).1.map strOfNums).length : Int) - 1).toNat)).drop 1).length : Int)), (71, .int (q : Int))]) (H' := [(602, .box [.int 0, .im (.val (.slice none 0 0))]), (607, .box [.int (Cn.rfK (bytesI s)), .ints (((Cn.midW (Cn.splitI 32 (bytesI s))).take q).map Cn.numN)])]) (by kernel_rfl) ?_
         refine tri_regD hcx [(602, .to 602)] [3] [2] [] [] [(3, .bool false)] [(602, .box [.int (Cn.rfK (bytesI s)), .ints (((Cn.midW (Cn.splitI 32 (bytesI s))).take q).map Cn.numN)])] (by kernel_rfl) ?_ ?_
         ·
          exact az
         refine fin_then ?_
         refine tri_ret ?_
         refine fin_then_ret ?_
         refine fin_block_ret ?_
         refine fin_then_ret ?_
         refine fin_then_ret ?_
         refine fin_block_ret ?_
         refine fin_then_ret ?_
         exact fin_ret [] rfl rfl trivial hcx (avs := [.agg [.int (Cn.rfK (bytesI s)), .ints (((Cn.midW (Cn.splitI 32 (bytesI s))).take q).map Cn.numN)], .bool false]) (by kernel_rfl) (congrArg AV.tup (consE (congrArg AV.agg (consE rfl (consE (congrArg AV.ints (show (((Cn.midW (Cn.splitI 32 (bytesI s))).take q).map Cn.numN) = (Cn.lnL (bytesI s)) from (by first | exact r1.symm | exact Cn.ln_head hH | exact Cn.lnOk_head hH | exact Cn.ln_stop hH (by omega) hok hq | exact Cn.lnOk_stop (by omega) hok hq | exact Cn.ln_all hH (by omega) hok | exact Cn.lnOk_all hH (by omega) hok | done))) rfl))) (consE (congrArg AV.bool (show false = (Cn.lnOk (bytesI s)) from (by first | exact r1.symm | exact Cn.ln_head hH | exact Cn.lnOk_head hH | exact Cn.ln_stop hH (by omega) hok hq | exact Cn.lnOk_stop (by omega) hok hq | exact Cn.ln_all hH (by omega) hok | exact Cn.lnOk_all hH (by omega) hok | done))) rfl))) [] rfl
        ·
         skip
         have h5 := hb5
         obtain ⟨hq, hqv⟩ := Cn.nq_yes hat Cn.mid_bytes h5
         refine tri_skip ?_
         refine fin_then ?_
         refine tri_regD hcx [(607, .to 607), (1004, .to 701)] [] [2, 7, 69, 70, 71] [602] [(((((Cn.midW (Cn.splitI 32 (bytesI s))).take q).map Cn.numN).length + [(Cn.rQ (bytesI (((((Cn.spS (bytesI s) i).1.map strOfNums).take (((((Cn.spS (bytesI s) i).1.map strOfNums).length : Int) - 1).toNat)).drop 1).getD q ByteArray.empty))).1].length) * 8 ≤ 140737488355328)] [] [(607, .box [.int (Cn.rfK (bytesI s)), .row 701]), (701, .row 3 (.ints ((((Cn.midW (Cn.splitI 32 (bytesI s))).take q).map Cn.numN) ++ [(Cn.rQ (bytesI (((((Cn.spS (bytesI s) i).1.map strOfNums).take (((((Cn.spS (bytesI s) i).1.map strOfNums).length : Int) - 1).toNat)).drop 1).getD q ByteArray.empty))).1])))] (by kernel_rfl) ?_ ?_
         ·
          refine (ap ?_ az)
          (rw [htk]; simp only [List.length_cons, List.length_nil]; omega)
         refine fin_block ?_
         refine fin_then ?_
         refine tri_regD hcx [] [71] [2, 7, 69, 70] [607, 701, 602] [Fit ((q : Int) + 1)] [(71, .int ((q : Int) + 1))] [] (by kernel_rfl) ?_ ?_
         ·
          refine (ap ?_ az)
          omega
         refine fin_ren (ρ := [(602, .to 602), (607, .to 607), (701, .to 701)]) (keys := [2, 7, 69, 70, 71]) (E' := [(2, .loc 602 0), (7, .loc 607 0), (69, .strs ((((Cn.spS (bytesI s) i).1.map strOfNums).take (((((Cn.spS (bytesI s) i).1.map strOfNums).length : Int) - 1).toNat)).drop 1)), (70, .int (((((Cn.spS (bytesI s) i).1.map strOfNums).take (((((Cn.spS (bytesI s) i).1.map strOfNums).length : Int) - 1).toNat)).drop 1).length : Int)), (71, .int ((q : Int) + 1))]) (H' := [(602, .box [.int 0, .im (.val (.slice none 0 0))]), (607, .box [.int (Cn.rfK (bytesI s)), .row 701]), (701, .row 3 (.ints ((((Cn.midW (Cn.splitI 32 (bytesI s))).take q).map Cn.numN) ++ [(Cn.rQ (bytesI (((((Cn.spS (bytesI s) i).1.map strOfNums).take (((((Cn.spS (bytesI s) i).1.map strOfNums).length : Int) - 1).toNat)).drop 1).getD q ByteArray.empty))).1])))]) (by kernel_rfl) ?_
         refine fin_round (q + 1) ?_ ?_ ?_ ?_
         ·
          show (q + 1) ≤ (Cn.mdS s).length ∧ ∀ j, j < (q + 1) → Cn.litW ((Cn.midW (Cn.splitI 32 (bytesI s))).getD j []) = true
          exact ⟨by omega, fun j hj => by rcases (by omega : j < q ∨ j = q) with h | rfl; exact hok j h; exact hq⟩
         ·
          show (Cn.mdS s).length - (q + 1) < (Cn.mdS s).length - q
          omega
         ·
          exact subE_mk (l := [.loc 602 0, .loc 607 0, .strs ((((Cn.spS (bytesI s) i).1.map strOfNums).take (((((Cn.spS (bytesI s) i).1.map strOfNums).length : Int) - 1).toNat)).drop 1), .int (((((Cn.spS (bytesI s) i).1.map strOfNums).take (((((Cn.spS (bytesI s) i).1.map strOfNums).length : Int) - 1).toNat)).drop 1).length : Int), .int ((q : Int) + 1)]) (m := [.loc 602 0, .loc 607 0, .strs ((((Cn.spS (bytesI s) i).1.map strOfNums).take (((((Cn.spS (bytesI s) i).1.map strOfNums).length : Int) - 1).toNat)).drop 1), .int (((((Cn.spS (bytesI s) i).1.map strOfNums).take (((((Cn.spS (bytesI s) i).1.map strOfNums).length : Int) - 1).toNat)).drop 1).length : Int), .int ((q + 1) : Int)]) (by kernel_rfl) (by kernel_rfl) (consE rfl (consE rfl (consE rfl (consE rfl (consE (congrArg AV.int (show ((q : Int) + 1) = ((q + 1) : Int) from (by first | rfl | omega | (simp; done)))) rfl)))))
         ·
          exact Eq.trans (show _ = [(602, .box [.int 0, .im (.val (.slice none 0 0))]), (607, .box [.int (Cn.rfK (bytesI s)), .row 701]), (701, .row 3 (.ints ((((Cn.midW (Cn.splitI 32 (bytesI s))).take q).map Cn.numN) ++ [(Cn.rQ (bytesI (((((Cn.spS (bytesI s) i).1.map strOfNums).take (((((Cn.spS (bytesI s) i).1.map strOfNums).length : Int) - 1).toNat)).drop 1).getD q ByteArray.empty))).1])))] from by kernel_rfl) (consH rfl (consH rfl (consH (congrArg (fun x => ((701 : Nat), x)) (congrArg (fun x => AObj.row 3 (.ints x)) (show ((((Cn.midW (Cn.splitI 32 (bytesI s))).take q).map Cn.numN) ++ [(Cn.rQ (bytesI (((((Cn.spS (bytesI s) i).1.map strOfNums).take (((((Cn.spS (bytesI s) i).1.map strOfNums).length : Int) - 1).toNat)).drop 1).getD q ByteArray.empty))).1]) = (((Cn.midW (Cn.splitI 32 (bytesI s))).take (q + 1)).map Cn.numN) from (by exact Cn.mid_snoc (by omega) hqv)))) rfl)))
       ·
        skip
        have h4 := of_decide_eq_false hb4
        refine tri_exit ?_
        refine fin_then_exit ?_
        refine fin_then_exit ?_
        refine fin_block_same ?_
        refine fin_then ?_
        refine tri_seq ?_
        refine tri_ren (ρ := [(602, .to 602), (607, .to 607), (701, .frz)]) (keys := [72, 2, 7, 69, 70, 71]) (E' := [(72, .bool (decide ((q : Int) < (((((Cn.spS (bytesI s) i).1.map strOfNums).take (((((Cn.spS (bytesI s) i).1.map strOfNums).length : Int) - 1).toNat)).drop 1).length : Int)))), (2, .loc 602 0), (7, .loc 607 0), (69, .strs ((((Cn.spS (bytesI s) i).1.map strOfNums).take (((((Cn.spS (bytesI s) i).1.map strOfNums).length : Int) - 1).toNat)).drop 1)), (70, .int (((((Cn.spS (bytesI s) i).1.map strOfNums).take (((((Cn.spS (bytesI s) i).1.map strOfNums).length : Int) - 1).toNat)).drop 1).length : Int)), (71, .int (q : Int))]) (H' := [(602, .box [.int 0, .im (.val (.slice none 0 0))]), (607, .box [.int (Cn.rfK (bytesI s)), .ints (((Cn.midW (Cn.splitI 32 (bytesI s))).take q).map Cn.numN)])]) (by kernel_rfl) ?_
        refine tri_regD hcx [(602, .to 602)] [3] [2] [] [] [(3, .bool true)] [(602, .box [.int (Cn.rfK (bytesI s)), .ints (((Cn.midW (Cn.splitI 32 (bytesI s))).take q).map Cn.numN)])] (by kernel_rfl) ?_ ?_
        ·
         exact az
        refine fin_then ?_
        refine tri_ret ?_
        exact fin_ret [] rfl rfl trivial hcx (avs := [.agg [.int (Cn.rfK (bytesI s)), .ints (((Cn.midW (Cn.splitI 32 (bytesI s))).take q).map Cn.numN)], .bool true]) (by kernel_rfl) (congrArg AV.tup (consE (congrArg AV.agg (consE rfl (consE (congrArg AV.ints (show (((Cn.midW (Cn.splitI 32 (bytesI s))).take q).map Cn.numN) = (Cn.lnL (bytesI s)) from (by first | exact r1.symm | exact Cn.ln_head hH | exact Cn.lnOk_head hH | exact Cn.ln_stop hH (by omega) hok hq | exact Cn.lnOk_stop (by omega) hok hq | exact Cn.ln_all hH (by omega) hok | exact Cn.lnOk_all hH (by omega) hok | done))) rfl))) (consE (congrArg AV.bool (show true = (Cn.lnOk (bytesI s)) from (by first | exact r1.symm | exact Cn.ln_head hH | exact Cn.lnOk_head hH | exact Cn.ln_stop hH (by omega) hok hq | exact Cn.lnOk_stop (by omega) hok hq | exact Cn.ln_all hH (by omega) hok | exact Cn.lnOk_all hH (by omega) hok | done))) rfl))) [] rfl
    ·
     skip
     have h2 := hb2
     have n1 := by have hz := h2; rw [hsp, show (⟨#[111]⟩ : ByteArray) = strOfNums [111] by decide] at hz; exact Cn.w0_f (by omega) hz
     refine tri_seq ?_
     refine tri_regD hcx [] [46] [41, 7, 2, 4] [607, 602, 700] [] [(46, .bool ((((Cn.spS (bytesI s) i).1.map strOfNums).getD 0 ByteArray.empty).toList == (⟨#[108]⟩ : ByteArray).toList))] [] (by kernel_rfl) ?_ ?_
     ·
      exact az
     refine fin_then ?_
     refine tri_cond (b := ((((Cn.spS (bytesI s) i).1.map strOfNums).getD 0 ByteArray.empty).toList == (⟨#[108]⟩ : ByteArray).toList)) (by kernel_rfl) (fun hb6 => ?_) (fun hb6 => ?_)
     ·
      skip
      have h6 := hb6
      have hw0 := by have hz := h6; rw [hsp, show (⟨#[108]⟩ : ByteArray) = strOfNums [108] by decide] at hz; exact Cn.w0_t (by omega) hz
      obtain ⟨r1, r2, r3⟩ := Cn.rf_2 n1 hw0
      refine tri_regD hcx [(607, .to 607)] [] [7, 2, 4] [602, 700] [] [] [(607, .box [.int 2, .im (.val (.slice none 0 0))])] (by kernel_rfl) ?_ ?_
      ·
       exact az
      refine fin_block ?_
      refine fin_then ?_
      refine tri_seq ?_
      refine tri_seq ?_
      refine tri_regD hcx [] [63] [7, 2, 4] [607, 602, 700] [((!(decide ((((Cn.spS (bytesI s) i).1.map strOfNums).length : Int) < 2))) = true → ((!(decide ((((Cn.spS (bytesI s) i).1.map strOfNums).length : Int) < 2))) = true)), ((!(decide ((((Cn.spS (bytesI s) i).1.map strOfNums).length : Int) < 2))) = true → ((!(decide ((((Cn.spS (bytesI s) i).1.map strOfNums).length : Int) < 2))) = true)), ((!(decide ((((Cn.spS (bytesI s) i).1.map strOfNums).length : Int) < 2))) = true → Fit ((((Cn.spS (bytesI s) i).1.map strOfNums).length : Int) - 1)), ((!(decide ((((Cn.spS (bytesI s) i).1.map strOfNums).length : Int) < 2))) = true → ((!(decide ((((Cn.spS (bytesI s) i).1.map strOfNums).length : Int) < 2))) = true)), ((!(decide ((((Cn.spS (bytesI s) i).1.map strOfNums).length : Int) < 2))) = true → ((!(decide ((((Cn.spS (bytesI s) i).1.map strOfNums).length : Int) < 2))) = true)), ((!(decide ((((Cn.spS (bytesI s) i).1.map strOfNums).length : Int) < 2))) = true → ((0 : Int) ≤ ((((Cn.spS (bytesI s) i).1.map strOfNums).length : Int) - 1) ∧ ((((Cn.spS (bytesI s) i).1.map strOfNums).length : Int) - 1) < (((Cn.spS (bytesI s) i).1.map strOfNums).length : Int))), ((!(decide ((((Cn.spS (bytesI s) i).1.map strOfNums).length : Int) < 2))) = true → ((!(decide ((((Cn.spS (bytesI s) i).1.map strOfNums).length : Int) < 2))) = true)), ((!(decide ((((Cn.spS (bytesI s) i).1.map strOfNums).length : Int) < 2))) = true → ((((((Cn.spS (bytesI s) i).1.map strOfNums).length : Int) - 1).toNat) < ((Cn.spS (bytesI s) i).1.map strOfNums).length)), ((!(decide ((((Cn.spS (bytesI s) i).1.map strOfNums).length : Int) < 2))) = true → ((!(decide ((((Cn.spS (bytesI s) i).1.map strOfNums).length : Int) < 2))) = true)), ((decide ((((Cn.spS (bytesI s) i).1.map strOfNums).length : Int) < 2)) = false → (!(decide ((((Cn.spS (bytesI s) i).1.map strOfNums).length : Int) < 2))) = true)] [(63, .bool ((decide ((((Cn.spS (bytesI s) i).1.map strOfNums).length : Int) < 2)) || (!((((Cn.spS (bytesI s) i).1.map strOfNums).getD (((((Cn.spS (bytesI s) i).1.map strOfNums).length : Int) - 1).toNat) ByteArray.empty).toList == (⟨#[48]⟩ : ByteArray).toList))))] [] (by kernel_rfl) ?_ ?_
      ·
       refine (ap ?_ (ap ?_ (ap ?_ (ap ?_ (ap ?_ (ap ?_ (ap ?_ (ap ?_ (ap ?_ (ap (by exact vcNot) az))))))))))
       all_goals
        first | omega | exact id
      refine fin_then ?_
      refine tri_cond (b := ((decide ((((Cn.spS (bytesI s) i).1.map strOfNums).length : Int) < 2)) || (!((((Cn.spS (bytesI s) i).1.map strOfNums).getD (((((Cn.spS (bytesI s) i).1.map strOfNums).length : Int) - 1).toNat) ByteArray.empty).toList == (⟨#[48]⟩ : ByteArray).toList)))) (by kernel_rfl) (fun hb7 => ?_) (fun hb7 => ?_)
      ·
       skip
       have h7 := hb7
       have hH : Cn.headW (Cn.splitI 32 (bytesI s)) = false := by have hz := h7; rw [hsp] at hz; exact Cn.headS_no (Cn.tail_is (by omega) r3) hz
       refine tri_seq ?_
       refine tri_regD hcx [(602, .to 602)] [3] [2] [] [] [(3, .bool false)] [(602, .box [.int 2, .im (.val (.slice none 0 0))])] (by kernel_rfl) ?_ ?_
       ·
        exact az
       refine fin_then ?_
       refine tri_ret ?_
       refine fin_then_ret ?_
       refine fin_rowB 602 1 700 0 (.ints []) (by kernel_rfl) (by kernel_rfl) (by kernel_rfl) (by kernel_rfl) (H' := [(602, .box [.int 2, .row 700])]) (by kernel_rfl) ?_
       refine fin_ren (ρ := [(602, .to 990), (700, .frz)]) (keys := [2, 3]) (E' := [(2, .loc 990 0), (3, .bool false)]) (H' := [(990, .box [.int 2, .ints []])]) (by kernel_rfl) ?_
       exact fin_ret [] rfl rfl trivial hcx (avs := [.agg [.int 2, .ints []], .bool false]) (by kernel_rfl) (congrArg AV.tup (consE (congrArg AV.agg (consE (congrArg AV.int (show 2 = (Cn.rfK (bytesI s)) from (by first | exact r1.symm | exact Cn.ln_head hH | exact Cn.lnOk_head hH | exact Cn.ln_stop hH (by omega) hok hq | exact Cn.lnOk_stop (by omega) hok hq | exact Cn.ln_all hH (by omega) hok | exact Cn.lnOk_all hH (by omega) hok | done))) (consE (congrArg AV.ints (show [] = (Cn.lnL (bytesI s)) from (by first | exact r1.symm | exact Cn.ln_head hH | exact Cn.lnOk_head hH | exact Cn.ln_stop hH (by omega) hok hq | exact Cn.lnOk_stop (by omega) hok hq | exact Cn.ln_all hH (by omega) hok | exact Cn.lnOk_all hH (by omega) hok | done))) rfl))) (consE (congrArg AV.bool (show false = (Cn.lnOk (bytesI s)) from (by first | exact r1.symm | exact Cn.ln_head hH | exact Cn.lnOk_head hH | exact Cn.ln_stop hH (by omega) hok hq | exact Cn.lnOk_stop (by omega) hok hq | exact Cn.ln_all hH (by omega) hok | exact Cn.lnOk_all hH (by omega) hok | done))) rfl))) [] rfl
      ·
       skip
       have h7 := hb7
       have hH : Cn.headW (Cn.splitI 32 (bytesI s)) = true := by have hz := h7; rw [hsp] at hz; exact Cn.headS_yes (Cn.tail_is (by omega) r3) hz
       have hH2 := Cn.headS_two hH
       refine tri_skip ?_
       refine fin_then ?_
       refine tri_seq ?_
       refine tri_seq ?_
       refine tri_rowB 607 1 701 3 (.ints []) (by kernel_rfl) (by kernel_rfl) (by kernel_rfl) (by kernel_rfl) (H' := [(607, .box [.int 2, .row 701]), (602, .box [.int 0, .im (.val (.slice none 0 0))]), (700, .row 9 (.strs ((Cn.spS (bytesI s) i).1.map strOfNums)))]) (by kernel_rfl) ?_
       refine tri_regD hcx [] [69, 70, 71] [7, 2] [701, 607, 602] [Fit ((((Cn.spS (bytesI s) i).1.map strOfNums).length : Int) - 1), ((0 : Int) ≤ 1 ∧ 1 ≤ ((((Cn.spS (bytesI s) i).1.map strOfNums).length : Int) - 1) ∧ ((((Cn.spS (bytesI s) i).1.map strOfNums).length : Int) - 1) ≤ (((Cn.spS (bytesI s) i).1.map strOfNums).length : Int))] [(69, .strs ((((Cn.spS (bytesI s) i).1.map strOfNums).take (((((Cn.spS (bytesI s) i).1.map strOfNums).length : Int) - 1).toNat)).drop 1)), (70, .int (((((Cn.spS (bytesI s) i).1.map strOfNums).take (((((Cn.spS (bytesI s) i).1.map strOfNums).length : Int) - 1).toNat)).drop 1).length : Int)), (71, .int 0)] [] (by kernel_rfl) ?_ ?_
       ·
        refine (ap ?_ (ap ?_ az))
        all_goals
         omega
       refine fin_then ?_
       refine tri_block ?_
       refine tri_ren (ρ := [(602, .to 602), (607, .to 607), (701, .to 701)]) (keys := [2, 7, 69, 70, 71]) (E' := [(2, .loc 602 0), (7, .loc 607 0), (69, .strs ((((Cn.spS (bytesI s) i).1.map strOfNums).take (((((Cn.spS (bytesI s) i).1.map strOfNums).length : Int) - 1).toNat)).drop 1)), (70, .int (((((Cn.spS (bytesI s) i).1.map strOfNums).take (((((Cn.spS (bytesI s) i).1.map strOfNums).length : Int) - 1).toNat)).drop 1).length : Int)), (71, .int 0)]) (H' := [(602, .box [.int 0, .im (.val (.slice none 0 0))]), (607, .box [.int 2, .row 701]), (701, .row 3 (.ints []))]) (by kernel_rfl) ?_
       refine tri_loop (X := Nat) (fun x0 => x0 ≤ (Cn.mdS s).length ∧ ∀ j, j < x0 → Cn.litW ((Cn.midW (Cn.splitI 32 (bytesI s))).getD j []) = true) (fun x0 => [(2, .loc 602 0), (7, .loc 607 0), (69, .strs ((((Cn.spS (bytesI s) i).1.map strOfNums).take (((((Cn.spS (bytesI s) i).1.map strOfNums).length : Int) - 1).toNat)).drop 1)), (70, .int (((((Cn.spS (bytesI s) i).1.map strOfNums).take (((((Cn.spS (bytesI s) i).1.map strOfNums).length : Int) - 1).toNat)).drop 1).length : Int)), (71, .int (x0 : Int))]) (fun x0 => [(602, .box [.int 0, .im (.val (.slice none 0 0))]), (607, .box [.int (Cn.rfK (bytesI s)), .row 701]), (701, .row 3 (.ints (((Cn.midW (Cn.splitI 32 (bytesI s))).take x0).map Cn.numN)))]) (fun x0 => (Cn.mdS s).length - x0) (0) ?_ ?_ ?_ ?_
       ·
        show 0 ≤ (Cn.mdS s).length ∧ ∀ j, j < 0 → Cn.litW ((Cn.midW (Cn.splitI 32 (bytesI s))).getD j []) = true
        exact ⟨Nat.zero_le _, fun j hj => by omega⟩
       ·
        exact subE_mk (l := [.loc 602 0, .loc 607 0, .strs ((((Cn.spS (bytesI s) i).1.map strOfNums).take (((((Cn.spS (bytesI s) i).1.map strOfNums).length : Int) - 1).toNat)).drop 1), .int (((((Cn.spS (bytesI s) i).1.map strOfNums).take (((((Cn.spS (bytesI s) i).1.map strOfNums).length : Int) - 1).toNat)).drop 1).length : Int), .int 0]) (m := [.loc 602 0, .loc 607 0, .strs ((((Cn.spS (bytesI s) i).1.map strOfNums).take (((((Cn.spS (bytesI s) i).1.map strOfNums).length : Int) - 1).toNat)).drop 1), .int (((((Cn.spS (bytesI s) i).1.map strOfNums).take (((((Cn.spS (bytesI s) i).1.map strOfNums).length : Int) - 1).toNat)).drop 1).length : Int), .int (0 : Int)]) (by kernel_rfl) (by kernel_rfl) (consE rfl (consE rfl (consE rfl (consE rfl (consE (congrArg AV.int (show 0 = (0 : Int) from (by first | rfl | omega | (simp; done)))) rfl)))))
       ·
        exact Eq.trans (show _ = [(602, .box [.int 0, .im (.val (.slice none 0 0))]), (607, .box [.int 2, .row 701]), (701, .row 3 (.ints []))] from by kernel_rfl) (consH rfl (consH (congrArg (fun x => ((607 : Nat), x)) (congrArg AObj.box (consE (congrArg AV.int (show 2 = (Cn.rfK (bytesI s)) from (by exact r1.symm))) rfl))) (consH (congrArg (fun x => ((701 : Nat), x)) (congrArg (fun x => AObj.row 3 (.ints x)) (show [] = (((Cn.midW (Cn.splitI 32 (bytesI s))).take 0).map Cn.numN) from (by rfl)))) rfl)))
       ·
        intro q hI
        replace hI : q ≤ (Cn.mdS s).length ∧ ∀ j, j < q → Cn.litW ((Cn.midW (Cn.splitI 32 (bytesI s))).getD j []) = true := hI
        change Tri _ [(2, .loc 602 0), (7, .loc 607 0), (69, .strs ((((Cn.spS (bytesI s) i).1.map strOfNums).take (((((Cn.spS (bytesI s) i).1.map strOfNums).length : Int) - 1).toNat)).drop 1)), (70, .int (((((Cn.spS (bytesI s) i).1.map strOfNums).take (((((Cn.spS (bytesI s) i).1.map strOfNums).length : Int) - 1).toNat)).drop 1).length : Int)), (71, .int (q : Int))] [(602, .box [.int 0, .im (.val (.slice none 0 0))]), (607, .box [.int (Cn.rfK (bytesI s)), .row 701]), (701, .row 3 (.ints (((Cn.midW (Cn.splitI 32 (bytesI s))).take q).map Cn.numN)))] _ _
        obtain ⟨hk, hok⟩ := hI
        have hMd : ((((Cn.spS (bytesI s) i).1.map strOfNums).take ((((((Cn.spS (bytesI s) i).1.map strOfNums).length : Int) - 1)).toNat)).drop 1) = Cn.mdS s := by rw [hsp]
        have hMl := congrArg List.length hMd
        have hat : ((((Cn.spS (bytesI s) i).1.map strOfNums).take ((((((Cn.spS (bytesI s) i).1.map strOfNums).length : Int) - 1)).toNat)).drop 1).getD q ByteArray.empty = strOfNums ((Cn.midW (Cn.splitI 32 (bytesI s))).getD q []) := by rw [hMd]; exact Cn.mid_at s q
        have hwz : q < (Cn.mdS s).length → (((((Cn.spS (bytesI s) i).1.map strOfNums).take ((((((Cn.spS (bytesI s) i).1.map strOfNums).length : Int) - 1)).toNat)).drop 1).getD q ByteArray.empty).size ≤ s.size := by rw [hMd]; exact Cn.mid_size
        have htk := Cn.md_take (s := s) (i := q) (by omega)
        refine tri_seq ?_
        refine tri_regD hcx [] [72] [2, 7, 69, 70, 71] [602, 607, 701] [] [(72, .bool (decide ((q : Int) < (((((Cn.spS (bytesI s) i).1.map strOfNums).take (((((Cn.spS (bytesI s) i).1.map strOfNums).length : Int) - 1).toNat)).drop 1).length : Int))))] [] (by kernel_rfl) ?_ ?_
        ·
         exact az
        refine fin_then ?_
        refine tri_seq ?_
        refine tri_cond (b := (decide ((q : Int) < (((((Cn.spS (bytesI s) i).1.map strOfNums).take (((((Cn.spS (bytesI s) i).1.map strOfNums).length : Int) - 1).toNat)).drop 1).length : Int)))) (by kernel_rfl) (fun hb8 => ?_) (fun hb8 => ?_)
        ·
         skip
         have h8 := of_decide_eq_true hb8
         refine tri_skip ?_
         refine fin_then ?_
         refine tri_seq ?_
         refine tri_block ?_
         refine tri_seq ?_
         refine tri_regD hcx [] [9] [2, 7, 69, 70, 71] [602, 607, 701] [((0 : Int) ≤ (q : Int) ∧ (q : Int) < (((((Cn.spS (bytesI s) i).1.map strOfNums).take (((((Cn.spS (bytesI s) i).1.map strOfNums).length : Int) - 1).toNat)).drop 1).length : Int))] [(9, .im (.val (.string (((((Cn.spS (bytesI s) i).1.map strOfNums).take (((((Cn.spS (bytesI s) i).1.map strOfNums).length : Int) - 1).toNat)).drop 1).getD q ByteArray.empty))))] [] (by kernel_rfl) ?_ ?_
         ·
          refine (ap ?_ az)
          omega
         refine fin_then ?_
         refine tri_seq ?_
         refine tri_regD hcx [] [10, 11] [2, 7, 69, 70, 71] [602, 607, 701] [((((((Cn.spS (bytesI s) i).1.map strOfNums).take (((((Cn.spS (bytesI s) i).1.map strOfNums).length : Int) - 1).toNat)).drop 1).getD q ByteArray.empty).size ≤ 1000000000)] [(10, .int ((Cn.rQ (bytesI (((((Cn.spS (bytesI s) i).1.map strOfNums).take (((((Cn.spS (bytesI s) i).1.map strOfNums).length : Int) - 1).toNat)).drop 1).getD q ByteArray.empty))).1)), (11, .bool ((Cn.rQ (bytesI (((((Cn.spS (bytesI s) i).1.map strOfNums).take (((((Cn.spS (bytesI s) i).1.map strOfNums).length : Int) - 1).toNat)).drop 1).getD q ByteArray.empty))).2))] [] (by kernel_rfl) ?_ ?_
         ·
          refine (ap ?_ az)
          omega
         refine fin_then ?_
         refine tri_seq ?_
         refine tri_seq ?_
         refine tri_regD hcx [] [85] [10, 2, 7, 69, 70, 71] [602, 607, 701] [((!(!((Cn.rQ (bytesI (((((Cn.spS (bytesI s) i).1.map strOfNums).take (((((Cn.spS (bytesI s) i).1.map strOfNums).length : Int) - 1).toNat)).drop 1).getD q ByteArray.empty))).2))) = true → ((!(!((Cn.rQ (bytesI (((((Cn.spS (bytesI s) i).1.map strOfNums).take (((((Cn.spS (bytesI s) i).1.map strOfNums).length : Int) - 1).toNat)).drop 1).getD q ByteArray.empty))).2))) = true)), ((!((Cn.rQ (bytesI (((((Cn.spS (bytesI s) i).1.map strOfNums).take (((((Cn.spS (bytesI s) i).1.map strOfNums).length : Int) - 1).toNat)).drop 1).getD q ByteArray.empty))).2)) = false → (!(!((Cn.rQ (bytesI (((((Cn.spS (bytesI s) i).1.map strOfNums).take (((((Cn.spS (bytesI s) i).1.map strOfNums).length : Int) - 1).toNat)).drop 1).getD q ByteArray.empty))).2))) = true)] [(85, .bool ((!((Cn.rQ (bytesI (((((Cn.spS (bytesI s) i).1.map strOfNums).take (((((Cn.spS (bytesI s) i).1.map strOfNums).length : Int) - 1).toNat)).drop 1).getD q ByteArray.empty))).2)) || (((Cn.rQ (bytesI (((((Cn.spS (bytesI s) i).1.map strOfNums).take (((((Cn.spS (bytesI s) i).1.map strOfNums).length : Int) - 1).toNat)).drop 1).getD q ByteArray.empty))).1) == 0)))] [] (by kernel_rfl) ?_ ?_
         ·
          refine (ap ?_ (ap (by exact vcNot) az))
          exact id
         refine fin_then ?_
         refine tri_cond (b := ((!((Cn.rQ (bytesI (((((Cn.spS (bytesI s) i).1.map strOfNums).take (((((Cn.spS (bytesI s) i).1.map strOfNums).length : Int) - 1).toNat)).drop 1).getD q ByteArray.empty))).2)) || (((Cn.rQ (bytesI (((((Cn.spS (bytesI s) i).1.map strOfNums).take (((((Cn.spS (bytesI s) i).1.map strOfNums).length : Int) - 1).toNat)).drop 1).getD q ByteArray.empty))).1) == 0))) (by kernel_rfl) (fun hb9 => ?_) (fun hb9 => ?_)
         ·
          skip
          have h9 := hb9
          have hq := Cn.nq_no hat Cn.mid_bytes h9
          refine tri_seq ?_
          refine tri_ren (ρ := [(602, .to 602), (607, .to 607), (701, .frz)]) (keys := [85, 10, 2, 7, 69, 70, 71]) (E' := [(85, .bool ((!((Cn.rQ (bytesI (((((Cn.spS (bytesI s) i).1.map strOfNums).take (((((Cn.spS (bytesI s) i).1.map strOfNums).length : Int) - 1).toNat)).drop 1).getD q ByteArray.empty))).2)) || (((Cn.rQ (bytesI (((((Cn.spS (bytesI s) i).1.map strOfNums).take (((((Cn.spS (bytesI s) i).1.map strOfNums).length : Int) - 1).toNat)).drop 1).getD q ByteArray.empty))).1) == 0))), (10, .int ((Cn.rQ (bytesI (((((Cn.spS (bytesI s) i).1.map strOfNums).take (((((Cn.spS (bytesI s) i).1.map strOfNums).length : Int) - 1).toNat)).drop 1).getD q ByteArray.empty))).1)), (2, .loc 602 0), (7, .loc 607 0), (69, .strs ((((Cn.spS (bytesI s) i).1.map strOfNums).take (((((Cn.spS (bytesI s) i).1.map strOfNums).length : Int) - 1).toNat)).drop 1)), (70, .int (((((Cn.spS (bytesI s) i).1.map strOfNums).take (((((Cn.spS (bytesI s) i).1.map strOfNums).length : Int) - 1).toNat)).drop 1).length : Int)), (71, .int (q : Int))]) (H' := [(602, .box [.int 0, .im (.val (.slice none 0 0))]), (607, .box [.int (Cn.rfK (bytesI s)), .ints (((Cn.midW (Cn.splitI 32 (bytesI s))).take q).map Cn.numN)])]) (by kernel_rfl) ?_
          refine tri_regD hcx [(602, .to 602)] [3] [2] [] [] [(3, .bool false)] [(602, .box [.int (Cn.rfK (bytesI s)), .ints (((Cn.midW (Cn.splitI 32 (bytesI s))).take q).map Cn.numN)])] (by kernel_rfl) ?_ ?_
          ·
           exact az
          refine fin_then ?_
          refine tri_ret ?_
          refine fin_then_ret ?_
          refine fin_block_ret ?_
          refine fin_then_ret ?_
          refine fin_then_ret ?_
          refine fin_block_ret ?_
          refine fin_then_ret ?_
          exact fin_ret [] rfl rfl trivial hcx (avs := [.agg [.int (Cn.rfK (bytesI s)), .ints (((Cn.midW (Cn.splitI 32 (bytesI s))).take q).map Cn.numN)], .bool false]) (by kernel_rfl) (congrArg AV.tup (consE (congrArg AV.agg (consE rfl (consE (congrArg AV.ints (show (((Cn.midW (Cn.splitI 32 (bytesI s))).take q).map Cn.numN) = (Cn.lnL (bytesI s)) from (by first | exact r1.symm | exact Cn.ln_head hH | exact Cn.lnOk_head hH | exact Cn.ln_stop hH (by omega) hok hq | exact Cn.lnOk_stop (by omega) hok hq | exact Cn.ln_all hH (by omega) hok | exact Cn.lnOk_all hH (by omega) hok | done))) rfl))) (consE (congrArg AV.bool (show false = (Cn.lnOk (bytesI s)) from (by first | exact r1.symm | exact Cn.ln_head hH | exact Cn.lnOk_head hH | exact Cn.ln_stop hH (by omega) hok hq | exact Cn.lnOk_stop (by omega) hok hq | exact Cn.ln_all hH (by omega) hok | exact Cn.lnOk_all hH (by omega) hok | done))) rfl))) [] rfl
         ·
          skip
          have h9 := hb9
          obtain ⟨hq, hqv⟩ := Cn.nq_yes hat Cn.mid_bytes h9
          refine tri_skip ?_
          refine fin_then ?_
          refine tri_regD hcx [(607, .to 607), (1004, .to 701)] [] [2, 7, 69, 70, 71] [602] [(((((Cn.midW (Cn.splitI 32 (bytesI s))).take q).map Cn.numN).length + [(Cn.rQ (bytesI (((((Cn.spS (bytesI s) i).1.map strOfNums).take (((((Cn.spS (bytesI s) i).1.map strOfNums).length : Int) - 1).toNat)).drop 1).getD q ByteArray.empty))).1].length) * 8 ≤ 140737488355328)] [] [(607, .box [.int (Cn.rfK (bytesI s)), .row 701]), (701, .row 3 (.ints ((((Cn.midW (Cn.splitI 32 (bytesI s))).take q).map Cn.numN) ++ [(Cn.rQ (bytesI (((((Cn.spS (bytesI s) i).1.map strOfNums).take (((((Cn.spS (bytesI s) i).1.map strOfNums).length : Int) - 1).toNat)).drop 1).getD q ByteArray.empty))).1])))] (by kernel_rfl) ?_ ?_
          ·
           refine (ap ?_ az)
           (rw [htk]; simp only [List.length_cons, List.length_nil]; omega)
          refine fin_block ?_
          refine fin_then ?_
          refine tri_regD hcx [] [71] [2, 7, 69, 70] [607, 701, 602] [Fit ((q : Int) + 1)] [(71, .int ((q : Int) + 1))] [] (by kernel_rfl) ?_ ?_
          ·
           refine (ap ?_ az)
           omega
          refine fin_ren (ρ := [(602, .to 602), (607, .to 607), (701, .to 701)]) (keys := [2, 7, 69, 70, 71]) (E' := [(2, .loc 602 0), (7, .loc 607 0), (69, .strs ((((Cn.spS (bytesI s) i).1.map strOfNums).take (((((Cn.spS (bytesI s) i).1.map strOfNums).length : Int) - 1).toNat)).drop 1)), (70, .int (((((Cn.spS (bytesI s) i).1.map strOfNums).take (((((Cn.spS (bytesI s) i).1.map strOfNums).length : Int) - 1).toNat)).drop 1).length : Int)), (71, .int ((q : Int) + 1))]) (H' := [(602, .box [.int 0, .im (.val (.slice none 0 0))]), (607, .box [.int (Cn.rfK (bytesI s)), .row 701]), (701, .row 3 (.ints ((((Cn.midW (Cn.splitI 32 (bytesI s))).take q).map Cn.numN) ++ [(Cn.rQ (bytesI (((((Cn.spS (bytesI s) i).1.map strOfNums).take (((((Cn.spS (bytesI s) i).1.map strOfNums).length : Int) - 1).toNat)).drop 1).getD q ByteArray.empty))).1])))]) (by kernel_rfl) ?_
          refine fin_round (q + 1) ?_ ?_ ?_ ?_
          ·
           show (q + 1) ≤ (Cn.mdS s).length ∧ ∀ j, j < (q + 1) → Cn.litW ((Cn.midW (Cn.splitI 32 (bytesI s))).getD j []) = true
           exact ⟨by omega, fun j hj => by rcases (by omega : j < q ∨ j = q) with h | rfl; exact hok j h; exact hq⟩
          ·
           show (Cn.mdS s).length - (q + 1) < (Cn.mdS s).length - q
           omega
          ·
           exact subE_mk (l := [.loc 602 0, .loc 607 0, .strs ((((Cn.spS (bytesI s) i).1.map strOfNums).take (((((Cn.spS (bytesI s) i).1.map strOfNums).length : Int) - 1).toNat)).drop 1), .int (((((Cn.spS (bytesI s) i).1.map strOfNums).take (((((Cn.spS (bytesI s) i).1.map strOfNums).length : Int) - 1).toNat)).drop 1).length : Int), .int ((q : Int) + 1)]) (m := [.loc 602 0, .loc 607 0, .strs ((((Cn.spS (bytesI s) i).1.map strOfNums).take (((((Cn.spS (bytesI s) i).1.map strOfNums).length : Int) - 1).toNat)).drop 1), .int (((((Cn.spS (bytesI s) i).1.map strOfNums).take (((((Cn.spS (bytesI s) i).1.map strOfNums).length : Int) - 1).toNat)).drop 1).length : Int), .int ((q + 1) : Int)]) (by kernel_rfl) (by kernel_rfl) (consE rfl (consE rfl (consE rfl (consE rfl (consE (congrArg AV.int (show ((q : Int) + 1) = ((q + 1) : Int) from (by first | rfl | omega | (simp; done)))) rfl)))))
          ·
           exact Eq.trans (show _ = [(602, .box [.int 0, .im (.val (.slice none 0 0))]), (607, .box [.int (Cn.rfK (bytesI s)), .row 701]), (701, .row 3 (.ints ((((Cn.midW (Cn.splitI 32 (bytesI s))).take q).map Cn.numN) ++ [(Cn.rQ (bytesI (((((Cn.spS (bytesI s) i).1.map strOfNums).take (((((Cn.spS (bytesI s) i).1.map strOfNums).length : Int) - 1).toNat)).drop 1).getD q ByteArray.empty))).1])))] from by kernel_rfl) (consH rfl (consH rfl (consH (congrArg (fun x => ((701 : Nat), x)) (congrArg (fun x => AObj.row 3 (.ints x)) (show ((((Cn.midW (Cn.splitI 32 (bytesI s))).take q).map Cn.numN) ++ [(Cn.rQ (bytesI (((((Cn.spS (bytesI s) i).1.map strOfNums).take (((((Cn.spS (bytesI s) i).1.map strOfNums).length : Int) - 1).toNat)).drop 1).getD q ByteArray.empty))).1]) = (((Cn.midW (Cn.splitI 32 (bytesI s))).take (q + 1)).map Cn.numN) from (by exact Cn.mid_snoc (by omega) hqv)))) rfl)))
        ·
         skip
         have h8 := of_decide_eq_false hb8
         refine tri_exit ?_
         refine fin_then_exit ?_
         refine fin_then_exit ?_
         refine fin_block_same ?_
         refine fin_then ?_
         refine tri_seq ?_
         refine tri_ren (ρ := [(602, .to 602), (607, .to 607), (701, .frz)]) (keys := [72, 2, 7, 69, 70, 71]) (E' := [(72, .bool (decide ((q : Int) < (((((Cn.spS (bytesI s) i).1.map strOfNums).take (((((Cn.spS (bytesI s) i).1.map strOfNums).length : Int) - 1).toNat)).drop 1).length : Int)))), (2, .loc 602 0), (7, .loc 607 0), (69, .strs ((((Cn.spS (bytesI s) i).1.map strOfNums).take (((((Cn.spS (bytesI s) i).1.map strOfNums).length : Int) - 1).toNat)).drop 1)), (70, .int (((((Cn.spS (bytesI s) i).1.map strOfNums).take (((((Cn.spS (bytesI s) i).1.map strOfNums).length : Int) - 1).toNat)).drop 1).length : Int)), (71, .int (q : Int))]) (H' := [(602, .box [.int 0, .im (.val (.slice none 0 0))]), (607, .box [.int (Cn.rfK (bytesI s)), .ints (((Cn.midW (Cn.splitI 32 (bytesI s))).take q).map Cn.numN)])]) (by kernel_rfl) ?_
         refine tri_regD hcx [(602, .to 602)] [3] [2] [] [] [(3, .bool true)] [(602, .box [.int (Cn.rfK (bytesI s)), .ints (((Cn.midW (Cn.splitI 32 (bytesI s))).take q).map Cn.numN)])] (by kernel_rfl) ?_ ?_
         ·
          exact az
         refine fin_then ?_
         refine tri_ret ?_
         exact fin_ret [] rfl rfl trivial hcx (avs := [.agg [.int (Cn.rfK (bytesI s)), .ints (((Cn.midW (Cn.splitI 32 (bytesI s))).take q).map Cn.numN)], .bool true]) (by kernel_rfl) (congrArg AV.tup (consE (congrArg AV.agg (consE rfl (consE (congrArg AV.ints (show (((Cn.midW (Cn.splitI 32 (bytesI s))).take q).map Cn.numN) = (Cn.lnL (bytesI s)) from (by first | exact r1.symm | exact Cn.ln_head hH | exact Cn.lnOk_head hH | exact Cn.ln_stop hH (by omega) hok hq | exact Cn.lnOk_stop (by omega) hok hq | exact Cn.ln_all hH (by omega) hok | exact Cn.lnOk_all hH (by omega) hok | done))) rfl))) (consE (congrArg AV.bool (show true = (Cn.lnOk (bytesI s)) from (by first | exact r1.symm | exact Cn.ln_head hH | exact Cn.lnOk_head hH | exact Cn.ln_stop hH (by omega) hok hq | exact Cn.lnOk_stop (by omega) hok hq | exact Cn.ln_all hH (by omega) hok | exact Cn.lnOk_all hH (by omega) hok | done))) rfl))) [] rfl
     ·
      skip
      have h6 := hb6
      have n2 := by have hz := h6; rw [hsp, show (⟨#[108]⟩ : ByteArray) = strOfNums [108] by decide] at hz; exact Cn.w0_f (by omega) hz
      refine tri_seq ?_
      refine tri_regD hcx [] [49] [7, 2, 4] [607, 602, 700] [] [(49, .bool ((((Cn.spS (bytesI s) i).1.map strOfNums).getD 0 ByteArray.empty).toList == (⟨#[100]⟩ : ByteArray).toList))] [] (by kernel_rfl) ?_ ?_
      ·
       exact az
      refine fin_then ?_
      refine tri_cond (b := ((((Cn.spS (bytesI s) i).1.map strOfNums).getD 0 ByteArray.empty).toList == (⟨#[100]⟩ : ByteArray).toList)) (by kernel_rfl) (fun hb10 => ?_) (fun hb10 => ?_)
      ·
       skip
       have h10 := hb10
       have hw0 := by have hz := h10; rw [hsp, show (⟨#[100]⟩ : ByteArray) = strOfNums [100] by decide] at hz; exact Cn.w0_t (by omega) hz
       obtain ⟨r1, r2, r3⟩ := Cn.rf_3 n1 n2 hw0
       refine tri_regD hcx [(607, .to 607)] [] [7, 2, 4] [602, 700] [] [] [(607, .box [.int 3, .im (.val (.slice none 0 0))])] (by kernel_rfl) ?_ ?_
       ·
        exact az
       refine fin_block ?_
       refine fin_then ?_
       refine tri_seq ?_
       refine tri_seq ?_
       refine tri_regD hcx [] [63] [7, 2, 4] [607, 602, 700] [((!(decide ((((Cn.spS (bytesI s) i).1.map strOfNums).length : Int) < 2))) = true → ((!(decide ((((Cn.spS (bytesI s) i).1.map strOfNums).length : Int) < 2))) = true)), ((!(decide ((((Cn.spS (bytesI s) i).1.map strOfNums).length : Int) < 2))) = true → ((!(decide ((((Cn.spS (bytesI s) i).1.map strOfNums).length : Int) < 2))) = true)), ((!(decide ((((Cn.spS (bytesI s) i).1.map strOfNums).length : Int) < 2))) = true → Fit ((((Cn.spS (bytesI s) i).1.map strOfNums).length : Int) - 1)), ((!(decide ((((Cn.spS (bytesI s) i).1.map strOfNums).length : Int) < 2))) = true → ((!(decide ((((Cn.spS (bytesI s) i).1.map strOfNums).length : Int) < 2))) = true)), ((!(decide ((((Cn.spS (bytesI s) i).1.map strOfNums).length : Int) < 2))) = true → ((!(decide ((((Cn.spS (bytesI s) i).1.map strOfNums).length : Int) < 2))) = true)), ((!(decide ((((Cn.spS (bytesI s) i).1.map strOfNums).length : Int) < 2))) = true → ((0 : Int) ≤ ((((Cn.spS (bytesI s) i).1.map strOfNums).length : Int) - 1) ∧ ((((Cn.spS (bytesI s) i).1.map strOfNums).length : Int) - 1) < (((Cn.spS (bytesI s) i).1.map strOfNums).length : Int))), ((!(decide ((((Cn.spS (bytesI s) i).1.map strOfNums).length : Int) < 2))) = true → ((!(decide ((((Cn.spS (bytesI s) i).1.map strOfNums).length : Int) < 2))) = true)), ((!(decide ((((Cn.spS (bytesI s) i).1.map strOfNums).length : Int) < 2))) = true → ((((((Cn.spS (bytesI s) i).1.map strOfNums).length : Int) - 1).toNat) < ((Cn.spS (bytesI s) i).1.map strOfNums).length)), ((!(decide ((((Cn.spS (bytesI s) i).1.map strOfNums).length : Int) < 2))) = true → ((!(decide ((((Cn.spS (bytesI s) i).1.map strOfNums).length : Int) < 2))) = true)), ((decide ((((Cn.spS (bytesI s) i).1.map strOfNums).length : Int) < 2)) = false → (!(decide ((((Cn.spS (bytesI s) i).1.map strOfNums).length : Int) < 2))) = true)] [(63, .bool ((decide ((((Cn.spS (bytesI s) i).1.map strOfNums).length : Int) < 2)) || (!((((Cn.spS (bytesI s) i).1.map strOfNums).getD (((((Cn.spS (bytesI s) i).1.map strOfNums).length : Int) - 1).toNat) ByteArray.empty).toList == (⟨#[48]⟩ : ByteArray).toList))))] [] (by kernel_rfl) ?_ ?_
       ·
        refine (ap ?_ (ap ?_ (ap ?_ (ap ?_ (ap ?_ (ap ?_ (ap ?_ (ap ?_ (ap ?_ (ap (by exact vcNot) az))))))))))
        all_goals
         first | omega | exact id
       refine fin_then ?_
       refine tri_cond (b := ((decide ((((Cn.spS (bytesI s) i).1.map strOfNums).length : Int) < 2)) || (!((((Cn.spS (bytesI s) i).1.map strOfNums).getD (((((Cn.spS (bytesI s) i).1.map strOfNums).length : Int) - 1).toNat) ByteArray.empty).toList == (⟨#[48]⟩ : ByteArray).toList)))) (by kernel_rfl) (fun hb11 => ?_) (fun hb11 => ?_)
       ·
        skip
        have h11 := hb11
        have hH : Cn.headW (Cn.splitI 32 (bytesI s)) = false := by have hz := h11; rw [hsp] at hz; exact Cn.headS_no (Cn.tail_is (by omega) r3) hz
        refine tri_seq ?_
        refine tri_regD hcx [(602, .to 602)] [3] [2] [] [] [(3, .bool false)] [(602, .box [.int 3, .im (.val (.slice none 0 0))])] (by kernel_rfl) ?_ ?_
        ·
         exact az
        refine fin_then ?_
        refine tri_ret ?_
        refine fin_then_ret ?_
        refine fin_rowB 602 1 700 0 (.ints []) (by kernel_rfl) (by kernel_rfl) (by kernel_rfl) (by kernel_rfl) (H' := [(602, .box [.int 3, .row 700])]) (by kernel_rfl) ?_
        refine fin_ren (ρ := [(602, .to 990), (700, .frz)]) (keys := [2, 3]) (E' := [(2, .loc 990 0), (3, .bool false)]) (H' := [(990, .box [.int 3, .ints []])]) (by kernel_rfl) ?_
        exact fin_ret [] rfl rfl trivial hcx (avs := [.agg [.int 3, .ints []], .bool false]) (by kernel_rfl) (congrArg AV.tup (consE (congrArg AV.agg (consE (congrArg AV.int (show 3 = (Cn.rfK (bytesI s)) from (by first | exact r1.symm | exact Cn.ln_head hH | exact Cn.lnOk_head hH | exact Cn.ln_stop hH (by omega) hok hq | exact Cn.lnOk_stop (by omega) hok hq | exact Cn.ln_all hH (by omega) hok | exact Cn.lnOk_all hH (by omega) hok | done))) (consE (congrArg AV.ints (show [] = (Cn.lnL (bytesI s)) from (by first | exact r1.symm | exact Cn.ln_head hH | exact Cn.lnOk_head hH | exact Cn.ln_stop hH (by omega) hok hq | exact Cn.lnOk_stop (by omega) hok hq | exact Cn.ln_all hH (by omega) hok | exact Cn.lnOk_all hH (by omega) hok | done))) rfl))) (consE (congrArg AV.bool (show false = (Cn.lnOk (bytesI s)) from (by first | exact r1.symm | exact Cn.ln_head hH | exact Cn.lnOk_head hH | exact Cn.ln_stop hH (by omega) hok hq | exact Cn.lnOk_stop (by omega) hok hq | exact Cn.ln_all hH (by omega) hok | exact Cn.lnOk_all hH (by omega) hok | done))) rfl))) [] rfl
       ·
        skip
        have h11 := hb11
        have hH : Cn.headW (Cn.splitI 32 (bytesI s)) = true := by have hz := h11; rw [hsp] at hz; exact Cn.headS_yes (Cn.tail_is (by omega) r3) hz
        have hH2 := Cn.headS_two hH
        refine tri_skip ?_
        refine fin_then ?_
        refine tri_seq ?_
        refine tri_seq ?_
        refine tri_rowB 607 1 701 3 (.ints []) (by kernel_rfl) (by kernel_rfl) (by kernel_rfl) (by kernel_rfl) (H' := [(607, .box [.int 3, .row 701]), (602, .box [.int 0, .im (.val (.slice none 0 0))]), (700, .row 9 (.strs ((Cn.spS (bytesI s) i).1.map strOfNums)))]) (by kernel_rfl) ?_
        refine tri_regD hcx [] [69, 70, 71] [7, 2] [701, 607, 602] [Fit ((((Cn.spS (bytesI s) i).1.map strOfNums).length : Int) - 1), ((0 : Int) ≤ 1 ∧ 1 ≤ ((((Cn.spS (bytesI s) i).1.map strOfNums).length : Int) - 1) ∧ ((((Cn.spS (bytesI s) i).1.map strOfNums).length : Int) - 1) ≤ (((Cn.spS (bytesI s) i).1.map strOfNums).length : Int))] [(69, .strs ((((Cn.spS (bytesI s) i).1.map strOfNums).take (((((Cn.spS (bytesI s) i).1.map strOfNums).length : Int) - 1).toNat)).drop 1)), (70, .int (((((Cn.spS (bytesI s) i).1.map strOfNums).take (((((Cn.spS (bytesI s) i).1.map strOfNums).length : Int) - 1).toNat)).drop 1).length : Int)), (71, .int 0)] [] (by kernel_rfl) ?_ ?_
        ·
         refine (ap ?_ (ap ?_ az))
         all_goals
          omega
        refine fin_then ?_
        refine tri_block ?_
        refine tri_ren (ρ := [(602, .to 602), (607, .to 607), (701, .to 701)]) (keys := [2, 7, 69, 70, 71]) (E' := [(2, .loc 602 0), (7, .loc 607 0), (69, .strs ((((Cn.spS (bytesI s) i).1.map strOfNums).take (((((Cn.spS (bytesI s) i).1.map strOfNums).length : Int) - 1).toNat)).drop 1)), (70, .int (((((Cn.spS (bytesI s) i).1.map strOfNums).take (((((Cn.spS (bytesI s) i).1.map strOfNums).length : Int) - 1).toNat)).drop 1).length : Int)), (71, .int 0)]) (H' := [(602, .box [.int 0, .im (.val (.slice none 0 0))]), (607, .box [.int 3, .row 701]), (701, .row 3 (.ints []))]) (by kernel_rfl) ?_
        refine tri_loop (X := Nat) (fun x0 => x0 ≤ (Cn.mdS s).length ∧ ∀ j, j < x0 → Cn.litW ((Cn.midW (Cn.splitI 32 (bytesI s))).getD j []) = true) (fun x0 => [(2, .loc 602 0), (7, .loc 607 0), (69, .strs ((((Cn.spS (bytesI s) i).1.map strOfNums).take (((((Cn.spS (bytesI s) i).1.map strOfNums).length : Int) - 1).toNat)).drop 1)), (70, .int (((((Cn.spS (bytesI s) i).1.map strOfNums).take (((((Cn.spS (bytesI s) i).1.map strOfNums).length : Int) - 1).toNat)).drop 1).length : Int)), (71, .int (x0 : Int))]) (fun x0 => [(602, .box [.int 0, .im (.val (.slice none 0 0))]), (607, .box [.int (Cn.rfK (bytesI s)), .row 701]), (701, .row 3 (.ints (((Cn.midW (Cn.splitI 32 (bytesI s))).take x0).map Cn.numN)))]) (fun x0 => (Cn.mdS s).length - x0) (0) ?_ ?_ ?_ ?_
        ·
         show 0 ≤ (Cn.mdS s).length ∧ ∀ j, j < 0 → Cn.litW ((Cn.midW (Cn.splitI 32 (bytesI s))).getD j []) = true
         exact ⟨Nat.zero_le _, fun j hj => by omega⟩
        ·
         exact subE_mk (l := [.loc 602 0, .loc 607 0, .strs ((((Cn.spS (bytesI s) i).1.map strOfNums).take (((((Cn.spS (bytesI s) i).1.map strOfNums).length : Int) - 1).toNat)).drop 1), .int (((((Cn.spS (bytesI s) i).1.map strOfNums).take (((((Cn.spS (bytesI s) i).1.map strOfNums).length : Int) - 1).toNat)).drop 1).length : Int), .int 0]) (m := [.loc 602 0, .loc 607 0, .strs ((((Cn.spS (bytesI s) i).1.map strOfNums).take (((((Cn.spS (bytesI s) i).1.map strOfNums).length : Int) - 1).toNat)).drop 1), .int (((((Cn.spS (bytesI s) i).1.map strOfNums).take (((((Cn.spS (bytesI s) i).1.map strOfNums).length : Int) - 1).toNat)).drop 1).length : Int), .int (0 : Int)]) (by kernel_rfl) (by kernel_rfl) (consE rfl (consE rfl (consE rfl (consE rfl (consE (congrArg AV.int (show 0 = (0 : Int) from (by first | rfl | omega | (simp; done)))) rfl)))))
        ·
         exact Eq.trans (show _ = [(602, .box [.int 0, .im (.val (.slice none 0 0))]), (607, .box [.int 3, .row 701]), (701, .row 3 (.ints []))] from by kernel_rfl) (consH rfl (consH (congrArg (fun x => ((607 : Nat), x)) (congrArg AObj.box (consE (congrArg AV.int (show 3 = (Cn.rfK (bytesI s)) from (by exact r1.symm))) rfl))) (consH (congrArg (fun x => ((701 : Nat), x)) (congrArg (fun x => AObj.row 3 (.ints x)) (show [] = (((Cn.midW (Cn.splitI 32 (bytesI s))).take 0).map Cn.numN) from (by rfl)))) rfl)))
        ·
         intro q hI
         replace hI : q ≤ (Cn.mdS s).length ∧ ∀ j, j < q → Cn.litW ((Cn.midW (Cn.splitI 32 (bytesI s))).getD j []) = true := hI
         change Tri _ [(2, .loc 602 0), (7, .loc 607 0), (69, .strs ((((Cn.spS (bytesI s) i).1.map strOfNums).take (((((Cn.spS (bytesI s) i).1.map strOfNums).length : Int) - 1).toNat)).drop 1)), (70, .int (((((Cn.spS (bytesI s) i).1.map strOfNums).take (((((Cn.spS (bytesI s) i).1.map strOfNums).length : Int) - 1).toNat)).drop 1).length : Int)), (71, .int (q : Int))] [(602, .box [.int 0, .im (.val (.slice none 0 0))]), (607, .box [.int (Cn.rfK (bytesI s)), .row 701]), (701, .row 3 (.ints (((Cn.midW (Cn.splitI 32 (bytesI s))).take q).map Cn.numN)))] _ _
         obtain ⟨hk, hok⟩ := hI
         have hMd : ((((Cn.spS (bytesI s) i).1.map strOfNums).take ((((((Cn.spS (bytesI s) i).1.map strOfNums).length : Int) - 1)).toNat)).drop 1) = Cn.mdS s := by rw [hsp]
         have hMl := congrArg List.length hMd
         have hat : ((((Cn.spS (bytesI s) i).1.map strOfNums).take ((((((Cn.spS (bytesI s) i).1.map strOfNums).length : Int) - 1)).toNat)).drop 1).getD q ByteArray.empty = strOfNums ((Cn.midW (Cn.splitI 32 (bytesI s))).getD q []) := by rw [hMd]; exact Cn.mid_at s q
         have hwz : q < (Cn.mdS s).length → (((((Cn.spS (bytesI s) i).1.map strOfNums).take ((((((Cn.spS (bytesI s) i).1.map strOfNums).length : Int) - 1)).toNat)).drop 1).getD q ByteArray.empty).size ≤ s.size := by rw [hMd]; exact Cn.mid_size
         have htk := Cn.md_take (s := s) (i := q) (by omega)
         refine tri_seq ?_
         refine tri_regD hcx [] [72] [2, 7, 69, 70, 71] [602, 607, 701] [] [(72, .bool (decide ((q : Int) < (((((Cn.spS (bytesI s) i).1.map strOfNums).take (((((Cn.spS (bytesI s) i).1.map strOfNums).length : Int) - 1).toNat)).drop 1).length : Int))))] [] (by kernel_rfl) ?_ ?_
         ·
          exact az
         refine fin_then ?_
         refine tri_seq ?_
         refine tri_cond (b := (decide ((q : Int) < (((((Cn.spS (bytesI s) i).1.map strOfNums).take (((((Cn.spS (bytesI s) i).1.map strOfNums).length : Int) - 1).toNat)).drop 1).length : Int)))) (by kernel_rfl) (fun hb12 => ?_) (fun hb12 => ?_)
         ·
          skip
          have h12 := of_decide_eq_true hb12
          refine tri_skip ?_
          refine fin_then ?_
          refine tri_seq ?_
          refine tri_block ?_
          refine tri_seq ?_
          refine tri_regD hcx [] [9] [2, 7, 69, 70, 71] [602, 607, 701] [((0 : Int) ≤ (q : Int) ∧ (q : Int) < (((((Cn.spS (bytesI s) i).1.map strOfNums).take (((((Cn.spS (bytesI s) i).1.map strOfNums).length : Int) - 1).toNat)).drop 1).length : Int))] [(9, .im (.val (.string (((((Cn.spS (bytesI s) i).1.map strOfNums).take (((((Cn.spS (bytesI s) i).1.map strOfNums).length : Int) - 1).toNat)).drop 1).getD q ByteArray.empty))))] [] (by kernel_rfl) ?_ ?_
          ·
           refine (ap ?_ az)
           omega
          refine fin_then ?_
          refine tri_seq ?_
          refine tri_regD hcx [] [10, 11] [2, 7, 69, 70, 71] [602, 607, 701] [((((((Cn.spS (bytesI s) i).1.map strOfNums).take (((((Cn.spS (bytesI s) i).1.map strOfNums).length : Int) - 1).toNat)).drop 1).getD q ByteArray.empty).size ≤ 1000000000)] [(10, .int ((Cn.rQ (bytesI (((((Cn.spS (bytesI s) i).1.map strOfNums).take (((((Cn.spS (bytesI s) i).1.map strOfNums).length : Int) - 1).toNat)).drop 1).getD q ByteArray.empty))).1)), (11, .bool ((Cn.rQ (bytesI (((((Cn.spS (bytesI s) i).1.map strOfNums).take (((((Cn.spS (bytesI s) i).1.map strOfNums).length : Int) - 1).toNat)).drop 1).getD q ByteArray.empty))).2))] [] (by kernel_rfl) ?_ ?_
          ·
           refine (ap ?_ az)
           omega
          refine fin_then ?_
          refine tri_seq ?_
          refine tri_seq ?_
          refine tri_regD hcx [] [85] [10, 2, 7, 69, 70, 71] [602, 607, 701] [((!(!((Cn.rQ (bytesI (((((Cn.spS (bytesI s) i).1.map strOfNums).take (((((Cn.spS (bytesI s) i).1.map strOfNums).length : Int) - 1).toNat)).drop 1).getD q ByteArray.empty))).2))) = true → ((!(!((Cn.rQ (bytesI (((((Cn.spS (bytesI s) i).1.map strOfNums).take (((((Cn.spS (bytesI s) i).1.map strOfNums).length : Int) - 1).toNat)).drop 1).getD q ByteArray.empty))).2))) = true)), ((!((Cn.rQ (bytesI (((((Cn.spS (bytesI s) i).1.map strOfNums).take (((((Cn.spS (bytesI s) i).1.map strOfNums).length : Int) - 1).toNat)).drop 1).getD q ByteArray.empty))).2)) = false → (!(!((Cn.rQ (bytesI (((((Cn.spS (bytesI s) i).1.map strOfNums).take (((((Cn.spS (bytesI s) i).1.map strOfNums).length : Int) - 1).toNat)).drop 1).getD q ByteArray.empty))).2))) = true)] [(85, .bool ((!((Cn.rQ (bytesI (((((Cn.spS (bytesI s) i).1.map strOfNums).take (((((Cn.spS (bytesI s) i).1.map strOfNums).length : Int) - 1).toNat)).drop 1).getD q ByteArray.empty))).2)) || (((Cn.rQ (bytesI (((((Cn.spS (bytesI s) i).1.map strOfNums).take (((((Cn.spS (bytesI s) i).1.map strOfNums).length : Int) - 1).toNat)).drop 1).getD q ByteArray.empty))).1) == 0)))] [] (by kernel_rfl) ?_ ?_
          ·
           refine (ap ?_ (ap (by exact vcNot) az))
           exact id
          refine fin_then ?_
          refine tri_cond (b := ((!((Cn.rQ (bytesI (((((Cn.spS (bytesI s) i).1.map strOfNums).take (((((Cn.spS (bytesI s) i).1.map strOfNums).length : Int) - 1).toNat)).drop 1).getD q ByteArray.empty))).2)) || (((Cn.rQ (bytesI (((((Cn.spS (bytesI s) i).1.map strOfNums).take (((((Cn.spS (bytesI s) i).1.map strOfNums).length : Int) - 1).toNat)).drop 1).getD q ByteArray.empty))).1) == 0))) (by kernel_rfl) (fun hb13 => ?_) (fun hb13 => ?_)
          ·
           skip
           have h13 := hb13
           have hq := Cn.nq_no hat Cn.mid_bytes h13
           refine tri_seq ?_
           refine tri_ren (ρ := [(602, .to 602), (607, .to 607), (701, .frz)]) (keys := [85, 10, 2, 7, 69, 70, 71]) (E' := [(85, .bool ((!((Cn.rQ (bytesI (((((Cn.spS (bytesI s) i).1.map strOfNums).take (((((Cn.spS (bytesI s) i).1.map strOfNums).length : Int) - 1).toNat)).drop 1).getD q ByteArray.empty))).2)) || (((Cn.rQ (bytesI (((((Cn.spS (bytesI s) i).1.map strOfNums).take (((((Cn.spS (bytesI s) i).1.map strOfNums).length : Int) - 1).toNat)).drop 1).getD q ByteArray.empty))).1) == 0))), (10, .int ((Cn.rQ (bytesI (((((Cn.spS (bytesI s) i).1.map strOfNums).take (((((Cn.spS (bytesI s) i).1.map strOfNums).length : Int) - 1).toNat)).drop 1).getD q ByteArray.empty))).1)), (2, .loc 602 0), (7, .loc 607 0), (69, .strs ((((Cn.spS (bytesI s) i).1.map strOfNums).take (((((Cn.spS (bytesI s) i).1.map strOfNums).length : Int) - 1).toNat)).drop 1)), (70, .int (((((Cn.spS (bytesI s) i).1.map strOfNums).take (((((Cn.spS (bytesI s) i).1.map strOfNums).length : Int) - 1).toNat)).drop 1).length : Int)), (71, .int (q : Int))]) (H' := [(602, .box [.int 0, .im (.val (.slice none 0 0))]), (607, .box [.int (Cn.rfK (bytesI s)), .ints (((Cn.midW (Cn.splitI 32 (bytesI s))).take q).map Cn.numN)])]) (by kernel_rfl) ?_
           refine tri_regD hcx [(602, .to 602)] [3] [2] [] [] [(3, .bool false)] [(602, .box [.int (Cn.rfK (bytesI s)), .ints (((Cn.midW (Cn.splitI 32 (bytesI s))).take q).map Cn.numN)])] (by kernel_rfl) ?_ ?_
           ·
            exact az
           refine fin_then ?_
           refine tri_ret ?_
           refine fin_then_ret ?_
           refine fin_block_ret ?_
           refine fin_then_ret ?_
           refine fin_then_ret ?_
           refine fin_block_ret ?_
           refine fin_then_ret ?_
           exact fin_ret [] rfl rfl trivial hcx (avs := [.agg [.int (Cn.rfK (bytesI s)), .ints (((Cn.midW (Cn.splitI 32 (bytesI s))).take q).map Cn.numN)], .bool false]) (by kernel_rfl) (congrArg AV.tup (consE (congrArg AV.agg (consE rfl (consE (congrArg AV.ints (show (((Cn.midW (Cn.splitI 32 (bytesI s))).take q).map Cn.numN) = (Cn.lnL (bytesI s)) from (by first | exact r1.symm | exact Cn.ln_head hH | exact Cn.lnOk_head hH | exact Cn.ln_stop hH (by omega) hok hq | exact Cn.lnOk_stop (by omega) hok hq | exact Cn.ln_all hH (by omega) hok | exact Cn.lnOk_all hH (by omega) hok | done))) rfl))) (consE (congrArg AV.bool (show false = (Cn.lnOk (bytesI s)) from (by first | exact r1.symm | exact Cn.ln_head hH | exact Cn.lnOk_head hH | exact Cn.ln_stop hH (by omega) hok hq | exact Cn.lnOk_stop (by omega) hok hq | exact Cn.ln_all hH (by omega) hok | exact Cn.lnOk_all hH (by omega) hok | done))) rfl))) [] rfl
          ·
           skip
           have h13 := hb13
           obtain ⟨hq, hqv⟩ := Cn.nq_yes hat Cn.mid_bytes h13
           refine tri_skip ?_
           refine fin_then ?_
           refine tri_regD hcx [(607, .to 607), (1004, .to 701)] [] [2, 7, 69, 70, 71] [602] [(((((Cn.midW (Cn.splitI 32 (bytesI s))).take q).map Cn.numN).length + [(Cn.rQ (bytesI (((((Cn.spS (bytesI s) i).1.map strOfNums).take (((((Cn.spS (bytesI s) i).1.map strOfNums).length : Int) - 1).toNat)).drop 1).getD q ByteArray.empty))).1].length) * 8 ≤ 140737488355328)] [] [(607, .box [.int (Cn.rfK (bytesI s)), .row 701]), (701, .row 3 (.ints ((((Cn.midW (Cn.splitI 32 (bytesI s))).take q).map Cn.numN) ++ [(Cn.rQ (bytesI (((((Cn.spS (bytesI s) i).1.map strOfNums).take (((((Cn.spS (bytesI s) i).1.map strOfNums).length : Int) - 1).toNat)).drop 1).getD q ByteArray.empty))).1])))] (by kernel_rfl) ?_ ?_
           ·
            refine (ap ?_ az)
            (rw [htk]; simp only [List.length_cons, List.length_nil]; omega)
           refine fin_block ?_
           refine fin_then ?_
           refine tri_regD hcx [] [71] [2, 7, 69, 70] [607, 701, 602] [Fit ((q : Int) + 1)] [(71, .int ((q : Int) + 1))] [] (by kernel_rfl) ?_ ?_
           ·
            refine (ap ?_ az)
            omega
           refine fin_ren (ρ := [(602, .to 602), (607, .to 607), (701, .to 701)]) (keys := [2, 7, 69, 70, 71]) (E' := [(2, .loc 602 0), (7, .loc 607 0), (69, .strs ((((Cn.spS (bytesI s) i).1.map strOfNums).take (((((Cn.spS (bytesI s) i).1.map strOfNums).length : Int) - 1).toNat)).drop 1)), (70, .int (((((Cn.spS (bytesI s) i).1.map strOfNums).take (((((Cn.spS (bytesI s) i).1.map strOfNums).length : Int) - 1).toNat)).drop 1).length : Int)), (71, .int ((q : Int) + 1))]) (H' := [(602, .box [.int 0, .im (.val (.slice none 0 0))]), (607, .box [.int (Cn.rfK (bytesI s)), .row 701]), (701, .row 3 (.ints ((((Cn.midW (Cn.splitI 32 (bytesI s))).take q).map Cn.numN) ++ [(Cn.rQ (bytesI (((((Cn.spS (bytesI s) i).1.map strOfNums).take (((((Cn.spS (bytesI s) i).1.map strOfNums).length : Int) - 1).toNat)).drop 1).getD q ByteArray.empty))).1])))]) (by kernel_rfl) ?_
           refine fin_round (q + 1) ?_ ?_ ?_ ?_
           ·
            show (q + 1) ≤ (Cn.mdS s).length ∧ ∀ j, j < (q + 1) → Cn.litW ((Cn.midW (Cn.splitI 32 (bytesI s))).getD j []) = true
            exact ⟨by omega, fun j hj => by rcases (by omega : j < q ∨ j = q) with h | rfl; exact hok j h; exact hq⟩
           ·
            show (Cn.mdS s).length - (q + 1) < (Cn.mdS s).length - q
            omega
           ·
            exact subE_mk (l := [.loc 602 0, .loc 607 0, .strs ((((Cn.spS (bytesI s) i).1.map strOfNums).take (((((Cn.spS (bytesI s) i).1.map strOfNums).length : Int) - 1).toNat)).drop 1), .int (((((Cn.spS (bytesI s) i).1.map strOfNums).take (((((Cn.spS (bytesI s) i).1.map strOfNums).length : Int) - 1).toNat)).drop 1).length : Int), .int ((q : Int) + 1)]) (m := [.loc 602 0, .loc 607 0, .strs ((((Cn.spS (bytesI s) i).1.map strOfNums).take (((((Cn.spS (bytesI s) i).1.map strOfNums).length : Int) - 1).toNat)).drop 1), .int (((((Cn.spS (bytesI s) i).1.map strOfNums).take (((((Cn.spS (bytesI s) i).1.map strOfNums).length : Int) - 1).toNat)).drop 1).length : Int), .int ((q + 1) : Int)]) (by kernel_rfl) (by kernel_rfl) (consE rfl (consE rfl (consE rfl (consE rfl (consE (congrArg AV.int (show ((q : Int) + 1) = ((q + 1) : Int) from (by first | rfl | omega | (simp; done)))) rfl)))))
           ·
            exact Eq.trans (show _ = [(602, .box [.int 0, .im (.val (.slice none 0 0))]), (607, .box [.int (Cn.rfK (bytesI s)), .row 701]), (701, .row 3 (.ints ((((Cn.midW (Cn.splitI 32 (bytesI s))).take q).map Cn.numN) ++ [(Cn.rQ (bytesI (((((Cn.spS (bytesI s) i).1.map strOfNums).take (((((Cn.spS (bytesI s) i).1.map strOfNums).length : Int) - 1).toNat)).drop 1).getD q ByteArray.empty))).1])))] from by kernel_rfl) (consH rfl (consH rfl (consH (congrArg (fun x => ((701 : Nat), x)) (congrArg (fun x => AObj.row 3 (.ints x)) (show ((((Cn.midW (Cn.splitI 32 (bytesI s))).take q).map Cn.numN) ++ [(Cn.rQ (bytesI (((((Cn.spS (bytesI s) i).1.map strOfNums).take (((((Cn.spS (bytesI s) i).1.map strOfNums).length : Int) - 1).toNat)).drop 1).getD q ByteArray.empty))).1]) = (((Cn.midW (Cn.splitI 32 (bytesI s))).take (q + 1)).map Cn.numN) from (by exact Cn.mid_snoc (by omega) hqv)))) rfl)))
         ·
          skip
          have h12 := of_decide_eq_false hb12
          refine tri_exit ?_
          refine fin_then_exit ?_
          refine fin_then_exit ?_
          refine fin_block_same ?_
          refine fin_then ?_
          refine tri_seq ?_
          refine tri_ren (ρ := [(602, .to 602), (607, .to 607), (701, .frz)]) (keys := [72, 2, 7, 69, 70, 71]) (E' := [(72, .bool (decide ((q : Int) < (((((Cn.spS (bytesI s) i).1.map strOfNums).take (((((Cn.spS (bytesI s) i).1.map strOfNums).length : Int) - 1).toNat)).drop 1).length : Int)))), (2, .loc 602 0), (7, .loc 607 0), (69, .strs ((((Cn.spS (bytesI s) i).1.map strOfNums).take (((((Cn.spS (bytesI s) i).1.map strOfNums).length : Int) - 1).toNat)).drop 1)), (70, .int (((((Cn.spS (bytesI s) i).1.map strOfNums).take (((((Cn.spS (bytesI s) i).1.map strOfNums).length : Int) - 1).toNat)).drop 1).length : Int)), (71, .int (q : Int))]) (H' := [(602, .box [.int 0, .im (.val (.slice none 0 0))]), (607, .box [.int (Cn.rfK (bytesI s)), .ints (((Cn.midW (Cn.splitI 32 (bytesI s))).take q).map Cn.numN)])]) (by kernel_rfl) ?_
          refine tri_regD hcx [(602, .to 602)] [3] [2] [] [] [(3, .bool true)] [(602, .box [.int (Cn.rfK (bytesI s)), .ints (((Cn.midW (Cn.splitI 32 (bytesI s))).take q).map Cn.numN)])] (by kernel_rfl) ?_ ?_
          ·
           exact az
          refine fin_then ?_
          refine tri_ret ?_
          exact fin_ret [] rfl rfl trivial hcx (avs := [.agg [.int (Cn.rfK (bytesI s)), .ints (((Cn.midW (Cn.splitI 32 (bytesI s))).take q).map Cn.numN)], .bool true]) (by kernel_rfl) (congrArg AV.tup (consE (congrArg AV.agg (consE rfl (consE (congrArg AV.ints (show (((Cn.midW (Cn.splitI 32 (bytesI s))).take q).map Cn.numN) = (Cn.lnL (bytesI s)) from (by first | exact r1.symm | exact Cn.ln_head hH | exact Cn.lnOk_head hH | exact Cn.ln_stop hH (by omega) hok hq | exact Cn.lnOk_stop (by omega) hok hq | exact Cn.ln_all hH (by omega) hok | exact Cn.lnOk_all hH (by omega) hok | done))) rfl))) (consE (congrArg AV.bool (show true = (Cn.lnOk (bytesI s)) from (by first | exact r1.symm | exact Cn.ln_head hH | exact Cn.lnOk_head hH | exact Cn.ln_stop hH (by omega) hok hq | exact Cn.lnOk_stop (by omega) hok hq | exact Cn.ln_all hH (by omega) hok | exact Cn.lnOk_all hH (by omega) hok | done))) rfl))) [] rfl
      ·
       skip
       have h10 := hb10
       have n3 := by have hz := h10; rw [hsp, show (⟨#[100]⟩ : ByteArray) = strOfNums [100] by decide] at hz; exact Cn.w0_f (by omega) hz
       obtain ⟨r1, hH⟩ := Cn.rf_0 n1 n2 n3
       refine tri_seq ?_
       refine tri_regD hcx [(602, .to 602)] [3] [2] [] [] [(3, .bool false)] [(602, .box [.int 0, .im (.val (.slice none 0 0))])] (by kernel_rfl) ?_ ?_
       ·
        exact az
       refine fin_then ?_
       refine tri_ret ?_
       refine fin_block_ret ?_
       refine fin_then_ret ?_
       refine fin_rowB 602 1 700 0 (.ints []) (by kernel_rfl) (by kernel_rfl) (by kernel_rfl) (by kernel_rfl) (H' := [(602, .box [.int 0, .row 700])]) (by kernel_rfl) ?_
       refine fin_ren (ρ := [(602, .to 990), (700, .frz)]) (keys := [2, 3]) (E' := [(2, .loc 990 0), (3, .bool false)]) (H' := [(990, .box [.int 0, .ints []])]) (by kernel_rfl) ?_
       exact fin_ret [] rfl rfl trivial hcx (avs := [.agg [.int 0, .ints []], .bool false]) (by kernel_rfl) (congrArg AV.tup (consE (congrArg AV.agg (consE (congrArg AV.int (show 0 = (Cn.rfK (bytesI s)) from (by first | exact r1.symm | exact Cn.ln_head hH | exact Cn.lnOk_head hH | exact Cn.ln_stop hH (by omega) hok hq | exact Cn.lnOk_stop (by omega) hok hq | exact Cn.ln_all hH (by omega) hok | exact Cn.lnOk_all hH (by omega) hok | done))) (consE (congrArg AV.ints (show [] = (Cn.lnL (bytesI s)) from (by first | exact r1.symm | exact Cn.ln_head hH | exact Cn.lnOk_head hH | exact Cn.ln_stop hH (by omega) hok hq | exact Cn.lnOk_stop (by omega) hok hq | exact Cn.ln_all hH (by omega) hok | exact Cn.lnOk_all hH (by omega) hok | done))) rfl))) (consE (congrArg AV.bool (show false = (Cn.lnOk (bytesI s)) from (by first | exact r1.symm | exact Cn.ln_head hH | exact Cn.lnOk_head hH | exact Cn.ln_stop hH (by omega) hok hq | exact Cn.lnOk_stop (by omega) hok hq | exact Cn.ln_all hH (by omega) hok | exact Cn.lnOk_all hH (by omega) hok | done))) rfl))) [] rfl
 ·
  cases hσ
def cx_rGetQ : Cx := ⟨tyR24D, [(59, rLineQ_σ)], true⟩
theorem cx_rGetQ_ok : CxOk Tryz.prog cx_rGetQ := cx_ok tyR24D_ok ⟨rLineQ_sound, trivial⟩
def rGetQ_σ : CtF
  | [.im (.ls (.bytes b))], [] => some (b.length ≤ 1000000 ∧ Cn.isBytes b, .tup [.lines ((Cn.getV24 b).1), .int ((Cn.getV24 b).2)], [])
  | _, _ => none
theorem rGetQ_sound : Sound Tryz.prog 22 rGetQ_σ := by
 refine sound_mk (cx := cx_rGetQ) (fn := Tryz.f22) Tryz.func22 (by kernel_rfl) rfl ?_
 intro w0 G0 args os p r outs hσ hp hm0 hd0
 have hcx : CxOk Tryz.prog cx_rGetQ := cx_rGetQ_ok
 unfold rGetQ_σ at hσ
 split at hσ
 ·
  rename_i b
  simp only [Option.some.injEq, Prod.mk.injEq] at hσ
  obtain ⟨rfl, rfl, rfl⟩ := hσ
  obtain ⟨wW, wO, wm, wβ, wd⟩ := w0
  replace hm0 : wm = 0 := hm0
  subst hm0
  replace hd0 : wd = [] := hd0
  subst hd0
  refine ⟨by kernel_rfl, ?_⟩
  change Tri ⟨_, _, _, _, _, _⟩ [(0, .bytes b)] [] _ _
  obtain ⟨hm1, hm2⟩ := hp
  refine tri_seq ?_
  refine tri_regD hcx [] [] [0] [] [] [] [] (by kernel_rfl) ?_ ?_
  ·
   exact az
  refine fin_then ?_
  refine tri_seq ?_
  refine tri_seq ?_
  refine tri_regD hcx [] [12] [0] [] [] [(12, .bool (decide ((b.length : Int) > 4194304)))] [] (by kernel_rfl) ?_ ?_
  ·
   exact az
  refine fin_then ?_
  refine tri_cond (b := (decide ((b.length : Int) > 4194304))) (by kernel_rfl) (fun hb0 => ?_) (fun hb0 => ?_)
  ·
   skip
   have h0 := of_decide_eq_true hb0
   omega
  ·
   skip
   have h0 := of_decide_eq_false hb0
   refine tri_skip ?_
   refine fin_then ?_
   refine tri_seq ?_
   refine tri_regD hcx [] [4] [0] [] [] [(4, .im (.val (.slice none 0 0)))] [] (by kernel_rfl) ?_ ?_
   ·
    exact az
   refine fin_then ?_
   refine tri_seq ?_
   refine tri_regD hcx [] [5] [4, 0] [] [] [(5, .int 0)] [] (by kernel_rfl) ?_ ?_
   ·
    exact az
   refine fin_then ?_
   refine tri_seq ?_
   refine tri_seq ?_
   refine tri_regD hcx [] [13, 14, 15] [5, 4, 0] [] [] [(13, .bytes b), (14, .int (b.length : Int)), (15, .int 0)] [] (by kernel_rfl) ?_ ?_
   ·
    exact az
   refine fin_then ?_
   refine tri_block ?_
   refine tri_row 4 700 43 (.lines []) (by kernel_rfl) (by kernel_rfl) (by kernel_rfl) (by kernel_rfl) (E' := [(13, .bytes b), (14, .int (b.length : Int)), (15, .int 0), (5, .int 0), (4, .row 700), (0, .bytes b)]) (by kernel_rfl) ?_
   refine tri_loop (X := Nat × Nat × List (Int × List Int)) (fun x0 => Cn.GI b x0.1 x0.2.1 x0.2.2) (fun x0 => [(0, .bytes b), (4, .row 700), (5, .int (x0.2.1 : Int)), (13, .bytes b), (14, .int (b.length : Int)), (15, .int (x0.1 : Int))]) (fun x0 => [(700, .row 43 (.lines x0.2.2))]) (fun x0 => b.length - x0.1) (0, 0, ([] : List (Int × List Int))) ?_ ?_ ?_ ?_
   ·
    show Cn.GI b 0 0 ([] : List (Int × List Int))
    exact Cn.GI_0 b
   ·
    exact subE_mk (l := [.bytes b, .row 700, .int 0, .bytes b, .int (b.length : Int), .int 0]) (m := [.bytes b, .row 700, .int (0 : Int), .bytes b, .int (b.length : Int), .int (0 : Int)]) (by kernel_rfl) (by kernel_rfl) (consE rfl (consE rfl (consE (congrArg AV.int (show 0 = (0 : Int) from (by first | rfl | omega | (simp; done)))) (consE rfl (consE rfl (consE (congrArg AV.int (show 0 = (0 : Int) from (by first | rfl | omega | (simp; done)))) rfl))))))
   ·
    exact Eq.trans (show _ = [(700, .row 43 (.lines []))] from by kernel_rfl) (consH (congrArg (fun x => ((700 : Nat), x)) (congrArg (fun x => AObj.row 43 (.lines x)) (show [] = ([] : List (Int × List Int)) from (by rfl)))) rfl)
   ·
    intro ⟨i, g, o⟩ hI
    replace hI : Cn.GI b i g o := hI
    change Tri _ [(0, .bytes b), (4, .row 700), (5, .int (g : Int)), (13, .bytes b), (14, .int (b.length : Int)), (15, .int (i : Int))] [(700, .row 43 (.lines o))] _ _
    have hG := hI
    obtain ⟨q1, q2, q3, q4, q5⟩ := hI
    refine tri_seq ?_
    refine tri_regD hcx [] [16] [0, 4, 5, 13, 14, 15] [700] [] [(16, .bool (decide ((i : Int) < (b.length : Int))))] [] (by kernel_rfl) ?_ ?_
    ·
     exact az
    refine fin_then ?_
    refine tri_seq ?_
    refine tri_cond (b := (decide ((i : Int) < (b.length : Int)))) (by kernel_rfl) (fun hb1 => ?_) (fun hb1 => ?_)
    ·
     skip
     have h1 := of_decide_eq_true hb1
     refine tri_skip ?_
     refine fin_then ?_
     refine tri_seq ?_
     refine tri_block ?_
     refine tri_seq ?_
     refine tri_regD hcx [] [6, 7] [0, 4, 5, 13, 14, 15] [700] [((0 : Int) ≤ (i : Int) ∧ (i : Int) < (b.length : Int))] [(6, .int (i : Int)), (7, .im (.val (.int .u8 (b.getD i 0))))] [] (by kernel_rfl) ?_ ?_
     ·
      refine (ap ?_ az)
      omega
     refine fin_then ?_
     refine tri_seq ?_
     refine tri_seq ?_
     refine tri_regD hcx [] [21] [6, 0, 4, 5, 13, 14, 15] [700] [] [(21, .bool ((b.getD i 0) != 10))] [] (by kernel_rfl) ?_ ?_
     ·
      exact az
     refine fin_then ?_
     refine tri_cond (b := ((b.getD i 0) != 10)) (by kernel_rfl) (fun hb2 => ?_) (fun hb2 => ?_)
     ·
      skip
      have h2 := hb2
      have hc : ¬ (b.getD i 0 = 10) := by simpa using h2
      have hnx := Cn.GI_skip hG (by omega) hc
      refine tri_exit ?_
      refine fin_then_exit ?_
      refine fin_block_same ?_
      refine fin_then ?_
      refine tri_regD hcx [] [15] [0, 4, 5, 13, 14] [700] [Fit ((i : Int) + 1)] [(15, .int ((i : Int) + 1))] [] (by kernel_rfl) ?_ ?_
      ·
       refine (ap ?_ az)
       omega
      refine fin_round (i + 1, (Cn.nxG b i g), (if (b.getD i 0 = 10) then o ++ [(Cn.rfK (bytesI (strOfNums ((b.take i).drop g))), Cn.lnL (bytesI (strOfNums ((b.take i).drop g))))] else o)) ?_ ?_ ?_ ?_
      ·
       show Cn.GI b (i + 1) (Cn.nxG b i g) (if (b.getD i 0 = 10) then o ++ [(Cn.rfK (bytesI (strOfNums ((b.take i).drop g))), Cn.lnL (bytesI (strOfNums ((b.take i).drop g))))] else o)
       (rw [Cn.nxG_f hc, if_neg hc]; exact hnx)
      ·
       show b.length - (i + 1) < b.length - i
       omega
      ·
       exact subE_mk (l := [.bytes b, .row 700, .int (g : Int), .bytes b, .int (b.length : Int), .int ((i : Int) + 1)]) (m := [.bytes b, .row 700, .int ((Cn.nxG b i g) : Int), .bytes b, .int (b.length : Int), .int ((i + 1) : Int)]) (by kernel_rfl) (by kernel_rfl) (consE rfl (consE rfl (consE (congrArg AV.int (show (g : Int) = ((Cn.nxG b i g) : Int) from (by first | (rw [Cn.nxG_f hc]; done) | (rw [Cn.nxG_t hc]; rfl)))) (consE rfl (consE rfl (consE (congrArg AV.int (show ((i : Int) + 1) = ((i + 1) : Int) from (by first | rfl | omega | (simp; done)))) rfl))))))
      ·
       exact Eq.trans (show _ = [(700, .row 43 (.lines o))] from by kernel_rfl) (consH (congrArg (fun x => ((700 : Nat), x)) (congrArg (fun x => AObj.row 43 (.lines x)) (show o = (if (b.getD i 0 = 10) then o ++ [(Cn.rfK (bytesI (strOfNums ((b.take i).drop g))), Cn.lnL (bytesI (strOfNums ((b.take i).drop g))))] else o) from (by first | (rw [if_neg hc]; done) | (rw [if_pos hc]; done))))) rfl)
     ·
      skip
      have h2 := hb2
      have hc : (b.getD i 0 = 10) := by simpa using h2
      have hbi : (bytesI (strOfNums ((b.take i).drop g))) = ((b.take i).drop g) := Cn.bytesI_str (fun x hx => hm2 x (List.mem_of_mem_take (List.mem_of_mem_drop hx)))
      have hsz := Cn.str_size ((b.take i).drop g)
      have hAl : ((b.take i).drop g).length ≤ 1000000 := by rw [List.length_drop, List.length_take]; omega
      refine tri_skip ?_
      refine fin_then ?_
      refine tri_seq ?_
      refine tri_regD hcx [(1009, .to 608)] [8, 9] [6, 0, 4, 13, 14, 15] [700] [((0 : Int) ≤ (g : Int) ∧ (g : Int) ≤ (i : Int) ∧ (i : Int) ≤ (b.length : Int)), ((strOfNums ((b.take i).drop g)).size ≤ 1000000)] [(8, .loc 608 0), (9, .bool (Cn.lnOk (bytesI (strOfNums ((b.take i).drop g)))))] [(608, .box [.int (Cn.rfK (bytesI (strOfNums ((b.take i).drop g)))), .ints (Cn.lnL (bytesI (strOfNums ((b.take i).drop g))))])] (by kernel_rfl) ?_ ?_
      ·
       refine (ap ?_ (ap ?_ az))
       all_goals
        omega
      refine fin_then ?_
      refine tri_seq ?_
      refine tri_seq ?_
      refine tri_regD hcx [] [32] [8, 6, 0, 4, 13, 14, 15] [608, 700] [] [(32, .bool (!(Cn.lnOk (bytesI (strOfNums ((b.take i).drop g))))))] [] (by kernel_rfl) ?_ ?_
      ·
       exact az
      refine fin_then ?_
      refine tri_cond (b := (!(Cn.lnOk (bytesI (strOfNums ((b.take i).drop g)))))) (by kernel_rfl) (fun hb3 => ?_) (fun hb3 => ?_)
      ·
       skip
       have h3 := hb3
       have h32 := Cn.ntT h3
       rw [hbi] at h32
       have hr := Cn.GI_bad hG (by omega) hc h32
       refine tri_seq ?_
       refine tri_regD hcx [] [2, 3] [] [] [] [(2, .im (.val (.slice none 0 0))), (3, .int 11)] [] (by kernel_rfl) ?_ ?_
       ·
        exact az
       refine fin_then ?_
       refine tri_ret ?_
       refine fin_then_ret ?_
       refine fin_block_ret ?_
       refine fin_then_ret ?_
       refine fin_then_ret ?_
       refine fin_block_ret ?_
       refine fin_then_ret ?_
       refine fin_nil 2 (.lines []) (by kernel_rfl) (E' := [(2, .lines []), (3, .int 11)]) (by kernel_rfl) ?_
       exact fin_ret [] rfl rfl trivial hcx (avs := [.lines [], .int 11]) (by kernel_rfl) (congrArg AV.tup (consE (congrArg AV.lines (show [] = (Cn.getV24 b).1 from (by first | (rw [hr]; done) | done))) (consE (congrArg AV.int (show 11 = (Cn.getV24 b).2 from (by first | (rw [hr]; done) | done))) rfl))) [] rfl
      ·
       skip
       have h3 := hb3
       have h32 := Cn.ntF h3
       rw [hbi] at h32
       have hnx := Cn.GI_line hm2 hG (by omega) hc h32
       refine tri_skip ?_
       refine fin_then ?_
       refine tri_seq ?_
       refine tri_regD hcx [(1003, .to 700)] [4] [6, 0, 13, 14, 15] [] [((o.length + [((Cn.rfK (bytesI (strOfNums ((b.take i).drop g)))), (Cn.lnL (bytesI (strOfNums ((b.take i).drop g)))))].length) * 32 ≤ 140737488355328)] [(4, .row 700)] [(700, .row 43 (.lines (o ++ [((Cn.rfK (bytesI (strOfNums ((b.take i).drop g)))), (Cn.lnL (bytesI (strOfNums ((b.take i).drop g)))))])))] (by kernel_rfl) ?_ ?_
       ·
        refine (ap ?_ az)
        (simp only [List.length_cons, List.length_nil, List.length_append, List.length_map, List.length_set, List.length_replicate]; omega)
       refine fin_then ?_
       refine tri_regD hcx [] [5] [4, 0, 13, 14, 15] [700] [Fit ((i : Int) + 1)] [(5, .int ((i : Int) + 1))] [] (by kernel_rfl) ?_ ?_
       ·
        refine (ap ?_ az)
        omega
       refine fin_block ?_
       refine fin_then ?_
       refine tri_regD hcx [] [15] [5, 4, 0, 13, 14] [700] [Fit ((i : Int) + 1)] [(15, .int ((i : Int) + 1))] [] (by kernel_rfl) ?_ ?_
       ·
        refine (ap ?_ az)
        omega
       refine fin_round (i + 1, (Cn.nxG b i g), (if (b.getD i 0 = 10) then o ++ [(Cn.rfK (bytesI (strOfNums ((b.take i).drop g))), Cn.lnL (bytesI (strOfNums ((b.take i).drop g))))] else o)) ?_ ?_ ?_ ?_
       ·
        show Cn.GI b (i + 1) (Cn.nxG b i g) (if (b.getD i 0 = 10) then o ++ [(Cn.rfK (bytesI (strOfNums ((b.take i).drop g))), Cn.lnL (bytesI (strOfNums ((b.take i).drop g))))] else o)
        (rw [Cn.nxG_t hc, if_pos hc, hbi]; exact hnx)
       ·
        show b.length - (i + 1) < b.length - i
        omega
       ·
        exact subE_mk (l := [.bytes b, .row 700, .int ((i : Int) + 1), .bytes b, .int (b.length : Int), .int ((i : Int) + 1)]) (m := [.bytes b, .row 700, .int ((Cn.nxG b i g) : Int), .bytes b, .int (b.length : Int), .int ((i + 1) : Int)]) (by kernel_rfl) (by kernel_rfl) (consE rfl (consE rfl (consE (congrArg AV.int (show ((i : Int) + 1) = ((Cn.nxG b i g) : Int) from (by first | (rw [Cn.nxG_f hc]; done) | (rw [Cn.nxG_t hc]; rfl)))) (consE rfl (consE rfl (consE (congrArg AV.int (show ((i : Int) + 1) = ((i + 1) : Int) from (by first | rfl | omega | (simp; done)))) rfl))))))
       ·
        exact Eq.trans (show _ = [(700, .row 43 (.lines (o ++ [((Cn.rfK (bytesI (strOfNums ((b.take i).drop g)))), (Cn.lnL (bytesI (strOfNums ((b.take i).drop g)))))])))] from by kernel_rfl) (consH (congrArg (fun x => ((700 : Nat), x)) (congrArg (fun x => AObj.row 43 (.lines x)) (show (o ++ [((Cn.rfK (bytesI (strOfNums ((b.take i).drop g)))), (Cn.lnL (bytesI (strOfNums ((b.take i).drop g)))))]) = (if (b.getD i 0 = 10) then o ++ [(Cn.rfK (bytesI (strOfNums ((b.take i).drop g))), Cn.lnL (bytesI (strOfNums ((b.take i).drop g))))] else o) from (by first | (rw [if_neg hc]; done) | (rw [if_pos hc]; done))))) rfl)
    ·
     skip
     have h1 := of_decide_eq_false hb1
     refine tri_exit ?_
     refine fin_then_exit ?_
     refine fin_then_exit ?_
     refine fin_block_same ?_
     refine fin_then ?_
     refine tri_seq ?_
     refine tri_seq ?_
     refine tri_regD hcx [] [43] [4] [700] [] [(43, .bool ((g : Int) != (b.length : Int)))] [] (by kernel_rfl) ?_ ?_
     ·
      exact az
     refine fin_then ?_
     refine tri_cond (b := ((g : Int) != (b.length : Int))) (by kernel_rfl) (fun hb4 => ?_) (fun hb4 => ?_)
     ·
      skip
      have h4 := bne_iff_ne.1 hb4
      have h43 := h4
      have hr := Cn.GI_open hG (by omega) (by omega)
      refine tri_seq ?_
      refine tri_regD hcx [] [2, 3] [] [] [] [(2, .im (.val (.slice none 0 0))), (3, .int 11)] [] (by kernel_rfl) ?_ ?_
      ·
       exact az
      refine fin_then ?_
      refine tri_ret ?_
      refine fin_then_ret ?_
      refine fin_nil 2 (.lines []) (by kernel_rfl) (E' := [(2, .lines []), (3, .int 11)]) (by kernel_rfl) ?_
      exact fin_ret [] rfl rfl trivial hcx (avs := [.lines [], .int 11]) (by kernel_rfl) (congrArg AV.tup (consE (congrArg AV.lines (show [] = (Cn.getV24 b).1 from (by first | (rw [hr]; done) | done))) (consE (congrArg AV.int (show 11 = (Cn.getV24 b).2 from (by first | (rw [hr]; done) | done))) rfl))) [] rfl
     ·
      skip
      have h4 := bneF hb4
      have h43 := h4
      have hr := Cn.GI_end hG (by omega)
      refine tri_skip ?_
      refine fin_then ?_
      refine tri_seq ?_
      refine tri_seq ?_
      refine tri_regD hcx [] [46] [4] [700] [] [(46, .bool (decide ((o.length : Int) > 65536)))] [] (by kernel_rfl) ?_ ?_
      ·
       exact az
      refine fin_then ?_
      refine tri_cond (b := (decide ((o.length : Int) > 65536))) (by kernel_rfl) (fun hb5 => ?_) (fun hb5 => ?_)
      ·
       skip
       have h5 := of_decide_eq_true hb5
       rw [if_pos (by omega)] at hr
       refine tri_seq ?_
       refine tri_regD hcx [] [2, 3] [] [] [] [(2, .im (.val (.slice none 0 0))), (3, .int 2)] [] (by kernel_rfl) ?_ ?_
       ·
        exact az
       refine fin_then ?_
       refine tri_ret ?_
       refine fin_then_ret ?_
       refine fin_nil 2 (.lines []) (by kernel_rfl) (E' := [(2, .lines []), (3, .int 2)]) (by kernel_rfl) ?_
       exact fin_ret [] rfl rfl trivial hcx (avs := [.lines [], .int 2]) (by kernel_rfl) (congrArg AV.tup (consE (congrArg AV.lines (show [] = (Cn.getV24 b).1 from (by first | (rw [hr]; done) | done))) (consE (congrArg AV.int (show 2 = (Cn.getV24 b).2 from (by first | (rw [hr]; done) | done))) rfl))) [] rfl
      ·
       skip
       have h5 := of_decide_eq_false hb5
       rw [if_neg (by omega)] at hr
       refine tri_skip ?_
       refine fin_then ?_
       refine tri_seq ?_
       refine tri_ren (ρ := [(700, .frz)]) (keys := [46, 4]) (E' := [(46, .bool (decide ((o.length : Int) > 65536))), (4, .lines o)]) (H' := []) (by kernel_rfl) ?_
       refine tri_regD hcx [] [2, 3] [] [] [] [(2, .lines o), (3, .int 0)] [] (by kernel_rfl) ?_ ?_
       ·
        exact az
       refine fin_then ?_
       refine tri_ret ?_
       exact fin_ret [] rfl rfl trivial hcx (avs := [.lines o, .int 0]) (by kernel_rfl) (congrArg AV.tup (consE (congrArg AV.lines (show o = (Cn.getV24 b).1 from (by first | (rw [hr]; done) | done))) (consE (congrArg AV.int (show 0 = (Cn.getV24 b).2 from (by first | (rw [hr]; done) | done))) rfl))) [] rfl
 ·
  cases hσ
end Go.Proofs.YtbpbndlgfiammaaGreatDoor.En
