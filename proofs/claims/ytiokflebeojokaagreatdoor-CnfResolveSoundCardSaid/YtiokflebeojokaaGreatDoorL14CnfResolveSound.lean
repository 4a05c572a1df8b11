/- The law CnfResolveSound. -/
import Derived.Test.YtiokflebeojokaaGreatDoorLive14S
import Derived.Test.YtiokflebeojokaaGreatDoorLaw14R
namespace Go.Proofs.YtiokflebeojokaaGreatDoor.En
open Go Go.RowKit
set_option linter.unusedVariables false
set_option linter.unusedSimpArgs false
set_option linter.unnecessarySimpa false
def tyL14CnfResolveSound : List (Nat × TD) := [(3, ⟨1, false, [.int .i64 0], [], none, 8, false, 1, 1⟩),
  (4, ⟨1, false, [.bool false], [], none, 1, true, 0, 2⟩),
  (25, ⟨1, false, [.slice none 0 0], [], some 3, 24, false, 0, 3⟩),
  (26, ⟨1, false, [.slice none 0 0], [], some 4, 24, false, 0, 0⟩),
  (32, ⟨1, false, [.int .i64 0], [], none, 8, false, 1, 1⟩)]
theorem tyL14CnfResolveSound_ok : AllTy Tryz.prog tyL14CnfResolveSound := ⟨⟨by kernel_rfl, by kernel_rfl⟩, ⟨by kernel_rfl, by kernel_rfl⟩, ⟨by kernel_rfl, by kernel_rfl⟩, ⟨by kernel_rfl, by kernel_rfl⟩, ⟨by kernel_rfl, by kernel_rfl⟩, trivial⟩
def cx_lCnfResolveSound : Cx := ⟨tyL14CnfResolveSound, [(27, (coeF [.ld (.ints []), .ld (.ints []), .id] cResolve_σ)), (16, (coeF [.ld (.ints []), .ld (.ints [])] rInts_σ)), (33, (coeF [.ld (.ints []), .id] rHas_σ)), (21, (coeF [.ld (.ints []), .ld (.bools [])] cHolds_σ)), (12, live14_σ), (25, sSub)]⟩
theorem cx_lCnfResolveSound_ok : CxOk Tryz.prog cx_lCnfResolveSound := cx_ok tyL14CnfResolveSound_ok ⟨(cResolve_sound.coe [.ld (.ints []), .ld (.ints []), .id] rfl), (rInts_sound.coe [.ld (.ints []), .ld (.ints [])] rfl), (rHas_sound.coe [.ld (.ints []), .id] rfl), (cHolds_sound.coe [.ld (.ints []), .ld (.bools [])] rfl), live14_sound, sSub_sound, trivial⟩
def lCnfResolveSound_σ : CtF
  | [.im (.ls (.ints a)), .im (.ls (.ints b)), .im (.val (.int .i64 v)), .im (.ls (.bools t))], [] => some (a.length ≤ maxLen ∧ b.length ≤ maxLen ∧ Fit v ∧ t.length ≤ maxLen, .bool true, [])
  | _, _ => none
theorem lCnfResolveSound_sound : Sound Tryz.prog 6 lCnfResolveSound_σ := by
 refine sound_mk (cx := cx_lCnfResolveSound) (fn := Tryz.f6) Tryz.func6 (by kernel_rfl) rfl ?_
 intro w0 G0 args os p r outs hσ hp hm0 hd0
 have hcx : CxOk Tryz.prog cx_lCnfResolveSound := cx_lCnfResolveSound_ok
 unfold lCnfResolveSound_σ at hσ
 split at hσ
 ·
  rename_i a b v t
  simp only [Option.some.injEq, Prod.mk.injEq] at hσ
  obtain ⟨rfl, rfl, rfl⟩ := hσ
  obtain ⟨wW, wO, wm, wβ, wd⟩ := w0
  replace hm0 : wm = 0 := hm0
  subst hm0
  replace hd0 : wd = [] := hd0
  subst hd0
  refine ⟨by kernel_rfl, ?_⟩
  change Tri ⟨_, _, _, _, _, _⟩ [(0, .ints a), (1, .ints b), (2, .int v), (3, .bools t)] [] _ _
  obtain ⟨ha, hb, hv, ht⟩ := hp
  have ha9 := ha
  have hb9 := hb
  have ht9 := ht
  unfold maxLen at ha9 hb9 ht9
  refine tri_seq ?_
  refine tri_regD hcx [] [] [0, 1, 2, 3] [] [] [] [] (by kernel_rfl) ?_ ?_
  ·
   exact az
  refine fin_then ?_
  refine tri_seq ?_
  refine tri_seq ?_
  refine tri_regD hcx [] [15] [0, 1, 2, 3] [] [(True)] [(15, .bool (!true))] [] (by kernel_rfl) ?_ ?_
  ·
   refine (ap ?_ az)
   first | trivial | exact id | omega | exact ⟨by omega, by omega, hv⟩ | exact hxl | exact (fun _ => ha) | exact (fun _ => hb) | exact (fun _ => hxl) | exact (fun _ => hxl9) | exact (fun h1 h2 => by rw [h1, h2]; rfl) | exact (fun _ => ⟨hxl, hb⟩) | exact (fun _ => ⟨ha, ht⟩) | exact (fun _ => ⟨hb, ht⟩) | exact (fun _ => ⟨hxl, ht⟩) | exact (fun _ h => h) | exact (fun h => (Bool.and_eq_true_iff.1 h).1) | (intro _; omega) | (intro h9; have h8 := Cn.res_rng h9; omega) | (intro h9; have h8 := Cn.res_rng h9; constructor <;> omega) | done
  refine fin_then ?_
  refine tri_cond (b := (!true)) (by kernel_rfl) (fun hb0 => ?_) (fun hb0 => ?_)
  ·
   skip
   have h0 := hb0
   cases h0
  ·
   skip
   have h0 := (notB_f hb0)
   refine tri_skip ?_
   refine fin_then ?_
   refine tri_seq ?_
   refine tri_seq ?_
   refine tri_regD hcx [] [28] [0, 1, 2, 3] [] [((!(decide ((a.length : Int) > 100))) = true → ((!(decide ((a.length : Int) > 100))) = true)), ((!(decide ((a.length : Int) > 100))) = true → ((!(decide ((a.length : Int) > 100))) = true)), ((decide ((a.length : Int) > 100)) = false → (!(decide ((a.length : Int) > 100))) = true), ((!((decide ((a.length : Int) > 100)) || (decide ((b.length : Int) > 100)))) = true → ((!((decide ((a.length : Int) > 100)) || (decide ((b.length : Int) > 100)))) = true)), ((!((decide ((a.length : Int) > 100)) || (decide ((b.length : Int) > 100)))) = true → ((!((decide ((a.length : Int) > 100)) || (decide ((b.length : Int) > 100)))) = true)), (((decide ((a.length : Int) > 100)) || (decide ((b.length : Int) > 100))) = false → (!((decide ((a.length : Int) > 100)) || (decide ((b.length : Int) > 100)))) = true)] [(28, .bool (((decide ((a.length : Int) > 100)) || (decide ((b.length : Int) > 100))) || (decide ((t.length : Int) > 300))))] [] (by kernel_rfl) ?_ ?_
   ·
    refine (ap ?_ (ap ?_ (ap (by exact vcNot) (ap ?_ (ap ?_ (ap (by exact vcNot) az))))))
    all_goals
     first | trivial | exact id | omega | exact ⟨by omega, by omega, hv⟩ | exact hxl | exact (fun _ => ha) | exact (fun _ => hb) | exact (fun _ => hxl) | exact (fun _ => hxl9) | exact (fun h1 h2 => by rw [h1, h2]; rfl) | exact (fun _ => ⟨hxl, hb⟩) | exact (fun _ => ⟨ha, ht⟩) | exact (fun _ => ⟨hb, ht⟩) | exact (fun _ => ⟨hxl, ht⟩) | exact (fun _ h => h) | exact (fun h => (Bool.and_eq_true_iff.1 h).1) | (intro _; omega) | (intro h9; have h8 := Cn.res_rng h9; omega) | (intro h9; have h8 := Cn.res_rng h9; constructor <;> omega) | done
   refine fin_then ?_
   refine tri_cond (b := (((decide ((a.length : Int) > 100)) || (decide ((b.length : Int) > 100))) || (decide ((t.length : Int) > 300)))) (by kernel_rfl) (fun hb1 => ?_) (fun hb1 => ?_)
   ·
    skip
    have h1 := hb1
    try simp only [Bool.or_eq_true, Bool.or_eq_false_iff, Bool.and_eq_true, Bool.and_eq_false_iff, Bool.not_eq_true', Bool.not_eq_false', decide_eq_true_eq, decide_eq_false_iff_not, bne_iff_ne, bne_eq_false_iff_eq, beq_iff_eq, beq_eq_false_iff_ne] at h1
    refine tri_seq ?_
    refine tri_regD hcx [] [8] [] [] [] [(8, .bool true)] [] (by kernel_rfl) ?_ ?_
    ·
     exact az
    refine fin_then ?_
    refine tri_ret ?_
    refine fin_then_ret ?_
    exact fin_ret [] rfl rfl trivial hcx (avs := [.bool true]) (by kernel_rfl) rfl [] rfl
   ·
    skip
    have h1 := hb1
    have hz : a.length ≤ 100 ∧ b.length ≤ 100 := by have hz := h1; simp only [Bool.or_eq_false_iff] at hz; simp at hz; omega
    have hxl : (Cn.resL a b v).length ≤ maxLen := by have := Cn.resL_len a b v; unfold maxLen; omega
    have hxl9 := hxl
    unfold maxLen at hxl9
    refine tri_skip ?_
    refine fin_then ?_
    refine tri_seq ?_
    refine tri_regD hcx [(1003, .to 233)] [9, 10] [0, 1, 2, 3] [] [(a.length ≤ 100000 ∧ b.length ≤ 100000 ∧ Fit v)] [(9, .row 233), (10, .int (Cn.resE a b v))] [(233, .row 3 (.ints (Cn.resL a b v)))] (by kernel_rfl) ?_ ?_
    ·
     refine (ap ?_ az)
     first | trivial | exact id | omega | exact ⟨by omega, by omega, hv⟩ | exact hxl | exact (fun _ => ha) | exact (fun _ => hb) | exact (fun _ => hxl) | exact (fun _ => hxl9) | exact (fun h1 h2 => by rw [h1, h2]; rfl) | exact (fun _ => ⟨hxl, hb⟩) | exact (fun _ => ⟨ha, ht⟩) | exact (fun _ => ⟨hb, ht⟩) | exact (fun _ => ⟨hxl, ht⟩) | exact (fun _ h => h) | exact (fun h => (Bool.and_eq_true_iff.1 h).1) | (intro _; omega) | (intro h9; have h8 := Cn.res_rng h9; omega) | (intro h9; have h8 := Cn.res_rng h9; constructor <;> omega) | done
    refine fin_then ?_
    refine tri_seq ?_
    refine tri_seq ?_
    refine tri_regD hcx [] [37] [9, 10, 0, 1, 2, 3] [233] [] [(37, .bool ((Cn.resE a b v) != 0))] [] (by kernel_rfl) ?_ ?_
    ·
     exact az
    refine fin_then ?_
    refine tri_cond (b := ((Cn.resE a b v) != 0)) (by kernel_rfl) (fun hb2 => ?_) (fun hb2 => ?_)
    ·
     skip
     have h2 := hb2
     have hre := Cn.res_err h2
     refine tri_seq ?_
     refine tri_regD hcx [] [8] [] [] [((((Cn.resL a b v).length : Int) == 0) = true → ((((Cn.resL a b v).length : Int) == 0) = true)), ((((Cn.resL a b v).length : Int) == 0) = true → (((Cn.resL a b v).length : Int) == 0) = true)] [(8, .bool ((((Cn.resL a b v).length : Int) == 0) && ((Cn.resE a b v) == 140)))] [] (by kernel_rfl) ?_ ?_
     ·
      refine (ap ?_ (ap (by exact id) az))
      first | trivial | exact id | omega | exact ⟨by omega, by omega, hv⟩ | exact hxl | exact (fun _ => ha) | exact (fun _ => hb) | exact (fun _ => hxl) | exact (fun _ => hxl9) | exact (fun h1 h2 => by rw [h1, h2]; rfl) | exact (fun _ => ⟨hxl, hb⟩) | exact (fun _ => ⟨ha, ht⟩) | exact (fun _ => ⟨hb, ht⟩) | exact (fun _ => ⟨hxl, ht⟩) | exact (fun _ h => h) | exact (fun h => (Bool.and_eq_true_iff.1 h).1) | (intro _; omega) | (intro h9; have h8 := Cn.res_rng h9; omega) | (intro h9; have h8 := Cn.res_rng h9; constructor <;> omega) | done
     refine fin_then ?_
     refine tri_ret ?_
     refine fin_then_ret ?_
     exact fin_ret [] rfl rfl trivial hcx (avs := [.bool ((((Cn.resL a b v).length : Int) == 0) && ((Cn.resE a b v) == 140))]) (by kernel_rfl) (congrArg AV.bool (show ((((Cn.resL a b v).length : Int) == 0) && ((Cn.resE a b v) == 140)) = true from (by first | rfl | (rw [hre.1, hre.2]; rfl) | exact (Cn.rs_fin he).symm))) [] rfl
    ·
     skip
     have h2 := hb2
     have he : Cn.resE a b v = 0 := by simpa using h2
     refine tri_skip ?_
     refine fin_then ?_
     refine tri_seq ?_
     refine tri_regD hcx [(1003, .to 249)] [11, 12] [9, 0, 1, 2, 3] [233] [(b.length ≤ 100000 ∧ a.length ≤ 100000 ∧ Fit v)] [(11, .row 249), (12, .int (Cn.resE b a v))] [(249, .row 3 (.ints (Cn.resL b a v)))] (by kernel_rfl) ?_ ?_
     ·
      refine (ap ?_ az)
      first | trivial | exact id | omega | exact ⟨by omega, by omega, hv⟩ | exact hxl | exact (fun _ => ha) | exact (fun _ => hb) | exact (fun _ => hxl) | exact (fun _ => hxl9) | exact (fun h1 h2 => by rw [h1, h2]; rfl) | exact (fun _ => ⟨hxl, hb⟩) | exact (fun _ => ⟨ha, ht⟩) | exact (fun _ => ⟨hb, ht⟩) | exact (fun _ => ⟨hxl, ht⟩) | exact (fun _ h => h) | exact (fun h => (Bool.and_eq_true_iff.1 h).1) | (intro _; omega) | (intro h9; have h8 := Cn.res_rng h9; omega) | (intro h9; have h8 := Cn.res_rng h9; constructor <;> omega) | done
     refine fin_then ?_
     refine tri_seq ?_
     refine tri_regD hcx [] [13] [11, 12, 9, 0, 1, 2, 3] [249, 233] [(((a.length : Int) == 1) = true → (((a.length : Int) == 1) = true)), (((a.length : Int) == 1) = true → (((a.length : Int) == 1) = true)), (((a.length : Int) == 1) = true → ((Cn.resL a b v).length ≤ maxLen ∧ b.length ≤ maxLen)), (((a.length : Int) == 1) = true → ((a.length : Int) == 1) = true), ((!(((a.length : Int) == 1) && (!((Cn.resL a b v).any fun x => !(b.contains x))))) = true → ((!(((a.length : Int) == 1) && (!((Cn.resL a b v).any fun x => !(b.contains x))))) = true)), ((!(((a.length : Int) == 1) && (!((Cn.resL a b v).any fun x => !(b.contains x))))) = true → ((!(((a.length : Int) == 1) && (!((Cn.resL a b v).any fun x => !(b.contains x))))) = true)), ((((a.length : Int) == 1) && (!((Cn.resL a b v).any fun x => !(b.contains x)))) = false → (!(((a.length : Int) == 1) && (!((Cn.resL a b v).any fun x => !(b.contains x))))) = true)] [(13, .bool ((((a.length : Int) == 1) && (!((Cn.resL a b v).any fun x => !(b.contains x)))) || ((a.length : Int) != 1)))] [] (by kernel_rfl) ?_ ?_
     ·
      refine (ap ?_ (ap ?_ (ap ?_ (ap (by exact id) (ap ?_ (ap ?_ (ap (by exact vcNot) az)))))))
      all_goals
       first | trivial | exact id | omega | exact ⟨by omega, by omega, hv⟩ | exact hxl | exact (fun _ => ha) | exact (fun _ => hb) | exact (fun _ => hxl) | exact (fun _ => hxl9) | exact (fun h1 h2 => by rw [h1, h2]; rfl) | exact (fun _ => ⟨hxl, hb⟩) | exact (fun _ => ⟨ha, ht⟩) | exact (fun _ => ⟨hb, ht⟩) | exact (fun _ => ⟨hxl, ht⟩) | exact (fun _ h => h) | exact (fun h => (Bool.and_eq_true_iff.1 h).1) | (intro _; omega) | (intro h9; have h8 := Cn.res_rng h9; omega) | (intro h9; have h8 := Cn.res_rng h9; constructor <;> omega) | done
     refine fin_then ?_
     refine tri_seq ?_
     refine tri_seq ?_
     refine tri_regD hcx [] [85] [13, 9, 0, 1, 3] [233] [(((Cn.resE b a v) == 0) = true → (((Cn.resE b a v) == 0) = true)), (((Cn.resE b a v) == 0) = true → Fit (0 - v)), (((Cn.resE b a v) == 0) = true → (((Cn.resE b a v) == 0) = true)), (((Cn.resE b a v) == 0) = true → (((Cn.resE b a v) == 0) = true)), (((Cn.resE b a v) == 0) = true → (a.length ≤ maxLen)), (((Cn.resE b a v) == 0) = true → (((Cn.resE b a v) == 0) = true)), (((Cn.resE b a v) == 0) = true → ((Cn.resE b a v) == 0) = true), ((((Cn.resE b a v) == 0) && (!(a.contains (0 - v)))) = true → ((((Cn.resE b a v) == 0) && (!(a.contains (0 - v)))) = true)), ((((Cn.resE b a v) == 0) && (!(a.contains (0 - v)))) = true → ((((Cn.resE b a v) == 0) && (!(a.contains (0 - v)))) = true)), ((((Cn.resE b a v) == 0) && (!(a.contains (0 - v)))) = true → (b.length ≤ maxLen)), ((((Cn.resE b a v) == 0) && (!(a.contains (0 - v)))) = true → ((((Cn.resE b a v) == 0) && (!(a.contains (0 - v)))) = true)), ((((Cn.resE b a v) == 0) && (!(a.contains (0 - v)))) = true → (((Cn.resE b a v) == 0) && (!(a.contains (0 - v)))) = true), (((((Cn.resE b a v) == 0) && (!(a.contains (0 - v)))) && (!(b.contains v))) = true → (((((Cn.resE b a v) == 0) && (!(a.contains (0 - v)))) && (!(b.contains v))) = true)), (((((Cn.resE b a v) == 0) && (!(a.contains (0 - v)))) && (!(b.contains v))) = true → (((((Cn.resE b a v) == 0) && (!(a.contains (0 - v)))) && (!(b.contains v))) = true)), (((((Cn.resE b a v) == 0) && (!(a.contains (0 - v)))) && (!(b.contains v))) = true → ((Cn.resL a b v).length ≤ maxLen)), (((((Cn.resE b a v) == 0) && (!(a.contains (0 - v)))) && (!(b.contains v))) = true → (((((Cn.resE b a v) == 0) && (!(a.contains (0 - v)))) && (!(b.contains v))) = true)), (((((Cn.resE b a v) == 0) && (!(a.contains (0 - v)))) && (!(b.contains v))) = true → ((((Cn.resE b a v) == 0) && (!(a.contains (0 - v)))) && (!(b.contains v))) = true)] [(85, .bool (((((Cn.resE b a v) == 0) && (!(a.contains (0 - v)))) && (!(b.contains v))) && (!(decide ((Cn.resL a b v) = (Cn.resL b a v))))))] [] (by kernel_rfl) ?_ ?_
     ·
      refine (ap ?_ (ap ?_ (ap ?_ (ap ?_ (ap ?_ (ap ?_ (ap (by exact id) (ap ?_ (ap ?_ (ap ?_ (ap ?_ (ap (by exact id) (ap ?_ (ap ?_ (ap ?_ (ap ?_ (ap (by exact id) az)))))))))))))))))
      all_goals
       first | trivial | exact id | omega | exact ⟨by omega, by omega, hv⟩ | exact hxl | exact (fun _ => ha) | exact (fun _ => hb) | exact (fun _ => hxl) | exact (fun _ => hxl9) | exact (fun h1 h2 => by rw [h1, h2]; rfl) | exact (fun _ => ⟨hxl, hb⟩) | exact (fun _ => ⟨ha, ht⟩) | exact (fun _ => ⟨hb, ht⟩) | exact (fun _ => ⟨hxl, ht⟩) | exact (fun _ h => h) | exact (fun h => (Bool.and_eq_true_iff.1 h).1) | (intro _; omega) | (intro h9; have h8 := Cn.res_rng h9; omega) | (intro h9; have h8 := Cn.res_rng h9; constructor <;> omega) | done
     refine fin_then ?_
     refine tri_cond (b := (((((Cn.resE b a v) == 0) && (!(a.contains (0 - v)))) && (!(b.contains v))) && (!(decide ((Cn.resL a b v) = (Cn.resL b a v)))))) (by kernel_rfl) (fun hb3 => ?_) (fun hb3 => ?_)
     ·
      skip
      have h3 := hb3
      (have hz9 := h3; simp only [Bool.and_eq_true, Bool.not_eq_true'] at hz9; have hz8 := Cn.res_comm hz9.1.1.1 hz9.1.1.2 hz9.1.2; have hz7 := hz9.2; rw [hz8] at hz7; simp at hz7)
     ·
      skip
      have h3 := hb3
      try simp only [Bool.or_eq_true, Bool.or_eq_false_iff, Bool.and_eq_true, Bool.and_eq_false_iff, Bool.not_eq_true', Bool.not_eq_false', decide_eq_true_eq, decide_eq_false_iff_not, bne_iff_ne, bne_eq_false_iff_eq, beq_iff_eq, beq_eq_false_iff_ne] at h3
      refine tri_skip ?_
      refine fin_then ?_
      refine tri_seq ?_
      refine tri_regD hcx [] [8] [] [] [(((((a.length : Int) == 1) && (!((Cn.resL a b v).any fun x => !(b.contains x)))) || ((a.length : Int) != 1)) = true → (((((a.length : Int) == 1) && (!((Cn.resL a b v).any fun x => !(b.contains x)))) || ((a.length : Int) != 1)) = true)), (((((a.length : Int) == 1) && (!((Cn.resL a b v).any fun x => !(b.contains x)))) || ((a.length : Int) != 1)) = true → (((((a.length : Int) == 1) && (!((Cn.resL a b v).any fun x => !(b.contains x)))) || ((a.length : Int) != 1)) = true)), (((((a.length : Int) == 1) && (!((Cn.resL a b v).any fun x => !(b.contains x)))) || ((a.length : Int) != 1)) = true → (a.length ≤ maxLen ∧ t.length ≤ maxLen)), (((((a.length : Int) == 1) && (!((Cn.resL a b v).any fun x => !(b.contains x)))) || ((a.length : Int) != 1)) = true → (((((a.length : Int) == 1) && (!((Cn.resL a b v).any fun x => !(b.contains x)))) || ((a.length : Int) != 1)) = true)), (((((a.length : Int) == 1) && (!((Cn.resL a b v).any fun x => !(b.contains x)))) || ((a.length : Int) != 1)) = true → (((((a.length : Int) == 1) && (!((Cn.resL a b v).any fun x => !(b.contains x)))) || ((a.length : Int) != 1)) = true)), ((((((a.length : Int) == 1) && (!((Cn.resL a b v).any fun x => !(b.contains x)))) || ((a.length : Int) != 1)) && (!(!(Cn.holdsV t a)))) = true → ((((((a.length : Int) == 1) && (!((Cn.resL a b v).any fun x => !(b.contains x)))) || ((a.length : Int) != 1)) && (!(!(Cn.holdsV t a)))) = true)), ((((((a.length : Int) == 1) && (!((Cn.resL a b v).any fun x => !(b.contains x)))) || ((a.length : Int) != 1)) && (!(!(Cn.holdsV t a)))) = true → ((((((a.length : Int) == 1) && (!((Cn.resL a b v).any fun x => !(b.contains x)))) || ((a.length : Int) != 1)) && (!(!(Cn.holdsV t a)))) = true)), ((((((a.length : Int) == 1) && (!((Cn.resL a b v).any fun x => !(b.contains x)))) || ((a.length : Int) != 1)) && (!(!(Cn.holdsV t a)))) = true → (b.length ≤ maxLen ∧ t.length ≤ maxLen)), ((((((a.length : Int) == 1) && (!((Cn.resL a b v).any fun x => !(b.contains x)))) || ((a.length : Int) != 1)) && (!(!(Cn.holdsV t a)))) = true → ((((((a.length : Int) == 1) && (!((Cn.resL a b v).any fun x => !(b.contains x)))) || ((a.length : Int) != 1)) && (!(!(Cn.holdsV t a)))) = true)), (((((a.length : Int) == 1) && (!((Cn.resL a b v).any fun x => !(b.contains x)))) || ((a.length : Int) != 1)) = true → (((((a.length : Int) == 1) && (!((Cn.resL a b v).any fun x => !(b.contains x)))) || ((a.length : Int) != 1)) = true)), (((((a.length : Int) == 1) && (!((Cn.resL a b v).any fun x => !(b.contains x)))) || ((a.length : Int) != 1)) = true → ((!(Cn.holdsV t a)) = false → (((((a.length : Int) == 1) && (!((Cn.resL a b v).any fun x => !(b.contains x)))) || ((a.length : Int) != 1)) && (!(!(Cn.holdsV t a)))) = true)), (((((a.length : Int) == 1) && (!((Cn.resL a b v).any fun x => !(b.contains x)))) || ((a.length : Int) != 1)) = true → (((((a.length : Int) == 1) && (!((Cn.resL a b v).any fun x => !(b.contains x)))) || ((a.length : Int) != 1)) = true)), ((((((a.length : Int) == 1) && (!((Cn.resL a b v).any fun x => !(b.contains x)))) || ((a.length : Int) != 1)) && (!((!(Cn.holdsV t a)) || (!(Cn.holdsV t b))))) = true → ((((((a.length : Int) == 1) && (!((Cn.resL a b v).any fun x => !(b.contains x)))) || ((a.length : Int) != 1)) && (!((!(Cn.holdsV t a)) || (!(Cn.holdsV t b))))) = true)), ((((((a.length : Int) == 1) && (!((Cn.resL a b v).any fun x => !(b.contains x)))) || ((a.length : Int) != 1)) && (!((!(Cn.holdsV t a)) || (!(Cn.holdsV t b))))) = true → ((((((a.length : Int) == 1) && (!((Cn.resL a b v).any fun x => !(b.contains x)))) || ((a.length : Int) != 1)) && (!((!(Cn.holdsV t a)) || (!(Cn.holdsV t b))))) = true)), ((((((a.length : Int) == 1) && (!((Cn.resL a b v).any fun x => !(b.contains x)))) || ((a.length : Int) != 1)) && (!((!(Cn.holdsV t a)) || (!(Cn.holdsV t b))))) = true → ((Cn.resL a b v).length ≤ maxLen ∧ t.length ≤ maxLen)), (((((a.length : Int) == 1) && (!((Cn.resL a b v).any fun x => !(b.contains x)))) || ((a.length : Int) != 1)) = true → (((((a.length : Int) == 1) && (!((Cn.resL a b v).any fun x => !(b.contains x)))) || ((a.length : Int) != 1)) = true)), (((((a.length : Int) == 1) && (!((Cn.resL a b v).any fun x => !(b.contains x)))) || ((a.length : Int) != 1)) = true → (((!(Cn.holdsV t a)) || (!(Cn.holdsV t b))) = false → (((((a.length : Int) == 1) && (!((Cn.resL a b v).any fun x => !(b.contains x)))) || ((a.length : Int) != 1)) && (!((!(Cn.holdsV t a)) || (!(Cn.holdsV t b))))) = true)), (((((a.length : Int) == 1) && (!((Cn.resL a b v).any fun x => !(b.contains x)))) || ((a.length : Int) != 1)) = true → ((((a.length : Int) == 1) && (!((Cn.resL a b v).any fun x => !(b.contains x)))) || ((a.length : Int) != 1)) = true)] [(8, .bool (((((a.length : Int) == 1) && (!((Cn.resL a b v).any fun x => !(b.contains x)))) || ((a.length : Int) != 1)) && (((!(Cn.holdsV t a)) || (!(Cn.holdsV t b))) || (Cn.holdsV t (Cn.resL a b v)))))] [] (by kernel_rfl) ?_ ?_
      ·
       refine (ap ?_ (ap ?_ (ap ?_ (ap ?_ (ap ?_ (ap ?_ (ap ?_ (ap ?_ (ap ?_ (ap ?_ (ap ?_ (ap ?_ (ap ?_ (ap ?_ (ap ?_ (ap ?_ (ap ?_ (ap (by exact id) az))))))))))))))))))
       all_goals
        first | trivial | exact id | omega | exact ⟨by omega, by omega, hv⟩ | exact hxl | exact (fun _ => ha) | exact (fun _ => hb) | exact (fun _ => hxl) | exact (fun _ => hxl9) | exact (fun h1 h2 => by rw [h1, h2]; rfl) | exact (fun _ => ⟨hxl, hb⟩) | exact (fun _ => ⟨ha, ht⟩) | exact (fun _ => ⟨hb, ht⟩) | exact (fun _ => ⟨hxl, ht⟩) | exact (fun _ h => h) | exact (fun h => (Bool.and_eq_true_iff.1 h).1) | (intro _; omega) | (intro h9; have h8 := Cn.res_rng h9; omega) | (intro h9; have h8 := Cn.res_rng h9; constructor <;> omega) | done
      refine fin_then ?_
      refine tri_ret ?_
      exact fin_ret [] rfl rfl trivial hcx (avs := [.bool (((((a.length : Int) == 1) && (!((Cn.resL a b v).any fun x => !(b.contains x)))) || ((a.length : Int) != 1)) && (((!(Cn.holdsV t a)) || (!(Cn.holdsV t b))) || (Cn.holdsV t (Cn.resL a b v))))]) (by kernel_rfl) (congrArg AV.bool (show (((((a.length : Int) == 1) && (!((Cn.resL a b v).any fun x => !(b.contains x)))) || ((a.length : Int) != 1)) && (((!(Cn.holdsV t a)) || (!(Cn.holdsV t b))) || (Cn.holdsV t (Cn.resL a b v)))) = true from (by first | rfl | (rw [hre.1, hre.2]; rfl) | exact (Cn.rs_fin he).symm))) [] rfl
 ·
  cases hσ
end Go.Proofs.YtiokflebeojokaaGreatDoor.En
