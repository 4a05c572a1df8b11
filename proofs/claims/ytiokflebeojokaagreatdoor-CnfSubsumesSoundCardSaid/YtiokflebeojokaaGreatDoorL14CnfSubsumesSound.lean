/- The law CnfSubsumesSound. -/
import Derived.Test.YtiokflebeojokaaGreatDoorLive14S
import Derived.Test.YtiokflebeojokaaGreatDoorLaw14R
namespace Go.Proofs.YtiokflebeojokaaGreatDoor.En
open Go Go.RowKit
set_option linter.unusedVariables false
set_option linter.unusedSimpArgs false
set_option linter.unnecessarySimpa false
attribute [local irreducible] Cn.trF
def tyL14CnfSubsumesSound : List (Nat × TD) := [(3, ⟨1, false, [.int .i64 0], [], none, 8, false, 1, 1⟩),
  (4, ⟨1, false, [.bool false], [], none, 1, true, 0, 2⟩),
  (25, ⟨1, false, [.slice none 0 0], [], some 3, 24, false, 0, 3⟩),
  (26, ⟨1, false, [.slice none 0 0], [], some 4, 24, false, 0, 0⟩)]
theorem tyL14CnfSubsumesSound_ok : AllTy Tryz.prog tyL14CnfSubsumesSound := ⟨⟨by kernel_rfl, by kernel_rfl⟩, ⟨by kernel_rfl, by kernel_rfl⟩, ⟨by kernel_rfl, by kernel_rfl⟩, ⟨by kernel_rfl, by kernel_rfl⟩, trivial⟩
def cx_lCnfSubsumesSound : Cx := ⟨tyL14CnfSubsumesSound, [(14, (coeF [.ld (.ints [])] cNorm_σ)), (33, (coeF [.ld (.ints []), .id] rHas_σ)), (21, (coeF [.ld (.ints []), .ld (.bools [])] cHolds_σ)), (12, live14_σ), (25, sSub)]⟩
theorem cx_lCnfSubsumesSound_ok : CxOk Tryz.prog cx_lCnfSubsumesSound := cx_ok tyL14CnfSubsumesSound_ok ⟨(cNorm_sound.coe [.ld (.ints [])] rfl), (rHas_sound.coe [.ld (.ints []), .id] rfl), (cHolds_sound.coe [.ld (.ints []), .ld (.bools [])] rfl), live14_sound, sSub_sound, trivial⟩
def lCnfSubsumesSound_σ : CtF
  | [.im (.ls (.ints a)), .im (.ls (.ints b)), .im (.ls (.bools t))], [] => some (a.length ≤ maxLen ∧ b.length ≤ maxLen ∧ t.length ≤ maxLen, .bool true, [])
  | _, _ => none
theorem lCnfSubsumesSound_sound : Sound Tryz.prog 7 lCnfSubsumesSound_σ := by
 refine sound_mk (cx := cx_lCnfSubsumesSound) (fn := Tryz.f7) Tryz.func7 (by kernel_rfl) rfl ?_
 intro w0 G0 args os p r outs hσ hp hm0 hd0
 have hcx : CxOk Tryz.prog cx_lCnfSubsumesSound := cx_lCnfSubsumesSound_ok
 have hmx : Tryz.prog.follows .mixedOrders = true := by kernel_rfl
 unfold lCnfSubsumesSound_σ at hσ
 split at hσ
 ·
  rename_i a b t
  simp only [Option.some.injEq, Prod.mk.injEq] at hσ
  obtain ⟨rfl, rfl, rfl⟩ := hσ
  obtain ⟨wW, wO, wm, wβ, wd⟩ := w0
  replace hm0 : wm = 0 := hm0
  subst hm0
  replace hd0 : wd = [] := hd0
  subst hd0
  refine ⟨by kernel_rfl, ?_⟩
  change Tri ⟨_, _, _, _, _, _⟩ [(0, .ints a), (1, .ints b), (2, .bools t)] [] _ _
  obtain ⟨ha, hb, ht⟩ := hp
  have ha9 := ha
  have hb9 := hb
  have ht9 := ht
  unfold maxLen at ha9 hb9 ht9
  have hx9 : (Cn.normL a).length ≤ a.length := Cn.norm_len a
  have hxl : (Cn.normL a).length ≤ maxLen := Nat.le_trans hx9 ha
  have hy9 : (Cn.normL b).length ≤ b.length := Cn.norm_len b
  have hyl : (Cn.normL b).length ≤ maxLen := Nat.le_trans hy9 hb
  have htl := Cn.trF_len
  refine tri_seq ?_
  refine tri_regD hcx [] [] [0, 1, 2] [] [] [] [] (by kernel_rfl) ?_ ?_
  ·
   exact az
  refine fin_then ?_
  refine tri_seq ?_
  refine tri_seq ?_
  refine tri_regD hcx [] [17] [0, 1, 2] [] [(True)] [(17, .bool (!true))] [] (by kernel_rfl) ?_ ?_
  ·
   refine (ap ?_ az)
   first | omega | exact id | exact vcNot | exact vcG | exact vcH | (intro _; omega) | exact (fun _ h => h) | (intro h; simp at h; omega) | (simp only [List.length_cons, List.length_nil, List.length_append, List.length_map, List.length_set, List.length_replicate]; omega) | (intro h; simp [h]; done) | exact id | omega | exact ⟨ha, hb⟩ | exact ⟨ha, ht⟩ | exact ⟨hb, ht⟩ | exact ⟨hxl, hyl⟩ | exact hyl | exact hxl | exact (fun _ => ⟨ha, ht⟩) | exact (fun _ => ⟨hb, ht⟩) | exact (fun _ h => h) | exact ⟨ha, by rw [List.length_set, hlt]; decide⟩ | exact ⟨hb, by rw [List.length_set, hlt]; decide⟩ | exact (fun _ => ⟨ha, by rw [List.length_set, hlt]; decide⟩) | exact (fun _ => ⟨hb, by rw [List.length_set, hlt]; decide⟩) | (have hr9 := hr (by omega); omega) | (have hr9 := hr (by omega); constructor <;> omega) | (intro _; omega) | (intro _; have hr9 := hr (by omega); omega) | (intro _; have hr9 := hr (by omega); constructor <;> omega) | (constructor <;> omega) | (rw [hlt]; omega) | (rw [hlt]; have hr9 := hr (by omega); omega)
  refine fin_then ?_
  refine tri_cond (b := (!true)) (by kernel_rfl) (fun hb0 => ?_) (fun hb0 => ?_)
  ·
   skip
   have h0 := hb0
   cases h0
  ·
   skip
   have h0 := (notB_f hb0)
   refine tri_skip ?_
   refine fin_then ?_
   refine tri_seq ?_
   refine tri_seq ?_
   refine tri_regD hcx [] [30] [0, 1, 2] [] [((!(decide ((a.length : Int) > 60))) = true → ((!(decide ((a.length : Int) > 60))) = true)), ((!(decide ((a.length : Int) > 60))) = true → ((!(decide ((a.length : Int) > 60))) = true)), ((decide ((a.length : Int) > 60)) = false → (!(decide ((a.length : Int) > 60))) = true), ((!((decide ((a.length : Int) > 60)) || (decide ((b.length : Int) > 60)))) = true → ((!((decide ((a.length : Int) > 60)) || (decide ((b.length : Int) > 60)))) = true)), ((!((decide ((a.length : Int) > 60)) || (decide ((b.length : Int) > 60)))) = true → ((!((decide ((a.length : Int) > 60)) || (decide ((b.length : Int) > 60)))) = true)), (((decide ((a.length : Int) > 60)) || (decide ((b.length : Int) > 60))) = false → (!((decide ((a.length : Int) > 60)) || (decide ((b.length : Int) > 60)))) = true)] [(30, .bool (((decide ((a.length : Int) > 60)) || (decide ((b.length : Int) > 60))) || (decide ((t.length : Int) > 300))))] [] (by kernel_rfl) ?_ ?_
   ·
    refine (ap ?_ (ap ?_ (ap (by exact vcNot) (ap ?_ (ap ?_ (ap (by exact vcNot) az))))))
    all_goals
     first | omega | exact id | exact vcNot | exact vcG | exact vcH | (intro _; omega) | exact (fun _ h => h) | (intro h; simp at h; omega) | (simp only [List.length_cons, List.length_nil, List.length_append, List.length_map, List.length_set, List.length_replicate]; omega) | (intro h; simp [h]; done) | exact id | omega | exact ⟨ha, hb⟩ | exact ⟨ha, ht⟩ | exact ⟨hb, ht⟩ | exact ⟨hxl, hyl⟩ | exact hyl | exact hxl | exact (fun _ => ⟨ha, ht⟩) | exact (fun _ => ⟨hb, ht⟩) | exact (fun _ h => h) | exact ⟨ha, by rw [List.length_set, hlt]; decide⟩ | exact ⟨hb, by rw [List.length_set, hlt]; decide⟩ | exact (fun _ => ⟨ha, by rw [List.length_set, hlt]; decide⟩) | exact (fun _ => ⟨hb, by rw [List.length_set, hlt]; decide⟩) | (have hr9 := hr (by omega); omega) | (have hr9 := hr (by omega); constructor <;> omega) | (intro _; omega) | (intro _; have hr9 := hr (by omega); omega) | (intro _; have hr9 := hr (by omega); constructor <;> omega) | (constructor <;> omega) | (rw [hlt]; omega) | (rw [hlt]; have hr9 := hr (by omega); omega)
   refine fin_then ?_
   refine tri_cond (b := (((decide ((a.length : Int) > 60)) || (decide ((b.length : Int) > 60))) || (decide ((t.length : Int) > 300)))) (by kernel_rfl) (fun hb1 => ?_) (fun hb1 => ?_)
   ·
    skip
    have h1 := hb1
    try simp only [Bool.or_eq_true, Bool.or_eq_false_iff, Bool.and_eq_true, Bool.and_eq_false_iff, Bool.not_eq_true', Bool.not_eq_false', decide_eq_true_eq, decide_eq_false_iff_not, bne_iff_ne, bne_eq_false_iff_eq, beq_iff_eq, beq_eq_false_iff_ne] at h1
    refine tri_seq ?_
    refine tri_regD hcx [] [6] [] [] [] [(6, .bool true)] [] (by kernel_rfl) ?_ ?_
    ·
     exact az
    refine fin_then ?_
    refine tri_ret ?_
    refine fin_then_ret ?_
    exact fin_ret [] rfl rfl trivial hcx (avs := [.bool true]) (by kernel_rfl) rfl [] rfl
   ·
    skip
    have h1 := hb1
    have hz : a.length ≤ 60 ∧ b.length ≤ 60 := by have hz := h1; simp only [Bool.or_eq_false_iff] at hz; simp at hz; omega
    refine tri_skip ?_
    refine fin_then ?_
    refine tri_seq ?_
    refine tri_regD hcx [] [7] [0, 1, 2] [] [(a.length ≤ maxLen ∧ b.length ≤ maxLen)] [(7, .bool (!(a.any fun x => !(b.contains x))))] [] (by kernel_rfl) ?_ ?_
    ·
     refine (ap ?_ az)
     first | omega | exact id | exact vcNot | exact vcG | exact vcH | (intro _; omega) | exact (fun _ h => h) | (intro h; simp at h; omega) | (simp only [List.length_cons, List.length_nil, List.length_append, List.length_map, List.length_set, List.length_replicate]; omega) | (intro h; simp [h]; done) | exact id | omega | exact ⟨ha, hb⟩ | exact ⟨ha, ht⟩ | exact ⟨hb, ht⟩ | exact ⟨hxl, hyl⟩ | exact hyl | exact hxl | exact (fun _ => ⟨ha, ht⟩) | exact (fun _ => ⟨hb, ht⟩) | exact (fun _ h => h) | exact ⟨ha, by rw [List.length_set, hlt]; decide⟩ | exact ⟨hb, by rw [List.length_set, hlt]; decide⟩ | exact (fun _ => ⟨ha, by rw [List.length_set, hlt]; decide⟩) | exact (fun _ => ⟨hb, by rw [List.length_set, hlt]; decide⟩) | (have hr9 := hr (by omega); omega) | (have hr9 := hr (by omega); constructor <;> omega) | (intro _; omega) | (intro _; have hr9 := hr (by omega); omega) | (intro _; have hr9 := hr (by omega); constructor <;> omega) | (constructor <;> omega) | (rw [hlt]; omega) | (rw [hlt]; have hr9 := hr (by omega); omega)
    refine fin_then ?_
    refine tri_seq ?_
    refine tri_seq ?_
    refine tri_regD hcx [] [34] [0, 1, 2] [] [] [(34, .bool (!(a.any fun x => !(b.contains x))))] [] (by kernel_rfl) ?_ ?_
    ·
     exact az
    refine fin_then ?_
    refine tri_cond (b := (!(a.any fun x => !(b.contains x)))) (by kernel_rfl) (fun hb2 => ?_) (fun hb2 => ?_)
    ·
     skip
     have h2 := hb2
     have hs := h2
     refine tri_seq ?_
     refine tri_regD hcx [] [6] [] [] [(a.length ≤ maxLen ∧ t.length ≤ maxLen), ((!(!(Cn.holdsV t a))) = true → ((!(!(Cn.holdsV t a))) = true)), ((!(!(Cn.holdsV t a))) = true → ((!(!(Cn.holdsV t a))) = true)), ((!(!(Cn.holdsV t a))) = true → (b.length ≤ maxLen ∧ t.length ≤ maxLen)), ((!(Cn.holdsV t a)) = false → (!(!(Cn.holdsV t a))) = true)] [(6, .bool ((!(Cn.holdsV t a)) || (Cn.holdsV t b)))] [] (by kernel_rfl) ?_ ?_
     ·
      refine (ap ?_ (ap ?_ (ap ?_ (ap ?_ (ap (by exact vcNot) az)))))
      all_goals
       first | omega | exact id | exact vcNot | exact vcG | exact vcH | (intro _; omega) | exact (fun _ h => h) | (intro h; simp at h; omega) | (simp only [List.length_cons, List.length_nil, List.length_append, List.length_map, List.length_set, List.length_replicate]; omega) | (intro h; simp [h]; done) | exact id | omega | exact ⟨ha, hb⟩ | exact ⟨ha, ht⟩ | exact ⟨hb, ht⟩ | exact ⟨hxl, hyl⟩ | exact hyl | exact hxl | exact (fun _ => ⟨ha, ht⟩) | exact (fun _ => ⟨hb, ht⟩) | exact (fun _ h => h) | exact ⟨ha, by rw [List.length_set, hlt]; decide⟩ | exact ⟨hb, by rw [List.length_set, hlt]; decide⟩ | exact (fun _ => ⟨ha, by rw [List.length_set, hlt]; decide⟩) | exact (fun _ => ⟨hb, by rw [List.length_set, hlt]; decide⟩) | (have hr9 := hr (by omega); omega) | (have hr9 := hr (by omega); constructor <;> omega) | (intro _; omega) | (intro _; have hr9 := hr (by omega); omega) | (intro _; have hr9 := hr (by omega); constructor <;> omega) | (constructor <;> omega) | (rw [hlt]; omega) | (rw [hlt]; have hr9 := hr (by omega); omega)
     refine fin_then ?_
     refine tri_ret ?_
     refine fin_then_ret ?_
     exact fin_ret [] rfl rfl trivial hcx (avs := [.bool ((!(Cn.holdsV t a)) || (Cn.holdsV t b))]) (by kernel_rfl) (congrArg AV.bool (show ((!(Cn.holdsV t a)) || (Cn.holdsV t b)) = true from (by first | exact (Cn.ss_is hs).symm | exact Cn.taut_holds htt | (have hr9 := hr (by omega); exact (Cn.ss_wit htt (Cn.getD_memL (by omega)) hq).symm) | exact Cn.sub_yes (fun j hj => hok j (by omega)) | rfl))) [] rfl
    ·
     skip
     have h2 := hb2
     refine tri_skip ?_
     refine fin_then ?_
     refine tri_seq ?_
     refine tri_regD hcx [(1001, .to 246)] [8] [0, 1, 2] [] [(a.length ≤ 1000000)] [(8, .row 246)] [(246, .row 3 (.ints (Cn.normL a)))] (by kernel_rfl) ?_ ?_
     ·
      refine (ap ?_ az)
      first | omega | exact id | exact vcNot | exact vcG | exact vcH | (intro _; omega) | exact (fun _ h => h) | (intro h; simp at h; omega) | (simp only [List.length_cons, List.length_nil, List.length_append, List.length_map, List.length_set, List.length_replicate]; omega) | (intro h; simp [h]; done) | exact id | omega | exact ⟨ha, hb⟩ | exact ⟨ha, ht⟩ | exact ⟨hb, ht⟩ | exact ⟨hxl, hyl⟩ | exact hyl | exact hxl | exact (fun _ => ⟨ha, ht⟩) | exact (fun _ => ⟨hb, ht⟩) | exact (fun _ h => h) | exact ⟨ha, by rw [List.length_set, hlt]; decide⟩ | exact ⟨hb, by rw [List.length_set, hlt]; decide⟩ | exact (fun _ => ⟨ha, by rw [List.length_set, hlt]; decide⟩) | exact (fun _ => ⟨hb, by rw [List.length_set, hlt]; decide⟩) | (have hr9 := hr (by omega); omega) | (have hr9 := hr (by omega); constructor <;> omega) | (intro _; omega) | (intro _; have hr9 := hr (by omega); omega) | (intro _; have hr9 := hr (by omega); constructor <;> omega) | (constructor <;> omega) | (rw [hlt]; omega) | (rw [hlt]; have hr9 := hr (by omega); omega)
     refine fin_then ?_
     refine tri_seq ?_
     refine tri_regD hcx [(1001, .to 251)] [10, 11] [8, 0, 1, 2] [246] [(b.length ≤ 1000000)] [(10, .row 251), (11, .bool (Cn.tautL b))] [(251, .row 3 (.ints (Cn.normL b)))] (by kernel_rfl) ?_ ?_
     ·
      refine (ap ?_ az)
      first | omega | exact id | exact vcNot | exact vcG | exact vcH | (intro _; omega) | exact (fun _ h => h) | (intro h; simp at h; omega) | (simp only [List.length_cons, List.length_nil, List.length_append, List.length_map, List.length_set, List.length_replicate]; omega) | (intro h; simp [h]; done) | exact id | omega | exact ⟨ha, hb⟩ | exact ⟨ha, ht⟩ | exact ⟨hb, ht⟩ | exact ⟨hxl, hyl⟩ | exact hyl | exact hxl | exact (fun _ => ⟨ha, ht⟩) | exact (fun _ => ⟨hb, ht⟩) | exact (fun _ h => h) | exact ⟨ha, by rw [List.length_set, hlt]; decide⟩ | exact ⟨hb, by rw [List.length_set, hlt]; decide⟩ | exact (fun _ => ⟨ha, by rw [List.length_set, hlt]; decide⟩) | exact (fun _ => ⟨hb, by rw [List.length_set, hlt]; decide⟩) | (have hr9 := hr (by omega); omega) | (have hr9 := hr (by omega); constructor <;> omega) | (intro _; omega) | (intro _; have hr9 := hr (by omega); omega) | (intro _; have hr9 := hr (by omega); constructor <;> omega) | (constructor <;> omega) | (rw [hlt]; omega) | (rw [hlt]; have hr9 := hr (by omega); omega)
     refine fin_then ?_
     refine tri_seq ?_
     refine tri_seq ?_
     refine tri_regD hcx [] [54] [10, 8, 0, 1, 2] [251, 246] [] [(54, .bool (Cn.tautL b))] [] (by kernel_rfl) ?_ ?_
     ·
      exact az
     refine fin_then ?_
     refine tri_cond (b := (Cn.tautL b)) (by kernel_rfl) (fun hb3 => ?_) (fun hb3 => ?_)
     ·
      skip
      have h3 := hb3
      have htt := h3
      refine tri_seq ?_
      refine tri_regD hcx [] [6] [] [] [(b.length ≤ maxLen ∧ t.length ≤ maxLen)] [(6, .bool (Cn.holdsV t b))] [] (by kernel_rfl) ?_ ?_
      ·
       refine (ap ?_ az)
       first | omega | exact id | exact vcNot | exact vcG | exact vcH | (intro _; omega) | exact (fun _ h => h) | (intro h; simp at h; omega) | (simp only [List.length_cons, List.length_nil, List.length_append, List.length_map, List.length_set, List.length_replicate]; omega) | (intro h; simp [h]; done) | exact id | omega | exact ⟨ha, hb⟩ | exact ⟨ha, ht⟩ | exact ⟨hb, ht⟩ | exact ⟨hxl, hyl⟩ | exact hyl | exact hxl | exact (fun _ => ⟨ha, ht⟩) | exact (fun _ => ⟨hb, ht⟩) | exact (fun _ h => h) | exact ⟨ha, by rw [List.length_set, hlt]; decide⟩ | exact ⟨hb, by rw [List.length_set, hlt]; decide⟩ | exact (fun _ => ⟨ha, by rw [List.length_set, hlt]; decide⟩) | exact (fun _ => ⟨hb, by rw [List.length_set, hlt]; decide⟩) | (have hr9 := hr (by omega); omega) | (have hr9 := hr (by omega); constructor <;> omega) | (intro _; omega) | (intro _; have hr9 := hr (by omega); omega) | (intro _; have hr9 := hr (by omega); constructor <;> omega) | (constructor <;> omega) | (rw [hlt]; omega) | (rw [hlt]; have hr9 := hr (by omega); omega)
      refine fin_then ?_
      refine tri_ret ?_
      refine fin_then_ret ?_
      exact fin_ret [] rfl rfl trivial hcx (avs := [.bool (Cn.holdsV t b)]) (by kernel_rfl) (congrArg AV.bool (show (Cn.holdsV t b) = true from (by first | exact (Cn.ss_is hs).symm | exact Cn.taut_holds htt | (have hr9 := hr (by omega); exact (Cn.ss_wit htt (Cn.getD_memL (by omega)) hq).symm) | exact Cn.sub_yes (fun j hj => hok j (by omega)) | rfl))) [] rfl
     ·
      skip
      have h3 := hb3
      have htt := h3
      refine tri_skip ?_
      refine fin_then ?_
      refine tri_seq ?_
      refine tri_regD hcx [(1000, .to 258)] [12] [10, 8, 0, 1] [251, 246] [((0 : Int) ≤ 65537 ∧ (65537 : Int) = 65537 ∧ 65537 * 1 ≤ 140737488355328)] [(12, .row 258)] [(258, .row 4 (.bools (List.replicate 65537 false)))] (by kernel_rfl) ?_ ?_
      ·
       refine (ap ?_ az)
       first | omega | exact id | exact vcNot | exact vcG | exact vcH | (intro _; omega) | exact (fun _ h => h) | (intro h; simp at h; omega) | (simp only [List.length_cons, List.length_nil, List.length_append, List.length_map, List.length_set, List.length_replicate]; omega) | (intro h; simp [h]; done) | exact id | omega | exact ⟨ha, hb⟩ | exact ⟨ha, ht⟩ | exact ⟨hb, ht⟩ | exact ⟨hxl, hyl⟩ | exact hyl | exact hxl | exact (fun _ => ⟨ha, ht⟩) | exact (fun _ => ⟨hb, ht⟩) | exact (fun _ h => h) | exact ⟨ha, by rw [List.length_set, hlt]; decide⟩ | exact ⟨hb, by rw [List.length_set, hlt]; decide⟩ | exact (fun _ => ⟨ha, by rw [List.length_set, hlt]; decide⟩) | exact (fun _ => ⟨hb, by rw [List.length_set, hlt]; decide⟩) | (have hr9 := hr (by omega); omega) | (have hr9 := hr (by omega); constructor <;> omega) | (intro _; omega) | (intro _; have hr9 := hr (by omega); omega) | (intro _; have hr9 := hr (by omega); constructor <;> omega) | (constructor <;> omega) | (rw [hlt]; omega) | (rw [hlt]; have hr9 := hr (by omega); omega)
      refine fin_then ?_
      refine tri_seq ?_
      refine tri_seq ?_
      refine tri_regD hcx [] [13] [12, 10, 8, 0, 1] [258, 251, 246] [] [(13, .int 0)] [] (by kernel_rfl) ?_ ?_
      ·
       exact az
      refine fin_then ?_
      refine tri_block ?_
      refine tri_ren (ρ := [(258, .to 12), (246, .to 246), (251, .to 251)]) (keys := [0, 1, 8, 10, 12, 13]) (E' := [(0, .ints a), (1, .ints b), (8, .row 246), (10, .row 251), (12, .row 12), (13, .int 0)]) (H' := [(12, .row 4 (.bools (List.replicate 65537 false))), (246, .row 3 (.ints (Cn.normL a))), (251, .row 3 (.ints (Cn.normL b)))]) (by kernel_rfl) ?_
      refine tri_loop (X := Nat) (fun x0 => x0 ≤ (Cn.normL b).length) (fun x0 => [(0, .ints a), (1, .ints b), (8, .row 246), (10, .row 251), (12, .row 12), (13, .int (x0 : Int))]) (fun x0 => [(12, .row 4 (.bools (Cn.trF ((Cn.normL b).take x0)))), (246, .row 3 (.ints (Cn.normL a))), (251, .row 3 (.ints (Cn.normL b)))]) (fun x0 => (Cn.normL b).length - x0) (0) ?_ ?_ ?_ ?_
      ·
       show 0 ≤ (Cn.normL b).length
       omega
      ·
       exact subE_mk (l := [.ints a, .ints b, .row 246, .row 251, .row 12, .int 0]) (m := [.ints a, .ints b, .row 246, .row 251, .row 12, .int (0 : Int)]) (by kernel_rfl) (by kernel_rfl) (consE rfl (consE rfl (consE rfl (consE rfl (consE rfl (consE (congrArg AV.int (show 0 = (0 : Int) from (by first | rfl | omega | (simp; done)))) rfl))))))
      ·
       exact Eq.trans (show _ = [(12, .row 4 (.bools (List.replicate 65537 false))), (246, .row 3 (.ints (Cn.normL a))), (251, .row 3 (.ints (Cn.normL b)))] from by kernel_rfl) (consH (congrArg (fun x => ((12 : Nat), x)) (congrArg (fun x => AObj.row 4 (.bools x)) (show (List.replicate 65537 false) = (Cn.trF ((Cn.normL b).take 0)) from (by exact Cn.trF_nil)))) (consH rfl (consH rfl rfl)))
      ·
       intro i hI
       replace hI : i ≤ (Cn.normL b).length := hI
       change Tri _ [(0, .ints a), (1, .ints b), (8, .row 246), (10, .row 251), (12, .row 12), (13, .int (i : Int))] [(12, .row 4 (.bools (Cn.trF ((Cn.normL b).take i)))), (246, .row 3 (.ints (Cn.normL a))), (251, .row 3 (.ints (Cn.normL b)))] _ _
       have hr : i < (Cn.normL b).length → (-65536 ≤ (Cn.normL b).getD i 0 ∧ (Cn.normL b).getD i 0 ≤ 65536 ∧ (Cn.normL b).getD i 0 ≠ 0) := fun h => ⟨(Cn.norm_bd h).1, (Cn.norm_bd h).2, Cn.norm_nz (Cn.getD_memL h)⟩
       have hlt : (Cn.trF ((Cn.normL b).take i)).length = 65537 := htl _
       refine tri_seq ?_
       refine tri_seq ?_
       refine tri_regD hcx [] [62] [0, 1, 8, 10, 12, 13] [12, 246, 251] [] [(62, .bool (decide ((i : Int) < ((Cn.normL b).length : Int))))] [] (by kernel_rfl) ?_ ?_
       ·
        exact az
       refine fin_then ?_
       refine tri_cond (b := (decide ((i : Int) < ((Cn.normL b).length : Int)))) (by kernel_rfl) (fun hb4 => ?_) (fun hb4 => ?_)
       ·
        skip
        have h4 := of_decide_eq_true hb4
        refine tri_skip ?_
        refine fin_then ?_
        refine tri_seq ?_
        refine tri_block ?_
        refine tri_seq ?_
        refine tri_regD hcx [] [76] [0, 1, 8, 10, 12, 13] [12, 246, 251] [((0 : Int) ≤ (i : Int) ∧ (i : Int) < ((Cn.normL b).length : Int)), (i < (Cn.normL b).length), ((decide (((Cn.normL b).getD i 0) < 0)) = true → ((decide (((Cn.normL b).getD i 0) < 0)) = true)), ((decide (((Cn.normL b).getD i 0) < 0)) = true → ((decide (((Cn.normL b).getD i 0) < 0)) = true)), ((decide (((Cn.normL b).getD i 0) < 0)) = true → ((0 : Int) ≤ (i : Int) ∧ (i : Int) < ((Cn.normL b).length : Int))), ((decide (((Cn.normL b).getD i 0) < 0)) = true → ((decide (((Cn.normL b).getD i 0) < 0)) = true)), ((decide (((Cn.normL b).getD i 0) < 0)) = true → (i < (Cn.normL b).length)), ((decide (((Cn.normL b).getD i 0) < 0)) = true → ((decide (((Cn.normL b).getD i 0) < 0)) = true)), ((decide (((Cn.normL b).getD i 0) < 0)) = true → (decide (((Cn.normL b).getD i 0) < 0)) = true)] [(76, .bool ((decide (((Cn.normL b).getD i 0) < 0)) && (decide (((Cn.normL b).getD i 0) ≥ (-65536)))))] [] (by kernel_rfl) ?_ ?_
        ·
         refine (ap ?_ (ap ?_ (ap ?_ (ap ?_ (ap ?_ (ap ?_ (ap ?_ (ap ?_ (ap (by exact id) az)))))))))
         all_goals
          first | omega | exact id | exact vcNot | exact vcG | exact vcH | (intro _; omega) | exact (fun _ h => h) | (intro h; simp at h; omega) | (simp only [List.length_cons, List.length_nil, List.length_append, List.length_map, List.length_set, List.length_replicate]; omega) | (intro h; simp [h]; done) | exact id | omega | exact ⟨ha, hb⟩ | exact ⟨ha, ht⟩ | exact ⟨hb, ht⟩ | exact ⟨hxl, hyl⟩ | exact hyl | exact hxl | exact (fun _ => ⟨ha, ht⟩) | exact (fun _ => ⟨hb, ht⟩) | exact (fun _ h => h) | exact ⟨ha, by rw [List.length_set, hlt]; decide⟩ | exact ⟨hb, by rw [List.length_set, hlt]; decide⟩ | exact (fun _ => ⟨ha, by rw [List.length_set, hlt]; decide⟩) | exact (fun _ => ⟨hb, by rw [List.length_set, hlt]; decide⟩) | (have hr9 := hr (by omega); omega) | (have hr9 := hr (by omega); constructor <;> omega) | (intro _; omega) | (intro _; have hr9 := hr (by omega); omega) | (intro _; have hr9 := hr (by omega); constructor <;> omega) | (constructor <;> omega) | (rw [hlt]; omega) | (rw [hlt]; have hr9 := hr (by omega); omega)
        refine fin_then ?_
        refine tri_cond (b := ((decide (((Cn.normL b).getD i 0) < 0)) && (decide (((Cn.normL b).getD i 0) ≥ (-65536))))) (by kernel_rfl) (fun hb5 => ?_) (fun hb5 => ?_)
        ·
         skip
         have h5 := hb5
         have hq : (Cn.normL b).getD i 0 < 0 ∧ -65536 ≤ (Cn.normL b).getD i 0 := by simpa using h5
         refine tri_regD hcx [(12, .to 12)] [] [0, 1, 8, 10, 12, 13] [246, 251] [((0 : Int) ≤ (i : Int) ∧ (i : Int) < ((Cn.normL b).length : Int)), (i < (Cn.normL b).length), Fit (0 - ((Cn.normL b).getD i 0)), ((0 : Int) ≤ (0 - ((Cn.normL b).getD i 0)) ∧ (0 - ((Cn.normL b).getD i 0)) < ((Cn.trF ((Cn.normL b).take i)).length : Int)), (((0 - ((Cn.normL b).getD i 0)).toNat) < (Cn.trF ((Cn.normL b).take i)).length)] [] [(12, .row 4 (.bools ((Cn.trF ((Cn.normL b).take i)).set ((0 - ((Cn.normL b).getD i 0)).toNat) true)))] (by kernel_rfl) ?_ ?_
         ·
          refine (ap ?_ (ap ?_ (ap ?_ (ap ?_ (ap ?_ az)))))
          all_goals
           first | omega | exact id | exact vcNot | exact vcG | exact vcH | (intro _; omega) | exact (fun _ h => h) | (intro h; simp at h; omega) | (simp only [List.length_cons, List.length_nil, List.length_append, List.length_map, List.length_set, List.length_replicate]; omega) | (intro h; simp [h]; done) | exact id | omega | exact ⟨ha, hb⟩ | exact ⟨ha, ht⟩ | exact ⟨hb, ht⟩ | exact ⟨hxl, hyl⟩ | exact hyl | exact hxl | exact (fun _ => ⟨ha, ht⟩) | exact (fun _ => ⟨hb, ht⟩) | exact (fun _ h => h) | exact ⟨ha, by rw [List.length_set, hlt]; decide⟩ | exact ⟨hb, by rw [List.length_set, hlt]; decide⟩ | exact (fun _ => ⟨ha, by rw [List.length_set, hlt]; decide⟩) | exact (fun _ => ⟨hb, by rw [List.length_set, hlt]; decide⟩) | (have hr9 := hr (by omega); omega) | (have hr9 := hr (by omega); constructor <;> omega) | (intro _; omega) | (intro _; have hr9 := hr (by omega); omega) | (intro _; have hr9 := hr (by omega); constructor <;> omega) | (constructor <;> omega) | (rw [hlt]; omega) | (rw [hlt]; have hr9 := hr (by omega); omega)
         refine fin_block ?_
         refine fin_then ?_
         refine tri_regD hcx [] [13] [0, 1, 8, 10, 12] [12, 246, 251] [Fit ((i : Int) + 1)] [(13, .int ((i : Int) + 1))] [] (by kernel_rfl) ?_ ?_
         ·
          refine (ap ?_ az)
          first | omega | exact id | exact vcNot | exact vcG | exact vcH | (intro _; omega) | exact (fun _ h => h) | (intro h; simp at h; omega) | (simp only [List.length_cons, List.length_nil, List.length_append, List.length_map, List.length_set, List.length_replicate]; omega) | (intro h; simp [h]; done) | exact id | omega | exact ⟨ha, hb⟩ | exact ⟨ha, ht⟩ | exact ⟨hb, ht⟩ | exact ⟨hxl, hyl⟩ | exact hyl | exact hxl | exact (fun _ => ⟨ha, ht⟩) | exact (fun _ => ⟨hb, ht⟩) | exact (fun _ h => h) | exact ⟨ha, by rw [List.length_set, hlt]; decide⟩ | exact ⟨hb, by rw [List.length_set, hlt]; decide⟩ | exact (fun _ => ⟨ha, by rw [List.length_set, hlt]; decide⟩) | exact (fun _ => ⟨hb, by rw [List.length_set, hlt]; decide⟩) | (have hr9 := hr (by omega); omega) | (have hr9 := hr (by omega); constructor <;> omega) | (intro _; omega) | (intro _; have hr9 := hr (by omega); omega) | (intro _; have hr9 := hr (by omega); constructor <;> omega) | (constructor <;> omega) | (rw [hlt]; omega) | (rw [hlt]; have hr9 := hr (by omega); omega)
         refine fin_round (i + 1) ?_ ?_ ?_ ?_
         ·
          show (i + 1) ≤ (Cn.normL b).length
          omega
         ·
          show (Cn.normL b).length - (i + 1) < (Cn.normL b).length - i
          omega
         ·
          exact subE_mk (l := [.ints a, .ints b, .row 246, .row 251, .row 12, .int ((i : Int) + 1)]) (m := [.ints a, .ints b, .row 246, .row 251, .row 12, .int ((i + 1) : Int)]) (by kernel_rfl) (by kernel_rfl) (consE rfl (consE rfl (consE rfl (consE rfl (consE rfl (consE (congrArg AV.int (show ((i : Int) + 1) = ((i + 1) : Int) from (by first | rfl | omega | (simp; done)))) rfl))))))
         ·
          exact Eq.trans (show _ = [(12, .row 4 (.bools ((Cn.trF ((Cn.normL b).take i)).set ((0 - ((Cn.normL b).getD i 0)).toNat) true))), (246, .row 3 (.ints (Cn.normL a))), (251, .row 3 (.ints (Cn.normL b)))] from by kernel_rfl) (consH (congrArg (fun x => ((12 : Nat), x)) (congrArg (fun x => AObj.row 4 (.bools x)) (show ((Cn.trF ((Cn.normL b).take i)).set ((0 - ((Cn.normL b).getD i 0)).toNat) true) = (Cn.trF ((Cn.normL b).take (i + 1))) from (by first | exact Cn.trF_next (by omega) hq.1 hq.2 | exact Cn.trF_skip (by omega) hq (by have := (hr (by omega)).1; omega) (hr (by omega)).2.2)))) (consH rfl (consH rfl rfl)))
        ·
         skip
         have h5 := hb5
         have hq := h5
         refine tri_skip ?_
         refine fin_block ?_
         refine fin_then ?_
         refine tri_regD hcx [] [13] [0, 1, 8, 10, 12] [12, 246, 251] [Fit ((i : Int) + 1)] [(13, .int ((i : Int) + 1))] [] (by kernel_rfl) ?_ ?_
         ·
          refine (ap ?_ az)
          first | omega | exact id | exact vcNot | exact vcG | exact vcH | (intro _; omega) | exact (fun _ h => h) | (intro h; simp at h; omega) | (simp only [List.length_cons, List.length_nil, List.length_append, List.length_map, List.length_set, List.length_replicate]; omega) | (intro h; simp [h]; done) | exact id | omega | exact ⟨ha, hb⟩ | exact ⟨ha, ht⟩ | exact ⟨hb, ht⟩ | exact ⟨hxl, hyl⟩ | exact hyl | exact hxl | exact (fun _ => ⟨ha, ht⟩) | exact (fun _ => ⟨hb, ht⟩) | exact (fun _ h => h) | exact ⟨ha, by rw [List.length_set, hlt]; decide⟩ | exact ⟨hb, by rw [List.length_set, hlt]; decide⟩ | exact (fun _ => ⟨ha, by rw [List.length_set, hlt]; decide⟩) | exact (fun _ => ⟨hb, by rw [List.length_set, hlt]; decide⟩) | (have hr9 := hr (by omega); omega) | (have hr9 := hr (by omega); constructor <;> omega) | (intro _; omega) | (intro _; have hr9 := hr (by omega); omega) | (intro _; have hr9 := hr (by omega); constructor <;> omega) | (constructor <;> omega) | (rw [hlt]; omega) | (rw [hlt]; have hr9 := hr (by omega); omega)
         refine fin_round (i + 1) ?_ ?_ ?_ ?_
         ·
          show (i + 1) ≤ (Cn.normL b).length
          omega
         ·
          show (Cn.normL b).length - (i + 1) < (Cn.normL b).length - i
          omega
         ·
          exact subE_mk (l := [.ints a, .ints b, .row 246, .row 251, .row 12, .int ((i : Int) + 1)]) (m := [.ints a, .ints b, .row 246, .row 251, .row 12, .int ((i + 1) : Int)]) (by kernel_rfl) (by kernel_rfl) (consE rfl (consE rfl (consE rfl (consE rfl (consE rfl (consE (congrArg AV.int (show ((i : Int) + 1) = ((i + 1) : Int) from (by first | rfl | omega | (simp; done)))) rfl))))))
         ·
          exact Eq.trans (show _ = [(12, .row 4 (.bools (Cn.trF ((Cn.normL b).take i)))), (246, .row 3 (.ints (Cn.normL a))), (251, .row 3 (.ints (Cn.normL b)))] from by kernel_rfl) (consH (congrArg (fun x => ((12 : Nat), x)) (congrArg (fun x => AObj.row 4 (.bools x)) (show (Cn.trF ((Cn.normL b).take i)) = (Cn.trF ((Cn.normL b).take (i + 1))) from (by first | exact Cn.trF_next (by omega) hq.1 hq.2 | exact Cn.trF_skip (by omega) hq (by have := (hr (by omega)).1; omega) (hr (by omega)).2.2)))) (consH rfl (consH rfl rfl)))
       ·
        skip
        have h4 := of_decide_eq_false hb4
        refine tri_exit ?_
        refine fin_then_exit ?_
        refine fin_then_exit ?_
        refine fin_block_same ?_
        refine fin_then ?_
        refine tri_seq ?_
        refine tri_seq ?_
        refine tri_regD hcx [] [14] [0, 1, 8, 10, 12] [12, 246, 251] [] [(14, .int 0)] [] (by kernel_rfl) ?_ ?_
        ·
         exact az
        refine fin_then ?_
        refine tri_block ?_
        refine tri_loop (X := Nat) (fun x0 => x0 ≤ (Cn.normL a).length ∧ ∀ j, j < x0 → (Cn.normL b).contains ((Cn.normL a).getD j 0) = true) (fun x0 => [(0, .ints a), (1, .ints b), (8, .row 246), (10, .row 251), (12, .row 12), (14, .int (x0 : Int))]) (fun x0 => [(12, .row 4 (.bools (Cn.trF (Cn.normL b)))), (246, .row 3 (.ints (Cn.normL a))), (251, .row 3 (.ints (Cn.normL b)))]) (fun x0 => (Cn.normL a).length - x0) (0) ?_ ?_ ?_ ?_
        ·
         show 0 ≤ (Cn.normL a).length ∧ ∀ j, j < 0 → (Cn.normL b).contains ((Cn.normL a).getD j 0) = true
         exact ⟨Nat.zero_le _, fun j hj => by omega⟩
        ·
         exact subE_mk (l := [.ints a, .ints b, .row 246, .row 251, .row 12, .int 0]) (m := [.ints a, .ints b, .row 246, .row 251, .row 12, .int (0 : Int)]) (by kernel_rfl) (by kernel_rfl) (consE rfl (consE rfl (consE rfl (consE rfl (consE rfl (consE (congrArg AV.int (show 0 = (0 : Int) from (by first | rfl | omega | (simp; done)))) rfl))))))
        ·
         exact Eq.trans (show _ = [(12, .row 4 (.bools (Cn.trF ((Cn.normL b).take i)))), (246, .row 3 (.ints (Cn.normL a))), (251, .row 3 (.ints (Cn.normL b)))] from by kernel_rfl) (consH (congrArg (fun x => ((12 : Nat), x)) (congrArg (fun x => AObj.row 4 (.bools x)) (show (Cn.trF ((Cn.normL b).take i)) = (Cn.trF (Cn.normL b)) from (by rw [show i = (Cn.normL b).length from by omega, List.take_length])))) (consH rfl (consH rfl rfl)))
        ·
         intro i hI
         replace hI : i ≤ (Cn.normL a).length ∧ ∀ j, j < i → (Cn.normL b).contains ((Cn.normL a).getD j 0) = true := hI
         change Tri _ [(0, .ints a), (1, .ints b), (8, .row 246), (10, .row 251), (12, .row 12), (14, .int (i : Int))] [(12, .row 4 (.bools (Cn.trF (Cn.normL b)))), (246, .row 3 (.ints (Cn.normL a))), (251, .row 3 (.ints (Cn.normL b)))] _ _
         obtain ⟨hk, hok⟩ := hI
         have hr : i < (Cn.normL a).length → (-65536 ≤ (Cn.normL a).getD i 0 ∧ (Cn.normL a).getD i 0 ≤ 65536 ∧ (Cn.normL a).getD i 0 ≠ 0) := fun h => ⟨(Cn.norm_bd h).1, (Cn.norm_bd h).2, Cn.norm_nz (Cn.getD_memL h)⟩
         have hlt : (Cn.trF (Cn.normL b)).length = 65537 := htl _
         refine tri_seq ?_
         refine tri_seq ?_
         refine tri_regD hcx [] [87] [0, 1, 8, 10, 12, 14] [12, 246, 251] [] [(87, .bool (decide ((i : Int) < ((Cn.normL a).length : Int))))] [] (by kernel_rfl) ?_ ?_
         ·
          exact az
         refine fin_then ?_
         refine tri_cond (b := (decide ((i : Int) < ((Cn.normL a).length : Int)))) (by kernel_rfl) (fun hb6 => ?_) (fun hb6 => ?_)
         ·
          skip
          have h6 := of_decide_eq_true hb6
          refine tri_skip ?_
          refine fin_then ?_
          refine tri_seq ?_
          refine tri_block ?_
          refine tri_seq ?_
          refine tri_drawD [0, 0, 3, 7, 0, 0, 48, 112, 240, 511, 1023] hcx hmx [] [15] [0, 1, 8, 10, 12, 14] [12, 246, 251] [((0 : Int) ≤ (i : Int) ∧ (i : Int) < ((Cn.normL a).length : Int)), (i < (Cn.normL a).length), ((0 : Int) ≤ (i : Int) ∧ (i : Int) < ((Cn.normL a).length : Int)), (i < (Cn.normL a).length), Fit (0 - ((Cn.normL a).getD i 0))] [(15, .int (max ((Cn.normL a).getD i 0) (0 - ((Cn.normL a).getD i 0))))] [] (by kernel_rfl) ?_ ?_
          ·
           refine (ap ?_ (ap ?_ (ap ?_ (ap ?_ (ap ?_ az)))))
           all_goals
            first | omega | exact id | exact vcNot | exact vcG | exact vcH | (intro _; omega) | exact (fun _ h => h) | (intro h; simp at h; omega) | (simp only [List.length_cons, List.length_nil, List.length_append, List.length_map, List.length_set, List.length_replicate]; omega) | (intro h; simp [h]; done) | exact id | omega | exact ⟨ha, hb⟩ | exact ⟨ha, ht⟩ | exact ⟨hb, ht⟩ | exact ⟨hxl, hyl⟩ | exact hyl | exact hxl | exact (fun _ => ⟨ha, ht⟩) | exact (fun _ => ⟨hb, ht⟩) | exact (fun _ h => h) | exact ⟨ha, by rw [List.length_set, hlt]; decide⟩ | exact ⟨hb, by rw [List.length_set, hlt]; decide⟩ | exact (fun _ => ⟨ha, by rw [List.length_set, hlt]; decide⟩) | exact (fun _ => ⟨hb, by rw [List.length_set, hlt]; decide⟩) | (have hr9 := hr (by omega); omega) | (have hr9 := hr (by omega); constructor <;> omega) | (intro _; omega) | (intro _; have hr9 := hr (by omega); omega) | (intro _; have hr9 := hr (by omega); constructor <;> omega) | (constructor <;> omega) | (rw [hlt]; omega) | (rw [hlt]; have hr9 := hr (by omega); omega)
          refine fin_then ?_
          refine tri_seq ?_
          refine tri_regD hcx [] [114] [15, 0, 1, 8, 10, 12, 14] [12, 246, 251] [((0 : Int) ≤ (i : Int) ∧ (i : Int) < ((Cn.normL a).length : Int)), (i < (Cn.normL a).length), ((Cn.normL b).length ≤ maxLen), ((!((Cn.normL b).contains ((Cn.normL a).getD i 0))) = true → ((!((Cn.normL b).contains ((Cn.normL a).getD i 0))) = true)), ((!((Cn.normL b).contains ((Cn.normL a).getD i 0))) = true → (!((Cn.normL b).contains ((Cn.normL a).getD i 0))) = true), (((!((Cn.normL b).contains ((Cn.normL a).getD i 0))) && (decide ((max ((Cn.normL a).getD i 0) (0 - ((Cn.normL a).getD i 0))) ≥ 1))) = true → (((!((Cn.normL b).contains ((Cn.normL a).getD i 0))) && (decide ((max ((Cn.normL a).getD i 0) (0 - ((Cn.normL a).getD i 0))) ≥ 1))) = true)), (((!((Cn.normL b).contains ((Cn.normL a).getD i 0))) && (decide ((max ((Cn.normL a).getD i 0) (0 - ((Cn.normL a).getD i 0))) ≥ 1))) = true → ((!((Cn.normL b).contains ((Cn.normL a).getD i 0))) && (decide ((max ((Cn.normL a).getD i 0) (0 - ((Cn.normL a).getD i 0))) ≥ 1))) = true)] [(114, .bool (((!((Cn.normL b).contains ((Cn.normL a).getD i 0))) && (decide ((max ((Cn.normL a).getD i 0) (0 - ((Cn.normL a).getD i 0))) ≥ 1))) && (decide ((max ((Cn.normL a).getD i 0) (0 - ((Cn.normL a).getD i 0))) ≤ 65536))))] [] (by kernel_rfl) ?_ ?_
          ·
           refine (ap ?_ (ap ?_ (ap ?_ (ap ?_ (ap (by exact id) (ap ?_ (ap (by exact id) az)))))))
           all_goals
            first | omega | exact id | exact vcNot | exact vcG | exact vcH | (intro _; omega) | exact (fun _ h => h) | (intro h; simp at h; omega) | (simp only [List.length_cons, List.length_nil, List.length_append, List.length_map, List.length_set, List.length_replicate]; omega) | (intro h; simp [h]; done) | exact id | omega | exact ⟨ha, hb⟩ | exact ⟨ha, ht⟩ | exact ⟨hb, ht⟩ | exact ⟨hxl, hyl⟩ | exact hyl | exact hxl | exact (fun _ => ⟨ha, ht⟩) | exact (fun _ => ⟨hb, ht⟩) | exact (fun _ h => h) | exact ⟨ha, by rw [List.length_set, hlt]; decide⟩ | exact ⟨hb, by rw [List.length_set, hlt]; decide⟩ | exact (fun _ => ⟨ha, by rw [List.length_set, hlt]; decide⟩) | exact (fun _ => ⟨hb, by rw [List.length_set, hlt]; decide⟩) | (have hr9 := hr (by omega); omega) | (have hr9 := hr (by omega); constructor <;> omega) | (intro _; omega) | (intro _; have hr9 := hr (by omega); omega) | (intro _; have hr9 := hr (by omega); constructor <;> omega) | (constructor <;> omega) | (rw [hlt]; omega) | (rw [hlt]; have hr9 := hr (by omega); omega)
          refine fin_then ?_
          refine tri_cond (b := (((!((Cn.normL b).contains ((Cn.normL a).getD i 0))) && (decide ((max ((Cn.normL a).getD i 0) (0 - ((Cn.normL a).getD i 0))) ≥ 1))) && (decide ((max ((Cn.normL a).getD i 0) (0 - ((Cn.normL a).getD i 0))) ≤ 65536)))) (by kernel_rfl) (fun hb7 => ?_) (fun hb7 => ?_)
          ·
           skip
           have h7 := hb7
           have hq : (Cn.normL b).contains ((Cn.normL a).getD i 0) = false := by have hz := h7; simp only [Bool.and_eq_true, Bool.not_eq_true'] at hz; exact hz.1.1
           refine tri_seq ?_
           refine tri_regD hcx [(12, .to 12)] [] [0, 1, 12] [] [((0 : Int) ≤ (i : Int) ∧ (i : Int) < ((Cn.normL a).length : Int)), (i < (Cn.normL a).length), ((0 : Int) ≤ (max ((Cn.normL a).getD i 0) (0 - ((Cn.normL a).getD i 0))) ∧ (max ((Cn.normL a).getD i 0) (0 - ((Cn.normL a).getD i 0))) < ((Cn.trF (Cn.normL b)).length : Int)), (((max ((Cn.normL a).getD i 0) (0 - ((Cn.normL a).getD i 0))).toNat) < (Cn.trF (Cn.normL b)).length)] [] [(12, .row 4 (.bools ((Cn.trF (Cn.normL b)).set ((max ((Cn.normL a).getD i 0) (0 - ((Cn.normL a).getD i 0))).toNat) (decide (((Cn.normL a).getD i 0) > 0)))))] (by kernel_rfl) ?_ ?_
           ·
            refine (ap ?_ (ap ?_ (ap ?_ (ap ?_ az))))
            all_goals
             first | omega | exact id | exact vcNot | exact vcG | exact vcH | (intro _; omega) | exact (fun _ h => h) | (intro h; simp at h; omega) | (simp only [List.length_cons, List.length_nil, List.length_append, List.length_map, List.length_set, List.length_replicate]; omega) | (intro h; simp [h]; done) | exact id | omega | exact ⟨ha, hb⟩ | exact ⟨ha, ht⟩ | exact ⟨hb, ht⟩ | exact ⟨hxl, hyl⟩ | exact hyl | exact hxl | exact (fun _ => ⟨ha, ht⟩) | exact (fun _ => ⟨hb, ht⟩) | exact (fun _ h => h) | exact ⟨ha, by rw [List.length_set, hlt]; decide⟩ | exact ⟨hb, by rw [List.length_set, hlt]; decide⟩ | exact (fun _ => ⟨ha, by rw [List.length_set, hlt]; decide⟩) | exact (fun _ => ⟨hb, by rw [List.length_set, hlt]; decide⟩) | (have hr9 := hr (by omega); omega) | (have hr9 := hr (by omega); constructor <;> omega) | (intro _; omega) | (intro _; have hr9 := hr (by omega); omega) | (intro _; have hr9 := hr (by omega); constructor <;> omega) | (constructor <;> omega) | (rw [hlt]; omega) | (rw [hlt]; have hr9 := hr (by omega); omega)
           refine fin_then ?_
           refine tri_seq ?_
           refine tri_regD hcx [] [6] [] [] [(a.length ≤ maxLen ∧ ((Cn.trF (Cn.normL b)).set ((max ((Cn.normL a).getD i 0) (0 - ((Cn.normL a).getD i 0))).toNat) (decide (((Cn.normL a).getD i 0) > 0))).length ≤ maxLen), ((Cn.holdsV ((Cn.trF (Cn.normL b)).set ((max ((Cn.normL a).getD i 0) (0 - ((Cn.normL a).getD i 0))).toNat) (decide (((Cn.normL a).getD i 0) > 0))) a) = true → ((Cn.holdsV ((Cn.trF (Cn.normL b)).set ((max ((Cn.normL a).getD i 0) (0 - ((Cn.normL a).getD i 0))).toNat) (decide (((Cn.normL a).getD i 0) > 0))) a) = true)), ((Cn.holdsV ((Cn.trF (Cn.normL b)).set ((max ((Cn.normL a).getD i 0) (0 - ((Cn.normL a).getD i 0))).toNat) (decide (((Cn.normL a).getD i 0) > 0))) a) = true → ((Cn.holdsV ((Cn.trF (Cn.normL b)).set ((max ((Cn.normL a).getD i 0) (0 - ((Cn.normL a).getD i 0))).toNat) (decide (((Cn.normL a).getD i 0) > 0))) a) = true)), ((Cn.holdsV ((Cn.trF (Cn.normL b)).set ((max ((Cn.normL a).getD i 0) (0 - ((Cn.normL a).getD i 0))).toNat) (decide (((Cn.normL a).getD i 0) > 0))) a) = true → (b.length ≤ maxLen ∧ ((Cn.trF (Cn.normL b)).set ((max ((Cn.normL a).getD i 0) (0 - ((Cn.normL a).getD i 0))).toNat) (decide (((Cn.normL a).getD i 0) > 0))).length ≤ maxLen)), ((Cn.holdsV ((Cn.trF (Cn.normL b)).set ((max ((Cn.normL a).getD i 0) (0 - ((Cn.normL a).getD i 0))).toNat) (decide (((Cn.normL a).getD i 0) > 0))) a) = true → ((Cn.holdsV ((Cn.trF (Cn.normL b)).set ((max ((Cn.normL a).getD i 0) (0 - ((Cn.normL a).getD i 0))).toNat) (decide (((Cn.normL a).getD i 0) > 0))) a) = true)), ((Cn.holdsV ((Cn.trF (Cn.normL b)).set ((max ((Cn.normL a).getD i 0) (0 - ((Cn.normL a).getD i 0))).toNat) (decide (((Cn.normL a).getD i 0) > 0))) a) = true → (Cn.holdsV ((Cn.trF (Cn.normL b)).set ((max ((Cn.normL a).getD i 0) (0 - ((Cn.normL a).getD i 0))).toNat) (decide (((Cn.normL a).getD i 0) > 0))) a) = true)] [(6, .bool ((Cn.holdsV ((Cn.trF (Cn.normL b)).set ((max ((Cn.normL a).getD i 0) (0 - ((Cn.normL a).getD i 0))).toNat) (decide (((Cn.normL a).getD i 0) > 0))) a) && (!(Cn.holdsV ((Cn.trF (Cn.normL b)).set ((max ((Cn.normL a).getD i 0) (0 - ((Cn.normL a).getD i 0))).toNat) (decide (((Cn.normL a).getD i 0) > 0))) b))))] [] (by kernel_rfl) ?_ ?_
           ·
            refine (ap ?_ (ap ?_ (ap ?_ (ap ?_ (ap ?_ (ap (by exact id) az))))))
            all_goals
             first | omega | exact id | exact vcNot | exact vcG | exact vcH | (intro _; omega) | exact (fun _ h => h) | (intro h; simp at h; omega) | (simp only [List.length_cons, List.length_nil, List.length_append, List.length_map, List.length_set, List.length_replicate]; omega) | (intro h; simp [h]; done) | exact id | omega | exact ⟨ha, hb⟩ | exact ⟨ha, ht⟩ | exact ⟨hb, ht⟩ | exact ⟨hxl, hyl⟩ | exact hyl | exact hxl | exact (fun _ => ⟨ha, ht⟩) | exact (fun _ => ⟨hb, ht⟩) | exact (fun _ h => h) | exact ⟨ha, by rw [List.length_set, hlt]; decide⟩ | exact ⟨hb, by rw [List.length_set, hlt]; decide⟩ | exact (fun _ => ⟨ha, by rw [List.length_set, hlt]; decide⟩) | exact (fun _ => ⟨hb, by rw [List.length_set, hlt]; decide⟩) | (have hr9 := hr (by omega); omega) | (have hr9 := hr (by omega); constructor <;> omega) | (intro _; omega) | (intro _; have hr9 := hr (by omega); omega) | (intro _; have hr9 := hr (by omega); constructor <;> omega) | (constructor <;> omega) | (rw [hlt]; omega) | (rw [hlt]; have hr9 := hr (by omega); omega)
           refine fin_then ?_
           refine tri_ret ?_
           refine fin_block_ret ?_
           refine fin_then_ret ?_
           refine fin_then_ret ?_
           refine fin_block_ret ?_
           refine fin_then_ret ?_
           exact fin_ret [] rfl rfl trivial hcx (avs := [.bool ((Cn.holdsV ((Cn.trF (Cn.normL b)).set ((max ((Cn.normL a).getD i 0) (0 - ((Cn.normL a).getD i 0))).toNat) (decide (((Cn.normL a).getD i 0) > 0))) a) && (!(Cn.holdsV ((Cn.trF (Cn.normL b)).set ((max ((Cn.normL a).getD i 0) (0 - ((Cn.normL a).getD i 0))).toNat) (decide (((Cn.normL a).getD i 0) > 0))) b)))]) (by kernel_rfl) (congrArg AV.bool (show ((Cn.holdsV ((Cn.trF (Cn.normL b)).set ((max ((Cn.normL a).getD i 0) (0 - ((Cn.normL a).getD i 0))).toNat) (decide (((Cn.normL a).getD i 0) > 0))) a) && (!(Cn.holdsV ((Cn.trF (Cn.normL b)).set ((max ((Cn.normL a).getD i 0) (0 - ((Cn.normL a).getD i 0))).toNat) (decide (((Cn.normL a).getD i 0) > 0))) b))) = true from (by first | exact (Cn.ss_is hs).symm | exact Cn.taut_holds htt | (have hr9 := hr (by omega); exact (Cn.ss_wit htt (Cn.getD_memL (by omega)) hq).symm) | exact Cn.sub_yes (fun j hj => hok j (by omega)) | rfl))) [] rfl
          ·
           skip
           have h7 := hb7
           have hq : (Cn.normL b).contains ((Cn.normL a).getD i 0) = true := by have hr9 := hr (by omega); have hz := h7; rw [show decide (max ((Cn.normL a).getD i 0) (0 - (Cn.normL a).getD i 0) ≥ 1) = true by rw [decide_eq_true_iff]; omega, show decide (max ((Cn.normL a).getD i 0) (0 - (Cn.normL a).getD i 0) ≤ 65536) = true by rw [decide_eq_true_iff]; omega] at hz; simpa using hz
           refine tri_skip ?_
           refine fin_block ?_
           refine fin_then ?_
           refine tri_regD hcx [] [14] [0, 1, 8, 10, 12] [12, 246, 251] [Fit ((i : Int) + 1)] [(14, .int ((i : Int) + 1))] [] (by kernel_rfl) ?_ ?_
           ·
            refine (ap ?_ az)
            first | omega | exact id | exact vcNot | exact vcG | exact vcH | (intro _; omega) | exact (fun _ h => h) | (intro h; simp at h; omega) | (simp only [List.length_cons, List.length_nil, List.length_append, List.length_map, List.length_set, List.length_replicate]; omega) | (intro h; simp [h]; done) | exact id | omega | exact ⟨ha, hb⟩ | exact ⟨ha, ht⟩ | exact ⟨hb, ht⟩ | exact ⟨hxl, hyl⟩ | exact hyl | exact hxl | exact (fun _ => ⟨ha, ht⟩) | exact (fun _ => ⟨hb, ht⟩) | exact (fun _ h => h) | exact ⟨ha, by rw [List.length_set, hlt]; decide⟩ | exact ⟨hb, by rw [List.length_set, hlt]; decide⟩ | exact (fun _ => ⟨ha, by rw [List.length_set, hlt]; decide⟩) | exact (fun _ => ⟨hb, by rw [List.length_set, hlt]; decide⟩) | (have hr9 := hr (by omega); omega) | (have hr9 := hr (by omega); constructor <;> omega) | (intro _; omega) | (intro _; have hr9 := hr (by omega); omega) | (intro _; have hr9 := hr (by omega); constructor <;> omega) | (constructor <;> omega) | (rw [hlt]; omega) | (rw [hlt]; have hr9 := hr (by omega); omega)
           refine fin_round (i + 1) ?_ ?_ ?_ ?_
           ·
            show (i + 1) ≤ (Cn.normL a).length ∧ ∀ j, j < (i + 1) → (Cn.normL b).contains ((Cn.normL a).getD j 0) = true
            exact ⟨by omega, fun j hj => by rcases (by omega : j < i ∨ j = i) with h | rfl; exact hok j h; exact hq⟩
           ·
            show (Cn.normL a).length - (i + 1) < (Cn.normL a).length - i
            omega
           ·
            exact subE_mk (l := [.ints a, .ints b, .row 246, .row 251, .row 12, .int ((i : Int) + 1)]) (m := [.ints a, .ints b, .row 246, .row 251, .row 12, .int ((i + 1) : Int)]) (by kernel_rfl) (by kernel_rfl) (consE rfl (consE rfl (consE rfl (consE rfl (consE rfl (consE (congrArg AV.int (show ((i : Int) + 1) = ((i + 1) : Int) from (by first | rfl | omega | (simp; done)))) rfl))))))
           ·
            kernel_rfl
         ·
          skip
          have h6 := of_decide_eq_false hb6
          refine tri_exit ?_
          refine fin_then_exit ?_
          refine fin_then_exit ?_
          refine fin_block_same ?_
          refine fin_then ?_
          refine tri_seq ?_
          refine tri_regD hcx [] [6] [] [] [((Cn.normL a).length ≤ maxLen ∧ (Cn.normL b).length ≤ maxLen)] [(6, .bool (!((Cn.normL a).any fun x => !((Cn.normL b).contains x))))] [] (by kernel_rfl) ?_ ?_
          ·
           refine (ap ?_ az)
           first | omega | exact id | exact vcNot | exact vcG | exact vcH | (intro _; omega) | exact (fun _ h => h) | (intro h; simp at h; omega) | (simp only [List.length_cons, List.length_nil, List.length_append, List.length_map, List.length_set, List.length_replicate]; omega) | (intro h; simp [h]; done) | exact id | omega | exact ⟨ha, hb⟩ | exact ⟨ha, ht⟩ | exact ⟨hb, ht⟩ | exact ⟨hxl, hyl⟩ | exact hyl | exact hxl | exact (fun _ => ⟨ha, ht⟩) | exact (fun _ => ⟨hb, ht⟩) | exact (fun _ h => h) | exact ⟨ha, by rw [List.length_set, hlt]; decide⟩ | exact ⟨hb, by rw [List.length_set, hlt]; decide⟩ | exact (fun _ => ⟨ha, by rw [List.length_set, hlt]; decide⟩) | exact (fun _ => ⟨hb, by rw [List.length_set, hlt]; decide⟩) | (have hr9 := hr (by omega); omega) | (have hr9 := hr (by omega); constructor <;> omega) | (intro _; omega) | (intro _; have hr9 := hr (by omega); omega) | (intro _; have hr9 := hr (by omega); constructor <;> omega) | (constructor <;> omega) | (rw [hlt]; omega) | (rw [hlt]; have hr9 := hr (by omega); omega)
          refine fin_then ?_
          refine tri_ret ?_
          exact fin_ret [] rfl rfl trivial hcx (avs := [.bool (!((Cn.normL a).any fun x => !((Cn.normL b).contains x)))]) (by kernel_rfl) (congrArg AV.bool (show (!((Cn.normL a).any fun x => !((Cn.normL b).contains x))) = true from (by first | exact (Cn.ss_is hs).symm | exact Cn.taut_holds htt | (have hr9 := hr (by omega); exact (Cn.ss_wit htt (Cn.getD_memL (by omega)) hq).symm) | exact Cn.sub_yes (fun j hj => hok j (by omega)) | rfl))) [] rfl
 ·
  cases hσ
end Go.Proofs.YtiokflebeojokaaGreatDoor.En
