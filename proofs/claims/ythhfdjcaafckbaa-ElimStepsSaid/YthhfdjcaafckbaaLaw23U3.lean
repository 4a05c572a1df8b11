/- The laws ElimAll, ElimGone, ElimSteps and ElimModels of layer 23, in the reader's words. -/
import Derived.Test.YthhfdjcaafckbaaLaw23S
import Derived.Test.YthhfdjcaafckbaaLaw23V
import Derived.Test.YthhfdjcaafckbaaElimT
import Derived.Test.YthhfdjcaafckbaaAllX
import Derived.Test.YthhfdjcaafckbaaEngFrz
namespace Go.Proofs.Ythhfdjcaafckbaa.En
open Go Go.RowKit
set_option linter.unusedVariables false
set_option linter.unusedSimpArgs false
set_option linter.unnecessarySimpa false
def tyL23U3 : List (Nat × TD) := [(3, ⟨1, false, [.int .i64 0], [], none, 8, false, 1, 1⟩),
  (4, ⟨1, false, [.bool false], [], none, 1, true, 0, 2⟩),
  (22, ⟨1, false, [.slice none 0 0], [], some 43, 24, false, 0, 0⟩),
  (24, ⟨2, true, [.int .i64 0, .slice none 0 0], [(0, 3), (1, 22)], none, 32, false, 0, 6⟩),
  (28, ⟨2, true, [.int .i64 0, .slice none 0 0], [(0, 3), (1, 22)], none, 32, false, 0, 6⟩),
  (29, ⟨1, false, [.int .i64 0], [], none, 8, false, 1, 1⟩),
  (34, ⟨1, false, [.slice none 0 0], [], some 28, 24, false, 0, 0⟩),
  (36, ⟨1, false, [.slice none 0 0], [], some 4, 24, false, 0, 0⟩),
  (43, ⟨1, false, [.slice none 0 0], [], some 3, 24, false, 0, 3⟩)]
theorem tyL23U3_ok : AllTy Try.prog tyL23U3 := ⟨⟨by kernel_rfl, by kernel_rfl⟩, ⟨by kernel_rfl, by kernel_rfl⟩, ⟨by kernel_rfl, by kernel_rfl⟩, ⟨by kernel_rfl, by kernel_rfl⟩, ⟨by kernel_rfl, by kernel_rfl⟩, ⟨by kernel_rfl, by kernel_rfl⟩, ⟨by kernel_rfl, by kernel_rfl⟩, ⟨by kernel_rfl, by kernel_rfl⟩, ⟨by kernel_rfl, by kernel_rfl⟩, trivial⟩
def cx_elimSteps : Cx := ⟨tyL23U3, [(12, (frzF (coeF [.agg [.id, .ld (.intss [])], .id] eOutF_σ))), (18, (frzF (coeF [.ld (.undos []), .ld (.bools [])] eBack_σ))), (22, (coeF [.agg [.id, .ld (.intss [])], .ld (.ints []), .id] eElim_σ)), (23, (coeF [.agg [.id, .ld (.intss [])], .ld (.ints []), .id] qElim_σ)), (11, (coeF [.agg [.id, .ld (.intss [])], .id, .id] qFew_σ)), (24, (coeF [.ld (.ints []), .id] qHas_σ)), (15, (coeF [.ld (.undos []), .ld (.undos [])] qUndos_σ)), (14, (coeF [.agg [.id, .ld (.intss [])], .agg [.id, .ld (.intss [])]] rSame_σ)), (21, (coeF [.agg [.id, .ld (.intss [])], .ld (.bools [])] cValue_σ)), (25, (coeF [.agg [.id, .ld (.intss [])]] cCheck_σ)), (20, sAll), (10, live23_σ)]⟩
theorem cx_elimSteps_ok : CxOk Try.prog cx_elimSteps := cx_ok tyL23U3_ok ⟨((eOutF_sound.coe [.agg [.id, .ld (.intss [])], .id] rfl)).frz, ((eBack_sound.coe [.ld (.undos []), .ld (.bools [])] rfl)).frz, (eElim_sound.coe [.agg [.id, .ld (.intss [])], .ld (.ints []), .id] rfl), (qElim_sound.coe [.agg [.id, .ld (.intss [])], .ld (.ints []), .id] rfl), (qFew_sound.coe [.agg [.id, .ld (.intss [])], .id, .id] rfl), (qHas_sound.coe [.ld (.ints []), .id] rfl), (qUndos_sound.coe [.ld (.undos []), .ld (.undos [])] rfl), (rSame_sound.coe [.agg [.id, .ld (.intss [])], .agg [.id, .ld (.intss [])]] rfl), (cValue_sound.coe [.agg [.id, .ld (.intss [])], .ld (.bools [])] rfl), (cCheck_sound.coe [.agg [.id, .ld (.intss [])]] rfl), sAll_sound, live23_sound, trivial⟩
def elimSteps_σ : CtF
  | [.agg [.im (.val (.int .i64 N)), .im (.ls (.intss L))], .im (.ls (.ints fz)), .im (.val (.int .i64 g))], [] => some (L.length ≤ maxLen ∧ fz.length ≤ maxLen, .bool true, [])
  | _, _ => none
theorem elimSteps_sound : Sound Try.prog 8 elimSteps_σ := by
 refine sound_mk (cx := cx_elimSteps) (fn := Try.f8) Try.func8 (by kernel_rfl) rfl ?_
 intro w0 G0 args os p r outs hσ hp hm0 hd0
 have hcx : CxOk Try.prog cx_elimSteps := cx_elimSteps_ok
 unfold elimSteps_σ at hσ
 split at hσ
 ·
  rename_i N L fz g
  simp only [Option.some.injEq, Prod.mk.injEq] at hσ
  obtain ⟨rfl, rfl, rfl⟩ := hσ
  obtain ⟨wW, wO, wm, wβ, wd⟩ := w0
  replace hm0 : wm = 0 := hm0
  subst hm0
  replace hd0 : wd = [] := hd0
  subst hd0
  refine ⟨by kernel_rfl, ?_⟩
  change Tri ⟨_, _, _, _, _, _⟩ [(0, .agg [.int N, .intss L]), (1, .ints fz), (2, .int g)] [] _ _
  refine tri_seq ?_
  refine tri_regD hcx [(1000, .frz)] [3] [1, 2] [] [] [(3, .pto [.int N, .ls (.intss L)])] [] (by kernel_rfl) ?_ ?_
  ·
   exact az
  refine fin_then ?_
  refine tri_seq ?_
  refine tri_seq ?_
  refine tri_regD hcx [] [17] [3, 1, 2] [] [(True)] [(17, .bool (!true))] [] (by kernel_rfl) ?_ ?_
  ·
   refine (ap ?_ az)
   first | omega | exact True.intro | exact id | exact hp.1 | exact hpe | exact (fun _ h => h) | exact ⟨hp.1, by decide, by decide⟩ | exact ⟨hx1, hx2⟩ | exact (fun _ => ⟨hx1, hx2⟩) | exact (fun _ => ⟨hu1, hu2⟩) | (constructor <;> omega) | exact hyy (by omega) | exact (fun _ => ⟨by show (1 : Nat) ≤ maxLen; decide, fun w hw9 => by rw [List.mem_singleton] at hw9; subst hw9; exact hw (by omega)⟩) | (have := hyy (by omega); intro _; constructor <;> omega) | (first | omega | exact id | exact vcNot | exact vcG | exact vcH | (intro _; omega) | exact (fun _ h => h) | (intro h; simp at h; omega) | (simp only [List.length_cons, List.length_nil, List.length_append, List.length_map, List.length_set, List.length_replicate]; omega) | (intro h; simp [h]; done))
  refine fin_then ?_
  refine tri_cond (b := (!true)) (by kernel_rfl) (fun hb0 => ?_) (fun hb0 => ?_)
  ·
   skip
   have h0 := hb0
   cases h0
  ·
   skip
   have h0 := (notB_f hb0)
   refine tri_skip ?_
   refine fin_then ?_
   refine tri_seq ?_
   refine tri_seq ?_
   refine tri_regD hcx [] [29] [3, 1, 2] [] [(L.length ≤ maxLen ∧ 0 ≤ (30 : Int) ∧ (30 : Int) ≤ 1000000), ((!(!(Cn.fewB N L (20 : Int) (30 : Int)))) = true → ((!(!(Cn.fewB N L (20 : Int) (30 : Int)))) = true)), ((!(!(Cn.fewB N L (20 : Int) (30 : Int)))) = true → ((!(!(Cn.fewB N L (20 : Int) (30 : Int)))) = true)), ((!(Cn.fewB N L (20 : Int) (30 : Int))) = false → (!(!(Cn.fewB N L (20 : Int) (30 : Int)))) = true), ((!((!(Cn.fewB N L (20 : Int) (30 : Int))) || (decide ((fz.length : Int) > 40)))) = true → ((!((!(Cn.fewB N L (20 : Int) (30 : Int))) || (decide ((fz.length : Int) > 40)))) = true)), (((!(Cn.fewB N L (20 : Int) (30 : Int))) || (decide ((fz.length : Int) > 40))) = false → (!((!(Cn.fewB N L (20 : Int) (30 : Int))) || (decide ((fz.length : Int) > 40)))) = true)] [(29, .bool (((!(Cn.fewB N L (20 : Int) (30 : Int))) || (decide ((fz.length : Int) > 40))) || (decide (g > 30))))] [] (by kernel_rfl) ?_ ?_
   ·
    refine (ap ?_ (ap ?_ (ap ?_ (ap (by exact vcNot) (ap ?_ (ap (by exact vcNot) az))))))
    all_goals
     first | omega | exact True.intro | exact id | exact hp.1 | exact hpe | exact (fun _ h => h) | exact ⟨hp.1, by decide, by decide⟩ | exact ⟨hx1, hx2⟩ | exact (fun _ => ⟨hx1, hx2⟩) | exact (fun _ => ⟨hu1, hu2⟩) | (constructor <;> omega) | exact hyy (by omega) | exact (fun _ => ⟨by show (1 : Nat) ≤ maxLen; decide, fun w hw9 => by rw [List.mem_singleton] at hw9; subst hw9; exact hw (by omega)⟩) | (have := hyy (by omega); intro _; constructor <;> omega) | (first | omega | exact id | exact vcNot | exact vcG | exact vcH | (intro _; omega) | exact (fun _ h => h) | (intro h; simp at h; omega) | (simp only [List.length_cons, List.length_nil, List.length_append, List.length_map, List.length_set, List.length_replicate]; omega) | (intro h; simp [h]; done))
   refine fin_then ?_
   refine tri_cond (b := (((!(Cn.fewB N L (20 : Int) (30 : Int))) || (decide ((fz.length : Int) > 40))) || (decide (g > 30)))) (by kernel_rfl) (fun hb1 => ?_) (fun hb1 => ?_)
   ·
    skip
    have h1 := hb1
    try simp only [Bool.or_eq_true, Bool.or_eq_false_iff, Bool.and_eq_true, Bool.and_eq_false_iff, Bool.not_eq_true', Bool.not_eq_false', decide_eq_true_eq, decide_eq_false_iff_not, bne_iff_ne, bne_eq_false_iff_eq, beq_iff_eq, beq_eq_false_iff_ne] at h1
    refine tri_seq ?_
    refine tri_regD hcx [] [6] [] [] [] [(6, .bool true)] [] (by kernel_rfl) ?_ ?_
    ·
     exact az
    refine fin_then ?_
    refine tri_ret ?_
    refine fin_then_ret ?_
    exact fin_ret [] rfl rfl trivial hcx (avs := [.bool true]) (by kernel_rfl) rfl [] rfl
   ·
    skip
    have h1 := hb1
    obtain ⟨⟨hf1, hf2, hs20⟩, hf4, hf5⟩ := Cn.few3 h1
    obtain ⟨⟨hx1, hx2⟩, hu1, hu2⟩ := Cn.el_bd (fz := fz) (g := g) (N := N) (L := L) (by omega) (by omega) hs20 (by omega)
    have hpe : L.length ≤ 40 ∧ (∀ l ∈ L, l.length ≤ 20) ∧ N ≤ 30 ∧ fz.length ≤ maxLen ∧ (g ≤ 40 ∨ 1099511627776 < g) := ⟨by omega, hs20, by omega, hp.2, by omega⟩
    have hlm : ∀ l ∈ L, l.length ≤ maxLen := fun l hl => by have := hs20 l hl; unfold maxLen; omega
    have hu3 := hu1
    unfold maxLen at hu3
    refine tri_skip ?_
    refine fin_then ?_
    refine tri_seq ?_
    refine tri_regD hcx [(1008, .to 607)] [7, 8, 9] [3, 2] [] [(L.length ≤ 40 ∧ (∀ l ∈ L, l.length ≤ 20) ∧ N ≤ 30 ∧ fz.length ≤ maxLen ∧ (g ≤ 40 ∨ 1099511627776 < g))] [(7, .loc 607 0), (8, .undos (Cn.elU N L fz g)), (9, .int (Cn.elE N L fz g))] [(607, .box [.int (Cn.elN N L fz g), .intss (Cn.elX N L fz g)])] (by kernel_rfl) ?_ ?_
    ·
     refine (ap ?_ az)
     first | omega | exact True.intro | exact id | exact hp.1 | exact hpe | exact (fun _ h => h) | exact ⟨hp.1, by decide, by decide⟩ | exact ⟨hx1, hx2⟩ | exact (fun _ => ⟨hx1, hx2⟩) | exact (fun _ => ⟨hu1, hu2⟩) | (constructor <;> omega) | exact hyy (by omega) | exact (fun _ => ⟨by show (1 : Nat) ≤ maxLen; decide, fun w hw9 => by rw [List.mem_singleton] at hw9; subst hw9; exact hw (by omega)⟩) | (have := hyy (by omega); intro _; constructor <;> omega) | (first | omega | exact id | exact vcNot | exact vcG | exact vcH | (intro _; omega) | exact (fun _ h => h) | (intro h; simp at h; omega) | (simp only [List.length_cons, List.length_nil, List.length_append, List.length_map, List.length_set, List.length_replicate]; omega) | (intro h; simp [h]; done))
    refine fin_then ?_
    refine tri_seq ?_
    refine tri_seq ?_
    refine tri_regD hcx [] [39] [7, 8, 3, 2] [607] [] [(39, .bool ((Cn.elE N L fz g) != 0))] [] (by kernel_rfl) ?_ ?_
    ·
     exact az
    refine fin_then ?_
    refine tri_cond (b := ((Cn.elE N L fz g) != 0)) (by kernel_rfl) (fun hb2 => ?_) (fun hb2 => ?_)
    ·
     skip
     have h2 := bne_iff_ne.1 hb2
     obtain ⟨hA, hB, hC, hE⟩ := Cn.el_no (e := Cn.elE N L fz g) rfl h2
     refine tri_seq ?_
     refine tri_regD hcx [] [6] [] [] [] [(6, .bool (((Cn.elU N L fz g).length : Int) == 0))] [] (by kernel_rfl) ?_ ?_
     ·
      exact az
     refine fin_then ?_
     refine tri_ret ?_
     refine fin_then_ret ?_
     exact fin_ret [] rfl rfl trivial hcx (avs := [.bool (((Cn.elU N L fz g).length : Int) == 0)]) (by kernel_rfl) (congrArg AV.bool (show (((Cn.elU N L fz g).length : Int) == 0) = true from (by rw [hC]; rfl))) [] rfl
    ·
     skip
     have h2 := bneF hb2
     have hE0 : Cn.elE N L fz g = 0 := h2
     obtain ⟨hN9, hX9, hU9, _⟩ := Cn.el_ok hE0
     have hG := Cn.el_gone (by omega) (by omega) hs20 (by omega) hE0
     have hnum := hG.num
     have hg0 := (Cn.el_yes hE0).2.1
     have hN0 := (Cn.chkV_0.1 hG.chk).1.1
     refine tri_skip ?_
     refine fin_then ?_
     refine tri_seq ?_
     refine tri_regD hcx [(1001, .to 610)] [10] [7, 8, 2] [607] [] [(10, .loc 610 0)] [(610, .box [.int N, .intss L])] (by kernel_rfl) ?_ ?_
     ·
      exact az
     refine fin_then ?_
     refine tri_seq ?_
     refine tri_seq ?_
     refine tri_regD hcx [] [44, 45, 46] [10, 7, 2] [610, 607] [] [(44, .undos (Cn.elU N L fz g)), (45, .int ((Cn.elU N L fz g).length : Int)), (46, .int 0)] [] (by kernel_rfl) ?_ ?_
     ·
      exact az
     refine fin_then ?_
     refine tri_block ?_
     refine tri_ren (ρ := [(607, .to 607), (610, .to 610)]) (keys := [2, 7, 10, 44, 45, 46]) (E' := [(2, .int g), (7, .loc 607 0), (10, .loc 610 0), (44, .undos (Cn.elU N L fz g)), (45, .int ((Cn.elU N L fz g).length : Int)), (46, .int 0)]) (H' := [(607, .box [.int (Cn.elN N L fz g), .intss (Cn.elX N L fz g)]), (610, .box [.int N, .intss L])]) (by kernel_rfl) ?_
     refine tri_loop (X := Nat) (fun x0 => x0 ≤ (Cn.elU N L fz g).length) (fun x0 => [(2, .int g), (7, .loc 607 0), (10, .loc 610 0), (44, .undos (Cn.elU N L fz g)), (45, .int ((Cn.elU N L fz g).length : Int)), (46, .int (x0 : Int))]) (fun x0 => [(607, .box [.int (Cn.elN N L fz g), .intss (Cn.elX N L fz g)]), (610, .box [.int N, .intss (Cn.yAt L (Cn.elU N L fz g) x0)])]) (fun x0 => (Cn.elU N L fz g).length - x0) (0) ?_ ?_ ?_ ?_
     ·
      show 0 ≤ (Cn.elU N L fz g).length
      omega
     ·
      exact subE_mk (l := [.int g, .loc 607 0, .loc 610 0, .undos (Cn.elU N L fz g), .int ((Cn.elU N L fz g).length : Int), .int 0]) (m := [.int g, .loc 607 0, .loc 610 0, .undos (Cn.elU N L fz g), .int ((Cn.elU N L fz g).length : Int), .int (0 : Int)]) (by kernel_rfl) (by kernel_rfl) (consE rfl (consE rfl (consE rfl (consE rfl (consE rfl (consE (congrArg AV.int (show 0 = (0 : Int) from (by first | rfl | omega | (simp; done)))) rfl))))))
     ·
      exact Eq.trans (show _ = [(607, .box [.int (Cn.elN N L fz g), .intss (Cn.elX N L fz g)]), (610, .box [.int N, .intss L])] from by kernel_rfl) (consH rfl (consH (congrArg (fun x => ((610 : Nat), x)) (congrArg AObj.box (consE rfl (consE (congrArg AV.intss (show L = (Cn.yAt L (Cn.elU N L fz g) 0) from (by rfl))) rfl)))) rfl))
     ·
      intro i hI
      replace hI : i ≤ (Cn.elU N L fz g).length := hI
      change Tri _ [(2, .int g), (7, .loc 607 0), (10, .loc 610 0), (44, .undos (Cn.elU N L fz g)), (45, .int ((Cn.elU N L fz g).length : Int)), (46, .int (i : Int))] [(607, .box [.int (Cn.elN N L fz g), .intss (Cn.elX N L fz g)]), (610, .box [.int N, .intss (Cn.yAt L (Cn.elU N L fz g) i)])] _ _
      have hst : i < (Cn.elU N L fz g).length → _ := fun h => hG.step i h
      have hyy : i < (Cn.elU N L fz g).length → (Cn.yAt L (Cn.elU N L fz g) i).length ≤ 10000 ∧ ∀ l ∈ (Cn.yAt L (Cn.elU N L fz g) i), l.length ≤ 1000 := fun h => ⟨(hst h).sm, Cn.yAt_len fun l hl => ((hst h).good l hl).2⟩
      have hxb : i < (Cn.elU N L fz g).length → _ := fun h => Cn.ouX_bd (N := N) (v := ((Cn.elU N L fz g).getD i (0, [])).1) (hyy h).1 (hyy h).2
      have hw : i < (Cn.elU N L fz g).length → _ := fun h => hu2 _ (Cn.getD_memL (d := (0, [])) h)
      refine tri_seq ?_
      refine tri_regD hcx [] [47] [2, 7, 10, 44, 45, 46] [607, 610] [] [(47, .bool (decide ((i : Int) < ((Cn.elU N L fz g).length : Int))))] [] (by kernel_rfl) ?_ ?_
      ·
       exact az
      refine fin_then ?_
      refine tri_seq ?_
      refine tri_cond (b := (decide ((i : Int) < ((Cn.elU N L fz g).length : Int)))) (by kernel_rfl) (fun hb3 => ?_) (fun hb3 => ?_)
      ·
       skip
       have h3 := of_decide_eq_true hb3
       refine tri_skip ?_
       refine fin_then ?_
       refine tri_seq ?_
       refine tri_block ?_
       refine tri_seq ?_
       refine tri_regD hcx [(1002, .to 612)] [12] [2, 7, 10, 44, 45, 46] [607, 610] [((0 : Int) ≤ (i : Int) ∧ (i : Int) < ((Cn.elU N L fz g).length : Int))] [(12, .loc 612 0)] [(612, .box [.int (((Cn.elU N L fz g).getD i (0, [])).1), .intss (((Cn.elU N L fz g).getD i (0, [])).2)])] (by kernel_rfl) ?_ ?_
       ·
        refine (ap ?_ az)
        first | omega | exact True.intro | exact id | exact hp.1 | exact hpe | exact (fun _ h => h) | exact ⟨hp.1, by decide, by decide⟩ | exact ⟨hx1, hx2⟩ | exact (fun _ => ⟨hx1, hx2⟩) | exact (fun _ => ⟨hu1, hu2⟩) | (constructor <;> omega) | exact hyy (by omega) | exact (fun _ => ⟨by show (1 : Nat) ≤ maxLen; decide, fun w hw9 => by rw [List.mem_singleton] at hw9; subst hw9; exact hw (by omega)⟩) | (have := hyy (by omega); intro _; constructor <;> omega) | (first | omega | exact id | exact vcNot | exact vcG | exact vcH | (intro _; omega) | exact (fun _ h => h) | (intro h; simp at h; omega) | (simp only [List.length_cons, List.length_nil, List.length_append, List.length_map, List.length_set, List.length_replicate]; omega) | (intro h; simp [h]; done))
       refine fin_then ?_
       refine tri_seq ?_
       refine tri_regD hcx [(1008, .to 613), (1009, .to 614)] [13, 14, 15] [12, 2, 7, 10, 44, 45, 46] [612, 607, 610] [((Cn.yAt L (Cn.elU N L fz g) i).length ≤ 10000 ∧ (∀ l ∈ (Cn.yAt L (Cn.elU N L fz g) i), l.length ≤ 1000))] [(13, .loc 613 0), (14, .loc 614 0), (15, .int (Cn.ouE N (Cn.yAt L (Cn.elU N L fz g) i) (((Cn.elU N L fz g).getD i (0, [])).1)))] [(613, .box [.int (Cn.ouN N (Cn.yAt L (Cn.elU N L fz g) i) (((Cn.elU N L fz g).getD i (0, [])).1)), .intss (Cn.ouX N (Cn.yAt L (Cn.elU N L fz g) i) (((Cn.elU N L fz g).getD i (0, [])).1))]), (614, .box [.int (Cn.ouV N (Cn.yAt L (Cn.elU N L fz g) i) (((Cn.elU N L fz g).getD i (0, [])).1)), .intss (Cn.ouU N (Cn.yAt L (Cn.elU N L fz g) i) (((Cn.elU N L fz g).getD i (0, [])).1))])] (by kernel_rfl) ?_ ?_
       ·
        refine (ap ?_ az)
        first | omega | exact True.intro | exact id | exact hp.1 | exact hpe | exact (fun _ h => h) | exact ⟨hp.1, by decide, by decide⟩ | exact ⟨hx1, hx2⟩ | exact (fun _ => ⟨hx1, hx2⟩) | exact (fun _ => ⟨hu1, hu2⟩) | (constructor <;> omega) | exact hyy (by omega) | exact (fun _ => ⟨by show (1 : Nat) ≤ maxLen; decide, fun w hw9 => by rw [List.mem_singleton] at hw9; subst hw9; exact hw (by omega)⟩) | (have := hyy (by omega); intro _; constructor <;> omega) | (first | omega | exact id | exact vcNot | exact vcG | exact vcH | (intro _; omega) | exact (fun _ h => h) | (intro h; simp at h; omega) | (simp only [List.length_cons, List.length_nil, List.length_append, List.length_map, List.length_set, List.length_replicate]; omega) | (intro h; simp [h]; done))
       refine fin_then ?_
       refine tri_seq ?_
       refine tri_seq ?_
       refine tri_regD hcx [] [78] [13, 2, 7, 10, 44, 45, 46] [613, 607, 610] [((!((Cn.ouE N (Cn.yAt L (Cn.elU N L fz g) i) (((Cn.elU N L fz g).getD i (0, [])).1)) != 0)) = true → ((!((Cn.ouE N (Cn.yAt L (Cn.elU N L fz g) i) (((Cn.elU N L fz g).getD i (0, [])).1)) != 0)) = true)), ((!((Cn.ouE N (Cn.yAt L (Cn.elU N L fz g) i) (((Cn.elU N L fz g).getD i (0, [])).1)) != 0)) = true → ((!((Cn.ouE N (Cn.yAt L (Cn.elU N L fz g) i) (((Cn.elU N L fz g).getD i (0, [])).1)) != 0)) = true)), ((!((Cn.ouE N (Cn.yAt L (Cn.elU N L fz g) i) (((Cn.elU N L fz g).getD i (0, [])).1)) != 0)) = true → ((!((Cn.ouE N (Cn.yAt L (Cn.elU N L fz g) i) (((Cn.elU N L fz g).getD i (0, [])).1)) != 0)) = true)), ((!((Cn.ouE N (Cn.yAt L (Cn.elU N L fz g) i) (((Cn.elU N L fz g).getD i (0, [])).1)) != 0)) = true → ((!((Cn.ouE N (Cn.yAt L (Cn.elU N L fz g) i) (((Cn.elU N L fz g).getD i (0, [])).1)) != 0)) = true)), ((!((Cn.ouE N (Cn.yAt L (Cn.elU N L fz g) i) (((Cn.elU N L fz g).getD i (0, [])).1)) != 0)) = true → ((!((Cn.ouE N (Cn.yAt L (Cn.elU N L fz g) i) (((Cn.elU N L fz g).getD i (0, [])).1)) != 0)) = true)), ((!((Cn.ouE N (Cn.yAt L (Cn.elU N L fz g) i) (((Cn.elU N L fz g).getD i (0, [])).1)) != 0)) = true → ((!((Cn.ouE N (Cn.yAt L (Cn.elU N L fz g) i) (((Cn.elU N L fz g).getD i (0, [])).1)) != 0)) = true)), ((!((Cn.ouE N (Cn.yAt L (Cn.elU N L fz g) i) (((Cn.elU N L fz g).getD i (0, [])).1)) != 0)) = true → Fit (((Cn.yAt L (Cn.elU N L fz g) i).length : Int) + g)), ((!((Cn.ouE N (Cn.yAt L (Cn.elU N L fz g) i) (((Cn.elU N L fz g).getD i (0, [])).1)) != 0)) = true → ((!((Cn.ouE N (Cn.yAt L (Cn.elU N L fz g) i) (((Cn.elU N L fz g).getD i (0, [])).1)) != 0)) = true)), ((!((Cn.ouE N (Cn.yAt L (Cn.elU N L fz g) i) (((Cn.elU N L fz g).getD i (0, [])).1)) != 0)) = true → ((!((Cn.ouE N (Cn.yAt L (Cn.elU N L fz g) i) (((Cn.elU N L fz g).getD i (0, [])).1)) != 0)) = true)), (((Cn.ouE N (Cn.yAt L (Cn.elU N L fz g) i) (((Cn.elU N L fz g).getD i (0, [])).1)) != 0) = false → (!((Cn.ouE N (Cn.yAt L (Cn.elU N L fz g) i) (((Cn.elU N L fz g).getD i (0, [])).1)) != 0)) = true), ((!(((Cn.ouE N (Cn.yAt L (Cn.elU N L fz g) i) (((Cn.elU N L fz g).getD i (0, [])).1)) != 0) || (decide (((Cn.ouX N (Cn.yAt L (Cn.elU N L fz g) i) (((Cn.elU N L fz g).getD i (0, [])).1)).length : Int) > (((Cn.yAt L (Cn.elU N L fz g) i).length : Int) + g))))) = true → ((!(((Cn.ouE N (Cn.yAt L (Cn.elU N L fz g) i) (((Cn.elU N L fz g).getD i (0, [])).1)) != 0) || (decide (((Cn.ouX N (Cn.yAt L (Cn.elU N L fz g) i) (((Cn.elU N L fz g).getD i (0, [])).1)).length : Int) > (((Cn.yAt L (Cn.elU N L fz g) i).length : Int) + g))))) = true)), ((!(((Cn.ouE N (Cn.yAt L (Cn.elU N L fz g) i) (((Cn.elU N L fz g).getD i (0, [])).1)) != 0) || (decide (((Cn.ouX N (Cn.yAt L (Cn.elU N L fz g) i) (((Cn.elU N L fz g).getD i (0, [])).1)).length : Int) > (((Cn.yAt L (Cn.elU N L fz g) i).length : Int) + g))))) = true → ((!(((Cn.ouE N (Cn.yAt L (Cn.elU N L fz g) i) (((Cn.elU N L fz g).getD i (0, [])).1)) != 0) || (decide (((Cn.ouX N (Cn.yAt L (Cn.elU N L fz g) i) (((Cn.elU N L fz g).getD i (0, [])).1)).length : Int) > (((Cn.yAt L (Cn.elU N L fz g) i).length : Int) + g))))) = true)), ((!(((Cn.ouE N (Cn.yAt L (Cn.elU N L fz g) i) (((Cn.elU N L fz g).getD i (0, [])).1)) != 0) || (decide (((Cn.ouX N (Cn.yAt L (Cn.elU N L fz g) i) (((Cn.elU N L fz g).getD i (0, [])).1)).length : Int) > (((Cn.yAt L (Cn.elU N L fz g) i).length : Int) + g))))) = true → ((!(((Cn.ouE N (Cn.yAt L (Cn.elU N L fz g) i) (((Cn.elU N L fz g).getD i (0, [])).1)) != 0) || (decide (((Cn.ouX N (Cn.yAt L (Cn.elU N L fz g) i) (((Cn.elU N L fz g).getD i (0, [])).1)).length : Int) > (((Cn.yAt L (Cn.elU N L fz g) i).length : Int) + g))))) = true)), ((!(((Cn.ouE N (Cn.yAt L (Cn.elU N L fz g) i) (((Cn.elU N L fz g).getD i (0, [])).1)) != 0) || (decide (((Cn.ouX N (Cn.yAt L (Cn.elU N L fz g) i) (((Cn.elU N L fz g).getD i (0, [])).1)).length : Int) > (((Cn.yAt L (Cn.elU N L fz g) i).length : Int) + g))))) = true → ((!(((Cn.ouE N (Cn.yAt L (Cn.elU N L fz g) i) (((Cn.elU N L fz g).getD i (0, [])).1)) != 0) || (decide (((Cn.ouX N (Cn.yAt L (Cn.elU N L fz g) i) (((Cn.elU N L fz g).getD i (0, [])).1)).length : Int) > (((Cn.yAt L (Cn.elU N L fz g) i).length : Int) + g))))) = true)), ((!(((Cn.ouE N (Cn.yAt L (Cn.elU N L fz g) i) (((Cn.elU N L fz g).getD i (0, [])).1)) != 0) || (decide (((Cn.ouX N (Cn.yAt L (Cn.elU N L fz g) i) (((Cn.elU N L fz g).getD i (0, [])).1)).length : Int) > (((Cn.yAt L (Cn.elU N L fz g) i).length : Int) + g))))) = true → ([(((Cn.elU N L fz g).getD i (0, [])).1, ((Cn.elU N L fz g).getD i (0, [])).2)].length ≤ maxLen ∧ ∀ w ∈ [(((Cn.elU N L fz g).getD i (0, [])).1, ((Cn.elU N L fz g).getD i (0, [])).2)], w.2.length ≤ maxLen ∧ ∀ l ∈ w.2, l.length ≤ maxLen)), ((!(((Cn.ouE N (Cn.yAt L (Cn.elU N L fz g) i) (((Cn.elU N L fz g).getD i (0, [])).1)) != 0) || (decide (((Cn.ouX N (Cn.yAt L (Cn.elU N L fz g) i) (((Cn.elU N L fz g).getD i (0, [])).1)).length : Int) > (((Cn.yAt L (Cn.elU N L fz g) i).length : Int) + g))))) = true → ((!(((Cn.ouE N (Cn.yAt L (Cn.elU N L fz g) i) (((Cn.elU N L fz g).getD i (0, [])).1)) != 0) || (decide (((Cn.ouX N (Cn.yAt L (Cn.elU N L fz g) i) (((Cn.elU N L fz g).getD i (0, [])).1)).length : Int) > (((Cn.yAt L (Cn.elU N L fz g) i).length : Int) + g))))) = true)), ((((Cn.ouE N (Cn.yAt L (Cn.elU N L fz g) i) (((Cn.elU N L fz g).getD i (0, [])).1)) != 0) || (decide (((Cn.ouX N (Cn.yAt L (Cn.elU N L fz g) i) (((Cn.elU N L fz g).getD i (0, [])).1)).length : Int) > (((Cn.yAt L (Cn.elU N L fz g) i).length : Int) + g)))) = false → (!(((Cn.ouE N (Cn.yAt L (Cn.elU N L fz g) i) (((Cn.elU N L fz g).getD i (0, [])).1)) != 0) || (decide (((Cn.ouX N (Cn.yAt L (Cn.elU N L fz g) i) (((Cn.elU N L fz g).getD i (0, [])).1)).length : Int) > (((Cn.yAt L (Cn.elU N L fz g) i).length : Int) + g))))) = true)] [(78, .bool ((((Cn.ouE N (Cn.yAt L (Cn.elU N L fz g) i) (((Cn.elU N L fz g).getD i (0, [])).1)) != 0) || (decide (((Cn.ouX N (Cn.yAt L (Cn.elU N L fz g) i) (((Cn.elU N L fz g).getD i (0, [])).1)).length : Int) > (((Cn.yAt L (Cn.elU N L fz g) i).length : Int) + g)))) || (!(decide ([(((Cn.elU N L fz g).getD i (0, [])).1, ((Cn.elU N L fz g).getD i (0, [])).2)] = [((Cn.ouV N (Cn.yAt L (Cn.elU N L fz g) i) (((Cn.elU N L fz g).getD i (0, [])).1)), (Cn.ouU N (Cn.yAt L (Cn.elU N L fz g) i) (((Cn.elU N L fz g).getD i (0, [])).1)))])))))] [] (by kernel_rfl) ?_ ?_
       ·
        refine (ap ?_ (ap ?_ (ap ?_ (ap ?_ (ap ?_ (ap ?_ (ap ?_ (ap ?_ (ap ?_ (ap (by exact vcNot) (ap ?_ (ap ?_ (ap ?_ (ap ?_ (ap ?_ (ap ?_ (ap (by exact vcNot) az)))))))))))))))))
        all_goals
         first | omega | exact True.intro | exact id | exact hp.1 | exact hpe | exact (fun _ h => h) | exact ⟨hp.1, by decide, by decide⟩ | exact ⟨hx1, hx2⟩ | exact (fun _ => ⟨hx1, hx2⟩) | exact (fun _ => ⟨hu1, hu2⟩) | (constructor <;> omega) | exact hyy (by omega) | exact (fun _ => ⟨by show (1 : Nat) ≤ maxLen; decide, fun w hw9 => by rw [List.mem_singleton] at hw9; subst hw9; exact hw (by omega)⟩) | (have := hyy (by omega); intro _; constructor <;> omega) | (first | omega | exact id | exact vcNot | exact vcG | exact vcH | (intro _; omega) | exact (fun _ h => h) | (intro h; simp at h; omega) | (simp only [List.length_cons, List.length_nil, List.length_append, List.length_map, List.length_set, List.length_replicate]; omega) | (intro h; simp [h]; done))
       refine fin_then ?_
       refine tri_cond (b := ((((Cn.ouE N (Cn.yAt L (Cn.elU N L fz g) i) (((Cn.elU N L fz g).getD i (0, [])).1)) != 0) || (decide (((Cn.ouX N (Cn.yAt L (Cn.elU N L fz g) i) (((Cn.elU N L fz g).getD i (0, [])).1)).length : Int) > (((Cn.yAt L (Cn.elU N L fz g) i).length : Int) + g)))) || (!(decide ([(((Cn.elU N L fz g).getD i (0, [])).1, ((Cn.elU N L fz g).getD i (0, [])).2)] = [((Cn.ouV N (Cn.yAt L (Cn.elU N L fz g) i) (((Cn.elU N L fz g).getD i (0, [])).1)), (Cn.ouU N (Cn.yAt L (Cn.elU N L fz g) i) (((Cn.elU N L fz g).getD i (0, [])).1)))]))))) (by kernel_rfl) (fun hb4 => ?_) (fun hb4 => ?_)
       ·
        skip
        have h4 := hb4
        exact (Cn.step_dead (hst (by omega)) h4).elim
       ·
        skip
        have h4 := hb4
        try simp only [Bool.or_eq_true, Bool.or_eq_false_iff, Bool.and_eq_true, Bool.and_eq_false_iff, Bool.not_eq_true', Bool.not_eq_false', decide_eq_true_eq, decide_eq_false_iff_not, bne_iff_ne, bne_eq_false_iff_eq, beq_iff_eq, beq_eq_false_iff_ne] at h4
        have hou := Cn.step_ou (hst (by omega))
        refine tri_skip ?_
        refine fin_then ?_
        refine tri_regD hcx [(610, .to 610)] [] [2, 7, 10, 44, 45, 46] [607] [] [] [(610, .box [.int (Cn.ouN N (Cn.yAt L (Cn.elU N L fz g) i) (((Cn.elU N L fz g).getD i (0, [])).1)), .intss (Cn.ouX N (Cn.yAt L (Cn.elU N L fz g) i) (((Cn.elU N L fz g).getD i (0, [])).1))])] (by kernel_rfl) ?_ ?_
        ·
         exact az
        refine fin_block ?_
        refine fin_then ?_
        refine tri_regD hcx [] [46] [2, 7, 10, 44, 45] [610, 607] [Fit ((i : Int) + 1)] [(46, .int ((i : Int) + 1))] [] (by kernel_rfl) ?_ ?_
        ·
         refine (ap ?_ az)
         first | omega | exact True.intro | exact id | exact hp.1 | exact hpe | exact (fun _ h => h) | exact ⟨hp.1, by decide, by decide⟩ | exact ⟨hx1, hx2⟩ | exact (fun _ => ⟨hx1, hx2⟩) | exact (fun _ => ⟨hu1, hu2⟩) | (constructor <;> omega) | exact hyy (by omega) | exact (fun _ => ⟨by show (1 : Nat) ≤ maxLen; decide, fun w hw9 => by rw [List.mem_singleton] at hw9; subst hw9; exact hw (by omega)⟩) | (have := hyy (by omega); intro _; constructor <;> omega) | (first | omega | exact id | exact vcNot | exact vcG | exact vcH | (intro _; omega) | exact (fun _ h => h) | (intro h; simp at h; omega) | (simp only [List.length_cons, List.length_nil, List.length_append, List.length_map, List.length_set, List.length_replicate]; omega) | (intro h; simp [h]; done))
        refine fin_ren (ρ := [(607, .to 607), (610, .to 610)]) (keys := [2, 7, 10, 44, 45, 46]) (E' := [(2, .int g), (7, .loc 607 0), (10, .loc 610 0), (44, .undos (Cn.elU N L fz g)), (45, .int ((Cn.elU N L fz g).length : Int)), (46, .int ((i : Int) + 1))]) (H' := [(607, .box [.int (Cn.elN N L fz g), .intss (Cn.elX N L fz g)]), (610, .box [.int (Cn.ouN N (Cn.yAt L (Cn.elU N L fz g) i) (((Cn.elU N L fz g).getD i (0, [])).1)), .intss (Cn.ouX N (Cn.yAt L (Cn.elU N L fz g) i) (((Cn.elU N L fz g).getD i (0, [])).1))])]) (by kernel_rfl) ?_
        refine fin_round (i + 1) ?_ ?_ ?_ ?_
        ·
         show (i + 1) ≤ (Cn.elU N L fz g).length
         omega
        ·
         show (Cn.elU N L fz g).length - (i + 1) < (Cn.elU N L fz g).length - i
         omega
        ·
         exact subE_mk (l := [.int g, .loc 607 0, .loc 610 0, .undos (Cn.elU N L fz g), .int ((Cn.elU N L fz g).length : Int), .int ((i : Int) + 1)]) (m := [.int g, .loc 607 0, .loc 610 0, .undos (Cn.elU N L fz g), .int ((Cn.elU N L fz g).length : Int), .int ((i + 1) : Int)]) (by kernel_rfl) (by kernel_rfl) (consE rfl (consE rfl (consE rfl (consE rfl (consE rfl (consE (congrArg AV.int (show ((i : Int) + 1) = ((i + 1) : Int) from (by first | rfl | omega | (simp; done)))) rfl))))))
        ·
         exact Eq.trans (show _ = [(607, .box [.int (Cn.elN N L fz g), .intss (Cn.elX N L fz g)]), (610, .box [.int (Cn.ouN N (Cn.yAt L (Cn.elU N L fz g) i) (((Cn.elU N L fz g).getD i (0, [])).1)), .intss (Cn.ouX N (Cn.yAt L (Cn.elU N L fz g) i) (((Cn.elU N L fz g).getD i (0, [])).1))])] from by kernel_rfl) (consH rfl (consH (congrArg (fun x => ((610 : Nat), x)) (congrArg AObj.box (consE (congrArg AV.int (show (Cn.ouN N (Cn.yAt L (Cn.elU N L fz g) i) (((Cn.elU N L fz g).getD i (0, [])).1)) = N from (by exact hou.2.1))) (consE (congrArg AV.intss (show (Cn.ouX N (Cn.yAt L (Cn.elU N L fz g) i) (((Cn.elU N L fz g).getD i (0, [])).1)) = (Cn.yAt L (Cn.elU N L fz g) (i + 1)) from (by rw [Cn.yAt_succ (by omega)]; exact hou.2.2.1))) rfl)))) rfl))
      ·
       skip
       have h3 := of_decide_eq_false hb3
       refine tri_exit ?_
       refine fin_then_exit ?_
       refine fin_then_exit ?_
       refine fin_block_same ?_
       refine fin_then ?_
       refine tri_seq ?_
       refine tri_regD hcx [] [6] [] [] [((Cn.elX N L fz g).length ≤ maxLen ∧ ∀ l ∈ (Cn.elX N L fz g), l.length ≤ maxLen)] [(6, .bool (((Cn.elN N L fz g) == N) && decide ((Cn.elX N L fz g) = (Cn.yAt L (Cn.elU N L fz g) i))))] [] (by kernel_rfl) ?_ ?_
       ·
        refine (ap ?_ az)
        first | omega | exact True.intro | exact id | exact hp.1 | exact hpe | exact (fun _ h => h) | exact ⟨hp.1, by decide, by decide⟩ | exact ⟨hx1, hx2⟩ | exact (fun _ => ⟨hx1, hx2⟩) | exact (fun _ => ⟨hu1, hu2⟩) | (constructor <;> omega) | exact hyy (by omega) | exact (fun _ => ⟨by show (1 : Nat) ≤ maxLen; decide, fun w hw9 => by rw [List.mem_singleton] at hw9; subst hw9; exact hw (by omega)⟩) | (have := hyy (by omega); intro _; constructor <;> omega) | (first | omega | exact id | exact vcNot | exact vcG | exact vcH | (intro _; omega) | exact (fun _ h => h) | (intro h; simp at h; omega) | (simp only [List.length_cons, List.length_nil, List.length_append, List.length_map, List.length_set, List.length_replicate]; omega) | (intro h; simp [h]; done))
       refine fin_then ?_
       refine tri_ret ?_
       exact fin_ret [] rfl rfl trivial hcx (avs := [.bool (((Cn.elN N L fz g) == N) && decide ((Cn.elX N L fz g) = (Cn.yAt L (Cn.elU N L fz g) i)))]) (by kernel_rfl) (congrArg AV.bool (show (((Cn.elN N L fz g) == N) && decide ((Cn.elX N L fz g) = (Cn.yAt L (Cn.elU N L fz g) i))) = true from (by rw [show i = (Cn.elU N L fz g).length from (by omega), hG.last, hN9]; simp))) [] rfl
 ·
  cases hσ
end Go.Proofs.Ythhfdjcaafckbaa.En
